import Derived.Test.YtlmgngibnioljaaGreatComm
import Derived.Test.YtlmgngibnioljaaGreatCodeT
import Derived.Test.YtlmgngibnioljaaGreatSem
import Derived.Test.YtlmgngibnioljaaGreatOps18
import Derived.Laws.Cover3
import Derived.ProofKit
import Derived.OpenShut
set_option linter.unusedVariables false
set_option linter.unusedSimpArgs false
/-
  The formulas that the theory makes: constants, not, and, or, then.
-/
namespace Go.Abs.T
open Go Go.Abs
set_option maxRecDepth 8000
attribute [local irreducible] callN runC evalOp
abbrev fC (op n : Int) (ks : List (List D)) : List D := [.int .i64 op, .int .i64 n, .sl ks none]
theorem const_ok (n : Nat) (b : Bool) : ∃ σ, callN T (n + 2) 57 [.bool b] [] = some (.agg (fC (if b then 1 else 2) 0 []), σ) := by
  refine call_ofE (m := m57) rfl rfl (by decide) (k_start ?_)
  unfold m57
  cases b
  · refine k_seq ?_
    refine rgf (D.lptr (2 : Nat) (0 : Nat)) ([]) ?_
    refine k_done (k_skip_seq (k_seq (k_seq ?_)))
    refine rv (D.bool false) ?_
    refine k_done (k_skip_seq (kcf (k_skip_seq (k_seq ?_))))
    refine rv (D.agg [D.int IntKind.i64 (2 : Int), D.int IntKind.i64 (0 : Int), D.nils (47 : Nat)]) ?_
    refine rgf (D.junk) ([]) ?_
    refine k_done (k_skip_seq (k_ret ?_))
    exact ⟨.inr rfl, by kernel_rfl, [], by kernel_rfl⟩
  · refine k_seq ?_
    refine rgf (D.lptr (2 : Nat) (0 : Nat)) ([]) ?_
    refine k_done (k_skip_seq (k_seq (k_seq ?_)))
    refine rv (D.bool true) ?_
    refine k_done (k_skip_seq (kct (k_seq ?_)))
    refine rv (D.agg [D.int IntKind.i64 (1 : Int), D.int IntKind.i64 (0 : Int), D.nils (47 : Nat)]) ?_
    refine rgf (D.junk) ([]) ?_
    refine k_done (k_skip_seq (k_ret ?_))
    exact ⟨.inr rfl, by kernel_rfl, [], by kernel_rfl⟩
theorem and_ok (n : Nat) (l : List (List D)) (o : Option Nat) : ∃ σ, callN T (n + 2) 25 [.sl l o] [] = some (.agg (fC 5 0 l), σ) := by
  refine call_ofE (m := m25) rfl rfl (by decide) (k_start ?_)
  unfold m25
  refine k_seq ?_
  refine rgf (D.lptr (2 : Nat) (0 : Nat)) ([]) ?_
  refine k_done (k_skip_seq (k_seq ?_))
  refine rv (D.sl l none) ?_
  refine rv (D.agg [D.int IntKind.i64 (5 : Int), D.int IntKind.i64 (0 : Int), D.sl l none]) ?_
  refine rgf (D.junk) ([]) ?_
  refine k_done (k_skip_seq (k_ret ?_))
  exact ⟨.inr rfl, by kernel_rfl, [], by kernel_rfl⟩
theorem or_ok (n : Nat) (l : List (List D)) (o : Option Nat) : ∃ σ, callN T (n + 2) 61 [.sl l o] [] = some (.agg (fC 6 0 l), σ) := by
  refine call_ofE (m := m61) rfl rfl (by decide) (k_start ?_)
  unfold m61
  refine k_seq ?_
  refine rgf (D.lptr (2 : Nat) (0 : Nat)) ([]) ?_
  refine k_done (k_skip_seq (k_seq ?_))
  refine rv (D.sl l none) ?_
  refine rv (D.agg [D.int IntKind.i64 (6 : Int), D.int IntKind.i64 (0 : Int), D.sl l none]) ?_
  refine rgf (D.junk) ([]) ?_
  refine k_done (k_skip_seq (k_ret ?_))
  exact ⟨.inr rfl, by kernel_rfl, [], by kernel_rfl⟩
theorem not_ok (n : Nat) (a b : Int) (ks : List (List D)) : ∃ σ, callN T (n + 2) 24 [.agg (fC a b ks)] [] = some (.agg (fC 4 0 [fC a b ks]), σ) := by
  refine call_ofE (m := m24) rfl rfl (by decide) (k_start ?_)
  unfold m24
  refine k_seq ?_
  refine rgf (D.lptr (1 : Nat) (0 : Nat)) ([]) ?_
  refine rgf (D.lptr (2 : Nat) (0 : Nat)) ([]) ?_
  refine k_done (k_skip_seq (k_seq ?_))
  refine rv (D.agg [D.int IntKind.i64 a, D.int IntKind.i64 b, D.sl ks none]) ?_
  refine rv (D.sl [[D.int IntKind.i64 a, D.int IntKind.i64 b, D.sl ks none]] (some (47 : Nat))) ?_
  refine rv (D.agg [D.int IntKind.i64 (4 : Int), D.int IntKind.i64 (0 : Int), D.sl [[D.int IntKind.i64 a, D.int IntKind.i64 b, D.sl ks none]] none]) ?_
  refine rgf (D.junk) ([]) ?_
  refine k_done (k_skip_seq (k_ret ?_))
  exact ⟨.inr rfl, by kernel_rfl, [], by kernel_rfl⟩
theorem then_ok (n : Nat) (a b a2 b2 : Int) (ks ks2 : List (List D)) : ∃ σ, callN T (n + 3) 26 [.agg (fC a b ks), .agg (fC a2 b2 ks2)] [] = some (.agg (fC 6 0 [fC 4 0 [fC a b ks], fC a2 b2 ks2]), σ) := by
  obtain ⟨σ1, c24⟩ := not_ok n a b ks
  obtain ⟨σ2, c61⟩ := or_ok n [fC 4 0 [fC a b ks], fC a2 b2 ks2] none
  refine call_ofE (m := m26) rfl rfl (by decide) (k_start ?_)
  unfold m26
  refine k_seq ?_
  refine rgf (D.lptr (2 : Nat) (0 : Nat)) ([]) ?_
  refine rgf (D.lptr (3 : Nat) (0 : Nat)) ([]) ?_
  refine rgf (D.lptr (4 : Nat) (0 : Nat)) ([]) ?_
  refine k_done (k_skip_seq (k_seq (k_alt ?_)))
  refine runs_loadL (by kernel_rfl) ?_
  refine rv (D.agg [D.int IntKind.i64 a, D.int IntKind.i64 b, D.sl ks none]) ?_
  refine runs_callT (by kernel_rfl) ?_
  refine runs_call ([D.agg [D.int IntKind.i64 a, D.int IntKind.i64 b, D.sl ks none]]) (by kernel_rfl) (by kernel_rfl) (by kernel_rfl) (by kernel_rfl) (c24) (by kernel_rfl) ?_
  refine runs_loadL (by kernel_rfl) ?_
  refine rv (D.agg [D.int IntKind.i64 a2, D.int IntKind.i64 b2, D.sl ks2 none]) ?_
  refine rv (D.sl [[D.int IntKind.i64 (4 : Int), D.int IntKind.i64 (0 : Int), D.sl [[D.int IntKind.i64 a, D.int IntKind.i64 b, D.sl ks none]] none], [D.int IntKind.i64 a2, D.int IntKind.i64 b2, D.sl ks2 none]] (some (47 : Nat))) ?_
  refine runs_callT (by kernel_rfl) ?_
  refine runs_call ([D.sl [[D.int IntKind.i64 (4 : Int), D.int IntKind.i64 (0 : Int), D.sl [[D.int IntKind.i64 a, D.int IntKind.i64 b, D.sl ks none]] none], [D.int IntKind.i64 a2, D.int IntKind.i64 b2, D.sl ks2 none]] none]) (by kernel_rfl) (by kernel_rfl) (by kernel_rfl) (by kernel_rfl) (c61) (by kernel_rfl) ?_
  refine rgf (D.junk) ([]) ?_
  refine k_done (k_skip_seq (k_ret ?_))
  exact ⟨.inr rfl, by kernel_rfl, [], by kernel_rfl⟩
/-- The book's cells. -/
abbrev bookC (S0 S1 e0 e1 e2 at_ mp bd : D) : List D := [S0, S1, e0, e1, e2, at_, mp, bd]
theorem above_ok (n : Nat) (σ : St) (ob : Nat) (A B : List (List D)) (e0 e1 e2 at_ mp bd : D) (hσ : σ[ob]? = some (.cells (bookC (.sl A none) (.sl B none) e0 e1 e2 at_ mp bd))) (t i j : List UInt8) (ht : (t == [65, 99, 116, 105, 111, 110]) = false)
    (c59 : ∃ σ', callN T (n + 2) 59 [.agg [.sl A none, .sl B none], .str t, .str t] [] = some (.bool false, σ')) :
    callN T (n + 3) 21 [.ptr ob 0, .agg [.str t, .str i], .agg [.str t, .str j]] σ = some (.agg (fC (if i = j then 1 else 2) 0 []), σ) := by
  obtain ⟨σ1, ct⟩ := const_ok n true
  obtain ⟨σ2, cf⟩ := const_ok n false
  obtain ⟨σ3, c59⟩ := c59
  refine call_of (m := m21) rfl rfl (by decide) (k_start ?_)
  unfold m21
  by_cases h : i = j
  · subst h
    rw [if_pos rfl]
    refine k_seq ?_
    refine rgf (D.lptr (4 : Nat) (0 : Nat)) (σ) ?_
    refine rgf (D.lptr (5 : Nat) (0 : Nat)) (σ) ?_
    refine rgf (D.lptr (6 : Nat) (0 : Nat)) (σ) ?_
    refine k_done (k_skip_seq (k_seq (k_block (k_seq ?_))))
    refine rv (D.agg [D.str t, D.str i]) ?_
    refine rv (D.agg [D.str t, D.str i]) ?_
    refine rv (D.bool (eqLs [D.str t, D.str i] [D.str t, D.str i] != false)) ?_
    refine ra0 (D.bool (eqLs [D.str t, D.str i] [D.str t, D.str i] != false)) ?_
    refine k_done (k_skip_seq ?_)
    refine rkn 7 (eqLs [D.str t, D.str i] [D.str t, D.str i] != false) true (by simp [eqLs, leafEq, beq_self_eq_true, ints, eInt, rows, eInts, bools, eBool, trips, eTrip, i8s, u16s, u8s, acts]) ?_
    refine kct (k_seq ?_)
    refine runs_call ([D.bool true]) (by kernel_rfl) (by kernel_rfl) (by kernel_rfl) (by kernel_rfl) (ct) (by kernel_rfl) ?_
    refine rgf (D.junk) (σ) ?_
    refine k_done (k_skip_seq (k_ret ?_))
    exact ⟨.inr rfl, by kernel_rfl, by kernel_rfl⟩
  · have hb : (i == j) = false := by simpa using h
    rw [if_neg h]
    have hd : ((bookC (.sl A none) (.sl B none) e0 e1 e2 at_ mp bd).drop 0).take 2 = [.sl A none, .sl B none] := rfl
    refine k_seq ?_
    refine rgf (D.lptr (4 : Nat) (0 : Nat)) (σ) ?_
    refine rgf (D.lptr (5 : Nat) (0 : Nat)) (σ) ?_
    refine rgf (D.lptr (6 : Nat) (0 : Nat)) (σ) ?_
    refine k_done (k_skip_seq (k_seq (k_block (k_seq ?_))))
    refine rv (D.agg [D.str t, D.str i]) ?_
    refine rv (D.agg [D.str t, D.str j]) ?_
    refine rv (D.bool (eqLs [D.str t, D.str i] [D.str t, D.str j] != false)) ?_
    refine ra0 (D.bool (eqLs [D.str t, D.str i] [D.str t, D.str j] != false)) ?_
    refine k_done (k_skip_seq ?_)
    refine rkn 7 (eqLs [D.str t, D.str i] [D.str t, D.str j] != false) false (by simp [eqLs, leafEq, hb, ht, ints, eInt, rows, eInts, bools, eBool, trips, eTrip, i8s, u16s, u8s, acts]) ?_
    refine kcf (k_seq ?_)
    refine rv (D.lptr (4 : Nat) (0 : Nat)) ?_
    refine rv (D.str t) ?_
    refine rv (D.bool (t == [(65 : UInt8), (99 : UInt8), (116 : UInt8), (105 : UInt8), (111 : UInt8), (110 : UInt8)])) ?_
    refine rv (D.bool (t == [(65 : UInt8), (99 : UInt8), (116 : UInt8), (105 : UInt8), (111 : UInt8), (110 : UInt8)])) ?_
    refine rkn 16 (t == [(65 : UInt8), (99 : UInt8), (116 : UInt8), (105 : UInt8), (111 : UInt8), (110 : UInt8)]) false (by assumption) ?_
    refine rno (rno (rno ?_))
    refine rv (D.bool false) ?_
    refine ra0 (D.bool false) ?_
    refine k_done (k_skip_seq (kcf (k_seq ?_)))
    refine rv (D.ptr ob (0 : Nat)) ?_
    refine rv (D.ptr ob (0 : Nat)) ?_
    refine rv (D.ptr ob (0 : Nat)) ?_
    refine runs_loadPA (ob) ((0 : Nat)) _ _ _ (by kernel_rfl) (by kernel_rfl) (hσ) (by assumption) (by kernel_rfl) rfl ?_
    refine rv (D.lptr (4 : Nat) (0 : Nat)) ?_
    refine rv (D.str t) ?_
    refine rv (D.lptr (5 : Nat) (0 : Nat)) ?_
    refine rv (D.str t) ?_
    refine runs_call ([D.agg [D.sl A none, D.sl B none], D.str t, D.str t]) (by kernel_rfl) (by kernel_rfl) (by kernel_rfl) (by kernel_rfl) (c59) (by kernel_rfl) ?_
    refine ra0 (D.bool false) ?_
    refine k_done (k_skip_seq (kcf (k_skip_block (k_skip_seq (k_seq ?_)))))
    refine runs_call ([D.bool false]) (by kernel_rfl) (by kernel_rfl) (by kernel_rfl) (by kernel_rfl) (cf) (by kernel_rfl) ?_
    refine rgf (D.junk) (σ) ?_
    refine k_done (k_skip_seq (k_ret ?_))
    exact ⟨.inr rfl, by kernel_rfl, by kernel_rfl⟩
end Go.Abs.T

/-
  The three nested loops of the theory's axioms, where all names are of one type that lies above none.
-/
namespace Go.Abs.T
open Go Go.Abs
set_option maxRecDepth 20000
attribute [local irreducible] callN runC evalOp
def setsAt {α : Type} : List α → List (Nat × α) → List α
  | l, [] => l
  | l, (i, x) :: r => setsAt (l.set i x) r
def uids (t : List UInt8) (l : List (List UInt8)) : List (List D) := l.map fun i => [.str t, .str i]
abbrev base6 (ob om k : Nat) (e : Int) (L : List (List D)) : List (Nat × D) := [(6, .lptr 6 0), (7, .int .i64 e), (8, .ptr ob 0), (9, .lptr 9 0), (12, .msl om 0 k 2), (13, .sl L (some 47)), (34, .ptr ob 0)]
def f12 (ob om : Nat) (e : Int) (c6 c9 : List D) (k a : Nat) (L : List (List D)) : Fr :=
  Fr.mk (setsAt (List.replicate 201 .junk) (base6 ob om k e L ++ [(133, .msl om 0 k 2), (134, .int .i64 k), (135, .int .i64 a)])) (setsAt (List.replicate 201 none) [(6, some c6), (9, some c9)]) []
def f14 (ob om : Nat) (e : Int) (c6 c9 u : List D) (k a b : Nat) (L : List (List D)) : Fr :=
  Fr.mk (setsAt (List.replicate 201 .junk) (base6 ob om k e L ++ [(25, .lptr 25 0), (133, .msl om 0 k 2), (134, .int .i64 k), (135, .int .i64 a), (139, .msl om 0 k 2), (140, .int .i64 k), (141, .int .i64 b)])) (setsAt (List.replicate 201 none) [(6, some c6), (9, some c9), (25, some u)]) []
def f16 (ob om : Nat) (e : Int) (c6 c9 u v : List D) (k a b c : Nat) (L : List (List D)) : Fr :=
  Fr.mk (setsAt (List.replicate 201 .junk) (base6 ob om k e L ++ [(25, .lptr 25 0), (27, .lptr 27 0), (133, .msl om 0 k 2), (134, .int .i64 k), (135, .int .i64 a), (139, .msl om 0 k 2), (140, .int .i64 k), (141, .int .i64 b), (162, .msl om 0 k 2), (163, .int .i64 k), (164, .int .i64 c)])) (setsAt (List.replicate 201 none) [(6, some c6), (9, some c9), (25, some u), (27, some v)]) []
abbrev abF (i j : List UInt8) : List D := fC (if i = j then 1 else 2) 0 []
/-- What the innermost loop makes. -/
def ax3 (i j w : List UInt8) : List D := fC 6 0 [fC 4 0 [fC 5 0 [abF i j, abF j w]], abF i w]
def ax2 (i j : List UInt8) : List D := fC 4 0 [fC 5 0 [abF i j, abF j i]]
def rw2 (ids : List (List UInt8)) (i j : List UInt8) : List (List D) := (if i = j then [] else [ax2 i j]) ++ ids.map (ax3 i j)
def rw1 (ids : List (List UInt8)) (i : List UInt8) : List (List D) := ids.flatMap (rw2 ids i)
/-- What the three loops make. -/
def rw0 (ids : List (List UInt8)) : List (List D) := ids.flatMap (rw1 ids)
theorem flat_take {α β : Type} {l : List α} {i : Nat} (h : i < l.length) (f : α → List β) : (l.take (i + 1)).flatMap f = (l.take i).flatMap f ++ f l[i] := by
  rw [List.take_succ_eq_append_getElem h, List.flatMap_append]
  simp
theorem map_take' {α β : Type} {l : List α} {i : Nat} (h : i < l.length) (f : α → β) : (l.take (i + 1)).map f = (l.take i).map f ++ [f l[i]] := by
  rw [List.take_succ_eq_append_getElem h, List.map_append]
  rfl
theorem flat_le {α β : Type} (f : α → List β) (B : Nat) (hB : ∀ x, (f x).length ≤ B) : ∀ l : List α, (l.flatMap f).length ≤ l.length * B
  | [] => by simp
  | x :: l => by
    have := flat_le f B hB l
    have := hB x
    rw [List.flatMap_cons, List.length_append, List.length_cons, Nat.add_mul]
    omega
theorem rw2_le {ids : List (List UInt8)} (h : ids.length ≤ 12) (i j : List UInt8) : (rw2 ids i j).length ≤ 13 := by
  unfold rw2
  rw [List.length_append, List.length_map]
  split <;> simp <;> omega
theorem rw1_le {ids : List (List UInt8)} (h : ids.length ≤ 12) (i : List UInt8) : (rw1 ids i).length ≤ 156 :=
  Nat.le_trans (flat_le _ 13 (rw2_le h i) ids) (by omega)
abbrev k12 : List Nat := [9, 8, 13, 133, 12, 135, 134, 7, 6, 34]
abbrev k14 : List Nat := [9, 8, 13, 133, 12, 134, 135, 139, 25, 141, 140, 7, 6, 34]
abbrev k16 : List Nat := [9, 8, 13, 133, 12, 134, 135, 139, 25, 140, 141, 162, 27, 164, 163, 7, 6, 34]
/-- The three loops. -/
theorem triple (n fu : Nat) (σ : St) (ob : Nat) (A B : List (List D)) (e0 e1 e2 at_ mp bd : D) (hσ : σ[ob]? = some (.cells (bookC (.sl A none) (.sl B none) e0 e1 e2 at_ mp bd))) (t : List UInt8) (ht : (t == [65, 99, 116, 105, 111, 110]) = false)
    (c59 : ∃ σ', callN T (n + 2) 59 [.agg [.sl A none, .sl B none], .str t, .str t] [] = some (.bool false, σ')) (e : Int) (c6 c9 : List D) (ids : List (List UInt8)) (hids : ids.length ≤ 12) (om : Nat) (cs : List D) (hm : σ[om]? = some (.cells cs)) (hcs : ∀ (c : Nat) (h : c < ids.length), (cs.drop (0 + c * 2)).take 2 = [.str t, .str ids[c]]) (hfu : 13 < fu) (L0 : List (List D)) (hL0 : L0.length ≤ 100000) {Q : AE → Fr → St → Prop} {K : List KF} {fr : Fr} (hfr : fr.clear k12 = f12 ob om e c6 c9 ids.length 0 L0)
    (hQ : ∀ fr', fr'.clear k12 = f12 ob om e c6 c9 ids.length ids.length (L0 ++ rw0 ids) → Runs (runC (callN T (n + 3)) fu .skip fr' σ) (kont (callN T (n + 3)) fu K Q)) :
    Runs (runC (callN T (n + 3)) fu (.loop k12 l6_13) fr σ) (kont (callN T (n + 3)) fu (.block 12 :: K) Q) := by
  refine k_loop (S := Nat × List (List D)) (fun s => f12 ob om e c6 c9 ids.length s.1 s.2) (fun _ => σ) (fun s => s.1 ≤ ids.length ∧ s.2 = L0 ++ (ids.take s.1).flatMap (rw1 ids)) (fun s => ids.length - s.1) (0, L0) hfr rfl ⟨by simp, by simp⟩ (by intro s hs; omega) ?_
  rintro ⟨a, L1⟩ ⟨ha, hL1⟩
  simp only [] at ha hL1
  by_cases hlt : a < ids.length
  · have hl1 := flat_le _ 156 (rw1_le hids) (ids.take a)
    rw [List.length_take] at hl1
    have hl1 : L1.length ≤ 102000 := by rw [hL1, List.length_append]; omega
    unfold l6_13
    have hca := hcs a hlt
    refine k_seq ?_
    refine rv (D.bool (decide ((↑a : Int) < (↑(List.length ids) : Int)))) ?_
    refine k_done (k_skip_seq (k_seq ?_))
    refine rkn 136 (decide ((↑a : Int) < (↑(List.length ids) : Int))) true (decide_eq_true (by omega)) ?_
    refine kct (k_skip_seq (k_seq (k_block (k_seq ?_))))
    refine runs_indexM (kd := IntKind.i64) (om) ((0 : Nat)) (List.length ids) (a) (by kernel_rfl) (by kernel_rfl) (by kernel_rfl) (by assumption) ?_
    refine runs_loadPA (om) ((0 : Nat) + a * (2 : Nat)) _ _ _ (by kernel_rfl) (by kernel_rfl) (hm) (by assumption) (by kernel_rfl) rfl ?_
    refine rgf (D.lptr (25 : Nat) (0 : Nat)) (σ) ?_
    refine rgf (D.junk) (σ) ?_
    refine k_done (k_skip_seq (k_seq ?_))
    refine rv (D.msl om (0 : Nat) (List.length ids) (2 : Nat)) ?_
    refine rv (D.int IntKind.i64 (↑(List.length ids) : Int)) ?_
    refine rv (D.int IntKind.i64 (0 : Int)) ?_
    refine k_done (k_skip_seq (k_block ?_))
    refine k_loop (S := Nat × List (List D)) (fun s => f14 ob om e c6 c9 [.str t, .str ids[a]] ids.length a s.1 s.2) (fun _ => σ) (fun s => s.1 ≤ ids.length ∧ s.2 = L1 ++ (ids.take s.1).flatMap (rw2 ids ids[a])) (fun s => ids.length - s.1) (0, L1) (by kernel_rfl) rfl ⟨by simp, by simp⟩ (by intro s hs; omega) ?_
    rintro ⟨b, L2⟩ ⟨hb, hL2⟩
    simp only [] at hb hL2
    by_cases hltb : b < ids.length
    · have hl2 := flat_le _ 13 (rw2_le hids ids[a]) (ids.take b)
      rw [List.length_take] at hl2
      have hl2 : L2.length ≤ 103000 := by rw [hL2, List.length_append]; omega
      have ab1 := above_ok n σ ob A B e0 e1 e2 at_ mp bd hσ t ids[a] ids[b] ht c59
      have inner : ∀ (L3 : List (List D)) (fr : Fr), L3.length ≤ 103001 → L3 = L2 ++ (if ids[a] = ids[b] then [] else [ax2 ids[a] ids[b]]) → fr.clear k16 = f16 ob om e c6 c9 [.str t, .str ids[a]] [.str t, .str ids[b]] ids.length a b 0 L3 → 
          Runs (runC (callN T (n + 3)) fu (.loop k16 l6_11) fr σ) (kont (callN T (n + 3)) fu ([.block 16, .block 15, .seq (.region false [⟨some 187, .bin .add (.tmp 141) (.const (.int .i64 (1))), none⟩, ⟨some 141, .move (.tmp 187) false, none⟩]), .back (fun fr' σ' => ∃ s' : Nat × List (List D), (s'.1 ≤ ids.length ∧ s'.2 = L1 ++ (ids.take s'.1).flatMap (rw2 ids ids[a])) ∧ ids.length - s'.1 < ids.length - b ∧ fr'.clear k14 = f14 ob om e c6 c9 [.str t, .str ids[a]] ids.length a s'.1 s'.2 ∧ σ' = σ)] ++ [.block 14, .block 13, .seq (.region false [⟨some 188, .bin .add (.tmp 135) (.const (.int .i64 (1))), none⟩, ⟨some 135, .move (.tmp 188) false, none⟩]), .back (fun fr' σ' => ∃ s' : Nat × List (List D), (s'.1 ≤ ids.length ∧ s'.2 = L0 ++ (ids.take s'.1).flatMap (rw1 ids)) ∧ ids.length - s'.1 < ids.length - a ∧ fr'.clear k12 = f12 ob om e c6 c9 ids.length s'.1 s'.2 ∧ σ' = σ), .block 12] ++ K) Q) := by
        intro L3 fr hl3 hL3 hfr3
        refine k_loop (S := Nat × List (List D)) (fun s => f16 ob om e c6 c9 [.str t, .str ids[a]] [.str t, .str ids[b]] ids.length a b s.1 s.2) (fun _ => σ) (fun s => s.1 ≤ ids.length ∧ s.2 = L3 ++ (ids.take s.1).map (ax3 ids[a] ids[b])) (fun s => ids.length - s.1) (0, L3) hfr3 rfl ⟨by simp, by simp⟩ (by intro s hs; omega) ?_
        rintro ⟨c, L4⟩ ⟨hc, hL4⟩
        simp only [] at hc hL4
        unfold l6_11
        by_cases hltc : c < ids.length
        · have hl4 : L4.length ≤ 104000 := by rw [hL4, List.length_append, List.length_map, List.length_take]; omega
          have ab2 := above_ok n σ ob A B e0 e1 e2 at_ mp bd hσ t ids[b] ids[c] ht c59
          have ab3 := above_ok n σ ob A B e0 e1 e2 at_ mp bd hσ t ids[a] ids[c] ht c59
          obtain ⟨σ1, cand⟩ := and_ok (n + 1) [abF ids[a] ids[b], abF ids[b] ids[c]] none
          obtain ⟨σ2, cthen⟩ := then_ok n 5 0 (if ids[a] = ids[c] then 1 else 2) 0 [abF ids[a] ids[b], abF ids[b] ids[c]] []
          have hcc := hcs c hltc
          refine k_seq ?_
          refine rv (D.bool (decide ((↑c : Int) < (↑(List.length ids) : Int)))) ?_
          refine k_done (k_skip_seq (k_seq ?_))
          refine rkn 165 (decide ((↑c : Int) < (↑(List.length ids) : Int))) true (decide_eq_true (by omega)) ?_
          refine kct (k_skip_seq (k_seq (k_block (k_seq ?_))))
          refine runs_indexM (kd := IntKind.i64) (om) ((0 : Nat)) (List.length ids) (c) (by kernel_rfl) (by kernel_rfl) (by kernel_rfl) (by assumption) ?_
          refine runs_loadPA (om) ((0 : Nat) + c * (2 : Nat)) _ _ _ (by kernel_rfl) (by kernel_rfl) (hm) (by assumption) (by kernel_rfl) rfl ?_
          refine rgf (D.lptr (29 : Nat) (0 : Nat)) (σ) ?_
          refine rgf (D.junk) (σ) ?_
          refine k_done (k_skip_seq (k_alt ?_))
          refine runs_steal (D.sl L4 (some (47 : Nat))) (by kernel_rfl) (by kernel_rfl) ?_
          refine rv (D.ptr ob (0 : Nat)) ?_
          refine runs_loadL (by kernel_rfl) ?_
          refine rv (D.agg [D.str t, D.str ids[a]]) ?_
          refine runs_loadL (by kernel_rfl) ?_
          refine rv (D.agg [D.str t, D.str ids[b]]) ?_
          refine runs_callT (by kernel_rfl) ?_
          refine runs_call_st ([D.ptr ob (0 : Nat), D.agg [D.str t, D.str ids[a]], D.agg [D.str t, D.str ids[b]]]) (by kernel_rfl) (by kernel_rfl) (by kernel_rfl) (by kernel_rfl) (ab1) ?_
          refine rv (D.ptr ob (0 : Nat)) ?_
          refine runs_loadL (by kernel_rfl) ?_
          refine rv (D.agg [D.str t, D.str ids[b]]) ?_
          refine runs_loadL (by kernel_rfl) ?_
          refine rv (D.agg [D.str t, D.str ids[c]]) ?_
          refine runs_callT (by kernel_rfl) ?_
          refine runs_call_st ([D.ptr ob (0 : Nat), D.agg [D.str t, D.str ids[b]], D.agg [D.str t, D.str ids[c]]]) (by kernel_rfl) (by kernel_rfl) (by kernel_rfl) (by kernel_rfl) (ab2) ?_
          refine rv (D.sl [[D.int IntKind.i64 (if ids[a] = ids[b] then (1 : Int) else (2 : Int)), D.int IntKind.i64 (0 : Int), D.sl [] none], [D.int IntKind.i64 (if ids[b] = ids[c] then (1 : Int) else (2 : Int)), D.int IntKind.i64 (0 : Int), D.sl [] none]] (some (47 : Nat))) ?_
          refine runs_callT (by kernel_rfl) ?_
          refine runs_call ([D.sl [[D.int IntKind.i64 (if ids[a] = ids[b] then (1 : Int) else (2 : Int)), D.int IntKind.i64 (0 : Int), D.sl [] none], [D.int IntKind.i64 (if ids[b] = ids[c] then (1 : Int) else (2 : Int)), D.int IntKind.i64 (0 : Int), D.sl [] none]] none]) (by kernel_rfl) (by kernel_rfl) (by kernel_rfl) (by kernel_rfl) (cand) (by kernel_rfl) ?_
          refine rv (D.ptr ob (0 : Nat)) ?_
          refine runs_loadL (by kernel_rfl) ?_
          refine rv (D.agg [D.str t, D.str ids[a]]) ?_
          refine runs_loadL (by kernel_rfl) ?_
          refine rv (D.agg [D.str t, D.str ids[c]]) ?_
          refine runs_callT (by kernel_rfl) ?_
          refine runs_call_st ([D.ptr ob (0 : Nat), D.agg [D.str t, D.str ids[a]], D.agg [D.str t, D.str ids[c]]]) (by kernel_rfl) (by kernel_rfl) (by kernel_rfl) (by kernel_rfl) (ab3) ?_
          refine runs_callT (by kernel_rfl) ?_
          refine runs_call ([D.agg [D.int IntKind.i64 (5 : Int), D.int IntKind.i64 (0 : Int), D.sl [[D.int IntKind.i64 (if ids[a] = ids[b] then (1 : Int) else (2 : Int)), D.int IntKind.i64 (0 : Int), D.sl [] none], [D.int IntKind.i64 (if ids[b] = ids[c] then (1 : Int) else (2 : Int)), D.int IntKind.i64 (0 : Int), D.sl [] none]] none], D.agg [D.int IntKind.i64 (if ids[a] = ids[c] then (1 : Int) else (2 : Int)), D.int IntKind.i64 (0 : Int), D.sl [] none]]) (by kernel_rfl) (by kernel_rfl) (by kernel_rfl) (by kernel_rfl) (cthen) (by kernel_rfl) ?_
          refine rv (D.sl [[D.int IntKind.i64 (6 : Int), D.int IntKind.i64 (0 : Int), D.sl [[D.int IntKind.i64 (4 : Int), D.int IntKind.i64 (0 : Int), D.sl [[D.int IntKind.i64 (5 : Int), D.int IntKind.i64 (0 : Int), D.sl [[D.int IntKind.i64 (if ids[a] = ids[b] then (1 : Int) else (2 : Int)), D.int IntKind.i64 (0 : Int), D.sl [] none], [D.int IntKind.i64 (if ids[b] = ids[c] then (1 : Int) else (2 : Int)), D.int IntKind.i64 (0 : Int), D.sl [] none]] none]] none], [D.int IntKind.i64 (if ids[a] = ids[c] then (1 : Int) else (2 : Int)), D.int IntKind.i64 (0 : Int), D.sl [] none]] none]] (some (47 : Nat))) ?_
          refine runs_append (L4) ([[D.int IntKind.i64 (6 : Int), D.int IntKind.i64 (0 : Int), D.sl [[D.int IntKind.i64 (4 : Int), D.int IntKind.i64 (0 : Int), D.sl [[D.int IntKind.i64 (5 : Int), D.int IntKind.i64 (0 : Int), D.sl [[D.int IntKind.i64 (if ids[a] = ids[b] then (1 : Int) else (2 : Int)), D.int IntKind.i64 (0 : Int), D.sl [] none], [D.int IntKind.i64 (if ids[b] = ids[c] then (1 : Int) else (2 : Int)), D.int IntKind.i64 (0 : Int), D.sl [] none]] none]] none], [D.int IntKind.i64 (if ids[a] = ids[c] then (1 : Int) else (2 : Int)), D.int IntKind.i64 (0 : Int), D.sl [] none]] none]]) (L4 ++ [[D.int IntKind.i64 (6 : Int), D.int IntKind.i64 (0 : Int), D.sl [[D.int IntKind.i64 (4 : Int), D.int IntKind.i64 (0 : Int), D.sl [[D.int IntKind.i64 (5 : Int), D.int IntKind.i64 (0 : Int), D.sl [[D.int IntKind.i64 (if ids[a] = ids[b] then (1 : Int) else (2 : Int)), D.int IntKind.i64 (0 : Int), D.sl [] none], [D.int IntKind.i64 (if ids[b] = ids[c] then (1 : Int) else (2 : Int)), D.int IntKind.i64 (0 : Int), D.sl [] none]] none]] none], [D.int IntKind.i64 (if ids[a] = ids[c] then (1 : Int) else (2 : Int)), D.int IntKind.i64 (0 : Int), D.sl [] none]] none]]) (by kernel_rfl) (by kernel_rfl) (by kernel_rfl) (by kernel_rfl) (by simp [ints, eInt, rows, eInts, bools, eBool, trips, eTrip, i8s, u16s, u8s, acts, room]; omega) rfl ?_
          refine runs_assign (D.sl (L4 ++ [[D.int IntKind.i64 (6 : Int), D.int IntKind.i64 (0 : Int), D.sl [[D.int IntKind.i64 (4 : Int), D.int IntKind.i64 (0 : Int), D.sl [[D.int IntKind.i64 (5 : Int), D.int IntKind.i64 (0 : Int), D.sl [[D.int IntKind.i64 (if ids[a] = ids[b] then (1 : Int) else (2 : Int)), D.int IntKind.i64 (0 : Int), D.sl [] none], [D.int IntKind.i64 (if ids[b] = ids[c] then (1 : Int) else (2 : Int)), D.int IntKind.i64 (0 : Int), D.sl [] none]] none]] none], [D.int IntKind.i64 (if ids[a] = ids[c] then (1 : Int) else (2 : Int)), D.int IntKind.i64 (0 : Int), D.sl [] none]] none]]) (some (47 : Nat))) (by kernel_rfl) (by kernel_rfl) ?_
          refine k_done (k_skip_block (k_skip_seq ?_))
          refine rve (D.int IntKind.i64 (IntKind.wrap IntKind.i64 ((↑c : Int) + (1 : Int)))) (.int IntKind.i64 ((c + 1 : Nat) : Int)) (congrArg (D.int IntKind.i64) (show IntKind.wrap IntKind.i64 ((↑c : Int) + (1 : Int)) = ((c + 1 : Nat) : Int) from wrap_eq (by omega) (by omega) (by omega))) ?_
          refine rv (D.int IntKind.i64 (↑(c + (1 : Nat)) : Int)) ?_
          refine k_done (k_skip_back ?_)
          refine ⟨(c + 1, L4 ++ [ax3 ids[a] ids[b] ids[c]]), ⟨hltc, ?_⟩, by simp only []; omega, by kernel_rfl, rfl⟩
          simp only []
          rw [map_take' hltc, hL4, List.append_assoc]
        · refine k_seq ?_
          refine rv (D.bool (decide ((↑c : Int) < (↑(List.length ids) : Int)))) ?_
          refine k_done (k_skip_seq (k_seq ?_))
          refine rkn 165 (decide ((↑c : Int) < (↑(List.length ids) : Int))) false (decide_eq_false (by omega)) ?_
          refine kcf (k_exit_seq (k_exit_back (k_exit_hit rfl (k_skip_block (k_skip_seq ?_)))))
          refine rve (D.int IntKind.i64 (IntKind.wrap IntKind.i64 ((↑b : Int) + (1 : Int)))) (.int IntKind.i64 ((b + 1 : Nat) : Int)) (congrArg (D.int IntKind.i64) (show IntKind.wrap IntKind.i64 ((↑b : Int) + (1 : Int)) = ((b + 1 : Nat) : Int) from wrap_eq (by omega) (by omega) (by omega))) ?_
          refine rv (D.int IntKind.i64 (↑(b + (1 : Nat)) : Int)) ?_
          refine k_done (k_skip_back ?_)
          rw [List.take_of_length_le (by omega)] at hL4
          refine ⟨(b + 1, L4), ⟨hltb, ?_⟩, by simp only []; omega, by kernel_rfl, rfl⟩
          simp only []
          rw [flat_take hltb, hL4, hL3, hL2, List.append_assoc, List.append_assoc]
          rfl
      unfold l6_12
      have hcb := hcs b hltb
      by_cases hij : ids[a] = ids[b]
      · have hbt : (ids[a] == ids[b]) = true := by simpa using hij
        refine k_seq ?_
        refine rv (D.bool (decide ((↑b : Int) < (↑(List.length ids) : Int)))) ?_
        refine k_done (k_skip_seq (k_seq ?_))
        refine rkn 142 (decide ((↑b : Int) < (↑(List.length ids) : Int))) true (decide_eq_true (by omega)) ?_
        refine kct (k_skip_seq (k_seq (k_block (k_seq ?_))))
        refine runs_indexM (kd := IntKind.i64) (om) ((0 : Nat)) (List.length ids) (b) (by kernel_rfl) (by kernel_rfl) (by kernel_rfl) (by assumption) ?_
        refine runs_loadPA (om) ((0 : Nat) + b * (2 : Nat)) _ _ _ (by kernel_rfl) (by kernel_rfl) (hm) (by assumption) (by kernel_rfl) rfl ?_
        refine rgf (D.lptr (27 : Nat) (0 : Nat)) (σ) ?_
        refine rgf (D.junk) (σ) ?_
        refine k_done (k_skip_seq (k_seq (k_seq ?_)))
        refine rv (D.agg [D.str t, D.str ids[a]]) ?_
        refine rv (D.agg [D.str t, D.str ids[b]]) ?_
        refine rv (D.bool (eqLs [D.str t, D.str ids[a]] [D.str t, D.str ids[b]] != true)) ?_
        refine k_done (k_skip_seq ?_)
        refine rkn 147 (eqLs [D.str t, D.str ids[a]] [D.str t, D.str ids[b]] != true) false (by simp [eqLs, leafEq, beq_self_eq_true, hbt, ints, eInt, rows, eInts, bools, eBool, trips, eTrip, i8s, u16s, u8s, acts]) ?_
        refine kcf (k_skip_seq (k_seq ?_))
        refine rv (D.msl om (0 : Nat) (List.length ids) (2 : Nat)) ?_
        refine rv (D.int IntKind.i64 (↑(List.length ids) : Int)) ?_
        refine rv (D.int IntKind.i64 (0 : Int)) ?_
        refine k_done (k_skip_seq (k_block ?_))
        exact inner L2 _ (by omega) (by rw [if_pos hij, List.append_nil]) (by kernel_rfl)
      · have hbf : (ids[a] == ids[b]) = false := by simpa using hij
        have ab2 := above_ok n σ ob A B e0 e1 e2 at_ mp bd hσ t ids[b] ids[a] ht c59
        obtain ⟨σ1, cand⟩ := and_ok (n + 1) [abF ids[a] ids[b], abF ids[b] ids[a]] none
        obtain ⟨σ2, cnot⟩ := not_ok (n + 1) 5 0 [abF ids[a] ids[b], abF ids[b] ids[a]]
        refine k_seq ?_
        refine rv (D.bool (decide ((↑b : Int) < (↑(List.length ids) : Int)))) ?_
        refine k_done (k_skip_seq (k_seq ?_))
        refine rkn 142 (decide ((↑b : Int) < (↑(List.length ids) : Int))) true (decide_eq_true (by omega)) ?_
        refine kct (k_skip_seq (k_seq (k_block (k_seq ?_))))
        refine runs_indexM (kd := IntKind.i64) (om) ((0 : Nat)) (List.length ids) (b) (by kernel_rfl) (by kernel_rfl) (by kernel_rfl) (by assumption) ?_
        refine runs_loadPA (om) ((0 : Nat) + b * (2 : Nat)) _ _ _ (by kernel_rfl) (by kernel_rfl) (hm) (by assumption) (by kernel_rfl) rfl ?_
        refine rgf (D.lptr (27 : Nat) (0 : Nat)) (σ) ?_
        refine rgf (D.junk) (σ) ?_
        refine k_done (k_skip_seq (k_seq (k_seq ?_)))
        refine rv (D.agg [D.str t, D.str ids[a]]) ?_
        refine rv (D.agg [D.str t, D.str ids[b]]) ?_
        refine rv (D.bool (eqLs [D.str t, D.str ids[a]] [D.str t, D.str ids[b]] != true)) ?_
        refine k_done (k_skip_seq ?_)
        refine rkn 147 (eqLs [D.str t, D.str ids[a]] [D.str t, D.str ids[b]] != true) true (by simp [eqLs, leafEq, beq_self_eq_true, hbf, ints, eInt, rows, eInts, bools, eBool, trips, eTrip, i8s, u16s, u8s, acts]) ?_
        refine kct (k_alt ?_)
        refine runs_steal (D.sl L2 (some (47 : Nat))) (by kernel_rfl) (by kernel_rfl) ?_
        refine rv (D.ptr ob (0 : Nat)) ?_
        refine runs_loadL (by kernel_rfl) ?_
        refine rv (D.agg [D.str t, D.str ids[a]]) ?_
        refine runs_loadL (by kernel_rfl) ?_
        refine rv (D.agg [D.str t, D.str ids[b]]) ?_
        refine runs_callT (by kernel_rfl) ?_
        refine runs_call_st ([D.ptr ob (0 : Nat), D.agg [D.str t, D.str ids[a]], D.agg [D.str t, D.str ids[b]]]) (by kernel_rfl) (by kernel_rfl) (by kernel_rfl) (by kernel_rfl) (ab1) ?_
        refine rv (D.ptr ob (0 : Nat)) ?_
        refine runs_loadL (by kernel_rfl) ?_
        refine rv (D.agg [D.str t, D.str ids[b]]) ?_
        refine runs_loadL (by kernel_rfl) ?_
        refine rv (D.agg [D.str t, D.str ids[a]]) ?_
        refine runs_callT (by kernel_rfl) ?_
        refine runs_call_st ([D.ptr ob (0 : Nat), D.agg [D.str t, D.str ids[b]], D.agg [D.str t, D.str ids[a]]]) (by kernel_rfl) (by kernel_rfl) (by kernel_rfl) (by kernel_rfl) (ab2) ?_
        refine rv (D.sl [[D.int IntKind.i64 (if ids[a] = ids[b] then (1 : Int) else (2 : Int)), D.int IntKind.i64 (0 : Int), D.sl [] none], [D.int IntKind.i64 (if ids[b] = ids[a] then (1 : Int) else (2 : Int)), D.int IntKind.i64 (0 : Int), D.sl [] none]] (some (47 : Nat))) ?_
        refine runs_callT (by kernel_rfl) ?_
        refine runs_call ([D.sl [[D.int IntKind.i64 (if ids[a] = ids[b] then (1 : Int) else (2 : Int)), D.int IntKind.i64 (0 : Int), D.sl [] none], [D.int IntKind.i64 (if ids[b] = ids[a] then (1 : Int) else (2 : Int)), D.int IntKind.i64 (0 : Int), D.sl [] none]] none]) (by kernel_rfl) (by kernel_rfl) (by kernel_rfl) (by kernel_rfl) (cand) (by kernel_rfl) ?_
        refine runs_callT (by kernel_rfl) ?_
        refine runs_call ([D.agg [D.int IntKind.i64 (5 : Int), D.int IntKind.i64 (0 : Int), D.sl [[D.int IntKind.i64 (if ids[a] = ids[b] then (1 : Int) else (2 : Int)), D.int IntKind.i64 (0 : Int), D.sl [] none], [D.int IntKind.i64 (if ids[b] = ids[a] then (1 : Int) else (2 : Int)), D.int IntKind.i64 (0 : Int), D.sl [] none]] none]]) (by kernel_rfl) (by kernel_rfl) (by kernel_rfl) (by kernel_rfl) (cnot) (by kernel_rfl) ?_
        refine rv (D.sl [[D.int IntKind.i64 (4 : Int), D.int IntKind.i64 (0 : Int), D.sl [[D.int IntKind.i64 (5 : Int), D.int IntKind.i64 (0 : Int), D.sl [[D.int IntKind.i64 (if ids[a] = ids[b] then (1 : Int) else (2 : Int)), D.int IntKind.i64 (0 : Int), D.sl [] none], [D.int IntKind.i64 (if ids[b] = ids[a] then (1 : Int) else (2 : Int)), D.int IntKind.i64 (0 : Int), D.sl [] none]] none]] none]] (some (47 : Nat))) ?_
        refine runs_append (L2) ([[D.int IntKind.i64 (4 : Int), D.int IntKind.i64 (0 : Int), D.sl [[D.int IntKind.i64 (5 : Int), D.int IntKind.i64 (0 : Int), D.sl [[D.int IntKind.i64 (if ids[a] = ids[b] then (1 : Int) else (2 : Int)), D.int IntKind.i64 (0 : Int), D.sl [] none], [D.int IntKind.i64 (if ids[b] = ids[a] then (1 : Int) else (2 : Int)), D.int IntKind.i64 (0 : Int), D.sl [] none]] none]] none]]) (L2 ++ [[D.int IntKind.i64 (4 : Int), D.int IntKind.i64 (0 : Int), D.sl [[D.int IntKind.i64 (5 : Int), D.int IntKind.i64 (0 : Int), D.sl [[D.int IntKind.i64 (if ids[a] = ids[b] then (1 : Int) else (2 : Int)), D.int IntKind.i64 (0 : Int), D.sl [] none], [D.int IntKind.i64 (if ids[b] = ids[a] then (1 : Int) else (2 : Int)), D.int IntKind.i64 (0 : Int), D.sl [] none]] none]] none]]) (by kernel_rfl) (by kernel_rfl) (by kernel_rfl) (by kernel_rfl) (by simp [eqLs, leafEq, beq_self_eq_true, hbf, ints, eInt, rows, eInts, bools, eBool, trips, eTrip, i8s, u16s, u8s, acts, room]; omega) rfl ?_
        refine runs_assign (D.sl (L2 ++ [[D.int IntKind.i64 (4 : Int), D.int IntKind.i64 (0 : Int), D.sl [[D.int IntKind.i64 (5 : Int), D.int IntKind.i64 (0 : Int), D.sl [[D.int IntKind.i64 (if ids[a] = ids[b] then (1 : Int) else (2 : Int)), D.int IntKind.i64 (0 : Int), D.sl [] none], [D.int IntKind.i64 (if ids[b] = ids[a] then (1 : Int) else (2 : Int)), D.int IntKind.i64 (0 : Int), D.sl [] none]] none]] none]]) (some (47 : Nat))) (by kernel_rfl) (by kernel_rfl) ?_
        refine k_done (k_skip_seq (k_seq ?_))
        refine rv (D.msl om (0 : Nat) (List.length ids) (2 : Nat)) ?_
        refine rv (D.int IntKind.i64 (↑(List.length ids) : Int)) ?_
        refine rv (D.int IntKind.i64 (0 : Int)) ?_
        refine k_done (k_skip_seq (k_block ?_))
        exact inner (L2 ++ [ax2 ids[a] ids[b]]) _ (by rw [List.length_append]; simp; omega) (by rw [if_neg hij]) (by kernel_rfl)
    · unfold l6_12
      refine k_seq ?_
      refine rv (D.bool (decide ((↑b : Int) < (↑(List.length ids) : Int)))) ?_
      refine k_done (k_skip_seq (k_seq ?_))
      refine rkn 142 (decide ((↑b : Int) < (↑(List.length ids) : Int))) false (decide_eq_false (by omega)) ?_
      refine kcf (k_exit_seq (k_exit_back (k_exit_hit rfl (k_skip_block (k_skip_seq ?_)))))
      refine rve (D.int IntKind.i64 (IntKind.wrap IntKind.i64 ((↑a : Int) + (1 : Int)))) (.int IntKind.i64 ((a + 1 : Nat) : Int)) (congrArg (D.int IntKind.i64) (show IntKind.wrap IntKind.i64 ((↑a : Int) + (1 : Int)) = ((a + 1 : Nat) : Int) from wrap_eq (by omega) (by omega) (by omega))) ?_
      refine rv (D.int IntKind.i64 (↑(a + (1 : Nat)) : Int)) ?_
      refine k_done (k_skip_back ?_)
      rw [List.take_of_length_le (by omega)] at hL2
      refine ⟨(a + 1, L2), ⟨hlt, ?_⟩, by simp only []; omega, by kernel_rfl, rfl⟩
      simp only []
      rw [flat_take hlt, hL2, hL1, List.append_assoc]
      rfl
  · unfold l6_13
    obtain rfl : a = ids.length := by omega
    refine k_seq ?_
    refine rv (D.bool (decide ((↑(List.length ids) : Int) < (↑(List.length ids) : Int)))) ?_
    refine k_done (k_skip_seq (k_seq ?_))
    refine rkn 136 (decide ((↑(List.length ids) : Int) < (↑(List.length ids) : Int))) false (decide_eq_false (by omega)) ?_
    refine kcf (k_exit_seq (k_exit_back (k_exit_hit rfl ?_)))
    rw [List.take_of_length_le (by omega)] at hL1
    subst hL1
    exact hQ _ (by kernel_rfl)
end Go.Abs.T

/-
  The axioms of one side's names: what the double loop makes, told.
-/
namespace Go.Abs.T
open Go Go.Abs
set_option maxRecDepth 20000
attribute [local irreducible] callN runC evalOp
abbrev fT (f : Int × Int × List (List D)) : List D := fC f.1 f.2.1 f.2.2
/-- What the inner loop makes of one pair. -/
def of2 (fI gI : List UInt8 → Int × Int × List (List D)) (i j : List UInt8) : List (List D) :=
  (if i = j then [] else [fC 4 0 [fC 5 0 [fT (fI i), fT (fI j)]], fC 6 0 [fC 4 0 [fC 5 0 [fT (fI i), fT (gI j)]], abF i j]]) ++ [fC 6 0 [fC 4 0 [fC 5 0 [fT (gI i), abF i j]], fT (gI j)]]
def of1 (fI gI : List UInt8 → Int × Int × List (List D)) (ids : List (List UInt8)) (i : List UInt8) : List (List D) :=
  fC 6 0 [fC 4 0 [fT (fI i)], fT (gI i)] :: ids.flatMap (of2 fI gI i)
def of0 (fI gI : List UInt8 → Int × Int × List (List D)) (ids : List (List UInt8)) : List (List D) := ids.flatMap (of1 fI gI ids)
theorem of2_le (fI gI) (i j : List UInt8) : (of2 fI gI i j).length ≤ 3 := by
  unfold of2
  rw [List.length_append]
  split <;> simp
theorem of1_le (fI gI) {ids : List (List UInt8)} (h : ids.length ≤ 12) (i : List UInt8) : (of1 fI gI ids i).length ≤ 37 := by
  unfold of1
  have := flat_le _ 3 (of2_le fI gI i) ids
  rw [List.length_cons]
  omega
def f22o (ob om : Nat) (x : List D) (k a : Nat) (L : List (List D)) : Fr :=
  Fr.mk (setsAt (List.replicate 89 .junk) [(0, .ptr ob 0), (2, .msl om 0 k 2), (4, .lptr 4 0), (6, .sl [] (some 47)), (7, .sl L (some 47)), (12, .msl om 0 k 2), (13, .int .i64 k), (14, .int .i64 a)]) (setsAt (List.replicate 89 none) [(4, some x)]) []
def f22i (ob om : Nat) (x u : List D) (k a b : Nat) (L : List (List D)) : Fr :=
  Fr.mk (setsAt (List.replicate 89 .junk) [(0, .ptr ob 0), (2, .msl om 0 k 2), (4, .lptr 4 0), (6, .sl [] (some 47)), (7, .sl L (some 47)), (9, .lptr 9 0), (12, .msl om 0 k 2), (13, .int .i64 k), (14, .int .i64 a), (30, .msl om 0 k 2), (31, .int .i64 k), (32, .int .i64 b)]) (setsAt (List.replicate 89 none) [(4, some x), (9, some u)]) []
theorem of_ok (n : Nat) (hn : 13 < n) (σ : St) (ob : Nat) (xi : Int) (xt t : List UInt8) (ids : List (List UInt8)) (fI gI : List UInt8 → Int × Int × List (List D)) (hids : ids.length ≤ 12) (om : Nat) (cs : List D) (hm : σ[om]? = some (.cells cs)) (hcs : ∀ (c : Nat) (h : c < ids.length), (cs.drop (0 + c * 2)).take 2 = [.str t, .str ids[c]])
    (his : ∀ i ∈ ids, callN T (n + 3) 19 [.ptr ob 0, .agg [.int .i64 xi, .str xt], .agg [.str t, .str i]] σ = some (.agg (fT (fI i)), σ))
    (hin : ∀ i ∈ ids, callN T (n + 3) 20 [.ptr ob 0, .agg [.int .i64 xi, .str xt], .agg [.str t, .str i]] σ = some (.agg (fT (gI i)), σ))
    (hab : ∀ i j, callN T (n + 3) 21 [.ptr ob 0, .agg [.str t, .str i], .agg [.str t, .str j]] σ = some (.agg (abF i j), σ)) :
    callN T (n + 4) 22 [.ptr ob 0, .agg [.int .i64 xi, .str xt], .msl om 0 ids.length 2] σ = some (.sl (of0 fI gI ids) none, σ) := by
  refine call_of (m := m22) rfl rfl (by decide) (k_start ?_)
  unfold m22
  refine k_seq ?_
  refine rgf (D.lptr (4 : Nat) (0 : Nat)) (σ) ?_
  refine rv (D.sl [] (some (47 : Nat))) ?_
  refine k_done (k_skip_seq (k_seq ?_))
  refine rv (D.sl [] (some (47 : Nat))) ?_
  refine k_done (k_skip_seq (k_seq (k_seq ?_)))
  refine rv (D.msl om (0 : Nat) (List.length ids) (2 : Nat)) ?_
  refine rv (D.int IntKind.i64 (↑(List.length ids) : Int)) ?_
  refine rv (D.int IntKind.i64 (0 : Int)) ?_
  refine k_done (k_skip_seq (k_block ?_))
  refine k_loop (S := Nat × List (List D)) (fun s => f22o ob om [.int .i64 xi, .str xt] ids.length s.1 s.2) (fun _ => σ) (fun s => s.1 ≤ ids.length ∧ s.2 = (ids.take s.1).flatMap (of1 fI gI ids)) (fun s => ids.length - s.1) (0, []) (by kernel_rfl) rfl ⟨by simp, by simp⟩ (by intro s hs; omega) ?_
  rintro ⟨a, L1⟩ ⟨_, hL1⟩
  simp only [] at hL1
  by_cases hlt : a < ids.length
  · have hl1 := flat_le _ 37 (of1_le fI gI hids) (ids.take a)
    rw [List.length_take] at hl1
    have hl1 : L1.length ≤ 1000 := by rw [hL1]; omega
    unfold l22_7
    have hca := hcs a hlt
    have hi := his ids[a] (List.getElem_mem hlt)
    have gi := hin ids[a] (List.getElem_mem hlt)
    obtain ⟨σ1, cthen⟩ := then_ok n (fI ids[a]).1 (fI ids[a]).2.1 (gI ids[a]).1 (gI ids[a]).2.1 (fI ids[a]).2.2 (gI ids[a]).2.2
    refine k_seq ?_
    refine rv (D.bool (decide ((↑a : Int) < (↑(List.length ids) : Int)))) ?_
    refine k_done (k_skip_seq (k_seq ?_))
    refine rkn 15 (decide ((↑a : Int) < (↑(List.length ids) : Int))) true (decide_eq_true (by omega)) ?_
    refine kct (k_skip_seq (k_seq (k_block (k_seq ?_))))
    refine runs_indexM (kd := IntKind.i64) (om) ((0 : Nat)) (List.length ids) (a) (by kernel_rfl) (by kernel_rfl) (by kernel_rfl) (by assumption) ?_
    refine runs_loadPA (om) ((0 : Nat) + a * (2 : Nat)) _ _ _ (by kernel_rfl) (by kernel_rfl) (hm) (by assumption) (by kernel_rfl) rfl ?_
    refine rgf (D.lptr (9 : Nat) (0 : Nat)) (σ) ?_
    refine rgf (D.junk) (σ) ?_
    refine k_done (k_skip_seq (k_seq (k_alt ?_)))
    refine runs_steal (D.sl L1 (some (47 : Nat))) (by kernel_rfl) (by kernel_rfl) ?_
    refine rv (D.ptr ob (0 : Nat)) ?_
    refine runs_loadL (by kernel_rfl) ?_
    refine rv (D.agg [D.int IntKind.i64 xi, D.str xt]) ?_
    refine runs_loadL (by kernel_rfl) ?_
    refine rv (D.agg [D.str t, D.str ids[a]]) ?_
    refine runs_callT (by kernel_rfl) ?_
    refine runs_call_st ([D.ptr ob (0 : Nat), D.agg [D.int IntKind.i64 xi, D.str xt], D.agg [D.str t, D.str ids[a]]]) (by kernel_rfl) (by kernel_rfl) (by kernel_rfl) (by kernel_rfl) (hi) ?_
    refine rv (D.ptr ob (0 : Nat)) ?_
    refine runs_loadL (by kernel_rfl) ?_
    refine rv (D.agg [D.int IntKind.i64 xi, D.str xt]) ?_
    refine runs_loadL (by kernel_rfl) ?_
    refine rv (D.agg [D.str t, D.str ids[a]]) ?_
    refine runs_callT (by kernel_rfl) ?_
    refine runs_call_st ([D.ptr ob (0 : Nat), D.agg [D.int IntKind.i64 xi, D.str xt], D.agg [D.str t, D.str ids[a]]]) (by kernel_rfl) (by kernel_rfl) (by kernel_rfl) (by kernel_rfl) (gi) ?_
    refine runs_callT (by kernel_rfl) ?_
    refine runs_call ([D.agg [D.int IntKind.i64 (Prod.fst (fI ids[a])), D.int IntKind.i64 (Prod.fst (Prod.snd (fI ids[a]))), D.sl (Prod.snd (Prod.snd (fI ids[a]))) none], D.agg [D.int IntKind.i64 (Prod.fst (gI ids[a])), D.int IntKind.i64 (Prod.fst (Prod.snd (gI ids[a]))), D.sl (Prod.snd (Prod.snd (gI ids[a]))) none]]) (by kernel_rfl) (by kernel_rfl) (by kernel_rfl) (by kernel_rfl) (cthen) (by kernel_rfl) ?_
    refine rv (D.sl [[D.int IntKind.i64 (6 : Int), D.int IntKind.i64 (0 : Int), D.sl [[D.int IntKind.i64 (4 : Int), D.int IntKind.i64 (0 : Int), D.sl [[D.int IntKind.i64 (Prod.fst (fI ids[a])), D.int IntKind.i64 (Prod.fst (Prod.snd (fI ids[a]))), D.sl (Prod.snd (Prod.snd (fI ids[a]))) none]] none], [D.int IntKind.i64 (Prod.fst (gI ids[a])), D.int IntKind.i64 (Prod.fst (Prod.snd (gI ids[a]))), D.sl (Prod.snd (Prod.snd (gI ids[a]))) none]] none]] (some (47 : Nat))) ?_
    refine runs_append (L1) ([[D.int IntKind.i64 (6 : Int), D.int IntKind.i64 (0 : Int), D.sl [[D.int IntKind.i64 (4 : Int), D.int IntKind.i64 (0 : Int), D.sl [[D.int IntKind.i64 (Prod.fst (fI ids[a])), D.int IntKind.i64 (Prod.fst (Prod.snd (fI ids[a]))), D.sl (Prod.snd (Prod.snd (fI ids[a]))) none]] none], [D.int IntKind.i64 (Prod.fst (gI ids[a])), D.int IntKind.i64 (Prod.fst (Prod.snd (gI ids[a]))), D.sl (Prod.snd (Prod.snd (gI ids[a]))) none]] none]]) (L1 ++ [[D.int IntKind.i64 (6 : Int), D.int IntKind.i64 (0 : Int), D.sl [[D.int IntKind.i64 (4 : Int), D.int IntKind.i64 (0 : Int), D.sl [[D.int IntKind.i64 (Prod.fst (fI ids[a])), D.int IntKind.i64 (Prod.fst (Prod.snd (fI ids[a]))), D.sl (Prod.snd (Prod.snd (fI ids[a]))) none]] none], [D.int IntKind.i64 (Prod.fst (gI ids[a])), D.int IntKind.i64 (Prod.fst (Prod.snd (gI ids[a]))), D.sl (Prod.snd (Prod.snd (gI ids[a]))) none]] none]]) (by kernel_rfl) (by kernel_rfl) (by kernel_rfl) (by kernel_rfl) (by simp [ints, eInt, rows, eInts, bools, eBool, trips, eTrip, i8s, u16s, u8s, acts, room]; omega) rfl ?_
    refine runs_assign (D.sl (L1 ++ [[D.int IntKind.i64 (6 : Int), D.int IntKind.i64 (0 : Int), D.sl [[D.int IntKind.i64 (4 : Int), D.int IntKind.i64 (0 : Int), D.sl [[D.int IntKind.i64 (Prod.fst (fI ids[a])), D.int IntKind.i64 (Prod.fst (Prod.snd (fI ids[a]))), D.sl (Prod.snd (Prod.snd (fI ids[a]))) none]] none], [D.int IntKind.i64 (Prod.fst (gI ids[a])), D.int IntKind.i64 (Prod.fst (Prod.snd (gI ids[a]))), D.sl (Prod.snd (Prod.snd (gI ids[a]))) none]] none]]) (some (47 : Nat))) (by kernel_rfl) (by kernel_rfl) ?_
    refine k_done (k_skip_seq (k_seq ?_))
    refine rv (D.msl om (0 : Nat) (List.length ids) (2 : Nat)) ?_
    refine rv (D.int IntKind.i64 (↑(List.length ids) : Int)) ?_
    refine rv (D.int IntKind.i64 (0 : Int)) ?_
    refine k_done (k_skip_seq (k_block ?_))
    refine k_loop (S := Nat × List (List D)) (fun s => f22i ob om [.int .i64 xi, .str xt] [.str t, .str ids[a]] ids.length a s.1 s.2) (fun _ => σ) (fun s => s.1 ≤ ids.length ∧ s.2 = L1 ++ fC 6 0 [fC 4 0 [fT (fI ids[a])], fT (gI ids[a])] :: (ids.take s.1).flatMap (of2 fI gI ids[a])) (fun s => ids.length - s.1) (0, L1 ++ [fC 6 0 [fC 4 0 [fT (fI ids[a])], fT (gI ids[a])]]) (by kernel_rfl) rfl ⟨by simp, by simp⟩ (by intro s hs; omega) ?_
    rintro ⟨b, L2⟩ ⟨_, hL2⟩
    simp only [] at hL2
    unfold l22_6
    by_cases hltb : b < ids.length
    · have hl2 := flat_le _ 3 (of2_le fI gI ids[a]) (ids.take b)
      rw [List.length_take] at hl2
      have hl2 : L2.length ≤ 2000 := by rw [hL2, List.length_append, List.length_cons]; omega
      have hcb := hcs b hltb
      have hj := his ids[b] (List.getElem_mem hltb)
      have gj := hin ids[b] (List.getElem_mem hltb)
      have ab := hab ids[a] ids[b]
      obtain ⟨σ2, cand1⟩ := and_ok (n + 1) [fT (fI ids[a]), fT (fI ids[b])] none
      obtain ⟨σ3, cnot1⟩ := not_ok (n + 1) 5 0 [fT (fI ids[a]), fT (fI ids[b])]
      obtain ⟨σ4, cand2⟩ := and_ok (n + 1) [fT (fI ids[a]), fT (gI ids[b])] none
      obtain ⟨σ5, cthen2⟩ := then_ok n 5 0 (if ids[a] = ids[b] then 1 else 2) 0 [fT (fI ids[a]), fT (gI ids[b])] []
      obtain ⟨σ6, cand3⟩ := and_ok (n + 1) [fT (gI ids[a]), abF ids[a] ids[b]] none
      obtain ⟨σ7, cthen3⟩ := then_ok n 5 0 (gI ids[b]).1 (gI ids[b]).2.1 [fT (gI ids[a]), abF ids[a] ids[b]] (gI ids[b]).2.2
      by_cases hij : ids[a] = ids[b]
      · have hbt : (ids[a] == ids[b]) = true := by simpa using hij
        refine k_seq ?_
        refine rv (D.bool (decide ((↑b : Int) < (↑(List.length ids) : Int)))) ?_
        refine k_done (k_skip_seq (k_seq ?_))
        refine rkn 33 (decide ((↑b : Int) < (↑(List.length ids) : Int))) true (decide_eq_true (by omega)) ?_
        refine kct (k_skip_seq (k_seq (k_block (k_seq ?_))))
        refine runs_indexM (kd := IntKind.i64) (om) ((0 : Nat)) (List.length ids) (b) (by kernel_rfl) (by kernel_rfl) (by kernel_rfl) (by assumption) ?_
        refine runs_loadPA (om) ((0 : Nat) + b * (2 : Nat)) _ _ _ (by kernel_rfl) (by kernel_rfl) (hm) (by assumption) (by kernel_rfl) rfl ?_
        refine rgf (D.lptr (11 : Nat) (0 : Nat)) (σ) ?_
        refine rgf (D.junk) (σ) ?_
        refine k_done (k_skip_seq (k_seq (k_seq ?_)))
        refine rv (D.agg [D.str t, D.str ids[a]]) ?_
        refine rv (D.agg [D.str t, D.str ids[b]]) ?_
        refine rv (D.bool (eqLs [D.str t, D.str ids[a]] [D.str t, D.str ids[b]] != true)) ?_
        refine k_done (k_skip_seq ?_)
        refine rkn 38 (eqLs [D.str t, D.str ids[a]] [D.str t, D.str ids[b]] != true) false (by simp [eqLs, leafEq, beq_self_eq_true, hbt, ints, eInt, rows, eInts, bools, eBool, trips, eTrip, i8s, u16s, u8s, acts]) ?_
        refine kcf (k_skip_seq (k_alt ?_))
        refine runs_steal (D.sl L2 (some (47 : Nat))) (by kernel_rfl) (by kernel_rfl) ?_
        refine rv (D.ptr ob (0 : Nat)) ?_
        refine runs_loadL (by kernel_rfl) ?_
        refine rv (D.agg [D.int IntKind.i64 xi, D.str xt]) ?_
        refine runs_loadL (by kernel_rfl) ?_
        refine rv (D.agg [D.str t, D.str ids[a]]) ?_
        refine runs_callT (by kernel_rfl) ?_
        refine runs_call_st ([D.ptr ob (0 : Nat), D.agg [D.int IntKind.i64 xi, D.str xt], D.agg [D.str t, D.str ids[a]]]) (by kernel_rfl) (by kernel_rfl) (by kernel_rfl) (by kernel_rfl) (gi) ?_
        refine rv (D.ptr ob (0 : Nat)) ?_
        refine runs_loadL (by kernel_rfl) ?_
        refine rv (D.agg [D.str t, D.str ids[a]]) ?_
        refine runs_loadL (by kernel_rfl) ?_
        refine rv (D.agg [D.str t, D.str ids[b]]) ?_
        refine runs_callT (by kernel_rfl) ?_
        refine runs_call_st ([D.ptr ob (0 : Nat), D.agg [D.str t, D.str ids[a]], D.agg [D.str t, D.str ids[b]]]) (by kernel_rfl) (by kernel_rfl) (by kernel_rfl) (by kernel_rfl) (ab) ?_
        refine rv (D.sl [[D.int IntKind.i64 (Prod.fst (gI ids[a])), D.int IntKind.i64 (Prod.fst (Prod.snd (gI ids[a]))), D.sl (Prod.snd (Prod.snd (gI ids[a]))) none], [D.int IntKind.i64 (if ids[a] = ids[b] then (1 : Int) else (2 : Int)), D.int IntKind.i64 (0 : Int), D.sl [] none]] (some (47 : Nat))) ?_
        refine runs_callT (by kernel_rfl) ?_
        refine runs_call ([D.sl [[D.int IntKind.i64 (Prod.fst (gI ids[a])), D.int IntKind.i64 (Prod.fst (Prod.snd (gI ids[a]))), D.sl (Prod.snd (Prod.snd (gI ids[a]))) none], [D.int IntKind.i64 (if ids[a] = ids[b] then (1 : Int) else (2 : Int)), D.int IntKind.i64 (0 : Int), D.sl [] none]] none]) (by kernel_rfl) (by kernel_rfl) (by kernel_rfl) (by kernel_rfl) (cand3) (by kernel_rfl) ?_
        refine rv (D.ptr ob (0 : Nat)) ?_
        refine runs_loadL (by kernel_rfl) ?_
        refine rv (D.agg [D.int IntKind.i64 xi, D.str xt]) ?_
        refine runs_loadL (by kernel_rfl) ?_
        refine rv (D.agg [D.str t, D.str ids[b]]) ?_
        refine runs_callT (by kernel_rfl) ?_
        refine runs_call_st ([D.ptr ob (0 : Nat), D.agg [D.int IntKind.i64 xi, D.str xt], D.agg [D.str t, D.str ids[b]]]) (by kernel_rfl) (by kernel_rfl) (by kernel_rfl) (by kernel_rfl) (gj) ?_
        refine runs_callT (by kernel_rfl) ?_
        refine runs_call ([D.agg [D.int IntKind.i64 (5 : Int), D.int IntKind.i64 (0 : Int), D.sl [[D.int IntKind.i64 (Prod.fst (gI ids[a])), D.int IntKind.i64 (Prod.fst (Prod.snd (gI ids[a]))), D.sl (Prod.snd (Prod.snd (gI ids[a]))) none], [D.int IntKind.i64 (if ids[a] = ids[b] then (1 : Int) else (2 : Int)), D.int IntKind.i64 (0 : Int), D.sl [] none]] none], D.agg [D.int IntKind.i64 (Prod.fst (gI ids[b])), D.int IntKind.i64 (Prod.fst (Prod.snd (gI ids[b]))), D.sl (Prod.snd (Prod.snd (gI ids[b]))) none]]) (by kernel_rfl) (by kernel_rfl) (by kernel_rfl) (by kernel_rfl) (cthen3) (by kernel_rfl) ?_
        refine rv (D.sl [[D.int IntKind.i64 (6 : Int), D.int IntKind.i64 (0 : Int), D.sl [[D.int IntKind.i64 (4 : Int), D.int IntKind.i64 (0 : Int), D.sl [[D.int IntKind.i64 (5 : Int), D.int IntKind.i64 (0 : Int), D.sl [[D.int IntKind.i64 (Prod.fst (gI ids[a])), D.int IntKind.i64 (Prod.fst (Prod.snd (gI ids[a]))), D.sl (Prod.snd (Prod.snd (gI ids[a]))) none], [D.int IntKind.i64 (if ids[a] = ids[b] then (1 : Int) else (2 : Int)), D.int IntKind.i64 (0 : Int), D.sl [] none]] none]] none], [D.int IntKind.i64 (Prod.fst (gI ids[b])), D.int IntKind.i64 (Prod.fst (Prod.snd (gI ids[b]))), D.sl (Prod.snd (Prod.snd (gI ids[b]))) none]] none]] (some (47 : Nat))) ?_
        refine runs_append (L2) ([[D.int IntKind.i64 (6 : Int), D.int IntKind.i64 (0 : Int), D.sl [[D.int IntKind.i64 (4 : Int), D.int IntKind.i64 (0 : Int), D.sl [[D.int IntKind.i64 (5 : Int), D.int IntKind.i64 (0 : Int), D.sl [[D.int IntKind.i64 (Prod.fst (gI ids[a])), D.int IntKind.i64 (Prod.fst (Prod.snd (gI ids[a]))), D.sl (Prod.snd (Prod.snd (gI ids[a]))) none], [D.int IntKind.i64 (if ids[a] = ids[b] then (1 : Int) else (2 : Int)), D.int IntKind.i64 (0 : Int), D.sl [] none]] none]] none], [D.int IntKind.i64 (Prod.fst (gI ids[b])), D.int IntKind.i64 (Prod.fst (Prod.snd (gI ids[b]))), D.sl (Prod.snd (Prod.snd (gI ids[b]))) none]] none]]) (L2 ++ [[D.int IntKind.i64 (6 : Int), D.int IntKind.i64 (0 : Int), D.sl [[D.int IntKind.i64 (4 : Int), D.int IntKind.i64 (0 : Int), D.sl [[D.int IntKind.i64 (5 : Int), D.int IntKind.i64 (0 : Int), D.sl [[D.int IntKind.i64 (Prod.fst (gI ids[a])), D.int IntKind.i64 (Prod.fst (Prod.snd (gI ids[a]))), D.sl (Prod.snd (Prod.snd (gI ids[a]))) none], [D.int IntKind.i64 (if ids[a] = ids[b] then (1 : Int) else (2 : Int)), D.int IntKind.i64 (0 : Int), D.sl [] none]] none]] none], [D.int IntKind.i64 (Prod.fst (gI ids[b])), D.int IntKind.i64 (Prod.fst (Prod.snd (gI ids[b]))), D.sl (Prod.snd (Prod.snd (gI ids[b]))) none]] none]]) (by kernel_rfl) (by kernel_rfl) (by kernel_rfl) (by kernel_rfl) (by simp [eqLs, leafEq, beq_self_eq_true, hbt, ints, eInt, rows, eInts, bools, eBool, trips, eTrip, i8s, u16s, u8s, acts, room]; omega) rfl ?_
        refine runs_assign (D.sl (L2 ++ [[D.int IntKind.i64 (6 : Int), D.int IntKind.i64 (0 : Int), D.sl [[D.int IntKind.i64 (4 : Int), D.int IntKind.i64 (0 : Int), D.sl [[D.int IntKind.i64 (5 : Int), D.int IntKind.i64 (0 : Int), D.sl [[D.int IntKind.i64 (Prod.fst (gI ids[a])), D.int IntKind.i64 (Prod.fst (Prod.snd (gI ids[a]))), D.sl (Prod.snd (Prod.snd (gI ids[a]))) none], [D.int IntKind.i64 (if ids[a] = ids[b] then (1 : Int) else (2 : Int)), D.int IntKind.i64 (0 : Int), D.sl [] none]] none]] none], [D.int IntKind.i64 (Prod.fst (gI ids[b])), D.int IntKind.i64 (Prod.fst (Prod.snd (gI ids[b]))), D.sl (Prod.snd (Prod.snd (gI ids[b]))) none]] none]]) (some (47 : Nat))) (by kernel_rfl) (by kernel_rfl) ?_
        refine k_done (k_skip_block (k_skip_seq ?_))
        refine rve (D.int IntKind.i64 (IntKind.wrap IntKind.i64 ((↑b : Int) + (1 : Int)))) (.int IntKind.i64 ((b + 1 : Nat) : Int)) (congrArg (D.int IntKind.i64) (show IntKind.wrap IntKind.i64 ((↑b : Int) + (1 : Int)) = ((b + 1 : Nat) : Int) from wrap_eq (by omega) (by omega) (by omega))) ?_
        refine rv (D.int IntKind.i64 (↑(b + (1 : Nat)) : Int)) ?_
        refine k_done (k_skip_back ?_)
        refine ⟨(b + 1, L2 ++ [fC 6 0 [fC 4 0 [fC 5 0 [fT (gI ids[a]), abF ids[a] ids[b]]], fT (gI ids[b])]]), ⟨hltb, ?_⟩, by simp only []; omega, by kernel_rfl, rfl⟩
        simp only []
        rw [flat_take hltb, hL2, List.append_assoc, List.cons_append]
        unfold of2
        rw [if_pos hij, List.nil_append]
      · have hbf : (ids[a] == ids[b]) = false := by simpa using hij
        refine k_seq ?_
        refine rv (D.bool (decide ((↑b : Int) < (↑(List.length ids) : Int)))) ?_
        refine k_done (k_skip_seq (k_seq ?_))
        refine rkn 33 (decide ((↑b : Int) < (↑(List.length ids) : Int))) true (decide_eq_true (by omega)) ?_
        refine kct (k_skip_seq (k_seq (k_block (k_seq ?_))))
        refine runs_indexM (kd := IntKind.i64) (om) ((0 : Nat)) (List.length ids) (b) (by kernel_rfl) (by kernel_rfl) (by kernel_rfl) (by assumption) ?_
        refine runs_loadPA (om) ((0 : Nat) + b * (2 : Nat)) _ _ _ (by kernel_rfl) (by kernel_rfl) (hm) (by assumption) (by kernel_rfl) rfl ?_
        refine rgf (D.lptr (11 : Nat) (0 : Nat)) (σ) ?_
        refine rgf (D.junk) (σ) ?_
        refine k_done (k_skip_seq (k_seq (k_seq ?_)))
        refine rv (D.agg [D.str t, D.str ids[a]]) ?_
        refine rv (D.agg [D.str t, D.str ids[b]]) ?_
        refine rv (D.bool (eqLs [D.str t, D.str ids[a]] [D.str t, D.str ids[b]] != true)) ?_
        refine k_done (k_skip_seq ?_)
        refine rkn 38 (eqLs [D.str t, D.str ids[a]] [D.str t, D.str ids[b]] != true) true (by simp [eqLs, leafEq, beq_self_eq_true, hbf, ints, eInt, rows, eInts, bools, eBool, trips, eTrip, i8s, u16s, u8s, acts]) ?_
        refine kct (k_alt ?_)
        refine runs_steal (D.sl L2 (some (47 : Nat))) (by kernel_rfl) (by kernel_rfl) ?_
        refine rv (D.ptr ob (0 : Nat)) ?_
        refine runs_loadL (by kernel_rfl) ?_
        refine rv (D.agg [D.int IntKind.i64 xi, D.str xt]) ?_
        refine runs_loadL (by kernel_rfl) ?_
        refine rv (D.agg [D.str t, D.str ids[a]]) ?_
        refine runs_callT (by kernel_rfl) ?_
        refine runs_call_st ([D.ptr ob (0 : Nat), D.agg [D.int IntKind.i64 xi, D.str xt], D.agg [D.str t, D.str ids[a]]]) (by kernel_rfl) (by kernel_rfl) (by kernel_rfl) (by kernel_rfl) (hi) ?_
        refine rv (D.ptr ob (0 : Nat)) ?_
        refine runs_loadL (by kernel_rfl) ?_
        refine rv (D.agg [D.int IntKind.i64 xi, D.str xt]) ?_
        refine runs_loadL (by kernel_rfl) ?_
        refine rv (D.agg [D.str t, D.str ids[b]]) ?_
        refine runs_callT (by kernel_rfl) ?_
        refine runs_call_st ([D.ptr ob (0 : Nat), D.agg [D.int IntKind.i64 xi, D.str xt], D.agg [D.str t, D.str ids[b]]]) (by kernel_rfl) (by kernel_rfl) (by kernel_rfl) (by kernel_rfl) (hj) ?_
        refine rv (D.sl [[D.int IntKind.i64 (Prod.fst (fI ids[a])), D.int IntKind.i64 (Prod.fst (Prod.snd (fI ids[a]))), D.sl (Prod.snd (Prod.snd (fI ids[a]))) none], [D.int IntKind.i64 (Prod.fst (fI ids[b])), D.int IntKind.i64 (Prod.fst (Prod.snd (fI ids[b]))), D.sl (Prod.snd (Prod.snd (fI ids[b]))) none]] (some (47 : Nat))) ?_
        refine runs_callT (by kernel_rfl) ?_
        refine runs_call ([D.sl [[D.int IntKind.i64 (Prod.fst (fI ids[a])), D.int IntKind.i64 (Prod.fst (Prod.snd (fI ids[a]))), D.sl (Prod.snd (Prod.snd (fI ids[a]))) none], [D.int IntKind.i64 (Prod.fst (fI ids[b])), D.int IntKind.i64 (Prod.fst (Prod.snd (fI ids[b]))), D.sl (Prod.snd (Prod.snd (fI ids[b]))) none]] none]) (by kernel_rfl) (by kernel_rfl) (by kernel_rfl) (by kernel_rfl) (cand1) (by kernel_rfl) ?_
        refine runs_callT (by kernel_rfl) ?_
        refine runs_call ([D.agg [D.int IntKind.i64 (5 : Int), D.int IntKind.i64 (0 : Int), D.sl [[D.int IntKind.i64 (Prod.fst (fI ids[a])), D.int IntKind.i64 (Prod.fst (Prod.snd (fI ids[a]))), D.sl (Prod.snd (Prod.snd (fI ids[a]))) none], [D.int IntKind.i64 (Prod.fst (fI ids[b])), D.int IntKind.i64 (Prod.fst (Prod.snd (fI ids[b]))), D.sl (Prod.snd (Prod.snd (fI ids[b]))) none]] none]]) (by kernel_rfl) (by kernel_rfl) (by kernel_rfl) (by kernel_rfl) (cnot1) (by kernel_rfl) ?_
        refine rv (D.ptr ob (0 : Nat)) ?_
        refine runs_loadL (by kernel_rfl) ?_
        refine rv (D.agg [D.int IntKind.i64 xi, D.str xt]) ?_
        refine runs_loadL (by kernel_rfl) ?_
        refine rv (D.agg [D.str t, D.str ids[a]]) ?_
        refine runs_callT (by kernel_rfl) ?_
        refine runs_call_st ([D.ptr ob (0 : Nat), D.agg [D.int IntKind.i64 xi, D.str xt], D.agg [D.str t, D.str ids[a]]]) (by kernel_rfl) (by kernel_rfl) (by kernel_rfl) (by kernel_rfl) (hi) ?_
        refine rv (D.ptr ob (0 : Nat)) ?_
        refine runs_loadL (by kernel_rfl) ?_
        refine rv (D.agg [D.int IntKind.i64 xi, D.str xt]) ?_
        refine runs_loadL (by kernel_rfl) ?_
        refine rv (D.agg [D.str t, D.str ids[b]]) ?_
        refine runs_callT (by kernel_rfl) ?_
        refine runs_call_st ([D.ptr ob (0 : Nat), D.agg [D.int IntKind.i64 xi, D.str xt], D.agg [D.str t, D.str ids[b]]]) (by kernel_rfl) (by kernel_rfl) (by kernel_rfl) (by kernel_rfl) (gj) ?_
        refine rv (D.sl [[D.int IntKind.i64 (Prod.fst (fI ids[a])), D.int IntKind.i64 (Prod.fst (Prod.snd (fI ids[a]))), D.sl (Prod.snd (Prod.snd (fI ids[a]))) none], [D.int IntKind.i64 (Prod.fst (gI ids[b])), D.int IntKind.i64 (Prod.fst (Prod.snd (gI ids[b]))), D.sl (Prod.snd (Prod.snd (gI ids[b]))) none]] (some (47 : Nat))) ?_
        refine runs_callT (by kernel_rfl) ?_
        refine runs_call ([D.sl [[D.int IntKind.i64 (Prod.fst (fI ids[a])), D.int IntKind.i64 (Prod.fst (Prod.snd (fI ids[a]))), D.sl (Prod.snd (Prod.snd (fI ids[a]))) none], [D.int IntKind.i64 (Prod.fst (gI ids[b])), D.int IntKind.i64 (Prod.fst (Prod.snd (gI ids[b]))), D.sl (Prod.snd (Prod.snd (gI ids[b]))) none]] none]) (by kernel_rfl) (by kernel_rfl) (by kernel_rfl) (by kernel_rfl) (cand2) (by kernel_rfl) ?_
        refine rv (D.ptr ob (0 : Nat)) ?_
        refine runs_loadL (by kernel_rfl) ?_
        refine rv (D.agg [D.str t, D.str ids[a]]) ?_
        refine runs_loadL (by kernel_rfl) ?_
        refine rv (D.agg [D.str t, D.str ids[b]]) ?_
        refine runs_callT (by kernel_rfl) ?_
        refine runs_call_st ([D.ptr ob (0 : Nat), D.agg [D.str t, D.str ids[a]], D.agg [D.str t, D.str ids[b]]]) (by kernel_rfl) (by kernel_rfl) (by kernel_rfl) (by kernel_rfl) (ab) ?_
        refine runs_callT (by kernel_rfl) ?_
        refine runs_call ([D.agg [D.int IntKind.i64 (5 : Int), D.int IntKind.i64 (0 : Int), D.sl [[D.int IntKind.i64 (Prod.fst (fI ids[a])), D.int IntKind.i64 (Prod.fst (Prod.snd (fI ids[a]))), D.sl (Prod.snd (Prod.snd (fI ids[a]))) none], [D.int IntKind.i64 (Prod.fst (gI ids[b])), D.int IntKind.i64 (Prod.fst (Prod.snd (gI ids[b]))), D.sl (Prod.snd (Prod.snd (gI ids[b]))) none]] none], D.agg [D.int IntKind.i64 (if ids[a] = ids[b] then (1 : Int) else (2 : Int)), D.int IntKind.i64 (0 : Int), D.sl [] none]]) (by kernel_rfl) (by kernel_rfl) (by kernel_rfl) (by kernel_rfl) (cthen2) (by kernel_rfl) ?_
        refine rv (D.sl [[D.int IntKind.i64 (4 : Int), D.int IntKind.i64 (0 : Int), D.sl [[D.int IntKind.i64 (5 : Int), D.int IntKind.i64 (0 : Int), D.sl [[D.int IntKind.i64 (Prod.fst (fI ids[a])), D.int IntKind.i64 (Prod.fst (Prod.snd (fI ids[a]))), D.sl (Prod.snd (Prod.snd (fI ids[a]))) none], [D.int IntKind.i64 (Prod.fst (fI ids[b])), D.int IntKind.i64 (Prod.fst (Prod.snd (fI ids[b]))), D.sl (Prod.snd (Prod.snd (fI ids[b]))) none]] none]] none], [D.int IntKind.i64 (6 : Int), D.int IntKind.i64 (0 : Int), D.sl [[D.int IntKind.i64 (4 : Int), D.int IntKind.i64 (0 : Int), D.sl [[D.int IntKind.i64 (5 : Int), D.int IntKind.i64 (0 : Int), D.sl [[D.int IntKind.i64 (Prod.fst (fI ids[a])), D.int IntKind.i64 (Prod.fst (Prod.snd (fI ids[a]))), D.sl (Prod.snd (Prod.snd (fI ids[a]))) none], [D.int IntKind.i64 (Prod.fst (gI ids[b])), D.int IntKind.i64 (Prod.fst (Prod.snd (gI ids[b]))), D.sl (Prod.snd (Prod.snd (gI ids[b]))) none]] none]] none], [D.int IntKind.i64 (if ids[a] = ids[b] then (1 : Int) else (2 : Int)), D.int IntKind.i64 (0 : Int), D.sl [] none]] none]] (some (47 : Nat))) ?_
        refine runs_append (L2) ([[D.int IntKind.i64 (4 : Int), D.int IntKind.i64 (0 : Int), D.sl [[D.int IntKind.i64 (5 : Int), D.int IntKind.i64 (0 : Int), D.sl [[D.int IntKind.i64 (Prod.fst (fI ids[a])), D.int IntKind.i64 (Prod.fst (Prod.snd (fI ids[a]))), D.sl (Prod.snd (Prod.snd (fI ids[a]))) none], [D.int IntKind.i64 (Prod.fst (fI ids[b])), D.int IntKind.i64 (Prod.fst (Prod.snd (fI ids[b]))), D.sl (Prod.snd (Prod.snd (fI ids[b]))) none]] none]] none], [D.int IntKind.i64 (6 : Int), D.int IntKind.i64 (0 : Int), D.sl [[D.int IntKind.i64 (4 : Int), D.int IntKind.i64 (0 : Int), D.sl [[D.int IntKind.i64 (5 : Int), D.int IntKind.i64 (0 : Int), D.sl [[D.int IntKind.i64 (Prod.fst (fI ids[a])), D.int IntKind.i64 (Prod.fst (Prod.snd (fI ids[a]))), D.sl (Prod.snd (Prod.snd (fI ids[a]))) none], [D.int IntKind.i64 (Prod.fst (gI ids[b])), D.int IntKind.i64 (Prod.fst (Prod.snd (gI ids[b]))), D.sl (Prod.snd (Prod.snd (gI ids[b]))) none]] none]] none], [D.int IntKind.i64 (if ids[a] = ids[b] then (1 : Int) else (2 : Int)), D.int IntKind.i64 (0 : Int), D.sl [] none]] none]]) (L2 ++ [[D.int IntKind.i64 (4 : Int), D.int IntKind.i64 (0 : Int), D.sl [[D.int IntKind.i64 (5 : Int), D.int IntKind.i64 (0 : Int), D.sl [[D.int IntKind.i64 (Prod.fst (fI ids[a])), D.int IntKind.i64 (Prod.fst (Prod.snd (fI ids[a]))), D.sl (Prod.snd (Prod.snd (fI ids[a]))) none], [D.int IntKind.i64 (Prod.fst (fI ids[b])), D.int IntKind.i64 (Prod.fst (Prod.snd (fI ids[b]))), D.sl (Prod.snd (Prod.snd (fI ids[b]))) none]] none]] none], [D.int IntKind.i64 (6 : Int), D.int IntKind.i64 (0 : Int), D.sl [[D.int IntKind.i64 (4 : Int), D.int IntKind.i64 (0 : Int), D.sl [[D.int IntKind.i64 (5 : Int), D.int IntKind.i64 (0 : Int), D.sl [[D.int IntKind.i64 (Prod.fst (fI ids[a])), D.int IntKind.i64 (Prod.fst (Prod.snd (fI ids[a]))), D.sl (Prod.snd (Prod.snd (fI ids[a]))) none], [D.int IntKind.i64 (Prod.fst (gI ids[b])), D.int IntKind.i64 (Prod.fst (Prod.snd (gI ids[b]))), D.sl (Prod.snd (Prod.snd (gI ids[b]))) none]] none]] none], [D.int IntKind.i64 (if ids[a] = ids[b] then (1 : Int) else (2 : Int)), D.int IntKind.i64 (0 : Int), D.sl [] none]] none]]) (by kernel_rfl) (by kernel_rfl) (by kernel_rfl) (by kernel_rfl) (by simp [eqLs, leafEq, beq_self_eq_true, hbf, ints, eInt, rows, eInts, bools, eBool, trips, eTrip, i8s, u16s, u8s, acts, room]; omega) rfl ?_
        refine runs_assign (D.sl (L2 ++ [[D.int IntKind.i64 (4 : Int), D.int IntKind.i64 (0 : Int), D.sl [[D.int IntKind.i64 (5 : Int), D.int IntKind.i64 (0 : Int), D.sl [[D.int IntKind.i64 (Prod.fst (fI ids[a])), D.int IntKind.i64 (Prod.fst (Prod.snd (fI ids[a]))), D.sl (Prod.snd (Prod.snd (fI ids[a]))) none], [D.int IntKind.i64 (Prod.fst (fI ids[b])), D.int IntKind.i64 (Prod.fst (Prod.snd (fI ids[b]))), D.sl (Prod.snd (Prod.snd (fI ids[b]))) none]] none]] none], [D.int IntKind.i64 (6 : Int), D.int IntKind.i64 (0 : Int), D.sl [[D.int IntKind.i64 (4 : Int), D.int IntKind.i64 (0 : Int), D.sl [[D.int IntKind.i64 (5 : Int), D.int IntKind.i64 (0 : Int), D.sl [[D.int IntKind.i64 (Prod.fst (fI ids[a])), D.int IntKind.i64 (Prod.fst (Prod.snd (fI ids[a]))), D.sl (Prod.snd (Prod.snd (fI ids[a]))) none], [D.int IntKind.i64 (Prod.fst (gI ids[b])), D.int IntKind.i64 (Prod.fst (Prod.snd (gI ids[b]))), D.sl (Prod.snd (Prod.snd (gI ids[b]))) none]] none]] none], [D.int IntKind.i64 (if ids[a] = ids[b] then (1 : Int) else (2 : Int)), D.int IntKind.i64 (0 : Int), D.sl [] none]] none]]) (some (47 : Nat))) (by kernel_rfl) (by kernel_rfl) ?_
        refine k_done (k_skip_seq (k_alt ?_))
        refine runs_steal (D.sl (L2 ++ [[D.int IntKind.i64 (4 : Int), D.int IntKind.i64 (0 : Int), D.sl [[D.int IntKind.i64 (5 : Int), D.int IntKind.i64 (0 : Int), D.sl [[D.int IntKind.i64 (Prod.fst (fI ids[a])), D.int IntKind.i64 (Prod.fst (Prod.snd (fI ids[a]))), D.sl (Prod.snd (Prod.snd (fI ids[a]))) none], [D.int IntKind.i64 (Prod.fst (fI ids[b])), D.int IntKind.i64 (Prod.fst (Prod.snd (fI ids[b]))), D.sl (Prod.snd (Prod.snd (fI ids[b]))) none]] none]] none], [D.int IntKind.i64 (6 : Int), D.int IntKind.i64 (0 : Int), D.sl [[D.int IntKind.i64 (4 : Int), D.int IntKind.i64 (0 : Int), D.sl [[D.int IntKind.i64 (5 : Int), D.int IntKind.i64 (0 : Int), D.sl [[D.int IntKind.i64 (Prod.fst (fI ids[a])), D.int IntKind.i64 (Prod.fst (Prod.snd (fI ids[a]))), D.sl (Prod.snd (Prod.snd (fI ids[a]))) none], [D.int IntKind.i64 (Prod.fst (gI ids[b])), D.int IntKind.i64 (Prod.fst (Prod.snd (gI ids[b]))), D.sl (Prod.snd (Prod.snd (gI ids[b]))) none]] none]] none], [D.int IntKind.i64 (if ids[a] = ids[b] then (1 : Int) else (2 : Int)), D.int IntKind.i64 (0 : Int), D.sl [] none]] none]]) (some (47 : Nat))) (by kernel_rfl) (by kernel_rfl) ?_
        refine rv (D.ptr ob (0 : Nat)) ?_
        refine runs_loadL (by kernel_rfl) ?_
        refine rv (D.agg [D.int IntKind.i64 xi, D.str xt]) ?_
        refine runs_loadL (by kernel_rfl) ?_
        refine rv (D.agg [D.str t, D.str ids[a]]) ?_
        refine runs_callT (by kernel_rfl) ?_
        refine runs_call_st ([D.ptr ob (0 : Nat), D.agg [D.int IntKind.i64 xi, D.str xt], D.agg [D.str t, D.str ids[a]]]) (by kernel_rfl) (by kernel_rfl) (by kernel_rfl) (by kernel_rfl) (gi) ?_
        refine rv (D.ptr ob (0 : Nat)) ?_
        refine runs_loadL (by kernel_rfl) ?_
        refine rv (D.agg [D.str t, D.str ids[a]]) ?_
        refine runs_loadL (by kernel_rfl) ?_
        refine rv (D.agg [D.str t, D.str ids[b]]) ?_
        refine runs_callT (by kernel_rfl) ?_
        refine runs_call_st ([D.ptr ob (0 : Nat), D.agg [D.str t, D.str ids[a]], D.agg [D.str t, D.str ids[b]]]) (by kernel_rfl) (by kernel_rfl) (by kernel_rfl) (by kernel_rfl) (ab) ?_
        refine rv (D.sl [[D.int IntKind.i64 (Prod.fst (gI ids[a])), D.int IntKind.i64 (Prod.fst (Prod.snd (gI ids[a]))), D.sl (Prod.snd (Prod.snd (gI ids[a]))) none], [D.int IntKind.i64 (if ids[a] = ids[b] then (1 : Int) else (2 : Int)), D.int IntKind.i64 (0 : Int), D.sl [] none]] (some (47 : Nat))) ?_
        refine runs_callT (by kernel_rfl) ?_
        refine runs_call ([D.sl [[D.int IntKind.i64 (Prod.fst (gI ids[a])), D.int IntKind.i64 (Prod.fst (Prod.snd (gI ids[a]))), D.sl (Prod.snd (Prod.snd (gI ids[a]))) none], [D.int IntKind.i64 (if ids[a] = ids[b] then (1 : Int) else (2 : Int)), D.int IntKind.i64 (0 : Int), D.sl [] none]] none]) (by kernel_rfl) (by kernel_rfl) (by kernel_rfl) (by kernel_rfl) (cand3) (by kernel_rfl) ?_
        refine rv (D.ptr ob (0 : Nat)) ?_
        refine runs_loadL (by kernel_rfl) ?_
        refine rv (D.agg [D.int IntKind.i64 xi, D.str xt]) ?_
        refine runs_loadL (by kernel_rfl) ?_
        refine rv (D.agg [D.str t, D.str ids[b]]) ?_
        refine runs_callT (by kernel_rfl) ?_
        refine runs_call_st ([D.ptr ob (0 : Nat), D.agg [D.int IntKind.i64 xi, D.str xt], D.agg [D.str t, D.str ids[b]]]) (by kernel_rfl) (by kernel_rfl) (by kernel_rfl) (by kernel_rfl) (gj) ?_
        refine runs_callT (by kernel_rfl) ?_
        refine runs_call ([D.agg [D.int IntKind.i64 (5 : Int), D.int IntKind.i64 (0 : Int), D.sl [[D.int IntKind.i64 (Prod.fst (gI ids[a])), D.int IntKind.i64 (Prod.fst (Prod.snd (gI ids[a]))), D.sl (Prod.snd (Prod.snd (gI ids[a]))) none], [D.int IntKind.i64 (if ids[a] = ids[b] then (1 : Int) else (2 : Int)), D.int IntKind.i64 (0 : Int), D.sl [] none]] none], D.agg [D.int IntKind.i64 (Prod.fst (gI ids[b])), D.int IntKind.i64 (Prod.fst (Prod.snd (gI ids[b]))), D.sl (Prod.snd (Prod.snd (gI ids[b]))) none]]) (by kernel_rfl) (by kernel_rfl) (by kernel_rfl) (by kernel_rfl) (cthen3) (by kernel_rfl) ?_
        refine rv (D.sl [[D.int IntKind.i64 (6 : Int), D.int IntKind.i64 (0 : Int), D.sl [[D.int IntKind.i64 (4 : Int), D.int IntKind.i64 (0 : Int), D.sl [[D.int IntKind.i64 (5 : Int), D.int IntKind.i64 (0 : Int), D.sl [[D.int IntKind.i64 (Prod.fst (gI ids[a])), D.int IntKind.i64 (Prod.fst (Prod.snd (gI ids[a]))), D.sl (Prod.snd (Prod.snd (gI ids[a]))) none], [D.int IntKind.i64 (if ids[a] = ids[b] then (1 : Int) else (2 : Int)), D.int IntKind.i64 (0 : Int), D.sl [] none]] none]] none], [D.int IntKind.i64 (Prod.fst (gI ids[b])), D.int IntKind.i64 (Prod.fst (Prod.snd (gI ids[b]))), D.sl (Prod.snd (Prod.snd (gI ids[b]))) none]] none]] (some (47 : Nat))) ?_
        refine runs_append (L2 ++ [[D.int IntKind.i64 (4 : Int), D.int IntKind.i64 (0 : Int), D.sl [[D.int IntKind.i64 (5 : Int), D.int IntKind.i64 (0 : Int), D.sl [[D.int IntKind.i64 (Prod.fst (fI ids[a])), D.int IntKind.i64 (Prod.fst (Prod.snd (fI ids[a]))), D.sl (Prod.snd (Prod.snd (fI ids[a]))) none], [D.int IntKind.i64 (Prod.fst (fI ids[b])), D.int IntKind.i64 (Prod.fst (Prod.snd (fI ids[b]))), D.sl (Prod.snd (Prod.snd (fI ids[b]))) none]] none]] none], [D.int IntKind.i64 (6 : Int), D.int IntKind.i64 (0 : Int), D.sl [[D.int IntKind.i64 (4 : Int), D.int IntKind.i64 (0 : Int), D.sl [[D.int IntKind.i64 (5 : Int), D.int IntKind.i64 (0 : Int), D.sl [[D.int IntKind.i64 (Prod.fst (fI ids[a])), D.int IntKind.i64 (Prod.fst (Prod.snd (fI ids[a]))), D.sl (Prod.snd (Prod.snd (fI ids[a]))) none], [D.int IntKind.i64 (Prod.fst (gI ids[b])), D.int IntKind.i64 (Prod.fst (Prod.snd (gI ids[b]))), D.sl (Prod.snd (Prod.snd (gI ids[b]))) none]] none]] none], [D.int IntKind.i64 (if ids[a] = ids[b] then (1 : Int) else (2 : Int)), D.int IntKind.i64 (0 : Int), D.sl [] none]] none]]) ([[D.int IntKind.i64 (6 : Int), D.int IntKind.i64 (0 : Int), D.sl [[D.int IntKind.i64 (4 : Int), D.int IntKind.i64 (0 : Int), D.sl [[D.int IntKind.i64 (5 : Int), D.int IntKind.i64 (0 : Int), D.sl [[D.int IntKind.i64 (Prod.fst (gI ids[a])), D.int IntKind.i64 (Prod.fst (Prod.snd (gI ids[a]))), D.sl (Prod.snd (Prod.snd (gI ids[a]))) none], [D.int IntKind.i64 (if ids[a] = ids[b] then (1 : Int) else (2 : Int)), D.int IntKind.i64 (0 : Int), D.sl [] none]] none]] none], [D.int IntKind.i64 (Prod.fst (gI ids[b])), D.int IntKind.i64 (Prod.fst (Prod.snd (gI ids[b]))), D.sl (Prod.snd (Prod.snd (gI ids[b]))) none]] none]]) (L2 ++ [[D.int IntKind.i64 (4 : Int), D.int IntKind.i64 (0 : Int), D.sl [[D.int IntKind.i64 (5 : Int), D.int IntKind.i64 (0 : Int), D.sl [[D.int IntKind.i64 (Prod.fst (fI ids[a])), D.int IntKind.i64 (Prod.fst (Prod.snd (fI ids[a]))), D.sl (Prod.snd (Prod.snd (fI ids[a]))) none], [D.int IntKind.i64 (Prod.fst (fI ids[b])), D.int IntKind.i64 (Prod.fst (Prod.snd (fI ids[b]))), D.sl (Prod.snd (Prod.snd (fI ids[b]))) none]] none]] none], [D.int IntKind.i64 (6 : Int), D.int IntKind.i64 (0 : Int), D.sl [[D.int IntKind.i64 (4 : Int), D.int IntKind.i64 (0 : Int), D.sl [[D.int IntKind.i64 (5 : Int), D.int IntKind.i64 (0 : Int), D.sl [[D.int IntKind.i64 (Prod.fst (fI ids[a])), D.int IntKind.i64 (Prod.fst (Prod.snd (fI ids[a]))), D.sl (Prod.snd (Prod.snd (fI ids[a]))) none], [D.int IntKind.i64 (Prod.fst (gI ids[b])), D.int IntKind.i64 (Prod.fst (Prod.snd (gI ids[b]))), D.sl (Prod.snd (Prod.snd (gI ids[b]))) none]] none]] none], [D.int IntKind.i64 (if ids[a] = ids[b] then (1 : Int) else (2 : Int)), D.int IntKind.i64 (0 : Int), D.sl [] none]] none]] ++ [[D.int IntKind.i64 (6 : Int), D.int IntKind.i64 (0 : Int), D.sl [[D.int IntKind.i64 (4 : Int), D.int IntKind.i64 (0 : Int), D.sl [[D.int IntKind.i64 (5 : Int), D.int IntKind.i64 (0 : Int), D.sl [[D.int IntKind.i64 (Prod.fst (gI ids[a])), D.int IntKind.i64 (Prod.fst (Prod.snd (gI ids[a]))), D.sl (Prod.snd (Prod.snd (gI ids[a]))) none], [D.int IntKind.i64 (if ids[a] = ids[b] then (1 : Int) else (2 : Int)), D.int IntKind.i64 (0 : Int), D.sl [] none]] none]] none], [D.int IntKind.i64 (Prod.fst (gI ids[b])), D.int IntKind.i64 (Prod.fst (Prod.snd (gI ids[b]))), D.sl (Prod.snd (Prod.snd (gI ids[b]))) none]] none]]) (by kernel_rfl) (by kernel_rfl) (by kernel_rfl) (by kernel_rfl) (by simp [eqLs, leafEq, beq_self_eq_true, hbf, ints, eInt, rows, eInts, bools, eBool, trips, eTrip, i8s, u16s, u8s, acts, room]; omega) rfl ?_
        refine runs_assign (D.sl (L2 ++ [[D.int IntKind.i64 (4 : Int), D.int IntKind.i64 (0 : Int), D.sl [[D.int IntKind.i64 (5 : Int), D.int IntKind.i64 (0 : Int), D.sl [[D.int IntKind.i64 (Prod.fst (fI ids[a])), D.int IntKind.i64 (Prod.fst (Prod.snd (fI ids[a]))), D.sl (Prod.snd (Prod.snd (fI ids[a]))) none], [D.int IntKind.i64 (Prod.fst (fI ids[b])), D.int IntKind.i64 (Prod.fst (Prod.snd (fI ids[b]))), D.sl (Prod.snd (Prod.snd (fI ids[b]))) none]] none]] none], [D.int IntKind.i64 (6 : Int), D.int IntKind.i64 (0 : Int), D.sl [[D.int IntKind.i64 (4 : Int), D.int IntKind.i64 (0 : Int), D.sl [[D.int IntKind.i64 (5 : Int), D.int IntKind.i64 (0 : Int), D.sl [[D.int IntKind.i64 (Prod.fst (fI ids[a])), D.int IntKind.i64 (Prod.fst (Prod.snd (fI ids[a]))), D.sl (Prod.snd (Prod.snd (fI ids[a]))) none], [D.int IntKind.i64 (Prod.fst (gI ids[b])), D.int IntKind.i64 (Prod.fst (Prod.snd (gI ids[b]))), D.sl (Prod.snd (Prod.snd (gI ids[b]))) none]] none]] none], [D.int IntKind.i64 (if ids[a] = ids[b] then (1 : Int) else (2 : Int)), D.int IntKind.i64 (0 : Int), D.sl [] none]] none]] ++ [[D.int IntKind.i64 (6 : Int), D.int IntKind.i64 (0 : Int), D.sl [[D.int IntKind.i64 (4 : Int), D.int IntKind.i64 (0 : Int), D.sl [[D.int IntKind.i64 (5 : Int), D.int IntKind.i64 (0 : Int), D.sl [[D.int IntKind.i64 (Prod.fst (gI ids[a])), D.int IntKind.i64 (Prod.fst (Prod.snd (gI ids[a]))), D.sl (Prod.snd (Prod.snd (gI ids[a]))) none], [D.int IntKind.i64 (if ids[a] = ids[b] then (1 : Int) else (2 : Int)), D.int IntKind.i64 (0 : Int), D.sl [] none]] none]] none], [D.int IntKind.i64 (Prod.fst (gI ids[b])), D.int IntKind.i64 (Prod.fst (Prod.snd (gI ids[b]))), D.sl (Prod.snd (Prod.snd (gI ids[b]))) none]] none]]) (some (47 : Nat))) (by kernel_rfl) (by kernel_rfl) ?_
        refine k_done (k_skip_block (k_skip_seq ?_))
        refine rve (D.int IntKind.i64 (IntKind.wrap IntKind.i64 ((↑b : Int) + (1 : Int)))) (.int IntKind.i64 ((b + 1 : Nat) : Int)) (congrArg (D.int IntKind.i64) (show IntKind.wrap IntKind.i64 ((↑b : Int) + (1 : Int)) = ((b + 1 : Nat) : Int) from wrap_eq (by omega) (by omega) (by omega))) ?_
        refine rv (D.int IntKind.i64 (↑(b + (1 : Nat)) : Int)) ?_
        refine k_done (k_skip_back ?_)
        refine ⟨(b + 1, (L2 ++ [fC 4 0 [fC 5 0 [fT (fI ids[a]), fT (fI ids[b])]], fC 6 0 [fC 4 0 [fC 5 0 [fT (fI ids[a]), fT (gI ids[b])]], abF ids[a] ids[b]]]) ++ [fC 6 0 [fC 4 0 [fC 5 0 [fT (gI ids[a]), abF ids[a] ids[b]]], fT (gI ids[b])]]), ⟨hltb, ?_⟩, by simp only []; omega, by kernel_rfl, rfl⟩
        simp only []
        rw [flat_take hltb, hL2, List.append_assoc, List.append_assoc, List.cons_append]
        unfold of2
        rw [if_neg hij]
    · refine k_seq ?_
      refine rv (D.bool (decide ((↑b : Int) < (↑(List.length ids) : Int)))) ?_
      refine k_done (k_skip_seq (k_seq ?_))
      refine rkn 33 (decide ((↑b : Int) < (↑(List.length ids) : Int))) false (decide_eq_false (by omega)) ?_
      refine kcf (k_exit_seq (k_exit_back (k_exit_hit rfl (k_skip_block (k_skip_seq ?_)))))
      refine rve (D.int IntKind.i64 (IntKind.wrap IntKind.i64 ((↑a : Int) + (1 : Int)))) (.int IntKind.i64 ((a + 1 : Nat) : Int)) (congrArg (D.int IntKind.i64) (show IntKind.wrap IntKind.i64 ((↑a : Int) + (1 : Int)) = ((a + 1 : Nat) : Int) from wrap_eq (by omega) (by omega) (by omega))) ?_
      refine rv (D.int IntKind.i64 (↑(a + (1 : Nat)) : Int)) ?_
      refine k_done (k_skip_back ?_)
      rw [List.take_of_length_le (by omega)] at hL2
      refine ⟨(a + 1, L2), ⟨hlt, ?_⟩, by simp only []; omega, by kernel_rfl, rfl⟩
      simp only []
      rw [flat_take hlt, hL2, ← hL1]
      rfl
  · unfold l22_7
    refine k_seq ?_
    refine rv (D.bool (decide ((↑a : Int) < (↑(List.length ids) : Int)))) ?_
    refine k_done (k_skip_seq (k_seq ?_))
    refine rkn 15 (decide ((↑a : Int) < (↑(List.length ids) : Int))) false (decide_eq_false (by omega)) ?_
    refine kcf (k_exit_seq (k_exit_back (k_exit_hit rfl (k_skip_seq (k_seq ?_)))))
    refine rv (D.sl L1 none) ?_
    refine ra0 (D.sl L1 none) ?_
    refine k_done (k_skip_seq (k_ret ?_))
    rw [List.take_of_length_le (by omega)] at hL1
    subst hL1
    exact ⟨.inr rfl, by kernel_rfl, by kernel_rfl⟩
end Go.Abs.T

/-
  slices.Clone asks whether its argument is nil; what it answers hangs on that no further: a machine code that does not ask.
-/
namespace Go.Abs
open Go Go.RowKit


/-! The parts of the code of slices.Clone. -/
def cA : Option Code → Code
  | some (.seq a _) => a
  | _ => .skip
def cD : Option Code → Code
  | some (.seq _ (.seq _ d)) => d
  | _ => .skip
def cB : Option Code → Nat × Array Oper
  | some (.seq _ (.seq (.seq (.region i ops _) _) _)) => (i, ops)
  | _ => (0, #[])
def cC : Option Code → Nat × Array Oper
  | some (.seq _ (.seq (.seq _ (.cond _ (.seq (.region i ops _) _) _)) _)) => (i, ops)
  | _ => (0, #[])
def opAt (ops : Array Oper) (i : Nat) : Oper := (ops.toList[i]?).getD { dst := none, op := .move (.tmp 0), type := 0, pos := "", after := #[], guard := none }
section
variable {P : Program} {g g' : Gh} {w w' : World} {fr fr' : Fr} {σ σ' : St} {a : Act} {d : D} {cal : Cal} {T : Table}

def clone1 (e : Nat) (x : D) : Fr := ⟨[x.strip, .junk, .sl [] (some e), .junk, .junk, .junk, .junk, .junk], List.replicate 8 none, []⟩
def clone2 (e : Nat) (x : D) : Fr := ⟨[x.strip, .junk, .sl [] (some e), .junk, .junk, .sl [] (some e), x.strip, .junk], List.replicate 8 none, []⟩
def clone3 (e : Nat) (x : D) (ys : List (List D)) : Fr := ⟨[x.strip, .junk, .sl ys (some e), .junk, .junk, .sl [] none, x.strip, .sl ys none], List.replicate 8 none, []⟩

theorem clone_app {e esz bytes : Nat} {x : D} {r : Option (Fr × St)} (h : runOp cal false ⟨some 7, .append e esz bytes false (.tmp 5) (.tmp 6), none⟩ (clone2 e x) σ = r) : r = none ∨
    ∃ ys, elems σ x.strip = some ys ∧ r = some (⟨[x.strip, .junk, .sl [] (some e), .junk, .junk, .sl [] none, x.strip, .sl ys (some e)], List.replicate 8 none, []⟩, σ) := by
  subst h
  have h6 : (clone2 e x).val (.tmp 6) = x.strip := strip_strip x
  simp only [runOp, wantedD, evalOp, h6]
  cases elems σ x.strip with
  | none => exact .inl rfl
  | some ys =>
    simp only []
    by_cases h1 : (ys.all fun y => y.length == esz) = true
    · rw [if_pos h1]
      by_cases h2 : True ∧ (([] : List (List D)).length + ys.length) * bytes ≤ room ∧ ([] : List (List D)).length + ys.length < 4611686018427387904
      · right
        refine ⟨ys, rfl, ?_⟩
        have ht : (clone2 e x).take (.tmp 5) = (.sl [] (some e), (clone2 e x).set 5 (.sl [] none)) := rfl
        simp only [ht, Bool.false_eq_true, if_false]
        rw [if_pos h2]
        rfl
      · left
        have ht : (clone2 e x).take (.tmp 5) = (.sl [] (some e), (clone2 e x).set 5 (.sl [] none)) := rfl
        simp only [ht, Bool.false_eq_true, if_false]
        rw [if_neg h2]
    · rw [if_neg h1]
      exact .inl rfl

theorem clone_run {e esz bytes : Nat} {z : List D} {fuel : Nat} {ds : List D} (h : runBody cal fuel (mclone e esz bytes z) ds σ = some (fr', σ')) :
    ∃ x ys, ds = [x] ∧ elems σ x.strip = some ys ∧ σ' = σ ∧ fr' = clone3 e x ys ∧
      runC cal fuel (cloneA e) (enterFr (mclone e esz bytes z) ds) σ = some (.normal, clone1 e x, σ) ∧ runC cal fuel (cloneD e esz bytes z) (clone1 e x) σ = some (.ret, clone3 e x ys, σ) := by
  unfold runBody at h
  split at h
  · rename_i hcond
    obtain ⟨c1, _⟩ := hcond
    match ds, c1 with
    | [x], _ =>
      have hA : runC cal fuel (cloneA e) (enterFr (mclone e esz bytes z) [x]) σ = some (.normal, clone1 e x, σ) := rfl
      have hb : (mclone e esz bytes z).body = .seq (cloneA e) (cloneD e esz bytes z) := rfl
      rw [hb] at h
      simp only [runC, hA] at h
      have e5 : runOp cal false ⟨some 5, .buildSlice e esz 0 z [], none⟩ (clone1 e x) σ = some (⟨[x.strip, .junk, .sl [] (some e), .junk, .junk, .sl [] (some e), .junk, .junk], List.replicate 8 none, []⟩, σ) := rfl
      have e6 : runOp cal false ⟨some 6, .move (.tmp 0) false, none⟩ ⟨[x.strip, .junk, .sl [] (some e), .junk, .junk, .sl [] (some e), .junk, .junk], List.replicate 8 none, []⟩ σ = some (clone2 e x, σ) := by
        have : (⟨[x.strip, .junk, .sl [] (some e), .junk, .junk, .sl [] (some e), (x.strip).strip, .junk], List.replicate 8 none, []⟩ : Fr) = clone2 e x := by rw [strip_strip]; rfl
        rw [← this]
        rfl
      rcases clone_app (cal := cal) (σ := σ) (esz := esz) (bytes := bytes) (e := e) (x := x) rfl with h7 | ⟨ys, hy, h7⟩
      · exfalso
        have : runC cal fuel (cloneD e esz bytes z) (clone1 e x) σ = none := by simp only [cloneD, runC, runOps, e5, e6, h7, Option.map_none]
        rw [this] at h
        cases h
      · have e2 : runOp cal false ⟨some 2, .assign (.tmp 7), none⟩ ⟨[x.strip, .junk, .sl [] (some e), .junk, .junk, .sl [] none, x.strip, .sl ys (some e)], List.replicate 8 none, []⟩ σ = some (clone3 e x ys, σ) := rfl
        have hD : runC cal fuel (cloneD e esz bytes z) (clone1 e x) σ = some (.ret, clone3 e x ys, σ) := by simp only [cloneD, runC, runOps, e5, e6, h7, e2, Option.map_some]
        rw [hD] at h
        cases h
        exact ⟨x, ys, rfl, hy, rfl, rfl, hA, hD⟩
  · cases h

theorem clone_good (hm : P.follows .mixedOrders = true) {f : FuncId} {fn : Func} {A D0 : Code} {idB idC : Nat} {opsB opsC : Array Oper} {t e : TypeId} {esz bytes : Nat} {z : List D} {k1 k2 : Lv} {o1 o2 o3 : Oper}
    (hf : P.funcs[f]? = some fn) (hb : fn.body = some (.seq A (.seq (.seq (.region idB opsB false) (.cond (.tmp 4) (.seq (.region idC opsC false) .ret) .skip)) D0)))
    (hB : opsB.toList = [o1, o2]) (ho1 : o1.op = .move (.tmp 0) ∧ o1.dst = some 3 ∧ o1.guard = none) (ho2 : o2.op = .binOp .eql t (.tmp 3) (.const (.slice none 0 0)) t ∧ o2.dst = some 4 ∧ o2.guard = none)
    (hC : opsC.toList = [o3]) (ho3 : o3.op = .assign (.const (.slice none 0 0)) ∧ o3.dst = some 2 ∧ o3.guard = none) (ht : P.underlying t = some (.slice e)) (hok : ownOK P (.sl [] (some e)) = true)
    (hA : compC P [] k1 A = some (cloneA e)) (hD : compC P [] k2 D0 = some (cloneD e esz bytes z)) (hres : fn.results = #[.tmp 2]) (hnt : fn.ntmps = 8) : Good P f (mclone e esz bytes z) := by
  refine ⟨fn, _, hf, hb, fun cal fuel hc hci ds σ fr σ1 hrun => ?_⟩
  obtain ⟨x, ys, rfl, hy, rfl, rfl, hrA, hrD⟩ := clone_run hrun
  refine ⟨rfl, fun d σ' hro g w vals hi hide hr hn hbase => ?_⟩
  have hd : d = .sl ys (some e) ∧ σ' = σ1 := by
    have : resultOf (clone3 e x ys) σ1 [.tmp 2] = some (.sl ys (some e), σ1) := rfl
    have hro' : resultOf (clone3 e x ys) σ1 [.tmp 2] = some (d, σ') := hro
    rw [this] at hro'
    simp only [Option.some.injEq, Prod.mk.injEq] at hro'
    exact ⟨hro'.1.symm, hro'.2.symm⟩
  obtain ⟨rfl, rfl⟩ := hd
  have hrs : resTmps P fn.results.toList = some [.tmp 2] := by rw [hres]; rfl
  refine wp_seq (wp_code hm hc hci k1 fuel A hA hrA (enter_inv (by rw [hnt]; rfl) hi hbase hr hn rfl (show (1 : Nat) ≤ 8 by decide)) (fun a1 w1 g1 e1 i1 => ?_))
  simp only [AE.exit', Exit.then]
  -- the argument
  have hv : ∃ av len cap, a1.eval (.tmp 0) = .slice av len cap ∧ (av = none → ys = []) := by
    have h0 := (val_ok i1.s (x := .tmp 0) (X := .tmp 0) rfl).1
    have h1 : (clone1 e x).val (.tmp 0) = x.strip := strip_strip x
    rw [h1] at h0
    generalize a1.eval (.tmp 0) = v at h0
    generalize x.strip = y at h0 hy
    cases h0 <;> simp only [elems] at hy <;> first
      | (cases hy; done)
      | skip
    · rename_i av len cap b off es' es own V hl hcp hnn hav hall hI hR
      cases hy
      refine ⟨_, _, _, rfl, fun h => ?_⟩
      subst h
      have h1 := hnn rfl
      exact List.eq_nil_of_length_eq_zero (by omega)
    · exact ⟨_, _, _, rfl, fun h => by cases h⟩
  obtain ⟨av, len, cap, hv, hnil⟩ := hv
  have hsz : a1.tmps.size = 8 := i1.s.size
  refine wp_seq (wp_seq (wp_region_list ?_))
  rw [hB]
  have w1' : Region.wanted o1 (yielded opsB a1.tmps) = true := by simp [Region.wanted, ho1.2.2]
  unfold wpList
  rw [if_pos w1']
  left
  have hr1 : (execOp a1.eval o1).run P w1 = .ok (.value (.slice av len cap)) w1 := by
    simp only [execOp, ho1.1, hv]
    rfl
  refine wp_value hr1 ?_
  rw [ho1.2.1]
  have w2' : Region.wanted o2 (yielded opsB (a1.put (some 3) (.slice av len cap)).tmps) = true := by simp [Region.wanted, ho2.2.2]
  unfold wpList
  rw [if_pos w2']
  left
  have h3 : (a1.put (some 3) (.slice av len cap)).eval (.tmp 3) = .slice av len cap := by simp [Act.put, Act.eval, hsz]
  have hr2 : (execOp (a1.put (some 3) (.slice av len cap)).eval o2).run P w1 = .ok (.value (.bool av.isNone)) w1 := by
    simp only [execOp, ho2.1, h3]
    refine run_vmap ?_
    rw [run_bo (guard_none .eql t _ _ _ _ (by simp) (by simp))]
    simp only [binOp, Act.eval]
    rw [run_bo (run_equal_slice_nil w1 t e av len cap ht)]
    rfl
  refine wp_value hr2 ?_
  rw [ho2.2.1]
  unfold wpList
  simp only [Exit.then]
  have i3 : Inv P g1 w1 (clone1 e x) σ' ((a1.put (some 3) (.slice av len cap)).put (some 4) (.bool av.isNone)) :=
    (i1.put (some 3) (d := .junk) (.junk _) (fun _ _ => .of_ne rfl) (fun s off h => by cases h)).put (some 4) (d := .junk) (.junk _) (fun _ _ => .of_ne rfl) (fun s off h => by cases h)
  have h4 : ((a1.put (some 3) (.slice av len cap)).put (some 4) (.bool av.isNone)).eval (.tmp 4) = .bool av.isNone := by simp [Act.put, Act.eval, hsz]
  generalize (a1.put (some 3) (.slice av len cap)).put (some 4) (.bool av.isNone) = a3 at i3 h4
  have hsz3 : a3.tmps.size = 8 := i3.s.size
  cases av with
  | none =>
    have hys := hnil rfl
    subst hys
    refine wp_cond_true h4 (wp_seq (wp_region_list ?_))
    rw [hC]
    have w3' : Region.wanted o3 (yielded opsC a3.tmps) = true := by simp [Region.wanted, ho3.2.2]
    unfold wpList
    rw [if_pos w3']
    left
    have hr3 : (execOp a3.eval o3).run P w1 = .ok (.value (.slice none 0 0)) w1 := by
      simp only [execOp, ho3.1]
      rfl
    refine wp_value hr3 ?_
    rw [ho3.2.1]
    unfold wpList
    simp only [Exit.then]
    refine wp_ret ⟨?_, .slice none 0 0, ?_, _, rfl, g1, e1, i1.h, ?_, rfl, own_nil hok (fun es e' h => by cases h; exact ⟨rfl, rfl⟩)⟩
    · exact (defers_nil i3 (e1.base.trans hbase) (show (clone1 e x).defers.isEmpty = true from rfl) : a3.defers = [])
    · rw [results_tmp hres]
      simp [Act.put, hsz3]
    · exact .sl none 0 0 0 0 0 [] _ (fun _ _ => undef) rfl (Nat.le_refl _) (fun _ => rfl) (fun h => absurd rfl h) (by simp) (by simp) (by simp)
  | some ad =>
    refine wp_cond_false h4 (wp_skip ?_)
    refine wp_code hm hc hci k2 fuel D0 hD hrD i3 (fun a4 w4 g4 e4 i4 => ?_)
    obtain ⟨v, r1, r2⟩ := results_ok i4 hrs hro
    exact ⟨defers_nil i4 ((e1.trans e4).base.trans hbase) (show (clone3 e x ys).defers.isEmpty = true from rfl), v, r1, v, rfl, r2.ext (e1.trans e4)⟩

end
end Go.Abs

/-
  What a reading of the arguments says in the interpreter's data; and what a law that answers true owes to its statement.
-/
namespace Go.Abs
open Go Go.RowKit Go.WideShapes

inductive Wf (P : Program) : TypeId → List D → Prop
  | bool {t : TypeId} (h : P.underlying t = some .bool) (b : Bool) : Wf P t [.bool b]
  | int {t : TypeId} {k : IntKind} (h : P.underlying t = some (.int k)) (n : Int) (hw : (Lit.int k n).wf = true) : Wf P t [.int k n]
  | str {t : TypeId} (h : P.underlying t = some .string) (s : List UInt8) (hs : s.length ≤ maxLen) : Wf P t [.str s]
  | slice {t e : TypeId} (h : P.underlying t = some (.slice e)) (es : List (List D)) (hl : es.length ≤ maxLen) (hes : ∀ x ∈ es, Wf P e x) : Wf P t [.sl es none]
  | struct {t : TypeId} {fs : Array Field} (h : P.underlying t = some (.struct fs)) (parts : List (List D)) (hl : parts.length = fs.toList.length)
      (hf : ∀ (i : Nat) (f : Field) (p : List D), fs.toList[i]? = some f → parts[i]? = some p → Wf P f.type p) : Wf P t parts.flatten
  | array {t e : TypeId} {n : Nat} (h : P.underlying t = some (.array n e)) (parts : List (List D)) (hl : parts.length = n) (hp : ∀ p ∈ parts, Wf P e p) : Wf P t parts.flatten

def contigB (P : Program) : Nat → List Field → Nat → Bool
  | off, [], n => off == n
  | off, f :: fs, n => f.offset == off && contigB P (off + P.cellsOf f.type) fs n

def goodT (P : Program) (S : List TypeId) (t : TypeId) : Bool :=
  match P.underlying t with
  | some .bool | some (.int _) | some .string => true
  | some (.slice e) => S.contains e && decide (0 < P.cellsOf e)
  | some (.struct fs) => fs.toList.all (fun f => S.contains f.type) && contigB P 0 fs.toList (P.cellsOf t)
  | some (.array n e) => S.contains e && (n * P.cellsOf e == P.cellsOf t)
  | _ => false

/-- All that the world holds, as data that stay. -/
def seen (W : World) : Gh := Gh.alone fun b off => W.cell? ⟨b, off, none⟩

section
variable {H : Type} {enc : TypeId × Value → H} {P : Program} {W : World} {S : List TypeId} {T : Table}

theorem contig_rep {R : Value → D → Prop} {cs : List Value} : ∀ (fs : List Field) (off n : Nat) (parts : List (List D)), contigB P off fs n = true → parts.length = fs.length → cs.length = n →
    (∀ (i : Nat) (f : Field) (p : List D), fs[i]? = some f → parts[i]? = some p → AllRep R ((cs.drop f.offset).take (P.cellsOf f.type)) p) → AllRep R (cs.drop off) parts.flatten
  | [], off, n, parts, h, hl, hcs, hp => by
    have : parts = [] := List.eq_nil_of_length_eq_zero (by simpa using hl)
    subst this
    have h0 : off = n := by simpa [contigB] using h
    subst h0
    rw [List.drop_of_length_le (by omega)]
    exact ⟨rfl, fun i v d h => by simp at h⟩
  | f :: fs, off, n, [], h, hl, hcs, hp => by simp at hl
  | f :: fs, off, n, p :: parts, h, hl, hcs, hp => by
    simp only [contigB, Bool.and_eq_true, beq_iff_eq] at h
    obtain ⟨h1, h2⟩ := h
    have ih := contig_rep fs (off + P.cellsOf f.type) n parts h2 (by simpa using hl) hcs (fun i f p k1 k2 => hp (i + 1) f p (by simpa using k1) (by simpa using k2))
    have h0 := hp 0 f p rfl rfl
    rw [h1] at h0
    have := h0.append ih
    rw [List.flatten_cons, ← List.take_append_drop (P.cellsOf f.type) (cs.drop off), List.drop_drop]
    exact this

theorem arr_rep {R : Value → D → Prop} {cs : List Value} {c : Nat} : ∀ (parts : List (List D)) (off : Nat), cs.length = (off + parts.length) * c →
    (∀ (i : Nat) (p : List D), parts[i]? = some p → AllRep R ((cs.drop ((off + i) * c)).take c) p) → AllRep R (cs.drop (off * c)) parts.flatten
  | [], off, hl, _ => by
    rw [List.drop_of_length_le (by rw [hl]; exact Nat.le_refl _)]
    exact ⟨rfl, fun i v d h => by simp at h⟩
  | p :: parts, off, hl, hp => by
    have ih := arr_rep parts (off + 1) (by rw [hl, List.length_cons]; congr 1; omega) (fun i q h => by
      have := hp (i + 1) q (by simpa using h)
      rwa [show off + (i + 1) = off + 1 + i by omega] at this)
    have h0 := hp 0 p rfl
    rw [Nat.add_zero] at h0
    have := h0.append ih
    rw [List.flatten_cons, ← List.take_append_drop c (cs.drop (off * c)), List.drop_drop]
    rw [show off * c + c = (off + 1) * c by rw [Nat.add_mul, Nat.one_mul]]
    exact this

theorem all_flatten {p : D → Bool} {l : List (List D)} (h : ∀ x ∈ l, x.all p = true) : l.flatten.all p = true := by
  induction l with
  | nil => rfl
  | cons x l ih =>
    rw [List.flatten_cons, List.all_append, h x (List.mem_cons_self ..), ih (fun y hy => h y (List.mem_cons_of_mem _ hy))]
    rfl

/-- What a reading finds, the interpreter has. -/
theorem read_ok (hS : S.all (goodT P S) = true) : ∀ (fuel : Nat) (t : TypeId) (cs : List Value) (x : DataW H × List MemPlace), t ∈ S → DataW.trod enc P W 0 (fun _ => true) true fuel t cs = some x →
    ∃ ds, Wf P t ds ∧ AllRep (Rep (seen W)) cs ds ∧ ds.all D.pure1 = true
  | 0, t, cs, x, _, h => by simp [DataW.trod] at h
  | fuel + 1, t, cs, x, ht, h => by
    have hg := List.all_eq_true.1 hS t ht
    unfold goodT at hg
    have one : ∀ {v : Value} {d : D}, Rep (seen W) v d → AllRep (Rep (seen W)) [v] [d] := fun h => .cons h ⟨rfl, fun i v d h => by simp at h⟩
    split at hg
    · rename_i hu
      obtain ⟨b, rfl, _⟩ := DataW.trod_bool hu h
      exact ⟨_, .bool hu b, one (.bool _), rfl⟩
    · rename_i k hu
      obtain ⟨n, rfl, _, hw⟩ := DataW.trod_int hu h
      exact ⟨_, .int hu n hw, one (.int _ _), rfl⟩
    · rename_i hu
      obtain ⟨s, rfl, _, hs⟩ := DataW.trod_string hu h
      exact ⟨_, .str hu s.data.toList (by rw [bytes_size]; exact hs), one (.str _), rfl⟩
    · -- slices
      rename_i e hu
      simp only [Bool.and_eq_true, decide_eq_true_eq, List.contains_iff_mem] at hg
      obtain ⟨he, hz⟩ := hg
      rcases DataW.trod_slice hu h with ⟨rfl, _⟩ | ⟨ad, len, cap, elems, rest, n, hfu, rfl, _, hb, hl, hc, hel, hall, _⟩
      · exact ⟨_, .slice hu [] (Nat.zero_le _) (by simp), one (.sl none 0 0 0 0 0 [] none (fun _ _ => undef) rfl (Nat.le_refl _) (fun _ => rfl) (fun h => absurd rfl h) (by simp) (by simp) (by simp)), rfl⟩
      · have hn : n = fuel := by omega
        subst hn
        have hex : ∀ i : Nat, ∃ y : List Value × List D, i < len → W.cells? 0 (ad.add (i * P.cellsOf e)) (P.cellsOf e) = some y.1 ∧ Wf P e y.2 ∧ AllRep (Rep (seen W)) y.1 y.2 ∧ y.2.all D.pure1 = true := fun i => by
          by_cases hi : i < len
          · have := hall i hi
            rw [List.getElem?_eq_getElem (by omega), Option.bind_eq_some_iff] at this
            obtain ⟨ci, h1, h2⟩ := this
            obtain ⟨ds, h3, h4, h5⟩ := read_ok hS n e ci _ he h2
            exact ⟨(ci, ds), fun _ => ⟨h1, h3, h4, h5⟩⟩
          · exact ⟨([], []), fun h => absurd h hi⟩
        obtain ⟨F, hF⟩ := Classical.axiomOfChoice hex
        have hget : ∀ (i : Nat) (x : List D), ((List.range len).map fun i => (F i).2)[i]? = some x → i < len ∧ x = (F i).2 := fun i x hx => by
          have hi : i < len := by simpa using get_lt hx
          rw [List.getElem?_map, List.getElem?_range hi] at hx
          simp only [Option.map_some, Option.some.injEq] at hx
          exact ⟨hi, hx.symm⟩
        have hmem : ∀ x ∈ ((List.range len).map fun i => (F i).2), ∃ i, i < len ∧ x = (F i).2 := fun x hx => by
          obtain ⟨i, h1, rfl⟩ := List.mem_map.1 hx
          exact ⟨i, List.mem_range.1 h1, rfl⟩
        have hlen2 : ∀ i, i < len → (F i).2.length = P.cellsOf e := fun i hi => by
          obtain ⟨h1, _, h3, _⟩ := hF i hi
          rw [← h3.1]
          exact (World.cells?_some h1).2.1
        obtain ⟨b, off, spot⟩ := ad
        have hspot : 0 < len → spot = none := fun h0 => by
          obtain ⟨h1, _⟩ := hF 0 h0
          obtain ⟨_, k2, k3⟩ := World.cells?_some h1
          have k4 := k3 0 hz
          rw [List.getElem?_eq_getElem (by omega)] at k4
          simpa [Addr.add] using World.cell?_spot k4
        refine ⟨[.sl ((List.range len).map fun i => (F i).2) none], .slice hu _ (by simp; omega) (fun x hx => ?_), one (.sl (some ⟨b, off, spot⟩) len cap b off (P.cellsOf e) _ none (fun i j => (F i).1.getD j undef) (by simp) hl (fun h => by cases h) (fun hne => ?_) (fun x hx => ?_) (fun i x j d h1 h2 => ?_) (fun i x j d h1 h2 => ?_)), rfl⟩
        · obtain ⟨i, hi, rfl⟩ := hmem x hx
          exact (hF i hi).2.1
        · have h0 : 0 < len := by
            rcases Nat.eq_zero_or_pos len with h | h
            · subst h; simp at hne
            · exact h
          rw [hspot h0]
        · obtain ⟨i, hi, rfl⟩ := hmem x hx
          exact ⟨hlen2 i hi, (hF i hi).2.2.2⟩
        · obtain ⟨hi, rfl⟩ := hget i x h1
          obtain ⟨q1, _, q3, _⟩ := hF i hi
          obtain ⟨_, k2, k3⟩ := World.cells?_some q1
          have hj : j < P.cellsOf e := by rw [← hlen2 i hi]; exact get_lt h2
          have k4 := k3 j hj
          rw [List.getElem?_eq_getElem (by omega)] at k4
          have hsp : spot = none := hspot (by omega)
          subst hsp
          show W.cell? _ = _
          rw [Addr.add_lit, Addr.add_lit] at k4
          rw [k4]
          simp [List.getD_eq_getElem?_getD, List.getElem?_eq_getElem (show j < (F i).1.length by omega)]
        · obtain ⟨hi, rfl⟩ := hget i x h1
          obtain ⟨q1, _, q3, _⟩ := hF i hi
          obtain ⟨u, k1, k2⟩ := q3.get h2
          have : (F i).1.getD j undef = u := by simp [List.getD_eq_getElem?_getD, k1]
          rw [this]
          exact k2
    · -- structs
      rename_i fs hu
      simp only [Bool.and_eq_true] at hg
      obtain ⟨hfs, hcon⟩ := hg
      obtain ⟨xs, n, hfu, _, hl, hxl, hall⟩ := DataW.trod_struct hu h
      have hn : n = fuel := by omega
      subst hn
      have hex : ∀ i : Nat, ∃ y : List D, ∀ f, fs.toList[i]? = some f → Wf P f.type y ∧ AllRep (Rep (seen W)) ((cs.drop f.offset).take (P.cellsOf f.type)) y ∧ y.all D.pure1 = true := fun i => by
        cases hf : fs.toList[i]? with
        | none => exact ⟨[], fun f h => by cases h⟩
        | some f =>
          have hf' : fs[i]? = some f := by simpa using hf
          have := hall i f hf'
          have hi : i < fs.size := (Array.getElem?_eq_some_iff.1 hf').1
          rw [List.getElem?_eq_getElem (by omega)] at this
          have hin : f.type ∈ S := by
            have := List.all_eq_true.1 hfs f (List.mem_of_getElem? hf)
            simpa using this
          obtain ⟨ds, h3, h4, h5⟩ := read_ok hS n f.type _ _ hin this
          exact ⟨ds, fun f' hf' => by cases hf'; exact ⟨h3, h4, h5⟩⟩
      obtain ⟨F, hF⟩ := Classical.axiomOfChoice hex
      have hget : ∀ (i : Nat) (x : List D), ((List.range fs.toList.length).map F)[i]? = some x → x = F i := fun i x hx => by
        have hi : i < fs.toList.length := by simpa using get_lt hx
        rw [List.getElem?_map, List.getElem?_range hi] at hx
        simpa using hx.symm
      refine ⟨((List.range fs.toList.length).map F).flatten, .struct hu _ (by simp) (fun i f p h1 h2 => ?_), ?_, all_flatten (fun x hx => ?_)⟩
      · rw [hget i p h2]
        exact (hF i f h1).1
      · have := contig_rep (R := Rep (seen W)) (cs := cs) fs.toList 0 (P.cellsOf t) ((List.range fs.toList.length).map F) hcon (by simp) hl (fun i f p h1 h2 => by
          rw [hget i p h2]
          exact (hF i f h1).2.1)
        simpa using this
      · obtain ⟨i, h1, rfl⟩ := List.mem_map.1 hx
        have hi := List.mem_range.1 h1
        exact (hF i _ (List.getElem?_eq_getElem hi)).2.2
    · -- arrays
      rename_i len e hu
      simp only [Bool.and_eq_true, List.contains_iff_mem, beq_iff_eq] at hg
      obtain ⟨he, hcon⟩ := hg
      obtain ⟨xs, n, hfu, _, hl, hxl, hall⟩ := DataW.trod_array hu h
      have hn : n = fuel := by omega
      subst hn
      have hex : ∀ i : Nat, ∃ y : List D, i < len → Wf P e y ∧ AllRep (Rep (seen W)) ((cs.drop (i * P.cellsOf e)).take (P.cellsOf e)) y ∧ y.all D.pure1 = true := fun i => by
        by_cases hi : i < len
        · have := hall i hi
          rw [List.getElem?_eq_getElem (by omega)] at this
          obtain ⟨ds, h3, h4, h5⟩ := read_ok hS n e _ _ he this
          exact ⟨ds, fun _ => ⟨h3, h4, h5⟩⟩
        · exact ⟨[], fun h => absurd h hi⟩
      obtain ⟨F, hF⟩ := Classical.axiomOfChoice hex
      refine ⟨((List.range len).map F).flatten, .array hu _ (by simp) (fun p hp => ?_), ?_, all_flatten (fun x hx => ?_)⟩
      · obtain ⟨i, h1, rfl⟩ := List.mem_map.1 hp
        exact (hF i (List.mem_range.1 h1)).1
      · have := arr_rep (R := Rep (seen W)) (cs := cs) (c := P.cellsOf e) ((List.range len).map F) 0 (by simp [hl, hcon]) (fun i p hp => by
          have hi : i < len := by simpa using get_lt hp
          rw [List.getElem?_map, List.getElem?_range hi] at hp
          simp only [Option.map_some, Option.some.injEq] at hp
          subst hp
          rw [Nat.zero_add]
          exact (hF i hi).2.1)
        simpa using this
      · obtain ⟨i, h1, rfl⟩ := List.mem_map.1 hx
        exact (hF i (List.mem_range.1 h1)).2.2
    · cases hg

/-- An argument, as the interpreter has it. -/
def ArgOf (P : Program) (t : TypeId) (x : D) : Prop :=
  match P.underlying t with
  | some (.struct _) | some (.array _ _) => ∃ ds, x = .agg ds ∧ Wf P t ds
  | _ => Wf P t [x]

theorem arg_ok (hS : S.all (goodT P S) = true) {t : TypeId} (ht : t ∈ S) {v : Value} {r : Reach} {b0 : Nat} (hval : Value.okWide P W r b0 t v) {d : DataW H} {ps : List MemPlace} (h : DataW.Trod enc P W 0 (fun _ => true) true t v d ps) :
    ∃ x, ArgOf P t x ∧ Rep (seen W) v x ∧ x.notL = true := by
  obtain ⟨fuel, hf⟩ := h
  obtain ⟨ds, h1, h2, h3⟩ := read_ok hS fuel t _ _ ht hf
  have hg := List.all_eq_true.1 hS t ht
  have single : (∀ fs, P.underlying t ≠ some (.struct fs)) → (∀ n e, P.underlying t ≠ some (.array n e)) → v.cells = #[v] → ∃ x, ArgOf P t x ∧ Rep (seen W) v x ∧ x.notL = true := fun hno hno2 hc => by
    rw [hc] at h2
    have hl := h2.1
    match ds, hl with
    | [x], _ =>
      refine ⟨x, ?_, h2.tail.1, notL_of_pure1 (by simpa using h3)⟩
      unfold ArgOf
      split
      · rename_i fs hu
        exact absurd hu (hno fs)
      · rename_i n e hu
        exact absurd hu (hno2 n e)
      · exact h1
  unfold goodT at hg
  split at hg
  · rename_i hu
    obtain ⟨b, rfl⟩ := okWide_bool hu hval
    exact single (fun fs h => by rw [hu] at h; cases h) (fun n e h => by rw [hu] at h; cases h) rfl
  · rename_i k hu
    obtain ⟨b, rfl⟩ := okWide_int hu hval
    exact single (fun fs h => by rw [hu] at h; cases h) (fun n e h => by rw [hu] at h; cases h) rfl
  · rename_i hu
    obtain ⟨b, rfl⟩ := okWide_string hu hval
    exact single (fun fs h => by rw [hu] at h; cases h) (fun n e h => by rw [hu] at h; cases h) rfl
  · rename_i e hu
    obtain ⟨a, b, c, rfl⟩ := okWide_slice hu hval
    exact single (fun fs h => by rw [hu] at h; cases h) (fun n e h => by rw [hu] at h; cases h) rfl
  · rename_i fs hu
    obtain ⟨cs, rfl, _⟩ := okWide_struct hu hval
    refine ⟨.agg ds, ?_, rep_agg_of h2 h3, rfl⟩
    unfold ArgOf
    rw [hu]
    exact ⟨ds, rfl, h1⟩
  · rename_i n e hu
    obtain ⟨cs, rfl⟩ : ∃ cs, v = .agg cs := by
      simp only [Value.okWide, hu] at hval
      obtain ⟨cs, h1, _⟩ := hval
      exact ⟨cs, h1⟩
    refine ⟨.agg ds, ?_, rep_agg_of h2 h3, rfl⟩
    unfold ArgOf
    rw [hu]
    exact ⟨ds, rfl, h1⟩
  · cases hg

/-- A law that answers true. -/
theorem law_true (hm : P.follows .mixedOrders = true) (hT : TabOK P T) {f : Nat} {args : Array Value} {xs : List D} (hr : AllRep (Rep (seen W)) args.toList xs) (hn : xs.all D.notL = true) (h : ∃ n σ', callN T n f xs [] = some (.bool true, σ')) :
    Calls P f args W (fun e W' => e = .returned (.bool true) ∧ Below W.heap.size W W') := by
  obtain ⟨n, σ', hcal⟩ := h
  refine Calls.mono ((callN_ok hm hT n).1 f xs [] _ σ' hcal (seen W) W args (.alone fun _ _ _ h => h) (fun _ => rfl) hr hn) ?_
  rintro e W' ⟨v, rfl, g', e1, _, r1, _, _⟩
  rw [rep_bool r1]
  exact ⟨rfl, e1.os, e1.tape, e1.output, e1.size, fun k hk => (e1.blk k hk rfl).1⟩

end
end Go.Abs

/-
  From the interpreter's answer to the row of a law that answers one truth.
-/
namespace Go.Abs
open Go Go.ChangeShapes Go.WideShapes Go.ChangeAt Go.RowKit

def ArgsOf (P : Program) : List TypeId → List D → Prop
  | [], [] => True
  | t :: ts, x :: xs => ArgOf P t x ∧ ArgsOf P ts xs
  | _, _ => False

section
variable {H : Type} {enc : TypeId × Value → H} {P : Program} {W : World} {S : List TypeId} {T : Table}

theorem allRep_cons {R : Value → D → Prop} {v : Value} {d : D} {vs : List Value} {ds : List D} (h : R v d) (hs : AllRep R vs ds) : AllRep R (v :: vs) (d :: ds) := by
  refine ⟨by simp [hs.1], fun i v' d' h1 h2 => ?_⟩
  match i, h1, h2 with
  | 0, h1, h2 => simp at h1 h2; subst h1 h2; exact h
  | i + 1, h1, h2 => exact hs.2 i v' d' (by simpa using h1) (by simpa using h2)

theorem args_ok (hl : laidOutB P = true) (hS : S.all (goodT P S) = true) (hr : S.all (fun t => P.readableRec t && decide (t < P.types.size)) = true) :
    ∀ (ts : List TypeId) (vs : List Value) (ds : List (DataW H)) (ps : List MemPlace) (b0 : Nat), ts.all S.contains = true → (∀ (j : Nat) t v, ts[j]? = some t → vs[j]? = some v → Value.okWide P W .any b0 t v) →
    DataW.TrodAll enc P W 0 (fun _ => true) true ts vs ds ps → (∀ x ∈ ps, x.block < W.heap.size) →
    ∃ xs, ArgsOf P ts xs ∧ AllRep (Rep (seen W)) vs xs ∧ xs.all D.notL = true ∧
      ∀ W', Below W.heap.size W W' → DataW.TrodAll enc P W' 0 (fun b => decide (b < W.heap.size)) true ts vs ds ps
  | [], vs, ds, ps, b0, _, _, h, _ => by
    obtain ⟨rfl, rfl, rfl⟩ := trodAll_nil h
    exact ⟨[], trivial, ⟨rfl, fun i v d h1 => by simp at h1⟩, rfl, fun _ _ => trodAll_mk0⟩
  | t :: ts, vs, ds, ps, b0, hin, hok, h, hlt => by
    obtain ⟨v, vs', d, ds', p, q, rfl, rfl, rfl, hd, hrest⟩ := trodAll_cons h
    simp only [List.all_cons, Bool.and_eq_true] at hin
    have htS : t ∈ S := by simpa using hin.1
    obtain ⟨x, h1, h2, h3⟩ := arg_ok hS htS (hok 0 t v rfl rfl) hd
    obtain ⟨xs, g1, g2, g3, g4⟩ := args_ok hl hS hr ts vs' ds' q b0 hin.2 (fun j t' v' ht hv => hok (j + 1) t' v' (by simpa using ht) (by simpa using hv)) hrest (fun x hx => hlt x (by simp [hx]))
    refine ⟨x :: xs, ⟨h1, g1⟩, allRep_cons h2 g2, by simp [h3, g3], fun W' hb => ⟨p, q, ?_, g4 W' hb, rfl⟩⟩
    have hrt := List.all_eq_true.1 hr t htS
    simp only [Bool.and_eq_true, decide_eq_true_eq] at hrt
    exact Below.trod hl hrt.1 hrt.2 hd hb (fun x hx => hlt x (by simp [hx]))

/-- A law's row, of which only the interpreter's answer is asked. -/
theorem law_row {C : Checked} {os : Os} (started : os.Started) {f : FuncId} {fn : Func} {s : ChangeSpec} {tb : TypeId}
    (own : ownKnob C.prog.godebug = none) (noInit : C.prog.inits.idxOf? f = none) (hfn : C.prog.funcs[f]? = some fn)
    (hl : laidOutB C.prog = true) (hS : S.all (goodT C.prog S) = true) (hr : S.all (fun t => C.prog.readableRec t && decide (t < C.prog.types.size)) = true) (hp : fn.params.toList.all S.contains = true)
    (hres : fn.resultTypes = #[tb]) (hb : C.prog.underlying tb = some .bool) (hm : C.prog.follows .mixedOrders = true) (hT : TabOK C.prog T)
    (hv : s.vars = []) (hs : ∀ (ds : List (DataW H)), ds.length = fn.params.toList.length → (s.fn H ds).results = [.lit (.bool true)] ∧ (s.fn H ds).args = ds ∧ (s.fn H ds).vars = [])
    (witness : ∃ (w : World) (tape : Tape) (i : Input), w.os = os ∧ (w.forCall tape i).Shaped C.prog ∧ i.vars = [] ∧ Input.okWide C.prog (w.forCall tape i) .any w.heap.size f i ∧
      s.pre6 enc C.prog fn [] false (w.forCall tape i).memory i.args ∧ ({} : Assume).holds C.prog (lone (Frame.enter C.prog f i.args .normal) [] (w.forCall tape i)))
    (law : ∀ xs, ArgsOf C.prog fn.params.toList xs → ∃ n σ', callN T n f xs [] = some (.bool true, σ')) :
    ReturnsInHanded {} C os f .any (s.pre6 enc C.prog fn [] false) (s.post enc C.prog fn false true false false) := by
  refine returnsInHanded_of_change (C := C) own started noInit hfn witness ?_
  intro W base args ds gs before hval hW _ _
  have hW' := hW
  obtain ⟨p, q, hA, hV, rfl, hfz, hnd⟩ := hW
  rw [hv] at hV
  obtain ⟨rfl, rfl⟩ := trodVars_none hV
  have hlt : ∀ x ∈ p, x.block < W.heap.size := fun x hx => hW'.lt x (by simp [hx])
  have hlen : ds.length = fn.params.toList.length := by
    have : ∀ (ts : List TypeId) (vs : List Value) (ds : List (DataW H)) (ps : List MemPlace), DataW.TrodAll enc C.prog W 0 (fun _ => true) true ts vs ds ps → ds.length = ts.length := by
      intro ts
      induction ts with
      | nil =>
        intro vs ds ps h
        obtain ⟨rfl, rfl, rfl⟩ := trodAll_nil h
        rfl
      | cons t ts ih =>
        intro vs ds ps h
        obtain ⟨v, vs', d, ds', p, q, rfl, rfl, rfl, hd, hrest⟩ := trodAll_cons h
        simp [ih _ _ _ hrest]
    exact this _ _ _ _ hA
  obtain ⟨xs, h1, h2, h3, h4⟩ := args_ok hl hS hr _ _ _ _ base hp (fun j t v ht hv => hval j t v (by simpa using ht) (by simpa using hv)) hA hlt
  refine (law_true hm hT h2 h3 (law xs h1)).mono fun e W' ⟨he, hbel⟩ => ?_
  subst he
  obtain ⟨hs1, hs2, hs3⟩ := hs ds hlen
  refine ⟨_, rfl, _, _, _, [], p, [], hW', ?_, ?_, ?_, hbel.frame _, fun h => by cases h⟩
  · rw [List.append_nil, hs1, hres]
    exact trodAll_mk1 ⟨1, by simp [DataW.trod, Value.cells, hb, Lit.wf]⟩
  · rw [List.append_nil, hs2]
    exact h4 W' hbel
  · rw [List.append_nil, hs3, hv]
    rfl
end
end Go.Abs
