import Derived.Test.YtnjoledlgacpeaaKont2
import Derived.Test.YtnjoledlgacpeaaTreeX
set_option linter.unusedVariables false
set_option linter.unusedSimpArgs false
/-
  The plain model's operations, as the machine code sees them.
-/
namespace Go.Abs.C
open Go Go.Abs
set_option maxRecDepth 8000
attribute [local irreducible] callN runC evalOp
structure Sz (n : Nat) (lN : List NodeR) (lH : List HeldR) : Prop where
  sN : lN.length < 900
  sH : lH.length < 900
  sn : 1000 < n
  sm : n ≤ 9223372036854775808
  sa : ∀ r ∈ lN, r.name.length < n
  sb : ∀ h ∈ lH, h.id.length < n
theorem take_rows {α : Type} (f : α → List D) (l : List α) (k : Nat) : List.take (k - 0) (List.drop 0 (List.map f l)) = List.map f (l.take k) := by simp [List.map_take]
theorem drop_rows {α : Type} (f : α → List D) (l : List α) (k : Nat) : List.take (List.length (List.map f l) - k) (List.drop k (List.map f l)) = List.map f (l.drop k) := by
  rw [List.map_drop]
  exact List.take_of_length_le (by simp)
theorem all_rows {α : Type} (f : α → List D) (k : Nat) (h : ∀ x, (f x).length = k) (l : List α) : ((List.map f l).all fun e => e.length == k) = true := by
  rw [List.all_eq_true]
  intro x hx
  obtain ⟨y, _, rfl⟩ := List.mem_map.1 hx
  simp [h]
theorem hasR_perm {rs lN : List NodeR} (h : lN.Perm rs) (s : Nm) : hasR rs s = true ↔ ∃ r ∈ lN, r.name = s := by
  unfold hasR
  rw [List.find?_isSome]
  constructor
  · rintro ⟨r, hr, e⟩
    exact ⟨r, h.symm.subset hr, by simpa using e⟩
  · rintro ⟨r, hr, e⟩
    exact ⟨r, h.subset hr, by simpa using e⟩
/-- Where a node stands, or that it is none. -/
theorem find_cases (n : Nat) {rs lN : List NodeR} (hN : lN.Perm rs) (lH : List HeldR) (s : Nm) (hn : lN.length < n) (hB : lN.length < 1000) :
    (hasR rs s = false ∧ callN T (n + 1) 33 [treeD lN lH, .str s] [] = some (.int .i64 (-1), [])) ∨ ∃ i, ∃ h : i < lN.length, lN[i].name = s ∧ hasR rs s = true ∧ callN T (n + 1) 33 [treeD lN lH, .str s] [] = some (.int .i64 (i : Int), []) := by
  have hf := find_ok n lN lH s hn hB
  rcases idxI_cases NodeR.name lN s with ⟨h1, h2⟩ | ⟨i, h, h1, h2⟩
  · left
    rw [h1] at hf
    refine ⟨?_, hf⟩
    cases hh : hasR rs s with
    | false => rfl
    | true =>
      obtain ⟨r, hr, e⟩ := (hasR_perm hN s).1 hh
      exact absurd e (h2 r hr)
  · right
    rw [h1] at hf
    exact ⟨i, h, h2, (hasR_perm hN s).2 ⟨_, List.getElem_mem h, h2⟩, hf⟩
theorem held_cases (n : Nat) {hs lH : List HeldR} (hH : lH.Perm hs) (lN : List NodeR) (s : Nm) (hn : lH.length < n) (hB : lH.length < 1000) :
    (findH hs s = none ∧ callN T (n + 1) 35 [treeD lN lH, .str s] [] = some (.int .i64 (-1), [])) ∨ ∃ i, ∃ h : i < lH.length, lH[i].id = s ∧ (findH hs s).isSome = true ∧ callN T (n + 1) 35 [treeD lN lH, .str s] [] = some (.int .i64 (i : Int), []) := by
  have hf := held_ok n lN lH s hn hB
  rcases idxI_cases HeldR.id lH s with ⟨h1, h2⟩ | ⟨i, h, h1, h2⟩
  · left
    rw [h1] at hf
    refine ⟨?_, hf⟩
    unfold findH
    rw [List.find?_eq_none]
    intro x hx
    have := h2 x (hH.symm.subset hx)
    simpa using this
  · right
    rw [h1] at hf
    refine ⟨i, h, h2, ?_, hf⟩
    unfold findH
    rw [List.find?_isSome]
    exact ⟨lH[i], hH.subset (List.getElem_mem h), by simpa using h2⟩
def h20 (lN : List NodeR) (lH : List HeldR) (a b : Nm) (v : Int) (at_ : Nat) : Fr := ⟨[.agg [.sl (lN.map nW) none, .sl (lH.map HeldR.cells) none], .str a, .str b, .int .i64 v, .lptr 4 0, .junk, .junk, .junk, .lptr 8 0, .int .i64 0, .sl [] (some 81), .int .i64 at_] ++ List.replicate 60 .junk,
  [none, none, none, none, some [.sl (lN.map nW) none, .sl (lH.map HeldR.cells) none], none, none, none, some [.sl [] (some 81), .sl [] (some 83)]] ++ List.replicate 63 none, []⟩
def addN (rs lN : List NodeR) (a b : Nm) (v : Int) : List NodeR := if addQ rs a b v = 0 then insK NodeR.name ⟨a, b, v, 0⟩ lN else lN
theorem add20_ok (n : Nat) {rs lN : List NodeR} {hs lH : List HeldR} (W : WInv rs hs lN lH) (Z : Sz n lN lH) (a b : Nm) (v : Int) :
    callN T (n + 20) 20 [treeD lN lH, .str a, .str b, .int .i64 v] [] = some (.tup [treeD (addN rs lN a b v) lH, .int .i64 (addQ rs a b v)], []) := by
  have hlN := Z.sN
  have hlH := Z.sH
  have hn1 := Z.sn
  refine call_of (m := m20) rfl rfl (by decide) (k_start ?_)
  unfold m20
  by_cases c1 : a = []
  · have hq : addQ rs a b v = 1 := by unfold addQ; rw [if_pos (.inl c1)]
    rw [hq, show addN rs lN a b v = lN by unfold addN; rw [hq]; rfl]
    unfold treeD
    refine k_seq ?_
    refine rgf (D.lptr (4 : Nat) (0 : Nat)) ([]) ?_
    refine rgf (D.lptr (8 : Nat) (0 : Nat)) ([]) ?_
    refine rv (D.int IntKind.i64 (0 : Int)) ?_
    refine k_done (k_skip_seq (k_seq (k_seq ?_)))
    refine rv (D.str a) ?_
    refine rv (D.bool (a == [])) ?_
    refine rv (D.bool (a == [])) ?_
    refine rkn 14 (a == []) true (beq_iff_eq.2 (by assumption)) ?_
    refine rno (rno ?_)
    refine rv (D.bool true) ?_
    refine k_done (k_skip_seq (kct (k_seq ?_)))
    refine rv (D.agg [D.sl (List.map nW lN) none, D.sl (List.map HeldR.cells lH) none]) ?_
    refine rgf (D.junk) ([]) ?_
    refine rv (D.int IntKind.i64 (1 : Int)) ?_
    refine k_done (k_skip_seq (k_ret ?_))
    exact ⟨.inr rfl, by kernel_rfl, by kernel_rfl⟩
  · by_cases c2 : v < 0
    · have hq : addQ rs a b v = 1 := by unfold addQ; rw [if_pos (.inr c2)]
      rw [hq, show addN rs lN a b v = lN by unfold addN; rw [hq]; rfl]
      unfold treeD
      refine k_seq ?_
      refine rgf (D.lptr (4 : Nat) (0 : Nat)) ([]) ?_
      refine rgf (D.lptr (8 : Nat) (0 : Nat)) ([]) ?_
      refine rv (D.int IntKind.i64 (0 : Int)) ?_
      refine k_done (k_skip_seq (k_seq (k_seq ?_)))
      refine rv (D.str a) ?_
      refine rv (D.bool (a == [])) ?_
      refine rv (D.bool (a == [])) ?_
      refine rkn 14 (a == []) false (beq_eq_false_iff_ne.2 (by assumption)) ?_
      refine rv (D.int IntKind.i64 v) ?_
      refine rv (D.bool (decide (v < (0 : Int)))) ?_
      refine rv (D.bool (decide (v < (0 : Int)))) ?_
      refine k_done (k_skip_seq ?_)
      refine rkn 17 (decide (v < (0 : Int))) true (decide_eq_true (by assumption)) ?_
      refine kct (k_seq ?_)
      refine rv (D.agg [D.sl (List.map nW lN) none, D.sl (List.map HeldR.cells lH) none]) ?_
      refine rgf (D.junk) ([]) ?_
      refine rv (D.int IntKind.i64 (1 : Int)) ?_
      refine k_done (k_skip_seq (k_ret ?_))
      exact ⟨.inr rfl, by kernel_rfl, by kernel_rfl⟩
    · have c12 : ¬ (a = [] ∨ v < 0) := by rw [not_or]; exact ⟨c1, c2⟩
      rcases find_cases (n + 18) W.permN lH a (by omega) (by omega) with ⟨f1, hf1⟩ | ⟨i1, hi1, f1, f2, hf1⟩
      · have c3 : ¬ hasR rs a = true := by rw [f1]; decide
        have hne : ∀ y ∈ lN, NodeR.name y ≠ NodeR.name ⟨a, b, v, 0⟩ := fun y hy => hasR_false f1 y (W.permN.subset hy)
        by_cases c4 : b = []
        · have hq : addQ rs a b v = 0 := by unfold addQ; rw [if_neg c12, if_neg c3, if_neg (fun h => h.1 c4)]
          rw [hq, show addN rs lN a b v = insK NodeR.name ⟨a, b, v, 0⟩ lN by unfold addN; rw [hq]; rfl]
          unfold treeD
          refine k_seq ?_
          refine rgf (D.lptr (4 : Nat) (0 : Nat)) ([]) ?_
          refine rgf (D.lptr (8 : Nat) (0 : Nat)) ([]) ?_
          refine rv (D.int IntKind.i64 (0 : Int)) ?_
          refine k_done (k_skip_seq (k_seq (k_seq ?_)))
          refine rv (D.str a) ?_
          refine rv (D.bool (a == [])) ?_
          refine rv (D.bool (a == [])) ?_
          refine rkn 14 (a == []) false (beq_eq_false_iff_ne.2 (by assumption)) ?_
          refine rv (D.int IntKind.i64 v) ?_
          refine rv (D.bool (decide (v < (0 : Int)))) ?_
          refine rv (D.bool (decide (v < (0 : Int)))) ?_
          refine k_done (k_skip_seq ?_)
          refine rkn 17 (decide (v < (0 : Int))) false (decide_eq_false (by assumption)) ?_
          refine kcf (k_skip_seq (k_seq (k_seq ?_)))
          refine rv (D.agg [D.sl (List.map nW lN) none, D.sl (List.map HeldR.cells lH) none]) ?_
          refine rv (D.str a) ?_
          refine runs_call ([D.agg [D.sl (List.map nW lN) none, D.sl (List.map HeldR.cells lH) none], D.str a]) (by kernel_rfl) (by kernel_rfl) (by kernel_rfl) (by kernel_rfl) (hf1) (by kernel_rfl) ?_
          refine rv (D.bool false) ?_
          refine k_done (k_skip_seq (kcf (k_skip_seq (k_seq (k_seq ?_)))))
          refine rv (D.str b) ?_
          refine rv (D.bool !b == []) ?_
          refine rv (D.bool !b == []) ?_
          refine rkn 26 (!b == []) false (bne_eq_false_iff_eq.2 (by assumption)) ?_
          refine rno (rno (rno (rno ?_)))
          refine rv (D.bool false) ?_
          refine k_done (k_skip_seq (kcf (k_skip_seq (k_seq ?_))))
          refine rv (D.sl [] (some (81 : Nat))) ?_
          refine k_done (k_skip_seq (k_seq ?_))
          refine rv (D.int IntKind.i64 (0 : Int)) ?_
          refine k_done (k_skip_seq (k_seq (k_block ?_)))
          refine k_loop (fun i => h20 lN lH a b v i) (fun _ => []) (fun i => i ≤ lN.length ∧ ∀ j (h : j < lN.length), j < i → ltB lN[j].name a = true) (fun i => lN.length - i) 0 (by kernel_rfl) (by kernel_rfl) ⟨by simp, fun j _ h => absurd h (Nat.not_lt_zero _)⟩ (fun s hs => by omega) ?_
          rintro at_ ⟨hat, hlow⟩
          unfold h20 l20_0
          by_cases c : at_ < lN.length
          · have ht := texts_ok (n + 17) lN[at_].name a (by have := Z.sa _ (List.getElem_mem c); omega) (by have := Z.sa _ (List.getElem_mem c); have := Z.sm; omega)
            by_cases hlt : textI lN[at_].name a < 0
            · refine k_seq (k_seq ?_)
              refine rv (D.int IntKind.i64 (↑at_ : Int)) ?_
              refine rv (D.lptr (4 : Nat) (0 : Nat)) ?_
              refine rv (D.sl (List.map nW lN) none) ?_
              refine rve (D.int IntKind.i64 (↑(List.length (List.map nW lN)) : Int)) (.int IntKind.i64 ((↑(List.length lN) : Int))) (by simp only [ints, eInt, rows, eInts, bools, eBool, trips, eTrip, i8s, u16s, u8s, acts, List.length_map]) ?_
              refine rv (D.bool (decide ((↑at_ : Int) < (↑(List.length lN) : Int)))) ?_
              refine rv (D.bool (decide ((↑at_ : Int) < (↑(List.length lN) : Int)))) ?_
              refine rkn 38 (decide ((↑at_ : Int) < (↑(List.length lN) : Int))) true (decide_eq_true (by omega)) ?_
              refine rv (D.lptr (4 : Nat) (0 : Nat)) ?_
              refine rv (D.sl (List.map nW lN) none) ?_
              refine rv (D.int IntKind.i64 (↑at_ : Int)) ?_
              refine runs_index (lN) (nW) (o := none) (kd := IntKind.i64) (at_) (by kernel_rfl) (by kernel_rfl) (by kernel_rfl) (by assumption) (by kernel_rfl) ?_
              refine rv (D.ref [D.str (NodeR.name lN[at_]), D.str (NodeR.parent lN[at_]), D.int IntKind.i64 (NodeR.limit lN[at_])]) ?_
              refine rv (D.str (NodeR.name lN[at_])) ?_
              refine rv (D.str a) ?_
              refine runs_call ([D.str (NodeR.name lN[at_]), D.str a]) (by kernel_rfl) (by kernel_rfl) (by kernel_rfl) (by kernel_rfl) (ht) (by kernel_rfl) ?_
              refine rv (D.bool (decide (textI (NodeR.name lN[at_]) a < (0 : Int)))) ?_
              refine rv (D.bool (decide (textI (NodeR.name lN[at_]) a < (0 : Int)))) ?_
              refine k_done (k_skip_seq ?_)
              refine rkn 48 (decide (textI (NodeR.name lN[at_]) a < (0 : Int))) true (decide_eq_true (by assumption)) ?_
              refine kct (k_skip_seq (k_block ?_))
              refine rv (D.int IntKind.i64 (↑at_ : Int)) ?_
              refine rve (D.int IntKind.i64 (IntKind.wrap IntKind.i64 ((↑at_ : Int) + (1 : Int)))) (.int IntKind.i64 ((at_ + 1 : Nat) : Int)) (congrArg (D.int IntKind.i64) (show IntKind.wrap IntKind.i64 ((↑at_ : Int) + (1 : Int)) = ((at_ + 1 : Nat) : Int) from wrap_eq (by omega) (by omega) (by omega))) ?_
              refine ra0 (D.int IntKind.i64 (↑(at_ + (1 : Nat)) : Int)) ?_
              refine k_done (k_skip_block (k_skip_back ?_))
              exact ⟨at_ + 1, ⟨c, fun j hj hj2 => by by_cases e : j = at_; (subst e; exact (textI_neg _ _).1 hlt); exact hlow j hj (by omega)⟩, by omega, by kernel_rfl, rfl⟩
            · have hstop : ∀ h : at_ < lN.length, ltB (NodeR.name lN[at_]) (NodeR.name ⟨a, b, v, 0⟩) = false := fun _ => by
                cases hh : ltB lN[at_].name a with
                | false => rfl
                | true => exact absurd ((textI_neg _ _).2 hh) hlt
              have hins := insK_at (key := NodeR.name) (x := ⟨a, b, v, 0⟩) at_ hat hlow hstop hne
              have hrow : (insK NodeR.name (⟨a, b, v, 0⟩ : NodeR) lN).map nW = (lN.take at_).map nW ++ [[D.str a, D.str b, D.int IntKind.i64 v]] ++ (lN.drop at_).map nW := by
                rw [← hins]
                simp [nW]
              have hall : ((List.map nW lN).all fun e => e.length == 3) = true := all_rows nW 3 (fun _ => rfl) _
              have hall1 : ((List.map nW (List.take at_ lN)).all fun e => e.length == 3) = true := all_rows nW 3 (fun _ => rfl) _
              have hall2 : ((List.map nW (List.drop at_ lN)).all fun e => e.length == 3) = true := all_rows nW 3 (fun _ => rfl) _
              have hs1 := take_rows nW lN at_
              have hs2 := drop_rows nW lN at_
              refine k_seq (k_seq ?_)
              refine rv (D.int IntKind.i64 (↑at_ : Int)) ?_
              refine rv (D.lptr (4 : Nat) (0 : Nat)) ?_
              refine rv (D.sl (List.map nW lN) none) ?_
              refine rve (D.int IntKind.i64 (↑(List.length (List.map nW lN)) : Int)) (.int IntKind.i64 ((↑(List.length lN) : Int))) (by simp only [ints, eInt, rows, eInts, bools, eBool, trips, eTrip, i8s, u16s, u8s, acts, List.length_map, nW, HeldR.cells]) ?_
              refine rv (D.bool (decide ((↑at_ : Int) < (↑(List.length lN) : Int)))) ?_
              refine rv (D.bool (decide ((↑at_ : Int) < (↑(List.length lN) : Int)))) ?_
              refine rkn 38 (decide ((↑at_ : Int) < (↑(List.length lN) : Int))) true (decide_eq_true (by omega)) ?_
              refine rv (D.lptr (4 : Nat) (0 : Nat)) ?_
              refine rv (D.sl (List.map nW lN) none) ?_
              refine rv (D.int IntKind.i64 (↑at_ : Int)) ?_
              refine runs_index (lN) (nW) (o := none) (kd := IntKind.i64) (at_) (by kernel_rfl) (by kernel_rfl) (by kernel_rfl) (by assumption) (by kernel_rfl) ?_
              refine rv (D.ref [D.str (NodeR.name lN[at_]), D.str (NodeR.parent lN[at_]), D.int IntKind.i64 (NodeR.limit lN[at_])]) ?_
              refine rv (D.str (NodeR.name lN[at_])) ?_
              refine rv (D.str a) ?_
              refine runs_call ([D.str (NodeR.name lN[at_]), D.str a]) (by kernel_rfl) (by kernel_rfl) (by kernel_rfl) (by kernel_rfl) (ht) (by kernel_rfl) ?_
              refine rv (D.bool (decide (textI (NodeR.name lN[at_]) a < (0 : Int)))) ?_
              refine rv (D.bool (decide (textI (NodeR.name lN[at_]) a < (0 : Int)))) ?_
              refine k_done (k_skip_seq ?_)
              refine rkn 48 (decide (textI (NodeR.name lN[at_]) a < (0 : Int))) false (decide_eq_false (by assumption)) ?_
              refine kcf (k_exit_seq (k_exit_back (k_exit_hit rfl (k_skip_seq (k_seq ?_)))))
              refine runs_steal (D.sl [] (some (81 : Nat))) (by kernel_rfl) (by kernel_rfl) ?_
              refine rv (D.lptr (4 : Nat) (0 : Nat)) ?_
              refine rv (D.sl (List.map nW lN) none) ?_
              refine rv (D.int IntKind.i64 (↑at_ : Int)) ?_
              refine runs_sliceS (List.map nW lN) _ (o := none) (0) (at_) (by kernel_rfl) (by kernel_rfl) (by kernel_rfl) (hiD_nat (k := IntKind.i64) (by kernel_rfl)) (by simp [ints, eInt, rows, eInts, bools, eBool, trips, eTrip, i8s, u16s, u8s, acts]; omega) (by assumption) (by assumption) ?_
              refine runs_append ([]) (List.map nW (List.take at_ lN)) (List.map nW (List.take at_ lN)) (by kernel_rfl) (by kernel_rfl) (by kernel_rfl) (by assumption) (by simp [nW, HeldR.cells, ints, eInt, rows, eInts, bools, eBool, trips, eTrip, i8s, u16s, u8s, acts, room]; omega) (List.nil_append _) ?_
              refine runs_assign (D.sl (List.map nW (List.take at_ lN)) (some (81 : Nat))) (by kernel_rfl) (by kernel_rfl) ?_
              refine k_done (k_skip_seq (k_seq ?_))
              refine runs_steal (D.sl (List.map nW (List.take at_ lN)) (some (81 : Nat))) (by kernel_rfl) (by kernel_rfl) ?_
              refine rv (D.str a) ?_
              refine rv (D.str b) ?_
              refine rv (D.int IntKind.i64 v) ?_
              refine rv (D.agg [D.str a, D.str b, D.int IntKind.i64 v]) ?_
              refine rv (D.sl [[D.str a, D.str b, D.int IntKind.i64 v]] (some (81 : Nat))) ?_
              refine runs_append (List.map nW (List.take at_ lN)) ([[D.str a, D.str b, D.int IntKind.i64 v]]) (List.map nW (List.take at_ lN) ++ [[D.str a, D.str b, D.int IntKind.i64 v]]) (by kernel_rfl) (by kernel_rfl) (by kernel_rfl) (by kernel_rfl) (by simp [nW, HeldR.cells, ints, eInt, rows, eInts, bools, eBool, trips, eTrip, i8s, u16s, u8s, acts, room]; omega) rfl ?_
              refine runs_assign (D.sl (List.map nW (List.take at_ lN) ++ [[D.str a, D.str b, D.int IntKind.i64 v]]) (some (81 : Nat))) (by kernel_rfl) (by kernel_rfl) ?_
              refine k_done (k_skip_seq (k_seq ?_))
              refine runs_steal (D.sl (List.map nW (List.take at_ lN) ++ [[D.str a, D.str b, D.int IntKind.i64 v]]) (some (81 : Nat))) (by kernel_rfl) (by kernel_rfl) ?_
              refine rv (D.lptr (4 : Nat) (0 : Nat)) ?_
              refine rv (D.sl (List.map nW lN) none) ?_
              refine rv (D.int IntKind.i64 (↑at_ : Int)) ?_
              refine runs_sliceS (List.map nW lN) _ (o := none) (at_) (List.length (List.map nW lN)) (by kernel_rfl) (by kernel_rfl) (loD_nat (k := IntKind.i64) (by kernel_rfl)) (by kernel_rfl) (by simp [ints, eInt, rows, eInts, bools, eBool, trips, eTrip, i8s, u16s, u8s, acts]; omega) (by assumption) (by assumption) ?_
              refine runs_append (List.map nW (List.take at_ lN) ++ [[D.str a, D.str b, D.int IntKind.i64 v]]) (List.map nW (List.drop at_ lN)) (List.map nW (List.take at_ lN) ++ [[D.str a, D.str b, D.int IntKind.i64 v]] ++ List.map nW (List.drop at_ lN)) (by kernel_rfl) (by kernel_rfl) (by kernel_rfl) (by assumption) (by simp [nW, HeldR.cells, ints, eInt, rows, eInts, bools, eBool, trips, eTrip, i8s, u16s, u8s, acts, room]; omega) rfl ?_
              refine rv (D.lptr (4 : Nat) (0 : Nat)) ?_
              refine rgf (D.junk) ([]) ?_
              refine k_done (k_skip_seq (k_seq ?_))
              refine rv (D.agg [D.sl (List.map nW (List.take at_ lN) ++ [[D.str a, D.str b, D.int IntKind.i64 v]] ++ List.map nW (List.drop at_ lN)) none, D.sl (List.map HeldR.cells lH) none]) ?_
              refine rgf (D.junk) ([]) ?_
              refine rv (D.int IntKind.i64 (0 : Int)) ?_
              refine k_done (k_skip_seq (k_ret ?_))
              exact ⟨.inr rfl, by kernel_rfl, by rw [hrow]; kernel_rfl⟩
          · have hstop : ∀ h : at_ < lN.length, ltB (NodeR.name lN[at_]) (NodeR.name ⟨a, b, v, 0⟩) = false := fun h => absurd h c
            have hins := insK_at (key := NodeR.name) (x := ⟨a, b, v, 0⟩) at_ hat hlow hstop hne
            have hrow : (insK NodeR.name (⟨a, b, v, 0⟩ : NodeR) lN).map nW = (lN.take at_).map nW ++ [[D.str a, D.str b, D.int IntKind.i64 v]] ++ (lN.drop at_).map nW := by
              rw [← hins]
              simp [nW]
            have hall : ((List.map nW lN).all fun e => e.length == 3) = true := all_rows nW 3 (fun _ => rfl) _
            have hall1 : ((List.map nW (List.take at_ lN)).all fun e => e.length == 3) = true := all_rows nW 3 (fun _ => rfl) _
            have hall2 : ((List.map nW (List.drop at_ lN)).all fun e => e.length == 3) = true := all_rows nW 3 (fun _ => rfl) _
            have hs1 := take_rows nW lN at_
            have hs2 := drop_rows nW lN at_
            refine k_seq (k_seq ?_)
            refine rv (D.int IntKind.i64 (↑at_ : Int)) ?_
            refine rv (D.lptr (4 : Nat) (0 : Nat)) ?_
            refine rv (D.sl (List.map nW lN) none) ?_
            refine rve (D.int IntKind.i64 (↑(List.length (List.map nW lN)) : Int)) (.int IntKind.i64 ((↑(List.length lN) : Int))) (by simp only [ints, eInt, rows, eInts, bools, eBool, trips, eTrip, i8s, u16s, u8s, acts, List.length_map, nW, HeldR.cells]) ?_
            refine rv (D.bool (decide ((↑at_ : Int) < (↑(List.length lN) : Int)))) ?_
            refine rv (D.bool (decide ((↑at_ : Int) < (↑(List.length lN) : Int)))) ?_
            refine rkn 38 (decide ((↑at_ : Int) < (↑(List.length lN) : Int))) false (decide_eq_false (by omega)) ?_
            refine rno (rno (rno (rno (rno (rno (rno (rno (rno ?_))))))))
            refine rv (D.bool false) ?_
            refine k_done (k_skip_seq (kcf (k_exit_seq (k_exit_back (k_exit_hit rfl (k_skip_seq (k_seq ?_)))))))
            refine runs_steal (D.sl [] (some (81 : Nat))) (by kernel_rfl) (by kernel_rfl) ?_
            refine rv (D.lptr (4 : Nat) (0 : Nat)) ?_
            refine rv (D.sl (List.map nW lN) none) ?_
            refine rv (D.int IntKind.i64 (↑at_ : Int)) ?_
            refine runs_sliceS (List.map nW lN) _ (o := none) (0) (at_) (by kernel_rfl) (by kernel_rfl) (by kernel_rfl) (hiD_nat (k := IntKind.i64) (by kernel_rfl)) (by simp [ints, eInt, rows, eInts, bools, eBool, trips, eTrip, i8s, u16s, u8s, acts]; omega) (by assumption) (by assumption) ?_
            refine runs_append ([]) (List.map nW (List.take at_ lN)) (List.map nW (List.take at_ lN)) (by kernel_rfl) (by kernel_rfl) (by kernel_rfl) (by assumption) (by simp [nW, HeldR.cells, ints, eInt, rows, eInts, bools, eBool, trips, eTrip, i8s, u16s, u8s, acts, room]; omega) (List.nil_append _) ?_
            refine runs_assign (D.sl (List.map nW (List.take at_ lN)) (some (81 : Nat))) (by kernel_rfl) (by kernel_rfl) ?_
            refine k_done (k_skip_seq (k_seq ?_))
            refine runs_steal (D.sl (List.map nW (List.take at_ lN)) (some (81 : Nat))) (by kernel_rfl) (by kernel_rfl) ?_
            refine rv (D.str a) ?_
            refine rv (D.str b) ?_
            refine rv (D.int IntKind.i64 v) ?_
            refine rv (D.agg [D.str a, D.str b, D.int IntKind.i64 v]) ?_
            refine rv (D.sl [[D.str a, D.str b, D.int IntKind.i64 v]] (some (81 : Nat))) ?_
            refine runs_append (List.map nW (List.take at_ lN)) ([[D.str a, D.str b, D.int IntKind.i64 v]]) (List.map nW (List.take at_ lN) ++ [[D.str a, D.str b, D.int IntKind.i64 v]]) (by kernel_rfl) (by kernel_rfl) (by kernel_rfl) (by kernel_rfl) (by simp [nW, HeldR.cells, ints, eInt, rows, eInts, bools, eBool, trips, eTrip, i8s, u16s, u8s, acts, room]; omega) rfl ?_
            refine runs_assign (D.sl (List.map nW (List.take at_ lN) ++ [[D.str a, D.str b, D.int IntKind.i64 v]]) (some (81 : Nat))) (by kernel_rfl) (by kernel_rfl) ?_
            refine k_done (k_skip_seq (k_seq ?_))
            refine runs_steal (D.sl (List.map nW (List.take at_ lN) ++ [[D.str a, D.str b, D.int IntKind.i64 v]]) (some (81 : Nat))) (by kernel_rfl) (by kernel_rfl) ?_
            refine rv (D.lptr (4 : Nat) (0 : Nat)) ?_
            refine rv (D.sl (List.map nW lN) none) ?_
            refine rv (D.int IntKind.i64 (↑at_ : Int)) ?_
            refine runs_sliceS (List.map nW lN) _ (o := none) (at_) (List.length (List.map nW lN)) (by kernel_rfl) (by kernel_rfl) (loD_nat (k := IntKind.i64) (by kernel_rfl)) (by kernel_rfl) (by simp [ints, eInt, rows, eInts, bools, eBool, trips, eTrip, i8s, u16s, u8s, acts]; omega) (by assumption) (by assumption) ?_
            refine runs_append (List.map nW (List.take at_ lN) ++ [[D.str a, D.str b, D.int IntKind.i64 v]]) (List.map nW (List.drop at_ lN)) (List.map nW (List.take at_ lN) ++ [[D.str a, D.str b, D.int IntKind.i64 v]] ++ List.map nW (List.drop at_ lN)) (by kernel_rfl) (by kernel_rfl) (by kernel_rfl) (by assumption) (by simp [nW, HeldR.cells, ints, eInt, rows, eInts, bools, eBool, trips, eTrip, i8s, u16s, u8s, acts, room]; omega) rfl ?_
            refine rv (D.lptr (4 : Nat) (0 : Nat)) ?_
            refine rgf (D.junk) ([]) ?_
            refine k_done (k_skip_seq (k_seq ?_))
            refine rv (D.agg [D.sl (List.map nW (List.take at_ lN) ++ [[D.str a, D.str b, D.int IntKind.i64 v]] ++ List.map nW (List.drop at_ lN)) none, D.sl (List.map HeldR.cells lH) none]) ?_
            refine rgf (D.junk) ([]) ?_
            refine rv (D.int IntKind.i64 (0 : Int)) ?_
            refine k_done (k_skip_seq (k_ret ?_))
            exact ⟨.inr rfl, by kernel_rfl, by rw [hrow]; kernel_rfl⟩
        · rcases find_cases (n + 18) W.permN lH b (by omega) (by omega) with ⟨f3, hf3⟩ | ⟨i3, hi3, f3, f4, hf3⟩
          · have hq : addQ rs a b v = 60 := by unfold addQ; rw [if_neg c12, if_neg c3, if_pos ⟨c4, f3⟩]
            rw [hq, show addN rs lN a b v = lN by unfold addN; rw [hq]; rfl]
            unfold treeD
            refine k_seq ?_
            refine rgf (D.lptr (4 : Nat) (0 : Nat)) ([]) ?_
            refine rgf (D.lptr (8 : Nat) (0 : Nat)) ([]) ?_
            refine rv (D.int IntKind.i64 (0 : Int)) ?_
            refine k_done (k_skip_seq (k_seq (k_seq ?_)))
            refine rv (D.str a) ?_
            refine rv (D.bool (a == [])) ?_
            refine rv (D.bool (a == [])) ?_
            refine rkn 14 (a == []) false (beq_eq_false_iff_ne.2 (by assumption)) ?_
            refine rv (D.int IntKind.i64 v) ?_
            refine rv (D.bool (decide (v < (0 : Int)))) ?_
            refine rv (D.bool (decide (v < (0 : Int)))) ?_
            refine k_done (k_skip_seq ?_)
            refine rkn 17 (decide (v < (0 : Int))) false (decide_eq_false (by assumption)) ?_
            refine kcf (k_skip_seq (k_seq (k_seq ?_)))
            refine rv (D.agg [D.sl (List.map nW lN) none, D.sl (List.map HeldR.cells lH) none]) ?_
            refine rv (D.str a) ?_
            refine runs_call ([D.agg [D.sl (List.map nW lN) none, D.sl (List.map HeldR.cells lH) none], D.str a]) (by kernel_rfl) (by kernel_rfl) (by kernel_rfl) (by kernel_rfl) (hf1) (by kernel_rfl) ?_
            refine rv (D.bool false) ?_
            refine k_done (k_skip_seq (kcf (k_skip_seq (k_seq (k_seq ?_)))))
            refine rv (D.str b) ?_
            refine rv (D.bool !b == []) ?_
            refine rv (D.bool !b == []) ?_
            refine rkn 26 (!b == []) true (bne_iff_ne.2 (by assumption)) ?_
            refine rv (D.agg [D.sl (List.map nW lN) none, D.sl (List.map HeldR.cells lH) none]) ?_
            refine rv (D.str b) ?_
            refine runs_call ([D.agg [D.sl (List.map nW lN) none, D.sl (List.map HeldR.cells lH) none], D.str b]) (by kernel_rfl) (by kernel_rfl) (by kernel_rfl) (by kernel_rfl) (hf3) (by kernel_rfl) ?_
            refine rv (D.bool true) ?_
            refine rv (D.bool true) ?_
            refine k_done (k_skip_seq (kct (k_seq ?_)))
            refine rv (D.agg [D.sl (List.map nW lN) none, D.sl (List.map HeldR.cells lH) none]) ?_
            refine rgf (D.junk) ([]) ?_
            refine rv (D.int IntKind.i64 (60 : Int)) ?_
            refine k_done (k_skip_seq (k_ret ?_))
            exact ⟨.inr rfl, by kernel_rfl, by kernel_rfl⟩
          · have hq : addQ rs a b v = 0 := by unfold addQ; rw [if_neg c12, if_neg c3, if_neg (fun h => by rw [f4] at h; cases h.2)]
            rw [hq, show addN rs lN a b v = insK NodeR.name ⟨a, b, v, 0⟩ lN by unfold addN; rw [hq]; rfl]
            unfold treeD
            refine k_seq ?_
            refine rgf (D.lptr (4 : Nat) (0 : Nat)) ([]) ?_
            refine rgf (D.lptr (8 : Nat) (0 : Nat)) ([]) ?_
            refine rv (D.int IntKind.i64 (0 : Int)) ?_
            refine k_done (k_skip_seq (k_seq (k_seq ?_)))
            refine rv (D.str a) ?_
            refine rv (D.bool (a == [])) ?_
            refine rv (D.bool (a == [])) ?_
            refine rkn 14 (a == []) false (beq_eq_false_iff_ne.2 (by assumption)) ?_
            refine rv (D.int IntKind.i64 v) ?_
            refine rv (D.bool (decide (v < (0 : Int)))) ?_
            refine rv (D.bool (decide (v < (0 : Int)))) ?_
            refine k_done (k_skip_seq ?_)
            refine rkn 17 (decide (v < (0 : Int))) false (decide_eq_false (by assumption)) ?_
            refine kcf (k_skip_seq (k_seq (k_seq ?_)))
            refine rv (D.agg [D.sl (List.map nW lN) none, D.sl (List.map HeldR.cells lH) none]) ?_
            refine rv (D.str a) ?_
            refine runs_call ([D.agg [D.sl (List.map nW lN) none, D.sl (List.map HeldR.cells lH) none], D.str a]) (by kernel_rfl) (by kernel_rfl) (by kernel_rfl) (by kernel_rfl) (hf1) (by kernel_rfl) ?_
            refine rv (D.bool false) ?_
            refine k_done (k_skip_seq (kcf (k_skip_seq (k_seq (k_seq ?_)))))
            refine rv (D.str b) ?_
            refine rv (D.bool !b == []) ?_
            refine rv (D.bool !b == []) ?_
            refine rkn 26 (!b == []) true (bne_iff_ne.2 (by assumption)) ?_
            refine rv (D.agg [D.sl (List.map nW lN) none, D.sl (List.map HeldR.cells lH) none]) ?_
            refine rv (D.str b) ?_
            refine runs_call ([D.agg [D.sl (List.map nW lN) none, D.sl (List.map HeldR.cells lH) none], D.str b]) (by kernel_rfl) (by kernel_rfl) (by kernel_rfl) (by kernel_rfl) (hf3) (by kernel_rfl) ?_
            refine rv (D.bool false) ?_
            refine rv (D.bool false) ?_
            refine k_done (k_skip_seq (kcf (k_skip_seq (k_seq ?_))))
            refine rv (D.sl [] (some (81 : Nat))) ?_
            refine k_done (k_skip_seq (k_seq ?_))
            refine rv (D.int IntKind.i64 (0 : Int)) ?_
            refine k_done (k_skip_seq (k_seq (k_block ?_)))
            refine k_loop (fun i => h20 lN lH a b v i) (fun _ => []) (fun i => i ≤ lN.length ∧ ∀ j (h : j < lN.length), j < i → ltB lN[j].name a = true) (fun i => lN.length - i) 0 (by kernel_rfl) (by kernel_rfl) ⟨by simp, fun j _ h => absurd h (Nat.not_lt_zero _)⟩ (fun s hs => by omega) ?_
            rintro at_ ⟨hat, hlow⟩
            unfold h20 l20_0
            by_cases c : at_ < lN.length
            · have ht := texts_ok (n + 17) lN[at_].name a (by have := Z.sa _ (List.getElem_mem c); omega) (by have := Z.sa _ (List.getElem_mem c); have := Z.sm; omega)
              by_cases hlt : textI lN[at_].name a < 0
              · refine k_seq (k_seq ?_)
                refine rv (D.int IntKind.i64 (↑at_ : Int)) ?_
                refine rv (D.lptr (4 : Nat) (0 : Nat)) ?_
                refine rv (D.sl (List.map nW lN) none) ?_
                refine rve (D.int IntKind.i64 (↑(List.length (List.map nW lN)) : Int)) (.int IntKind.i64 ((↑(List.length lN) : Int))) (by simp only [ints, eInt, rows, eInts, bools, eBool, trips, eTrip, i8s, u16s, u8s, acts, List.length_map]) ?_
                refine rv (D.bool (decide ((↑at_ : Int) < (↑(List.length lN) : Int)))) ?_
                refine rv (D.bool (decide ((↑at_ : Int) < (↑(List.length lN) : Int)))) ?_
                refine rkn 38 (decide ((↑at_ : Int) < (↑(List.length lN) : Int))) true (decide_eq_true (by omega)) ?_
                refine rv (D.lptr (4 : Nat) (0 : Nat)) ?_
                refine rv (D.sl (List.map nW lN) none) ?_
                refine rv (D.int IntKind.i64 (↑at_ : Int)) ?_
                refine runs_index (lN) (nW) (o := none) (kd := IntKind.i64) (at_) (by kernel_rfl) (by kernel_rfl) (by kernel_rfl) (by assumption) (by kernel_rfl) ?_
                refine rv (D.ref [D.str (NodeR.name lN[at_]), D.str (NodeR.parent lN[at_]), D.int IntKind.i64 (NodeR.limit lN[at_])]) ?_
                refine rv (D.str (NodeR.name lN[at_])) ?_
                refine rv (D.str a) ?_
                refine runs_call ([D.str (NodeR.name lN[at_]), D.str a]) (by kernel_rfl) (by kernel_rfl) (by kernel_rfl) (by kernel_rfl) (ht) (by kernel_rfl) ?_
                refine rv (D.bool (decide (textI (NodeR.name lN[at_]) a < (0 : Int)))) ?_
                refine rv (D.bool (decide (textI (NodeR.name lN[at_]) a < (0 : Int)))) ?_
                refine k_done (k_skip_seq ?_)
                refine rkn 48 (decide (textI (NodeR.name lN[at_]) a < (0 : Int))) true (decide_eq_true (by assumption)) ?_
                refine kct (k_skip_seq (k_block ?_))
                refine rv (D.int IntKind.i64 (↑at_ : Int)) ?_
                refine rve (D.int IntKind.i64 (IntKind.wrap IntKind.i64 ((↑at_ : Int) + (1 : Int)))) (.int IntKind.i64 ((at_ + 1 : Nat) : Int)) (congrArg (D.int IntKind.i64) (show IntKind.wrap IntKind.i64 ((↑at_ : Int) + (1 : Int)) = ((at_ + 1 : Nat) : Int) from wrap_eq (by omega) (by omega) (by omega))) ?_
                refine ra0 (D.int IntKind.i64 (↑(at_ + (1 : Nat)) : Int)) ?_
                refine k_done (k_skip_block (k_skip_back ?_))
                exact ⟨at_ + 1, ⟨c, fun j hj hj2 => by by_cases e : j = at_; (subst e; exact (textI_neg _ _).1 hlt); exact hlow j hj (by omega)⟩, by omega, by kernel_rfl, rfl⟩
              · have hstop : ∀ h : at_ < lN.length, ltB (NodeR.name lN[at_]) (NodeR.name ⟨a, b, v, 0⟩) = false := fun _ => by
                  cases hh : ltB lN[at_].name a with
                  | false => rfl
                  | true => exact absurd ((textI_neg _ _).2 hh) hlt
                have hins := insK_at (key := NodeR.name) (x := ⟨a, b, v, 0⟩) at_ hat hlow hstop hne
                have hrow : (insK NodeR.name (⟨a, b, v, 0⟩ : NodeR) lN).map nW = (lN.take at_).map nW ++ [[D.str a, D.str b, D.int IntKind.i64 v]] ++ (lN.drop at_).map nW := by
                  rw [← hins]
                  simp [nW]
                have hall : ((List.map nW lN).all fun e => e.length == 3) = true := all_rows nW 3 (fun _ => rfl) _
                have hall1 : ((List.map nW (List.take at_ lN)).all fun e => e.length == 3) = true := all_rows nW 3 (fun _ => rfl) _
                have hall2 : ((List.map nW (List.drop at_ lN)).all fun e => e.length == 3) = true := all_rows nW 3 (fun _ => rfl) _
                have hs1 := take_rows nW lN at_
                have hs2 := drop_rows nW lN at_
                refine k_seq (k_seq ?_)
                refine rv (D.int IntKind.i64 (↑at_ : Int)) ?_
                refine rv (D.lptr (4 : Nat) (0 : Nat)) ?_
                refine rv (D.sl (List.map nW lN) none) ?_
                refine rve (D.int IntKind.i64 (↑(List.length (List.map nW lN)) : Int)) (.int IntKind.i64 ((↑(List.length lN) : Int))) (by simp only [ints, eInt, rows, eInts, bools, eBool, trips, eTrip, i8s, u16s, u8s, acts, List.length_map, nW, HeldR.cells]) ?_
                refine rv (D.bool (decide ((↑at_ : Int) < (↑(List.length lN) : Int)))) ?_
                refine rv (D.bool (decide ((↑at_ : Int) < (↑(List.length lN) : Int)))) ?_
                refine rkn 38 (decide ((↑at_ : Int) < (↑(List.length lN) : Int))) true (decide_eq_true (by omega)) ?_
                refine rv (D.lptr (4 : Nat) (0 : Nat)) ?_
                refine rv (D.sl (List.map nW lN) none) ?_
                refine rv (D.int IntKind.i64 (↑at_ : Int)) ?_
                refine runs_index (lN) (nW) (o := none) (kd := IntKind.i64) (at_) (by kernel_rfl) (by kernel_rfl) (by kernel_rfl) (by assumption) (by kernel_rfl) ?_
                refine rv (D.ref [D.str (NodeR.name lN[at_]), D.str (NodeR.parent lN[at_]), D.int IntKind.i64 (NodeR.limit lN[at_])]) ?_
                refine rv (D.str (NodeR.name lN[at_])) ?_
                refine rv (D.str a) ?_
                refine runs_call ([D.str (NodeR.name lN[at_]), D.str a]) (by kernel_rfl) (by kernel_rfl) (by kernel_rfl) (by kernel_rfl) (ht) (by kernel_rfl) ?_
                refine rv (D.bool (decide (textI (NodeR.name lN[at_]) a < (0 : Int)))) ?_
                refine rv (D.bool (decide (textI (NodeR.name lN[at_]) a < (0 : Int)))) ?_
                refine k_done (k_skip_seq ?_)
                refine rkn 48 (decide (textI (NodeR.name lN[at_]) a < (0 : Int))) false (decide_eq_false (by assumption)) ?_
                refine kcf (k_exit_seq (k_exit_back (k_exit_hit rfl (k_skip_seq (k_seq ?_)))))
                refine runs_steal (D.sl [] (some (81 : Nat))) (by kernel_rfl) (by kernel_rfl) ?_
                refine rv (D.lptr (4 : Nat) (0 : Nat)) ?_
                refine rv (D.sl (List.map nW lN) none) ?_
                refine rv (D.int IntKind.i64 (↑at_ : Int)) ?_
                refine runs_sliceS (List.map nW lN) _ (o := none) (0) (at_) (by kernel_rfl) (by kernel_rfl) (by kernel_rfl) (hiD_nat (k := IntKind.i64) (by kernel_rfl)) (by simp [ints, eInt, rows, eInts, bools, eBool, trips, eTrip, i8s, u16s, u8s, acts]; omega) (by assumption) (by assumption) ?_
                refine runs_append ([]) (List.map nW (List.take at_ lN)) (List.map nW (List.take at_ lN)) (by kernel_rfl) (by kernel_rfl) (by kernel_rfl) (by assumption) (by simp [nW, HeldR.cells, ints, eInt, rows, eInts, bools, eBool, trips, eTrip, i8s, u16s, u8s, acts, room]; omega) (List.nil_append _) ?_
                refine runs_assign (D.sl (List.map nW (List.take at_ lN)) (some (81 : Nat))) (by kernel_rfl) (by kernel_rfl) ?_
                refine k_done (k_skip_seq (k_seq ?_))
                refine runs_steal (D.sl (List.map nW (List.take at_ lN)) (some (81 : Nat))) (by kernel_rfl) (by kernel_rfl) ?_
                refine rv (D.str a) ?_
                refine rv (D.str b) ?_
                refine rv (D.int IntKind.i64 v) ?_
                refine rv (D.agg [D.str a, D.str b, D.int IntKind.i64 v]) ?_
                refine rv (D.sl [[D.str a, D.str b, D.int IntKind.i64 v]] (some (81 : Nat))) ?_
                refine runs_append (List.map nW (List.take at_ lN)) ([[D.str a, D.str b, D.int IntKind.i64 v]]) (List.map nW (List.take at_ lN) ++ [[D.str a, D.str b, D.int IntKind.i64 v]]) (by kernel_rfl) (by kernel_rfl) (by kernel_rfl) (by kernel_rfl) (by simp [nW, HeldR.cells, ints, eInt, rows, eInts, bools, eBool, trips, eTrip, i8s, u16s, u8s, acts, room]; omega) rfl ?_
                refine runs_assign (D.sl (List.map nW (List.take at_ lN) ++ [[D.str a, D.str b, D.int IntKind.i64 v]]) (some (81 : Nat))) (by kernel_rfl) (by kernel_rfl) ?_
                refine k_done (k_skip_seq (k_seq ?_))
                refine runs_steal (D.sl (List.map nW (List.take at_ lN) ++ [[D.str a, D.str b, D.int IntKind.i64 v]]) (some (81 : Nat))) (by kernel_rfl) (by kernel_rfl) ?_
                refine rv (D.lptr (4 : Nat) (0 : Nat)) ?_
                refine rv (D.sl (List.map nW lN) none) ?_
                refine rv (D.int IntKind.i64 (↑at_ : Int)) ?_
                refine runs_sliceS (List.map nW lN) _ (o := none) (at_) (List.length (List.map nW lN)) (by kernel_rfl) (by kernel_rfl) (loD_nat (k := IntKind.i64) (by kernel_rfl)) (by kernel_rfl) (by simp [ints, eInt, rows, eInts, bools, eBool, trips, eTrip, i8s, u16s, u8s, acts]; omega) (by assumption) (by assumption) ?_
                refine runs_append (List.map nW (List.take at_ lN) ++ [[D.str a, D.str b, D.int IntKind.i64 v]]) (List.map nW (List.drop at_ lN)) (List.map nW (List.take at_ lN) ++ [[D.str a, D.str b, D.int IntKind.i64 v]] ++ List.map nW (List.drop at_ lN)) (by kernel_rfl) (by kernel_rfl) (by kernel_rfl) (by assumption) (by simp [nW, HeldR.cells, ints, eInt, rows, eInts, bools, eBool, trips, eTrip, i8s, u16s, u8s, acts, room]; omega) rfl ?_
                refine rv (D.lptr (4 : Nat) (0 : Nat)) ?_
                refine rgf (D.junk) ([]) ?_
                refine k_done (k_skip_seq (k_seq ?_))
                refine rv (D.agg [D.sl (List.map nW (List.take at_ lN) ++ [[D.str a, D.str b, D.int IntKind.i64 v]] ++ List.map nW (List.drop at_ lN)) none, D.sl (List.map HeldR.cells lH) none]) ?_
                refine rgf (D.junk) ([]) ?_
                refine rv (D.int IntKind.i64 (0 : Int)) ?_
                refine k_done (k_skip_seq (k_ret ?_))
                exact ⟨.inr rfl, by kernel_rfl, by rw [hrow]; kernel_rfl⟩
            · have hstop : ∀ h : at_ < lN.length, ltB (NodeR.name lN[at_]) (NodeR.name ⟨a, b, v, 0⟩) = false := fun h => absurd h c
              have hins := insK_at (key := NodeR.name) (x := ⟨a, b, v, 0⟩) at_ hat hlow hstop hne
              have hrow : (insK NodeR.name (⟨a, b, v, 0⟩ : NodeR) lN).map nW = (lN.take at_).map nW ++ [[D.str a, D.str b, D.int IntKind.i64 v]] ++ (lN.drop at_).map nW := by
                rw [← hins]
                simp [nW]
              have hall : ((List.map nW lN).all fun e => e.length == 3) = true := all_rows nW 3 (fun _ => rfl) _
              have hall1 : ((List.map nW (List.take at_ lN)).all fun e => e.length == 3) = true := all_rows nW 3 (fun _ => rfl) _
              have hall2 : ((List.map nW (List.drop at_ lN)).all fun e => e.length == 3) = true := all_rows nW 3 (fun _ => rfl) _
              have hs1 := take_rows nW lN at_
              have hs2 := drop_rows nW lN at_
              refine k_seq (k_seq ?_)
              refine rv (D.int IntKind.i64 (↑at_ : Int)) ?_
              refine rv (D.lptr (4 : Nat) (0 : Nat)) ?_
              refine rv (D.sl (List.map nW lN) none) ?_
              refine rve (D.int IntKind.i64 (↑(List.length (List.map nW lN)) : Int)) (.int IntKind.i64 ((↑(List.length lN) : Int))) (by simp only [ints, eInt, rows, eInts, bools, eBool, trips, eTrip, i8s, u16s, u8s, acts, List.length_map, nW, HeldR.cells]) ?_
              refine rv (D.bool (decide ((↑at_ : Int) < (↑(List.length lN) : Int)))) ?_
              refine rv (D.bool (decide ((↑at_ : Int) < (↑(List.length lN) : Int)))) ?_
              refine rkn 38 (decide ((↑at_ : Int) < (↑(List.length lN) : Int))) false (decide_eq_false (by omega)) ?_
              refine rno (rno (rno (rno (rno (rno (rno (rno (rno ?_))))))))
              refine rv (D.bool false) ?_
              refine k_done (k_skip_seq (kcf (k_exit_seq (k_exit_back (k_exit_hit rfl (k_skip_seq (k_seq ?_)))))))
              refine runs_steal (D.sl [] (some (81 : Nat))) (by kernel_rfl) (by kernel_rfl) ?_
              refine rv (D.lptr (4 : Nat) (0 : Nat)) ?_
              refine rv (D.sl (List.map nW lN) none) ?_
              refine rv (D.int IntKind.i64 (↑at_ : Int)) ?_
              refine runs_sliceS (List.map nW lN) _ (o := none) (0) (at_) (by kernel_rfl) (by kernel_rfl) (by kernel_rfl) (hiD_nat (k := IntKind.i64) (by kernel_rfl)) (by simp [ints, eInt, rows, eInts, bools, eBool, trips, eTrip, i8s, u16s, u8s, acts]; omega) (by assumption) (by assumption) ?_
              refine runs_append ([]) (List.map nW (List.take at_ lN)) (List.map nW (List.take at_ lN)) (by kernel_rfl) (by kernel_rfl) (by kernel_rfl) (by assumption) (by simp [nW, HeldR.cells, ints, eInt, rows, eInts, bools, eBool, trips, eTrip, i8s, u16s, u8s, acts, room]; omega) (List.nil_append _) ?_
              refine runs_assign (D.sl (List.map nW (List.take at_ lN)) (some (81 : Nat))) (by kernel_rfl) (by kernel_rfl) ?_
              refine k_done (k_skip_seq (k_seq ?_))
              refine runs_steal (D.sl (List.map nW (List.take at_ lN)) (some (81 : Nat))) (by kernel_rfl) (by kernel_rfl) ?_
              refine rv (D.str a) ?_
              refine rv (D.str b) ?_
              refine rv (D.int IntKind.i64 v) ?_
              refine rv (D.agg [D.str a, D.str b, D.int IntKind.i64 v]) ?_
              refine rv (D.sl [[D.str a, D.str b, D.int IntKind.i64 v]] (some (81 : Nat))) ?_
              refine runs_append (List.map nW (List.take at_ lN)) ([[D.str a, D.str b, D.int IntKind.i64 v]]) (List.map nW (List.take at_ lN) ++ [[D.str a, D.str b, D.int IntKind.i64 v]]) (by kernel_rfl) (by kernel_rfl) (by kernel_rfl) (by kernel_rfl) (by simp [nW, HeldR.cells, ints, eInt, rows, eInts, bools, eBool, trips, eTrip, i8s, u16s, u8s, acts, room]; omega) rfl ?_
              refine runs_assign (D.sl (List.map nW (List.take at_ lN) ++ [[D.str a, D.str b, D.int IntKind.i64 v]]) (some (81 : Nat))) (by kernel_rfl) (by kernel_rfl) ?_
              refine k_done (k_skip_seq (k_seq ?_))
              refine runs_steal (D.sl (List.map nW (List.take at_ lN) ++ [[D.str a, D.str b, D.int IntKind.i64 v]]) (some (81 : Nat))) (by kernel_rfl) (by kernel_rfl) ?_
              refine rv (D.lptr (4 : Nat) (0 : Nat)) ?_
              refine rv (D.sl (List.map nW lN) none) ?_
              refine rv (D.int IntKind.i64 (↑at_ : Int)) ?_
              refine runs_sliceS (List.map nW lN) _ (o := none) (at_) (List.length (List.map nW lN)) (by kernel_rfl) (by kernel_rfl) (loD_nat (k := IntKind.i64) (by kernel_rfl)) (by kernel_rfl) (by simp [ints, eInt, rows, eInts, bools, eBool, trips, eTrip, i8s, u16s, u8s, acts]; omega) (by assumption) (by assumption) ?_
              refine runs_append (List.map nW (List.take at_ lN) ++ [[D.str a, D.str b, D.int IntKind.i64 v]]) (List.map nW (List.drop at_ lN)) (List.map nW (List.take at_ lN) ++ [[D.str a, D.str b, D.int IntKind.i64 v]] ++ List.map nW (List.drop at_ lN)) (by kernel_rfl) (by kernel_rfl) (by kernel_rfl) (by assumption) (by simp [nW, HeldR.cells, ints, eInt, rows, eInts, bools, eBool, trips, eTrip, i8s, u16s, u8s, acts, room]; omega) rfl ?_
              refine rv (D.lptr (4 : Nat) (0 : Nat)) ?_
              refine rgf (D.junk) ([]) ?_
              refine k_done (k_skip_seq (k_seq ?_))
              refine rv (D.agg [D.sl (List.map nW (List.take at_ lN) ++ [[D.str a, D.str b, D.int IntKind.i64 v]] ++ List.map nW (List.drop at_ lN)) none, D.sl (List.map HeldR.cells lH) none]) ?_
              refine rgf (D.junk) ([]) ?_
              refine rv (D.int IntKind.i64 (0 : Int)) ?_
              refine k_done (k_skip_seq (k_ret ?_))
              exact ⟨.inr rfl, by kernel_rfl, by rw [hrow]; kernel_rfl⟩
      · have hq : addQ rs a b v = 13 := by unfold addQ; rw [if_neg c12, if_pos f2]
        rw [hq, show addN rs lN a b v = lN by unfold addN; rw [hq]; rfl]
        unfold treeD
        refine k_seq ?_
        refine rgf (D.lptr (4 : Nat) (0 : Nat)) ([]) ?_
        refine rgf (D.lptr (8 : Nat) (0 : Nat)) ([]) ?_
        refine rv (D.int IntKind.i64 (0 : Int)) ?_
        refine k_done (k_skip_seq (k_seq (k_seq ?_)))
        refine rv (D.str a) ?_
        refine rv (D.bool (a == [])) ?_
        refine rv (D.bool (a == [])) ?_
        refine rkn 14 (a == []) false (beq_eq_false_iff_ne.2 (by assumption)) ?_
        refine rv (D.int IntKind.i64 v) ?_
        refine rv (D.bool (decide (v < (0 : Int)))) ?_
        refine rv (D.bool (decide (v < (0 : Int)))) ?_
        refine k_done (k_skip_seq ?_)
        refine rkn 17 (decide (v < (0 : Int))) false (decide_eq_false (by assumption)) ?_
        refine kcf (k_skip_seq (k_seq (k_seq ?_)))
        refine rv (D.agg [D.sl (List.map nW lN) none, D.sl (List.map HeldR.cells lH) none]) ?_
        refine rv (D.str a) ?_
        refine runs_call ([D.agg [D.sl (List.map nW lN) none, D.sl (List.map HeldR.cells lH) none], D.str a]) (by kernel_rfl) (by kernel_rfl) (by kernel_rfl) (by kernel_rfl) (hf1) (by kernel_rfl) ?_
        refine rv (D.bool true) ?_
        refine k_done (k_skip_seq (kct (k_seq ?_)))
        refine rv (D.agg [D.sl (List.map nW lN) none, D.sl (List.map HeldR.cells lH) none]) ?_
        refine rgf (D.junk) ([]) ?_
        refine rv (D.int IntKind.i64 (13 : Int)) ?_
        refine k_done (k_skip_seq (k_ret ?_))
        exact ⟨.inr rfl, by kernel_rfl, by kernel_rfl⟩
end Go.Abs.C
