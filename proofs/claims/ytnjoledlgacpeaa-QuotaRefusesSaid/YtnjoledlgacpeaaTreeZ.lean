import Derived.Test.YtnjoledlgacpeaaKont2
import Derived.Test.YtnjoledlgacpeaaTreeY
set_option linter.unusedVariables false
set_option linter.unusedSimpArgs false
/-
  The plain model's other operations, as the machine code sees them.
-/
namespace Go.Abs.C
open Go Go.Abs
set_option maxRecDepth 8000
attribute [local irreducible] callN runC evalOp
def resH (rs : List NodeR) (hs lH : List HeldR) (node id : Nm) (v : Int) : List HeldR := if resQ rs hs node id v = 0 then insK HeldR.id ⟨id, node, v⟩ lH else lH
def h21a (lN : List NodeR) (lH : List HeldR) (node id : Nm) (v : Int) (i : Nat) : Fr := ⟨[.agg [.sl (lN.map nW) none, .sl (lH.map HeldR.cells) none], .str node, .str id, .int .i64 v, .lptr 4 0, .junk, .junk, .junk, .lptr 8 0, .int .i64 0, .int .i64 i] ++ List.replicate 105 .junk,
  [none, none, none, none, some [.sl (lN.map nW) none, .sl (lH.map HeldR.cells) none], none, none, none, some [.sl [] (some 81), .sl [] (some 83)]] ++ List.replicate 107 none, []⟩
def h21b (lN : List NodeR) (lH : List HeldR) (node id : Nm) (v : Int) (i at_ : Nat) : Fr := ⟨[.agg [.sl (lN.map nW) none, .sl (lH.map HeldR.cells) none], .str node, .str id, .int .i64 v, .lptr 4 0, .junk, .junk, .junk, .lptr 8 0, .int .i64 0, .int .i64 i, .junk, .junk, .junk, .sl [] (some 83), .int .i64 at_] ++ List.replicate 100 .junk,
  [none, none, none, none, some [.sl (lN.map nW) none, .sl (lH.map HeldR.cells) none], none, none, none, some [.sl [] (some 81), .sl [] (some 83)]] ++ List.replicate 107 none, []⟩
theorem bad_true {rs lN : List NodeR} (hN : lN.Perm rs) {node : Nm} {v : Int} {i : Nat} (c : i < lN.length) (hm : lN[i].name ∈ lineP (npR rs) node) (h : lN[i].limit - lN[i].used < v) : resBad rs node v = true := by
  unfold resBad
  rw [List.any_eq_true]
  exact ⟨lN[i], hN.subset (List.getElem_mem c), by simp [hm, h]⟩
theorem bad_false {rs lN : List NodeR} (hN : lN.Perm rs) {node : Nm} {v : Int} (h : ∀ j (hj : j < lN.length), lN[j].name ∈ lineP (npR rs) node → v ≤ lN[j].limit - lN[j].used) : resBad rs node v = false := by
  unfold resBad
  rw [List.any_eq_false]
  intro r hr
  obtain ⟨j, hj, e⟩ := List.getElem_of_mem (hN.symm.subset hr)
  have := h j hj
  rw [e] at this
  by_cases hm : r.name ∈ lineP (npR rs) node
  · have := this hm
    simp [hm]
    omega
  · simp [hm]
theorem res21_ok (n : Nat) {rs lN : List NodeR} {hs lH : List HeldR} (W : WInv rs hs lN lH) (Z : Sz n lN lH) (node id : Nm) (v : Int) (hv : v ≤ 9223372036854775807) :
    callN T (n + 20) 21 [treeD lN lH, .str node, .str id, .int .i64 v] [] = some (.tup [treeD lN (resH rs hs lH node id v), .int .i64 (resQ rs hs node id v)], []) := by
  have hlN := Z.sN
  have hlH := Z.sH
  have hn1 := Z.sn
  refine call_of (m := m21) rfl rfl (by decide) (k_start ?_)
  unfold m21
  by_cases c1 : id = []
  · have hq : resQ rs hs node id v = 1 := by unfold resQ; rw [if_pos (.inl c1)]
    rw [hq, show resH rs hs lH node id v = lH by unfold resH; rw [hq]; rfl]
    unfold treeD
    refine k_seq ?_
    refine rgf (D.lptr (4 : Nat) (0 : Nat)) ([]) ?_
    refine rgf (D.lptr (8 : Nat) (0 : Nat)) ([]) ?_
    refine rv (D.int IntKind.i64 (0 : Int)) ?_
    refine k_done (k_skip_seq (k_seq (k_seq ?_)))
    refine rv (D.str id) ?_
    refine rv (D.bool (id == [])) ?_
    refine rv (D.bool (id == [])) ?_
    refine rkn 18 (id == []) true (beq_iff_eq.2 (by assumption)) ?_
    refine rno (rno ?_)
    refine rv (D.bool true) ?_
    refine k_done (k_skip_seq (kct (k_seq ?_)))
    refine rv (D.agg [D.sl (List.map nW lN) none, D.sl (List.map HeldR.cells lH) none]) ?_
    refine rgf (D.junk) ([]) ?_
    refine rv (D.int IntKind.i64 (1 : Int)) ?_
    refine k_done (k_skip_seq (k_ret ?_))
    exact ⟨.inr rfl, by kernel_rfl, by kernel_rfl⟩
  · by_cases c2 : v < 1
    · have hq : resQ rs hs node id v = 1 := by unfold resQ; rw [if_pos (.inr c2)]
      rw [hq, show resH rs hs lH node id v = lH by unfold resH; rw [hq]; rfl]
      unfold treeD
      refine k_seq ?_
      refine rgf (D.lptr (4 : Nat) (0 : Nat)) ([]) ?_
      refine rgf (D.lptr (8 : Nat) (0 : Nat)) ([]) ?_
      refine rv (D.int IntKind.i64 (0 : Int)) ?_
      refine k_done (k_skip_seq (k_seq (k_seq ?_)))
      refine rv (D.str id) ?_
      refine rv (D.bool (id == [])) ?_
      refine rv (D.bool (id == [])) ?_
      refine rkn 18 (id == []) false (beq_eq_false_iff_ne.2 (by assumption)) ?_
      refine rv (D.int IntKind.i64 v) ?_
      refine rv (D.bool (decide (v < (1 : Int)))) ?_
      refine rv (D.bool (decide (v < (1 : Int)))) ?_
      refine k_done (k_skip_seq ?_)
      refine rkn 21 (decide (v < (1 : Int))) true (decide_eq_true (by assumption)) ?_
      refine kct (k_seq ?_)
      refine rv (D.agg [D.sl (List.map nW lN) none, D.sl (List.map HeldR.cells lH) none]) ?_
      refine rgf (D.junk) ([]) ?_
      refine rv (D.int IntKind.i64 (1 : Int)) ?_
      refine k_done (k_skip_seq (k_ret ?_))
      exact ⟨.inr rfl, by kernel_rfl, by kernel_rfl⟩
    · have c12 : ¬ (id = [] ∨ v < 1) := by rw [not_or]; exact ⟨c1, c2⟩
      rcases find_cases (n + 18) W.permN lH node (by omega) (by omega) with ⟨f1, hf1⟩ | ⟨i1, hi1, f1, f2, hf1⟩
      · have hq : resQ rs hs node id v = 60 := by unfold resQ; rw [if_neg c12, if_pos f1]
        rw [hq, show resH rs hs lH node id v = lH by unfold resH; rw [hq]; rfl]
        unfold treeD
        refine k_seq ?_
        refine rgf (D.lptr (4 : Nat) (0 : Nat)) ([]) ?_
        refine rgf (D.lptr (8 : Nat) (0 : Nat)) ([]) ?_
        refine rv (D.int IntKind.i64 (0 : Int)) ?_
        refine k_done (k_skip_seq (k_seq (k_seq ?_)))
        refine rv (D.str id) ?_
        refine rv (D.bool (id == [])) ?_
        refine rv (D.bool (id == [])) ?_
        refine rkn 18 (id == []) false (beq_eq_false_iff_ne.2 (by assumption)) ?_
        refine rv (D.int IntKind.i64 v) ?_
        refine rv (D.bool (decide (v < (1 : Int)))) ?_
        refine rv (D.bool (decide (v < (1 : Int)))) ?_
        refine k_done (k_skip_seq ?_)
        refine rkn 21 (decide (v < (1 : Int))) false (decide_eq_false (by assumption)) ?_
        refine kcf (k_skip_seq (k_seq (k_seq ?_)))
        refine rv (D.agg [D.sl (List.map nW lN) none, D.sl (List.map HeldR.cells lH) none]) ?_
        refine rv (D.str node) ?_
        refine runs_call ([D.agg [D.sl (List.map nW lN) none, D.sl (List.map HeldR.cells lH) none], D.str node]) (by kernel_rfl) (by kernel_rfl) (by kernel_rfl) (by kernel_rfl) (hf1) (by kernel_rfl) ?_
        refine rv (D.bool true) ?_
        refine k_done (k_skip_seq (kct (k_seq ?_)))
        refine rv (D.agg [D.sl (List.map nW lN) none, D.sl (List.map HeldR.cells lH) none]) ?_
        refine rgf (D.junk) ([]) ?_
        refine rv (D.int IntKind.i64 (60 : Int)) ?_
        refine k_done (k_skip_seq (k_ret ?_))
        exact ⟨.inr rfl, by kernel_rfl, by kernel_rfl⟩
      · have c3 : ¬ hasR rs node = false := by rw [f2]; decide
        rcases held_cases (n + 18) W.permH lN id (by omega) (by omega) with ⟨g1, hg1⟩ | ⟨i2, hi2, g1, g2, hg1⟩
        · have c4 : ¬ (findH hs id).isSome = true := by rw [g1]; decide
          have hbad : resBad rs node v = true → resQ rs hs node id v = 61 ∧ resH rs hs lH node id v = lH := fun hb => by
            have hq : resQ rs hs node id v = 61 := by unfold resQ; rw [if_neg c12, if_neg c3, if_neg c4, if_pos hb]
            exact ⟨hq, by unfold resH; rw [hq]; rfl⟩
          have hgood : resBad rs node v = false → resQ rs hs node id v = 0 ∧ resH rs hs lH node id v = insK HeldR.id ⟨id, node, v⟩ lH := fun hb => by
            have hq : resQ rs hs node id v = 0 := by unfold resQ; rw [if_neg c12, if_neg c3, if_neg c4, if_neg (by rw [hb]; decide)]
            exact ⟨hq, by unfold resH; rw [hq]; rfl⟩
          unfold treeD
          refine k_seq ?_
          refine rgf (D.lptr (4 : Nat) (0 : Nat)) ([]) ?_
          refine rgf (D.lptr (8 : Nat) (0 : Nat)) ([]) ?_
          refine rv (D.int IntKind.i64 (0 : Int)) ?_
          refine k_done (k_skip_seq (k_seq (k_seq ?_)))
          refine rv (D.str id) ?_
          refine rv (D.bool (id == [])) ?_
          refine rv (D.bool (id == [])) ?_
          refine rkn 18 (id == []) false (beq_eq_false_iff_ne.2 (by assumption)) ?_
          refine rv (D.int IntKind.i64 v) ?_
          refine rv (D.bool (decide (v < (1 : Int)))) ?_
          refine rv (D.bool (decide (v < (1 : Int)))) ?_
          refine k_done (k_skip_seq ?_)
          refine rkn 21 (decide (v < (1 : Int))) false (decide_eq_false (by assumption)) ?_
          refine kcf (k_skip_seq (k_seq (k_seq ?_)))
          refine rv (D.agg [D.sl (List.map nW lN) none, D.sl (List.map HeldR.cells lH) none]) ?_
          refine rv (D.str node) ?_
          refine runs_call ([D.agg [D.sl (List.map nW lN) none, D.sl (List.map HeldR.cells lH) none], D.str node]) (by kernel_rfl) (by kernel_rfl) (by kernel_rfl) (by kernel_rfl) (hf1) (by kernel_rfl) ?_
          refine rv (D.bool false) ?_
          refine k_done (k_skip_seq (kcf (k_skip_seq (k_seq (k_seq ?_)))))
          refine rv (D.agg [D.sl (List.map nW lN) none, D.sl (List.map HeldR.cells lH) none]) ?_
          refine rv (D.str id) ?_
          refine runs_call ([D.agg [D.sl (List.map nW lN) none, D.sl (List.map HeldR.cells lH) none], D.str id]) (by kernel_rfl) (by kernel_rfl) (by kernel_rfl) (by kernel_rfl) (hg1) (by kernel_rfl) ?_
          refine rv (D.bool false) ?_
          refine k_done (k_skip_seq (kcf (k_skip_seq (k_seq (k_seq ?_)))))
          refine rv (D.int IntKind.i64 (0 : Int)) ?_
          refine k_done (k_skip_seq (k_block ?_))
          refine k_loop (fun i => h21a lN lH node id v i) (fun _ => []) (fun i => i ≤ lN.length ∧ ∀ j (h : j < lN.length), j < i → lN[j].name ∈ lineP (npR rs) node → v ≤ lN[j].limit - lN[j].used) (fun i => lN.length - i) 0 (by kernel_rfl) (by kernel_rfl) ⟨by simp, fun j _ h => absurd h (Nat.not_lt_zero _)⟩ (fun s hs => by omega) ?_
          rintro i ⟨hi, hlim⟩
          unfold h21a l21_0
          by_cases c : i < lN.length
          · have hmem := W.permN.subset (List.getElem_mem c)
            have hu := under_ok (n + 17) W.p W.permN (lH := lH) node lN[i].name f2 (by omega) (by omega)
            by_cases hm : lN[i].name ∈ lineP (npR rs) node
            · rw [decide_eq_true hm] at hu
              have hus := used_ok (n + 16) W.p W.permN W.permH lN[i].name (hasR_mem hmem) (by omega) (by omega) (by omega) (by omega)
              obtain ⟨u1, u2, u3⟩ := W.p.u _ hmem
              obtain ⟨u4, u5, u6⟩ := used_range W.p hmem
              rw [sumAt_perm W.permH, ← u1] at hus
              have had := add01_ok (n + 10) lN[i].used v u4 (by omega) (by omega) hv
              by_cases c5 : lN[i].used + v ≤ 9223372036854775807
              · rw [if_pos c5] at had
                by_cases c6 : lN[i].used + v > lN[i].limit
                · obtain ⟨q1, q2⟩ := hbad (bad_true W.permN c hm (by omega))
                  refine k_seq (k_seq ?_)
                  refine rv (D.int IntKind.i64 (↑i : Int)) ?_
                  refine rv (D.lptr (4 : Nat) (0 : Nat)) ?_
                  refine rv (D.sl (List.map nW lN) none) ?_
                  refine rve (D.int IntKind.i64 (↑(List.length (List.map nW lN)) : Int)) (.int IntKind.i64 ((↑(List.length lN) : Int))) (by simp only [ints, eInt, rows, eInts, bools, eBool, trips, eTrip, i8s, u16s, u8s, acts, List.length_map]) ?_
                  refine rv (D.bool (decide ((↑i : Int) < (↑(List.length lN) : Int)))) ?_
                  refine k_done (k_skip_seq ?_)
                  refine rkn 37 (decide ((↑i : Int) < (↑(List.length lN) : Int))) true (decide_eq_true (by omega)) ?_
                  refine kct (k_skip_seq (k_seq (k_block (k_seq ?_))))
                  refine rv (D.agg [D.sl (List.map nW lN) none, D.sl (List.map HeldR.cells lH) none]) ?_
                  refine rv (D.str node) ?_
                  refine rv (D.lptr (4 : Nat) (0 : Nat)) ?_
                  refine rv (D.sl (List.map nW lN) none) ?_
                  refine rv (D.int IntKind.i64 (↑i : Int)) ?_
                  refine runs_index (lN) (nW) (o := none) (kd := IntKind.i64) (i) (by kernel_rfl) (by kernel_rfl) (by kernel_rfl) (by assumption) (by kernel_rfl) ?_
                  refine rv (D.ref [D.str (NodeR.name lN[i]), D.str (NodeR.parent lN[i]), D.int IntKind.i64 (NodeR.limit lN[i])]) ?_
                  refine rv (D.str (NodeR.name lN[i])) ?_
                  refine runs_call ([D.agg [D.sl (List.map nW lN) none, D.sl (List.map HeldR.cells lH) none], D.str node, D.str (NodeR.name lN[i])]) (by kernel_rfl) (by kernel_rfl) (by kernel_rfl) (by kernel_rfl) (hu) (by kernel_rfl) ?_
                  refine ra0 (D.bool true) ?_
                  refine k_done (k_skip_seq (k_seq (k_seq ?_)))
                  refine rv (D.bool true) ?_
                  refine rv (D.bool false) ?_
                  refine k_done (k_skip_seq (kcf (k_skip_seq (k_seq ?_))))
                  refine rv (D.agg [D.sl (List.map nW lN) none, D.sl (List.map HeldR.cells lH) none]) ?_
                  refine rv (D.lptr (4 : Nat) (0 : Nat)) ?_
                  refine rv (D.sl (List.map nW lN) none) ?_
                  refine rv (D.int IntKind.i64 (↑i : Int)) ?_
                  refine runs_index (lN) (nW) (o := none) (kd := IntKind.i64) (i) (by kernel_rfl) (by kernel_rfl) (by kernel_rfl) (by assumption) (by kernel_rfl) ?_
                  refine rv (D.ref [D.str (NodeR.name lN[i]), D.str (NodeR.parent lN[i]), D.int IntKind.i64 (NodeR.limit lN[i])]) ?_
                  refine rv (D.str (NodeR.name lN[i])) ?_
                  refine runs_callQ ([D.agg [D.sl (List.map nW lN) none, D.sl (List.map HeldR.cells lH) none], D.str (NodeR.name lN[i])]) (by kernel_rfl) (by kernel_rfl) (by kernel_rfl) (by kernel_rfl) (hus) (by kernel_rfl) ?_
                  refine rv (D.int IntKind.i64 v) ?_
                  refine runs_callQ ([D.int IntKind.i64 (NodeR.used lN[i]), D.int IntKind.i64 v]) (by kernel_rfl) (by kernel_rfl) (by kernel_rfl) (by kernel_rfl) (had) (by kernel_rfl) ?_
                  refine rv (D.tup [D.int IntKind.i64 (NodeR.used lN[i] + v), D.int IntKind.i64 (0 : Int)]) ?_
                  refine rv (D.int IntKind.i64 (NodeR.used lN[i] + v)) ?_
                  refine rv (D.int IntKind.i64 (0 : Int)) ?_
                  refine ra0 (D.int IntKind.i64 (NodeR.used lN[i] + v)) ?_
                  refine ra0 (D.int IntKind.i64 (0 : Int)) ?_
                  refine k_done (k_skip_seq (k_seq ?_))
                  refine rv (D.int IntKind.i64 (0 : Int)) ?_
                  refine rv (D.bool false) ?_
                  refine rv (D.bool false) ?_
                  refine rv (D.int IntKind.i64 (NodeR.used lN[i] + v)) ?_
                  refine rv (D.lptr (4 : Nat) (0 : Nat)) ?_
                  refine rv (D.sl (List.map nW lN) none) ?_
                  refine rv (D.int IntKind.i64 (↑i : Int)) ?_
                  refine runs_index (lN) (nW) (o := none) (kd := IntKind.i64) (i) (by kernel_rfl) (by kernel_rfl) (by kernel_rfl) (by assumption) (by kernel_rfl) ?_
                  refine rv (D.ref [D.int IntKind.i64 (NodeR.limit lN[i])]) ?_
                  refine rv (D.int IntKind.i64 (NodeR.limit lN[i])) ?_
                  refine rv (D.bool (decide (NodeR.used lN[i] + v > NodeR.limit lN[i]))) ?_
                  refine rv (D.bool (decide (NodeR.used lN[i] + v > NodeR.limit lN[i]))) ?_
                  refine k_done (k_skip_seq ?_)
                  refine rkn 75 (decide (NodeR.used lN[i] + v > NodeR.limit lN[i])) true (decide_eq_true (by assumption)) ?_
                  refine kct (k_seq ?_)
                  refine rv (D.agg [D.sl (List.map nW lN) none, D.sl (List.map HeldR.cells lH) none]) ?_
                  refine rgf (D.junk) ([]) ?_
                  refine rv (D.int IntKind.i64 (61 : Int)) ?_
                  refine k_done (k_skip_seq (k_ret ?_))
                  exact ⟨.inr rfl, by kernel_rfl, by rw [q1, q2]; kernel_rfl⟩
                · refine k_seq (k_seq ?_)
                  refine rv (D.int IntKind.i64 (↑i : Int)) ?_
                  refine rv (D.lptr (4 : Nat) (0 : Nat)) ?_
                  refine rv (D.sl (List.map nW lN) none) ?_
                  refine rve (D.int IntKind.i64 (↑(List.length (List.map nW lN)) : Int)) (.int IntKind.i64 ((↑(List.length lN) : Int))) (by simp only [ints, eInt, rows, eInts, bools, eBool, trips, eTrip, i8s, u16s, u8s, acts, List.length_map]) ?_
                  refine rv (D.bool (decide ((↑i : Int) < (↑(List.length lN) : Int)))) ?_
                  refine k_done (k_skip_seq ?_)
                  refine rkn 37 (decide ((↑i : Int) < (↑(List.length lN) : Int))) true (decide_eq_true (by omega)) ?_
                  refine kct (k_skip_seq (k_seq (k_block (k_seq ?_))))
                  refine rv (D.agg [D.sl (List.map nW lN) none, D.sl (List.map HeldR.cells lH) none]) ?_
                  refine rv (D.str node) ?_
                  refine rv (D.lptr (4 : Nat) (0 : Nat)) ?_
                  refine rv (D.sl (List.map nW lN) none) ?_
                  refine rv (D.int IntKind.i64 (↑i : Int)) ?_
                  refine runs_index (lN) (nW) (o := none) (kd := IntKind.i64) (i) (by kernel_rfl) (by kernel_rfl) (by kernel_rfl) (by assumption) (by kernel_rfl) ?_
                  refine rv (D.ref [D.str (NodeR.name lN[i]), D.str (NodeR.parent lN[i]), D.int IntKind.i64 (NodeR.limit lN[i])]) ?_
                  refine rv (D.str (NodeR.name lN[i])) ?_
                  refine runs_call ([D.agg [D.sl (List.map nW lN) none, D.sl (List.map HeldR.cells lH) none], D.str node, D.str (NodeR.name lN[i])]) (by kernel_rfl) (by kernel_rfl) (by kernel_rfl) (by kernel_rfl) (hu) (by kernel_rfl) ?_
                  refine ra0 (D.bool true) ?_
                  refine k_done (k_skip_seq (k_seq (k_seq ?_)))
                  refine rv (D.bool true) ?_
                  refine rv (D.bool false) ?_
                  refine k_done (k_skip_seq (kcf (k_skip_seq (k_seq ?_))))
                  refine rv (D.agg [D.sl (List.map nW lN) none, D.sl (List.map HeldR.cells lH) none]) ?_
                  refine rv (D.lptr (4 : Nat) (0 : Nat)) ?_
                  refine rv (D.sl (List.map nW lN) none) ?_
                  refine rv (D.int IntKind.i64 (↑i : Int)) ?_
                  refine runs_index (lN) (nW) (o := none) (kd := IntKind.i64) (i) (by kernel_rfl) (by kernel_rfl) (by kernel_rfl) (by assumption) (by kernel_rfl) ?_
                  refine rv (D.ref [D.str (NodeR.name lN[i]), D.str (NodeR.parent lN[i]), D.int IntKind.i64 (NodeR.limit lN[i])]) ?_
                  refine rv (D.str (NodeR.name lN[i])) ?_
                  refine runs_callQ ([D.agg [D.sl (List.map nW lN) none, D.sl (List.map HeldR.cells lH) none], D.str (NodeR.name lN[i])]) (by kernel_rfl) (by kernel_rfl) (by kernel_rfl) (by kernel_rfl) (hus) (by kernel_rfl) ?_
                  refine rv (D.int IntKind.i64 v) ?_
                  refine runs_callQ ([D.int IntKind.i64 (NodeR.used lN[i]), D.int IntKind.i64 v]) (by kernel_rfl) (by kernel_rfl) (by kernel_rfl) (by kernel_rfl) (had) (by kernel_rfl) ?_
                  refine rv (D.tup [D.int IntKind.i64 (NodeR.used lN[i] + v), D.int IntKind.i64 (0 : Int)]) ?_
                  refine rv (D.int IntKind.i64 (NodeR.used lN[i] + v)) ?_
                  refine rv (D.int IntKind.i64 (0 : Int)) ?_
                  refine ra0 (D.int IntKind.i64 (NodeR.used lN[i] + v)) ?_
                  refine ra0 (D.int IntKind.i64 (0 : Int)) ?_
                  refine k_done (k_skip_seq (k_seq ?_))
                  refine rv (D.int IntKind.i64 (0 : Int)) ?_
                  refine rv (D.bool false) ?_
                  refine rv (D.bool false) ?_
                  refine rv (D.int IntKind.i64 (NodeR.used lN[i] + v)) ?_
                  refine rv (D.lptr (4 : Nat) (0 : Nat)) ?_
                  refine rv (D.sl (List.map nW lN) none) ?_
                  refine rv (D.int IntKind.i64 (↑i : Int)) ?_
                  refine runs_index (lN) (nW) (o := none) (kd := IntKind.i64) (i) (by kernel_rfl) (by kernel_rfl) (by kernel_rfl) (by assumption) (by kernel_rfl) ?_
                  refine rv (D.ref [D.int IntKind.i64 (NodeR.limit lN[i])]) ?_
                  refine rv (D.int IntKind.i64 (NodeR.limit lN[i])) ?_
                  refine rv (D.bool (decide (NodeR.used lN[i] + v > NodeR.limit lN[i]))) ?_
                  refine rv (D.bool (decide (NodeR.used lN[i] + v > NodeR.limit lN[i]))) ?_
                  refine k_done (k_skip_seq ?_)
                  refine rkn 75 (decide (NodeR.used lN[i] + v > NodeR.limit lN[i])) false (decide_eq_false (by assumption)) ?_
                  refine kcf (k_skip_block (k_skip_seq ?_))
                  refine rv (D.int IntKind.i64 (↑i : Int)) ?_
                  refine rve (D.int IntKind.i64 (IntKind.wrap IntKind.i64 ((↑i : Int) + (1 : Int)))) (.int IntKind.i64 ((i + 1 : Nat) : Int)) (congrArg (D.int IntKind.i64) (show IntKind.wrap IntKind.i64 ((↑i : Int) + (1 : Int)) = ((i + 1 : Nat) : Int) from wrap_eq (by omega) (by omega) (by omega))) ?_
                  refine ra0 (D.int IntKind.i64 (↑(i + (1 : Nat)) : Int)) ?_
                  refine k_done (k_skip_back ?_)
                  exact ⟨i + 1, ⟨c, fun j hj hj2 hjm => by by_cases e : j = i; (subst e; omega); exact hlim j hj (by omega) hjm⟩, by omega, by kernel_rfl, rfl⟩
              · rw [if_neg c5] at had
                obtain ⟨q1, q2⟩ := hbad (bad_true W.permN c hm (by omega))
                refine k_seq (k_seq ?_)
                refine rv (D.int IntKind.i64 (↑i : Int)) ?_
                refine rv (D.lptr (4 : Nat) (0 : Nat)) ?_
                refine rv (D.sl (List.map nW lN) none) ?_
                refine rve (D.int IntKind.i64 (↑(List.length (List.map nW lN)) : Int)) (.int IntKind.i64 ((↑(List.length lN) : Int))) (by simp only [ints, eInt, rows, eInts, bools, eBool, trips, eTrip, i8s, u16s, u8s, acts, List.length_map]) ?_
                refine rv (D.bool (decide ((↑i : Int) < (↑(List.length lN) : Int)))) ?_
                refine k_done (k_skip_seq ?_)
                refine rkn 37 (decide ((↑i : Int) < (↑(List.length lN) : Int))) true (decide_eq_true (by omega)) ?_
                refine kct (k_skip_seq (k_seq (k_block (k_seq ?_))))
                refine rv (D.agg [D.sl (List.map nW lN) none, D.sl (List.map HeldR.cells lH) none]) ?_
                refine rv (D.str node) ?_
                refine rv (D.lptr (4 : Nat) (0 : Nat)) ?_
                refine rv (D.sl (List.map nW lN) none) ?_
                refine rv (D.int IntKind.i64 (↑i : Int)) ?_
                refine runs_index (lN) (nW) (o := none) (kd := IntKind.i64) (i) (by kernel_rfl) (by kernel_rfl) (by kernel_rfl) (by assumption) (by kernel_rfl) ?_
                refine rv (D.ref [D.str (NodeR.name lN[i]), D.str (NodeR.parent lN[i]), D.int IntKind.i64 (NodeR.limit lN[i])]) ?_
                refine rv (D.str (NodeR.name lN[i])) ?_
                refine runs_call ([D.agg [D.sl (List.map nW lN) none, D.sl (List.map HeldR.cells lH) none], D.str node, D.str (NodeR.name lN[i])]) (by kernel_rfl) (by kernel_rfl) (by kernel_rfl) (by kernel_rfl) (hu) (by kernel_rfl) ?_
                refine ra0 (D.bool true) ?_
                refine k_done (k_skip_seq (k_seq (k_seq ?_)))
                refine rv (D.bool true) ?_
                refine rv (D.bool false) ?_
                refine k_done (k_skip_seq (kcf (k_skip_seq (k_seq ?_))))
                refine rv (D.agg [D.sl (List.map nW lN) none, D.sl (List.map HeldR.cells lH) none]) ?_
                refine rv (D.lptr (4 : Nat) (0 : Nat)) ?_
                refine rv (D.sl (List.map nW lN) none) ?_
                refine rv (D.int IntKind.i64 (↑i : Int)) ?_
                refine runs_index (lN) (nW) (o := none) (kd := IntKind.i64) (i) (by kernel_rfl) (by kernel_rfl) (by kernel_rfl) (by assumption) (by kernel_rfl) ?_
                refine rv (D.ref [D.str (NodeR.name lN[i]), D.str (NodeR.parent lN[i]), D.int IntKind.i64 (NodeR.limit lN[i])]) ?_
                refine rv (D.str (NodeR.name lN[i])) ?_
                refine runs_callQ ([D.agg [D.sl (List.map nW lN) none, D.sl (List.map HeldR.cells lH) none], D.str (NodeR.name lN[i])]) (by kernel_rfl) (by kernel_rfl) (by kernel_rfl) (by kernel_rfl) (hus) (by kernel_rfl) ?_
                refine rv (D.int IntKind.i64 v) ?_
                refine runs_callQ ([D.int IntKind.i64 (NodeR.used lN[i]), D.int IntKind.i64 v]) (by kernel_rfl) (by kernel_rfl) (by kernel_rfl) (by kernel_rfl) (had) (by kernel_rfl) ?_
                refine rv (D.tup [D.int IntKind.i64 (0 : Int), D.int IntKind.i64 (14 : Int)]) ?_
                refine rv (D.int IntKind.i64 (0 : Int)) ?_
                refine rv (D.int IntKind.i64 (14 : Int)) ?_
                refine ra0 (D.int IntKind.i64 (0 : Int)) ?_
                refine ra0 (D.int IntKind.i64 (14 : Int)) ?_
                refine k_done (k_skip_seq (k_seq ?_))
                refine rv (D.int IntKind.i64 (14 : Int)) ?_
                refine rv (D.bool true) ?_
                refine rv (D.bool true) ?_
                refine rno (rno (rno (rno (rno (rno (rno (rno ?_)))))))
                refine rv (D.bool true) ?_
                refine k_done (k_skip_seq (kct (k_seq ?_)))
                refine rv (D.agg [D.sl (List.map nW lN) none, D.sl (List.map HeldR.cells lH) none]) ?_
                refine rgf (D.junk) ([]) ?_
                refine rv (D.int IntKind.i64 (61 : Int)) ?_
                refine k_done (k_skip_seq (k_ret ?_))
                exact ⟨.inr rfl, by kernel_rfl, by rw [q1, q2]; kernel_rfl⟩
            · rw [decide_eq_false hm] at hu
              refine k_seq (k_seq ?_)
              refine rv (D.int IntKind.i64 (↑i : Int)) ?_
              refine rv (D.lptr (4 : Nat) (0 : Nat)) ?_
              refine rv (D.sl (List.map nW lN) none) ?_
              refine rve (D.int IntKind.i64 (↑(List.length (List.map nW lN)) : Int)) (.int IntKind.i64 ((↑(List.length lN) : Int))) (by simp only [ints, eInt, rows, eInts, bools, eBool, trips, eTrip, i8s, u16s, u8s, acts, List.length_map]) ?_
              refine rv (D.bool (decide ((↑i : Int) < (↑(List.length lN) : Int)))) ?_
              refine k_done (k_skip_seq ?_)
              refine rkn 37 (decide ((↑i : Int) < (↑(List.length lN) : Int))) true (decide_eq_true (by omega)) ?_
              refine kct (k_skip_seq (k_seq (k_block (k_seq ?_))))
              refine rv (D.agg [D.sl (List.map nW lN) none, D.sl (List.map HeldR.cells lH) none]) ?_
              refine rv (D.str node) ?_
              refine rv (D.lptr (4 : Nat) (0 : Nat)) ?_
              refine rv (D.sl (List.map nW lN) none) ?_
              refine rv (D.int IntKind.i64 (↑i : Int)) ?_
              refine runs_index (lN) (nW) (o := none) (kd := IntKind.i64) (i) (by kernel_rfl) (by kernel_rfl) (by kernel_rfl) (by assumption) (by kernel_rfl) ?_
              refine rv (D.ref [D.str (NodeR.name lN[i]), D.str (NodeR.parent lN[i]), D.int IntKind.i64 (NodeR.limit lN[i])]) ?_
              refine rv (D.str (NodeR.name lN[i])) ?_
              refine runs_call ([D.agg [D.sl (List.map nW lN) none, D.sl (List.map HeldR.cells lH) none], D.str node, D.str (NodeR.name lN[i])]) (by kernel_rfl) (by kernel_rfl) (by kernel_rfl) (by kernel_rfl) (hu) (by kernel_rfl) ?_
              refine ra0 (D.bool false) ?_
              refine k_done (k_skip_seq (k_seq (k_seq ?_)))
              refine rv (D.bool false) ?_
              refine rv (D.bool true) ?_
              refine k_done (k_skip_seq (kct (k_exit_seq (k_exit_hit rfl (k_skip_seq ?_)))))
              refine rv (D.int IntKind.i64 (↑i : Int)) ?_
              refine rve (D.int IntKind.i64 (IntKind.wrap IntKind.i64 ((↑i : Int) + (1 : Int)))) (.int IntKind.i64 ((i + 1 : Nat) : Int)) (congrArg (D.int IntKind.i64) (show IntKind.wrap IntKind.i64 ((↑i : Int) + (1 : Int)) = ((i + 1 : Nat) : Int) from wrap_eq (by omega) (by omega) (by omega))) ?_
              refine ra0 (D.int IntKind.i64 (↑(i + (1 : Nat)) : Int)) ?_
              refine k_done (k_skip_back ?_)
              exact ⟨i + 1, ⟨c, fun j hj hj2 hjm => by by_cases e : j = i; (subst e; exact absurd hjm hm); exact hlim j hj (by omega) hjm⟩, by omega, by kernel_rfl, rfl⟩
          · obtain ⟨q1, q2⟩ := hgood (bad_false W.permN fun j hj => hlim j hj (by omega))
            have hne : ∀ y ∈ lH, HeldR.id y ≠ HeldR.id ⟨id, node, v⟩ := fun y hy => by
              unfold findH at g1
              rw [List.find?_eq_none] at g1
              have := g1 y (W.permH.subset hy)
              simpa using this
            refine k_seq (k_seq ?_)
            refine rv (D.int IntKind.i64 (↑i : Int)) ?_
            refine rv (D.lptr (4 : Nat) (0 : Nat)) ?_
            refine rv (D.sl (List.map nW lN) none) ?_
            refine rve (D.int IntKind.i64 (↑(List.length (List.map nW lN)) : Int)) (.int IntKind.i64 ((↑(List.length lN) : Int))) (by simp only [ints, eInt, rows, eInts, bools, eBool, trips, eTrip, i8s, u16s, u8s, acts, List.length_map]) ?_
            refine rv (D.bool (decide ((↑i : Int) < (↑(List.length lN) : Int)))) ?_
            refine k_done (k_skip_seq ?_)
            refine rkn 37 (decide ((↑i : Int) < (↑(List.length lN) : Int))) false (decide_eq_false (by omega)) ?_
            refine kcf (k_exit_seq (k_exit_back (k_exit_hit rfl (k_skip_seq (k_seq ?_)))))
            refine rv (D.sl [] (some (83 : Nat))) ?_
            refine k_done (k_skip_seq (k_seq ?_))
            refine rv (D.int IntKind.i64 (0 : Int)) ?_
            refine k_done (k_skip_seq (k_seq (k_block ?_)))
            refine k_loop (fun at_ => h21b lN lH node id v i at_) (fun _ => []) (fun i => i ≤ lH.length ∧ ∀ j (h : j < lH.length), j < i → ltB lH[j].id id = true) (fun i => lH.length - i) 0 (by kernel_rfl) (by kernel_rfl) ⟨by simp, fun j _ h => absurd h (Nat.not_lt_zero _)⟩ (fun s hs => by omega) ?_
            rintro at_ ⟨hat, hlow⟩
            unfold h21b l21_1
            by_cases c : at_ < lH.length
            · have ht := texts_ok (n + 17) lH[at_].id id (by have := Z.sb _ (List.getElem_mem c); omega) (by have := Z.sb _ (List.getElem_mem c); have := Z.sm; omega)
              by_cases hlt : textI lH[at_].id id < 0
              · refine k_seq (k_seq ?_)
                refine rv (D.int IntKind.i64 (↑at_ : Int)) ?_
                refine rv (D.lptr (4 : Nat) (1 : Nat)) ?_
                refine rv (D.sl (List.map HeldR.cells lH) none) ?_
                refine rve (D.int IntKind.i64 (↑(List.length (List.map HeldR.cells lH)) : Int)) (.int IntKind.i64 ((↑(List.length lH) : Int))) (by simp only [ints, eInt, rows, eInts, bools, eBool, trips, eTrip, i8s, u16s, u8s, acts, List.length_map]) ?_
                refine rv (D.bool (decide ((↑at_ : Int) < (↑(List.length lH) : Int)))) ?_
                refine rv (D.bool (decide ((↑at_ : Int) < (↑(List.length lH) : Int)))) ?_
                refine rkn 82 (decide ((↑at_ : Int) < (↑(List.length lH) : Int))) true (decide_eq_true (by omega)) ?_
                refine rv (D.lptr (4 : Nat) (1 : Nat)) ?_
                refine rv (D.sl (List.map HeldR.cells lH) none) ?_
                refine rv (D.int IntKind.i64 (↑at_ : Int)) ?_
                refine runs_index (lH) (HeldR.cells) (o := none) (kd := IntKind.i64) (at_) (by kernel_rfl) (by kernel_rfl) (by kernel_rfl) (by assumption) (by kernel_rfl) ?_
                refine rv (D.ref [D.str (HeldR.id lH[at_]), D.str (HeldR.node lH[at_]), D.int IntKind.i64 (HeldR.amount lH[at_])]) ?_
                refine rv (D.str (HeldR.id lH[at_])) ?_
                refine rv (D.str id) ?_
                refine runs_call ([D.str (HeldR.id lH[at_]), D.str id]) (by kernel_rfl) (by kernel_rfl) (by kernel_rfl) (by kernel_rfl) (ht) (by kernel_rfl) ?_
                refine rv (D.bool (decide (textI (HeldR.id lH[at_]) id < (0 : Int)))) ?_
                refine rv (D.bool (decide (textI (HeldR.id lH[at_]) id < (0 : Int)))) ?_
                refine k_done (k_skip_seq ?_)
                refine rkn 92 (decide (textI (HeldR.id lH[at_]) id < (0 : Int))) true (decide_eq_true (by assumption)) ?_
                refine kct (k_skip_seq (k_block ?_))
                refine rv (D.int IntKind.i64 (↑at_ : Int)) ?_
                refine rve (D.int IntKind.i64 (IntKind.wrap IntKind.i64 ((↑at_ : Int) + (1 : Int)))) (.int IntKind.i64 ((at_ + 1 : Nat) : Int)) (congrArg (D.int IntKind.i64) (show IntKind.wrap IntKind.i64 ((↑at_ : Int) + (1 : Int)) = ((at_ + 1 : Nat) : Int) from wrap_eq (by omega) (by omega) (by omega))) ?_
                refine ra0 (D.int IntKind.i64 (↑(at_ + (1 : Nat)) : Int)) ?_
                refine k_done (k_skip_block (k_skip_back ?_))
                exact ⟨at_ + 1, ⟨c, fun j hj hj2 => by by_cases e : j = at_; (subst e; exact (textI_neg _ _).1 hlt); exact hlow j hj (by omega)⟩, by omega, by kernel_rfl, rfl⟩
              · have hstop : ∀ h : at_ < lH.length, ltB (HeldR.id lH[at_]) (HeldR.id ⟨id, node, v⟩) = false := fun _ => by
                  cases hh : ltB lH[at_].id id with
                  | false => rfl
                  | true => exact absurd ((textI_neg _ _).2 hh) hlt
                have hins := insK_at (key := HeldR.id) (x := ⟨id, node, v⟩) at_ hat hlow hstop hne
                have hrow : (insK HeldR.id (⟨id, node, v⟩ : HeldR) lH).map HeldR.cells = (lH.take at_).map HeldR.cells ++ [[D.str id, D.str node, D.int IntKind.i64 v]] ++ (lH.drop at_).map HeldR.cells := by
                  rw [← hins]
                  simp [HeldR.cells]
                have hall : ((List.map HeldR.cells lH).all fun e => e.length == 3) = true := all_rows HeldR.cells 3 (fun _ => rfl) _
                have hall1 : ((List.map HeldR.cells (List.take at_ lH)).all fun e => e.length == 3) = true := all_rows HeldR.cells 3 (fun _ => rfl) _
                have hall2 : ((List.map HeldR.cells (List.drop at_ lH)).all fun e => e.length == 3) = true := all_rows HeldR.cells 3 (fun _ => rfl) _
                have hs1 := take_rows HeldR.cells lH at_
                have hs2 := drop_rows HeldR.cells lH at_
                refine k_seq (k_seq ?_)
                refine rv (D.int IntKind.i64 (↑at_ : Int)) ?_
                refine rv (D.lptr (4 : Nat) (1 : Nat)) ?_
                refine rv (D.sl (List.map HeldR.cells lH) none) ?_
                refine rve (D.int IntKind.i64 (↑(List.length (List.map HeldR.cells lH)) : Int)) (.int IntKind.i64 ((↑(List.length lH) : Int))) (by simp only [ints, eInt, rows, eInts, bools, eBool, trips, eTrip, i8s, u16s, u8s, acts, List.length_map, nW, HeldR.cells]) ?_
                refine rv (D.bool (decide ((↑at_ : Int) < (↑(List.length lH) : Int)))) ?_
                refine rv (D.bool (decide ((↑at_ : Int) < (↑(List.length lH) : Int)))) ?_
                refine rkn 82 (decide ((↑at_ : Int) < (↑(List.length lH) : Int))) true (decide_eq_true (by omega)) ?_
                refine rv (D.lptr (4 : Nat) (1 : Nat)) ?_
                refine rv (D.sl (List.map HeldR.cells lH) none) ?_
                refine rv (D.int IntKind.i64 (↑at_ : Int)) ?_
                refine runs_index (lH) (HeldR.cells) (o := none) (kd := IntKind.i64) (at_) (by kernel_rfl) (by kernel_rfl) (by kernel_rfl) (by assumption) (by kernel_rfl) ?_
                refine rv (D.ref [D.str (HeldR.id lH[at_]), D.str (HeldR.node lH[at_]), D.int IntKind.i64 (HeldR.amount lH[at_])]) ?_
                refine rv (D.str (HeldR.id lH[at_])) ?_
                refine rv (D.str id) ?_
                refine runs_call ([D.str (HeldR.id lH[at_]), D.str id]) (by kernel_rfl) (by kernel_rfl) (by kernel_rfl) (by kernel_rfl) (ht) (by kernel_rfl) ?_
                refine rv (D.bool (decide (textI (HeldR.id lH[at_]) id < (0 : Int)))) ?_
                refine rv (D.bool (decide (textI (HeldR.id lH[at_]) id < (0 : Int)))) ?_
                refine k_done (k_skip_seq ?_)
                refine rkn 92 (decide (textI (HeldR.id lH[at_]) id < (0 : Int))) false (decide_eq_false (by assumption)) ?_
                refine kcf (k_exit_seq (k_exit_back (k_exit_hit rfl (k_skip_seq (k_seq ?_)))))
                refine runs_steal (D.sl [] (some (83 : Nat))) (by kernel_rfl) (by kernel_rfl) ?_
                refine rv (D.lptr (4 : Nat) (1 : Nat)) ?_
                refine rv (D.sl (List.map HeldR.cells lH) none) ?_
                refine rv (D.int IntKind.i64 (↑at_ : Int)) ?_
                refine runs_sliceS (List.map HeldR.cells lH) _ (o := none) (0) (at_) (by kernel_rfl) (by kernel_rfl) (by kernel_rfl) (hiD_nat (k := IntKind.i64) (by kernel_rfl)) (by simp [ints, eInt, rows, eInts, bools, eBool, trips, eTrip, i8s, u16s, u8s, acts]; omega) (by assumption) (by assumption) ?_
                refine runs_append ([]) (List.map HeldR.cells (List.take at_ lH)) (List.map HeldR.cells (List.take at_ lH)) (by kernel_rfl) (by kernel_rfl) (by kernel_rfl) (by assumption) (by simp [nW, HeldR.cells, ints, eInt, rows, eInts, bools, eBool, trips, eTrip, i8s, u16s, u8s, acts, room]; omega) (List.nil_append _) ?_
                refine runs_assign (D.sl (List.map HeldR.cells (List.take at_ lH)) (some (83 : Nat))) (by kernel_rfl) (by kernel_rfl) ?_
                refine k_done (k_skip_seq (k_seq ?_))
                refine runs_steal (D.sl (List.map HeldR.cells (List.take at_ lH)) (some (83 : Nat))) (by kernel_rfl) (by kernel_rfl) ?_
                refine rv (D.str id) ?_
                refine rv (D.str node) ?_
                refine rv (D.int IntKind.i64 v) ?_
                refine rv (D.agg [D.str id, D.str node, D.int IntKind.i64 v]) ?_
                refine rv (D.sl [[D.str id, D.str node, D.int IntKind.i64 v]] (some (83 : Nat))) ?_
                refine runs_append (List.map HeldR.cells (List.take at_ lH)) ([[D.str id, D.str node, D.int IntKind.i64 v]]) (List.map HeldR.cells (List.take at_ lH) ++ [[D.str id, D.str node, D.int IntKind.i64 v]]) (by kernel_rfl) (by kernel_rfl) (by kernel_rfl) (by kernel_rfl) (by simp [nW, HeldR.cells, ints, eInt, rows, eInts, bools, eBool, trips, eTrip, i8s, u16s, u8s, acts, room]; omega) rfl ?_
                refine runs_assign (D.sl (List.map HeldR.cells (List.take at_ lH) ++ [[D.str id, D.str node, D.int IntKind.i64 v]]) (some (83 : Nat))) (by kernel_rfl) (by kernel_rfl) ?_
                refine k_done (k_skip_seq (k_seq ?_))
                refine runs_steal (D.sl (List.map HeldR.cells (List.take at_ lH) ++ [[D.str id, D.str node, D.int IntKind.i64 v]]) (some (83 : Nat))) (by kernel_rfl) (by kernel_rfl) ?_
                refine rv (D.lptr (4 : Nat) (1 : Nat)) ?_
                refine rv (D.sl (List.map HeldR.cells lH) none) ?_
                refine rv (D.int IntKind.i64 (↑at_ : Int)) ?_
                refine runs_sliceS (List.map HeldR.cells lH) _ (o := none) (at_) (List.length (List.map HeldR.cells lH)) (by kernel_rfl) (by kernel_rfl) (loD_nat (k := IntKind.i64) (by kernel_rfl)) (by kernel_rfl) (by simp [ints, eInt, rows, eInts, bools, eBool, trips, eTrip, i8s, u16s, u8s, acts]; omega) (by assumption) (by assumption) ?_
                refine runs_append (List.map HeldR.cells (List.take at_ lH) ++ [[D.str id, D.str node, D.int IntKind.i64 v]]) (List.map HeldR.cells (List.drop at_ lH)) (List.map HeldR.cells (List.take at_ lH) ++ [[D.str id, D.str node, D.int IntKind.i64 v]] ++ List.map HeldR.cells (List.drop at_ lH)) (by kernel_rfl) (by kernel_rfl) (by kernel_rfl) (by assumption) (by simp [nW, HeldR.cells, ints, eInt, rows, eInts, bools, eBool, trips, eTrip, i8s, u16s, u8s, acts, room]; omega) rfl ?_
                refine rv (D.lptr (4 : Nat) (1 : Nat)) ?_
                refine rgf (D.junk) ([]) ?_
                refine k_done (k_skip_seq (k_seq ?_))
                refine rv (D.agg [D.sl (List.map nW lN) none, D.sl (List.map HeldR.cells (List.take at_ lH) ++ [[D.str id, D.str node, D.int IntKind.i64 v]] ++ List.map HeldR.cells (List.drop at_ lH)) none]) ?_
                refine rgf (D.junk) ([]) ?_
                refine rv (D.int IntKind.i64 (0 : Int)) ?_
                refine k_done (k_skip_seq (k_ret ?_))
                exact ⟨.inr rfl, by kernel_rfl, by rw [q1, q2, hrow]; kernel_rfl⟩
            · have hstop : ∀ h : at_ < lH.length, ltB (HeldR.id lH[at_]) (HeldR.id ⟨id, node, v⟩) = false := fun h => absurd h c
              have hins := insK_at (key := HeldR.id) (x := ⟨id, node, v⟩) at_ hat hlow hstop hne
              have hrow : (insK HeldR.id (⟨id, node, v⟩ : HeldR) lH).map HeldR.cells = (lH.take at_).map HeldR.cells ++ [[D.str id, D.str node, D.int IntKind.i64 v]] ++ (lH.drop at_).map HeldR.cells := by
                rw [← hins]
                simp [HeldR.cells]
              have hall : ((List.map HeldR.cells lH).all fun e => e.length == 3) = true := all_rows HeldR.cells 3 (fun _ => rfl) _
              have hall1 : ((List.map HeldR.cells (List.take at_ lH)).all fun e => e.length == 3) = true := all_rows HeldR.cells 3 (fun _ => rfl) _
              have hall2 : ((List.map HeldR.cells (List.drop at_ lH)).all fun e => e.length == 3) = true := all_rows HeldR.cells 3 (fun _ => rfl) _
              have hs1 := take_rows HeldR.cells lH at_
              have hs2 := drop_rows HeldR.cells lH at_
              refine k_seq (k_seq ?_)
              refine rv (D.int IntKind.i64 (↑at_ : Int)) ?_
              refine rv (D.lptr (4 : Nat) (1 : Nat)) ?_
              refine rv (D.sl (List.map HeldR.cells lH) none) ?_
              refine rve (D.int IntKind.i64 (↑(List.length (List.map HeldR.cells lH)) : Int)) (.int IntKind.i64 ((↑(List.length lH) : Int))) (by simp only [ints, eInt, rows, eInts, bools, eBool, trips, eTrip, i8s, u16s, u8s, acts, List.length_map, nW, HeldR.cells]) ?_
              refine rv (D.bool (decide ((↑at_ : Int) < (↑(List.length lH) : Int)))) ?_
              refine rv (D.bool (decide ((↑at_ : Int) < (↑(List.length lH) : Int)))) ?_
              refine rkn 82 (decide ((↑at_ : Int) < (↑(List.length lH) : Int))) false (decide_eq_false (by omega)) ?_
              refine rno (rno (rno (rno (rno (rno (rno (rno (rno ?_))))))))
              refine rv (D.bool false) ?_
              refine k_done (k_skip_seq (kcf (k_exit_seq (k_exit_back (k_exit_hit rfl (k_skip_seq (k_seq ?_)))))))
              refine runs_steal (D.sl [] (some (83 : Nat))) (by kernel_rfl) (by kernel_rfl) ?_
              refine rv (D.lptr (4 : Nat) (1 : Nat)) ?_
              refine rv (D.sl (List.map HeldR.cells lH) none) ?_
              refine rv (D.int IntKind.i64 (↑at_ : Int)) ?_
              refine runs_sliceS (List.map HeldR.cells lH) _ (o := none) (0) (at_) (by kernel_rfl) (by kernel_rfl) (by kernel_rfl) (hiD_nat (k := IntKind.i64) (by kernel_rfl)) (by simp [ints, eInt, rows, eInts, bools, eBool, trips, eTrip, i8s, u16s, u8s, acts]; omega) (by assumption) (by assumption) ?_
              refine runs_append ([]) (List.map HeldR.cells (List.take at_ lH)) (List.map HeldR.cells (List.take at_ lH)) (by kernel_rfl) (by kernel_rfl) (by kernel_rfl) (by assumption) (by simp [nW, HeldR.cells, ints, eInt, rows, eInts, bools, eBool, trips, eTrip, i8s, u16s, u8s, acts, room]; omega) (List.nil_append _) ?_
              refine runs_assign (D.sl (List.map HeldR.cells (List.take at_ lH)) (some (83 : Nat))) (by kernel_rfl) (by kernel_rfl) ?_
              refine k_done (k_skip_seq (k_seq ?_))
              refine runs_steal (D.sl (List.map HeldR.cells (List.take at_ lH)) (some (83 : Nat))) (by kernel_rfl) (by kernel_rfl) ?_
              refine rv (D.str id) ?_
              refine rv (D.str node) ?_
              refine rv (D.int IntKind.i64 v) ?_
              refine rv (D.agg [D.str id, D.str node, D.int IntKind.i64 v]) ?_
              refine rv (D.sl [[D.str id, D.str node, D.int IntKind.i64 v]] (some (83 : Nat))) ?_
              refine runs_append (List.map HeldR.cells (List.take at_ lH)) ([[D.str id, D.str node, D.int IntKind.i64 v]]) (List.map HeldR.cells (List.take at_ lH) ++ [[D.str id, D.str node, D.int IntKind.i64 v]]) (by kernel_rfl) (by kernel_rfl) (by kernel_rfl) (by kernel_rfl) (by simp [nW, HeldR.cells, ints, eInt, rows, eInts, bools, eBool, trips, eTrip, i8s, u16s, u8s, acts, room]; omega) rfl ?_
              refine runs_assign (D.sl (List.map HeldR.cells (List.take at_ lH) ++ [[D.str id, D.str node, D.int IntKind.i64 v]]) (some (83 : Nat))) (by kernel_rfl) (by kernel_rfl) ?_
              refine k_done (k_skip_seq (k_seq ?_))
              refine runs_steal (D.sl (List.map HeldR.cells (List.take at_ lH) ++ [[D.str id, D.str node, D.int IntKind.i64 v]]) (some (83 : Nat))) (by kernel_rfl) (by kernel_rfl) ?_
              refine rv (D.lptr (4 : Nat) (1 : Nat)) ?_
              refine rv (D.sl (List.map HeldR.cells lH) none) ?_
              refine rv (D.int IntKind.i64 (↑at_ : Int)) ?_
              refine runs_sliceS (List.map HeldR.cells lH) _ (o := none) (at_) (List.length (List.map HeldR.cells lH)) (by kernel_rfl) (by kernel_rfl) (loD_nat (k := IntKind.i64) (by kernel_rfl)) (by kernel_rfl) (by simp [ints, eInt, rows, eInts, bools, eBool, trips, eTrip, i8s, u16s, u8s, acts]; omega) (by assumption) (by assumption) ?_
              refine runs_append (List.map HeldR.cells (List.take at_ lH) ++ [[D.str id, D.str node, D.int IntKind.i64 v]]) (List.map HeldR.cells (List.drop at_ lH)) (List.map HeldR.cells (List.take at_ lH) ++ [[D.str id, D.str node, D.int IntKind.i64 v]] ++ List.map HeldR.cells (List.drop at_ lH)) (by kernel_rfl) (by kernel_rfl) (by kernel_rfl) (by assumption) (by simp [nW, HeldR.cells, ints, eInt, rows, eInts, bools, eBool, trips, eTrip, i8s, u16s, u8s, acts, room]; omega) rfl ?_
              refine rv (D.lptr (4 : Nat) (1 : Nat)) ?_
              refine rgf (D.junk) ([]) ?_
              refine k_done (k_skip_seq (k_seq ?_))
              refine rv (D.agg [D.sl (List.map nW lN) none, D.sl (List.map HeldR.cells (List.take at_ lH) ++ [[D.str id, D.str node, D.int IntKind.i64 v]] ++ List.map HeldR.cells (List.drop at_ lH)) none]) ?_
              refine rgf (D.junk) ([]) ?_
              refine rv (D.int IntKind.i64 (0 : Int)) ?_
              refine k_done (k_skip_seq (k_ret ?_))
              exact ⟨.inr rfl, by kernel_rfl, by rw [q1, q2, hrow]; kernel_rfl⟩
        · have hq : resQ rs hs node id v = 13 := by unfold resQ; rw [if_neg c12, if_neg c3, if_pos g2]
          rw [hq, show resH rs hs lH node id v = lH by unfold resH; rw [hq]; rfl]
          unfold treeD
          refine k_seq ?_
          refine rgf (D.lptr (4 : Nat) (0 : Nat)) ([]) ?_
          refine rgf (D.lptr (8 : Nat) (0 : Nat)) ([]) ?_
          refine rv (D.int IntKind.i64 (0 : Int)) ?_
          refine k_done (k_skip_seq (k_seq (k_seq ?_)))
          refine rv (D.str id) ?_
          refine rv (D.bool (id == [])) ?_
          refine rv (D.bool (id == [])) ?_
          refine rkn 18 (id == []) false (beq_eq_false_iff_ne.2 (by assumption)) ?_
          refine rv (D.int IntKind.i64 v) ?_
          refine rv (D.bool (decide (v < (1 : Int)))) ?_
          refine rv (D.bool (decide (v < (1 : Int)))) ?_
          refine k_done (k_skip_seq ?_)
          refine rkn 21 (decide (v < (1 : Int))) false (decide_eq_false (by assumption)) ?_
          refine kcf (k_skip_seq (k_seq (k_seq ?_)))
          refine rv (D.agg [D.sl (List.map nW lN) none, D.sl (List.map HeldR.cells lH) none]) ?_
          refine rv (D.str node) ?_
          refine runs_call ([D.agg [D.sl (List.map nW lN) none, D.sl (List.map HeldR.cells lH) none], D.str node]) (by kernel_rfl) (by kernel_rfl) (by kernel_rfl) (by kernel_rfl) (hf1) (by kernel_rfl) ?_
          refine rv (D.bool false) ?_
          refine k_done (k_skip_seq (kcf (k_skip_seq (k_seq (k_seq ?_)))))
          refine rv (D.agg [D.sl (List.map nW lN) none, D.sl (List.map HeldR.cells lH) none]) ?_
          refine rv (D.str id) ?_
          refine runs_call ([D.agg [D.sl (List.map nW lN) none, D.sl (List.map HeldR.cells lH) none], D.str id]) (by kernel_rfl) (by kernel_rfl) (by kernel_rfl) (by kernel_rfl) (hg1) (by kernel_rfl) ?_
          refine rv (D.bool true) ?_
          refine k_done (k_skip_seq (kct (k_seq ?_)))
          refine rv (D.agg [D.sl (List.map nW lN) none, D.sl (List.map HeldR.cells lH) none]) ?_
          refine rgf (D.junk) ([]) ?_
          refine rv (D.int IntKind.i64 (13 : Int)) ?_
          refine k_done (k_skip_seq (k_ret ?_))
          exact ⟨.inr rfl, by kernel_rfl, by kernel_rfl⟩
theorem rel22_ok (n : Nat) {rs lN : List NodeR} {hs lH : List HeldR} (W : WInv rs hs lN lH) (Z : Sz n lN lH) (id : Nm) :
    callN T (n + 20) 22 [treeD lN lH, .str id] [] = some (.tup [treeD lN (delH lH id), .int .i64 (if (findH hs id).isSome = true then 0 else 60)], []) := by
  have hlN := Z.sN
  have hlH := Z.sH
  have hn1 := Z.sn
  refine call_of (m := m22) rfl rfl (by decide) (k_start ?_)
  unfold m22
  rcases held_cases (n + 18) W.permH lN id (by omega) (by omega) with ⟨g1, hg1⟩ | ⟨at_, hi2, g1, g2, hg1⟩
  · have hd : delH lH id = lH := by
      unfold delH
      rw [List.filter_eq_self]
      unfold findH at g1
      rw [List.find?_eq_none] at g1
      intro x hx
      have := g1 x (W.permH.subset hx)
      simpa using this
    rw [g1, hd]
    unfold treeD
    refine k_seq ?_
    refine rgf (D.lptr (2 : Nat) (0 : Nat)) ([]) ?_
    refine rgf (D.lptr (4 : Nat) (0 : Nat)) ([]) ?_
    refine rv (D.int IntKind.i64 (0 : Int)) ?_
    refine k_done (k_skip_seq (k_seq ?_))
    refine rv (D.agg [D.sl (List.map nW lN) none, D.sl (List.map HeldR.cells lH) none]) ?_
    refine rv (D.str id) ?_
    refine runs_call ([D.agg [D.sl (List.map nW lN) none, D.sl (List.map HeldR.cells lH) none], D.str id]) (by kernel_rfl) (by kernel_rfl) (by kernel_rfl) (by kernel_rfl) (hg1) (by kernel_rfl) ?_
    refine ra0 (D.int IntKind.i64 (-1 : Int)) ?_
    refine k_done (k_skip_seq (k_seq (k_seq ?_)))
    refine rv (D.int IntKind.i64 (-1 : Int)) ?_
    refine rv (D.bool true) ?_
    refine k_done (k_skip_seq (kct (k_seq ?_)))
    refine rv (D.agg [D.sl (List.map nW lN) none, D.sl (List.map HeldR.cells lH) none]) ?_
    refine rgf (D.junk) ([]) ?_
    refine rv (D.int IntKind.i64 (60 : Int)) ?_
    refine k_done (k_skip_seq (k_ret ?_))
    exact ⟨.inr rfl, by kernel_rfl, by kernel_rfl⟩
  · rw [if_pos g2]
    have hnd : (lH.map (·.id)).Nodup := (W.permH.map (·.id)).nodup_iff.2 W.p.d
    have hdel := delH_at hnd at_ hi2 g1
    have hrow : (delH lH id).map HeldR.cells = (lH.take at_).map HeldR.cells ++ (lH.drop (at_ + 1)).map HeldR.cells := by
      rw [← hdel]
      simp
    have hall : ((List.map HeldR.cells lH).all fun e => e.length == 3) = true := all_rows HeldR.cells 3 (fun _ => rfl) _
    have hall1 : ((List.map HeldR.cells (List.take at_ lH)).all fun e => e.length == 3) = true := all_rows HeldR.cells 3 (fun _ => rfl) _
    have hall2 : ((List.map HeldR.cells (List.drop (at_ + 1) lH)).all fun e => e.length == 3) = true := all_rows HeldR.cells 3 (fun _ => rfl) _
    have hs1 := take_rows HeldR.cells lH at_
    have hs2 := drop_rows HeldR.cells lH (at_ + 1)
    unfold treeD
    refine k_seq ?_
    refine rgf (D.lptr (2 : Nat) (0 : Nat)) ([]) ?_
    refine rgf (D.lptr (4 : Nat) (0 : Nat)) ([]) ?_
    refine rv (D.int IntKind.i64 (0 : Int)) ?_
    refine k_done (k_skip_seq (k_seq ?_))
    refine rv (D.agg [D.sl (List.map nW lN) none, D.sl (List.map HeldR.cells lH) none]) ?_
    refine rv (D.str id) ?_
    refine runs_call ([D.agg [D.sl (List.map nW lN) none, D.sl (List.map HeldR.cells lH) none], D.str id]) (by kernel_rfl) (by kernel_rfl) (by kernel_rfl) (by kernel_rfl) (hg1) (by kernel_rfl) ?_
    refine ra0 (D.int IntKind.i64 (↑at_ : Int)) ?_
    refine k_done (k_skip_seq (k_seq (k_seq ?_)))
    refine rv (D.int IntKind.i64 (↑at_ : Int)) ?_
    refine rv (D.bool false) ?_
    refine k_done (k_skip_seq (kcf (k_skip_seq (k_seq ?_))))
    refine rv (D.sl [] (some (83 : Nat))) ?_
    refine k_done (k_skip_seq (k_seq ?_))
    refine runs_steal (D.sl [] (some (83 : Nat))) (by kernel_rfl) (by kernel_rfl) ?_
    refine rv (D.lptr (2 : Nat) (1 : Nat)) ?_
    refine rv (D.sl (List.map HeldR.cells lH) none) ?_
    refine rv (D.int IntKind.i64 (↑at_ : Int)) ?_
    refine runs_sliceS (List.map HeldR.cells lH) _ (o := none) (0) (at_) (by kernel_rfl) (by kernel_rfl) (by kernel_rfl) (hiD_nat (k := IntKind.i64) (by kernel_rfl)) (by simp [ints, eInt, rows, eInts, bools, eBool, trips, eTrip, i8s, u16s, u8s, acts]; omega) (by assumption) (by assumption) ?_
    refine runs_append ([]) (List.map HeldR.cells (List.take at_ lH)) (List.map HeldR.cells (List.take at_ lH)) (by kernel_rfl) (by kernel_rfl) (by kernel_rfl) (by assumption) (by simp [nW, HeldR.cells, ints, eInt, rows, eInts, bools, eBool, trips, eTrip, i8s, u16s, u8s, acts, room]; omega) (List.nil_append _) ?_
    refine runs_assign (D.sl (List.map HeldR.cells (List.take at_ lH)) (some (83 : Nat))) (by kernel_rfl) (by kernel_rfl) ?_
    refine k_done (k_skip_seq (k_seq ?_))
    refine runs_steal (D.sl (List.map HeldR.cells (List.take at_ lH)) (some (83 : Nat))) (by kernel_rfl) (by kernel_rfl) ?_
    refine rv (D.lptr (2 : Nat) (1 : Nat)) ?_
    refine rv (D.sl (List.map HeldR.cells lH) none) ?_
    refine rv (D.int IntKind.i64 (↑at_ : Int)) ?_
    refine rve (D.int IntKind.i64 (IntKind.wrap IntKind.i64 ((↑at_ : Int) + (1 : Int)))) (.int IntKind.i64 ((at_ + 1 : Nat) : Int)) (congrArg (D.int IntKind.i64) (show IntKind.wrap IntKind.i64 ((↑at_ : Int) + (1 : Int)) = ((at_ + 1 : Nat) : Int) from wrap_eq (by omega) (by omega) (by omega))) ?_
    refine runs_sliceS (List.map HeldR.cells lH) _ (o := none) (at_ + (1 : Nat)) (List.length (List.map HeldR.cells lH)) (by kernel_rfl) (by kernel_rfl) (loD_nat (k := IntKind.i64) (by kernel_rfl)) (by kernel_rfl) (by simp [ints, eInt, rows, eInts, bools, eBool, trips, eTrip, i8s, u16s, u8s, acts]; omega) (by assumption) (by assumption) ?_
    refine runs_append (List.map HeldR.cells (List.take at_ lH)) (List.map HeldR.cells (List.drop (at_ + (1 : Nat)) lH)) (List.map HeldR.cells (List.take at_ lH) ++ List.map HeldR.cells (List.drop (at_ + (1 : Nat)) lH)) (by kernel_rfl) (by kernel_rfl) (by kernel_rfl) (by assumption) (by simp [nW, HeldR.cells, ints, eInt, rows, eInts, bools, eBool, trips, eTrip, i8s, u16s, u8s, acts, room]; omega) rfl ?_
    refine rv (D.lptr (2 : Nat) (1 : Nat)) ?_
    refine rgf (D.junk) ([]) ?_
    refine k_done (k_skip_seq (k_seq ?_))
    refine rv (D.agg [D.sl (List.map nW lN) none, D.sl (List.map HeldR.cells (List.take at_ lH) ++ List.map HeldR.cells (List.drop (at_ + (1 : Nat)) lH)) none]) ?_
    refine rgf (D.junk) ([]) ?_
    refine rv (D.int IntKind.i64 (0 : Int)) ?_
    refine k_done (k_skip_seq (k_ret ?_))
    exact ⟨.inr rfl, by kernel_rfl, by rw [hrow]; kernel_rfl⟩
theorem flat_length (l : List NodeR) : (List.map nW l).flatten.length = l.length * 3 := by
  induction l with
  | nil => rfl
  | cons r l ih =>
    rw [List.map_cons, List.flatten_cons, List.length_append, ih]
    simp [nW]
    omega
theorem scalar_W (l : List NodeR) : (List.map nW l).flatten.all scalar1 = true := by
  induction l with
  | nil => rfl
  | cons r l ih =>
    rw [List.map_cons, List.flatten_cons, List.all_append, ih]
    rfl
theorem pure_W (l : List NodeR) : (List.map nW l).flatten.all D.pure1 = true := by
  induction l with
  | nil => rfl
  | cons r l ih =>
    rw [List.map_cons, List.flatten_cons, List.all_append, ih]
    rfl
theorem chunk_W (l : List NodeR) : chunk 3 ((List.map nW l).flatten.map D.strip) l.length = List.map nW l := by
  induction l with
  | nil => rfl
  | cons r l ih =>
    rw [List.map_cons, List.flatten_cons, List.map_append, List.length_cons, chunk]
    have h1 : ((nW r).map D.strip ++ (List.map nW l).flatten.map D.strip).take 3 = nW r := rfl
    have h2 : ((nW r).map D.strip ++ (List.map nW l).flatten.map D.strip).drop 3 = (List.map nW l).flatten.map D.strip := rfl
    rw [h1, h2, ih]
theorem set_W (l : List NodeR) (i : Nat) (h : i < l.length) (v : Int) : List.set (List.flatten (List.map nW l)) (0 + i * 3 + 2) (.int .i64 v) = List.flatten (List.map nW (l.set i { l[i] with limit := v })) := by
  induction l generalizing i with
  | nil => simp at h
  | cons r l ih =>
    cases i with
    | zero => rfl
    | succ i =>
      have := ih i (by simpa using h)
      rw [show 0 + (i + 1) * 3 + 2 = (0 + i * 3 + 2) + 3 by omega]
      show nW r ++ List.set (List.flatten (List.map nW l)) (0 + i * 3 + 2) (.int .i64 v) = _
      rw [this]
      rfl
theorem set_one {l : List NodeR} {name : Nm} (hn : (l.map (·.name)).Nodup) {i : Nat} (h : i < l.length) (he : l[i].name = name) (f : NodeR → NodeR) : setR l name f = l.set i (f l[i]) := by
  induction l generalizing i with
  | nil => simp at h
  | cons r l ih =>
    simp only [List.map_cons, List.nodup_cons] at hn
    cases i with
    | zero =>
      simp only [List.getElem_cons_zero] at he
      have : setR l name f = l := by
        unfold setR
        conv => rhs; rw [← List.map_id l]
        refine List.map_congr_left fun x hx => ?_
        rw [if_neg (fun e => hn.1 (List.mem_map.2 ⟨x, hx, e.trans he.symm⟩))]
        rfl
      show (if r.name = name then f r else r) :: setR l name f = f r :: l
      rw [if_pos he, this]
    | succ i =>
      simp only [List.getElem_cons_succ] at he
      have hne : r.name ≠ name := fun e => hn.1 (List.mem_map.2 ⟨l[i]'(by simpa using h), List.getElem_mem _, he.trans e.symm⟩)
      have := ih hn.2 (by simpa using h) he
      show (if r.name = name then f r else r) :: setR l name f = r :: l.set i (f (l[i]'(by simpa using h)))
      rw [if_neg hne, this]
theorem freeze_W (l : List NodeR) (lH : List HeldR) (i : Nat) (h : i < l.length) (v : Int) : freeze [Go.Abs.Obj.cells (List.set (List.flatten (List.map nW l)) (0 + i * 3 + 2) (.int .i64 v)), Go.Abs.Obj.row 81] (.tup [.agg [.msl 0 0 (List.length (List.map nW l)) 3, .sl (lH.map HeldR.cells) none], .int .i64 0]) = some (.tup [.agg [.sl (List.map nW (l.set i { l[i] with limit := v })) none, .sl (lH.map HeldR.cells) none], .int .i64 0]) := by
  rw [set_W l i h v]
  have hl : (l.set i { l[i] with limit := v }).length = l.length := List.length_set
  have he : elems [Go.Abs.Obj.cells (List.flatten (List.map nW (l.set i { l[i] with limit := v }))), Go.Abs.Obj.row 81] (.msl 0 0 (List.length (List.map nW l)) 3) = some (List.map nW (l.set i { l[i] with limit := v })) := by
    show (if 0 + (List.map nW l).length * 3 ≤ (List.flatten (List.map nW (l.set i { l[i] with limit := v }))).length ∧ 0 < 3 ∧ (List.flatten (List.map nW (l.set i { l[i] with limit := v }))).all D.pure1 = true then some (chunk 3 (((List.flatten (List.map nW (l.set i { l[i] with limit := v }))).drop 0).map D.strip) (List.map nW l).length) else none) = _
    rw [if_pos ⟨by rw [flat_length, hl, List.length_map]; omega, by decide, pure_W _⟩, List.drop_zero, List.length_map, ← hl, chunk_W]
  simp only [freeze, freezeT, freezeL, freeze1, he, Option.map_some]
  rfl
def limN (rs lN : List NodeR) (name : Nm) (v : Int) : List NodeR := if limQ rs name v = 0 then setR lN name (fun r => { r with limit := v }) else lN
theorem lim23_ok (n : Nat) {rs lN : List NodeR} {hs lH : List HeldR} (W : WInv rs hs lN lH) (Z : Sz n lN lH) (name : Nm) (v : Int) :
    ∃ r σc, callN T (n + 20) 23 [treeD lN lH, .str name, .int .i64 v] [] = some (r, σc) ∧ freeze σc r = some (.tup [treeD (limN rs lN name v) lH, .int .i64 (limQ rs name v)]) := by
  have hlN := Z.sN
  have hlH := Z.sH
  have hn1 := Z.sn
  refine call_ofX (m := m23) (Φ := fun r σc => freeze σc r = some (.tup [treeD (limN rs lN name v) lH, .int .i64 (limQ rs name v)])) rfl rfl (by decide) (k_start ?_)
  unfold m23
  by_cases c1 : v < 0
  · have hq : limQ rs name v = 1 := by unfold limQ; rw [if_pos c1]
    rw [hq, show limN rs lN name v = lN by unfold limN; rw [hq]; rfl]
    unfold treeD
    refine k_seq ?_
    refine rgf (D.lptr (3 : Nat) (0 : Nat)) ([]) ?_
    refine rgf (D.lptr (6 : Nat) (0 : Nat)) ([]) ?_
    refine rv (D.int IntKind.i64 (0 : Int)) ?_
    refine k_done (k_skip_seq (k_seq (k_seq ?_)))
    refine rv (D.int IntKind.i64 v) ?_
    refine rv (D.bool (decide (v < (0 : Int)))) ?_
    refine k_done (k_skip_seq ?_)
    refine rkn 11 (decide (v < (0 : Int))) true (decide_eq_true (by assumption)) ?_
    refine kct (k_seq ?_)
    refine rv (D.agg [D.sl (List.map nW lN) none, D.sl (List.map HeldR.cells lH) none]) ?_
    refine rgf (D.junk) ([]) ?_
    refine rv (D.int IntKind.i64 (1 : Int)) ?_
    refine k_done (k_skip_seq (k_ret ?_))
    exact ⟨.inr rfl, by kernel_rfl, .tup [treeD lN lH, .int .i64 1], [], by kernel_rfl, by kernel_rfl⟩
  · rcases find_cases (n + 18) W.permN lH name (by omega) (by omega) with ⟨f1, hf1⟩ | ⟨i1, hi1, f1, f2, hf1⟩
    · have hf : rs.find? (·.name == name) = none := by unfold hasR at f1; simpa using f1
      have hq : limQ rs name v = 60 := by unfold limQ; rw [if_neg c1, hf]
      rw [hq, show limN rs lN name v = lN by unfold limN; rw [hq]; rfl]
      unfold treeD
      refine k_seq ?_
      refine rgf (D.lptr (3 : Nat) (0 : Nat)) ([]) ?_
      refine rgf (D.lptr (6 : Nat) (0 : Nat)) ([]) ?_
      refine rv (D.int IntKind.i64 (0 : Int)) ?_
      refine k_done (k_skip_seq (k_seq (k_seq ?_)))
      refine rv (D.int IntKind.i64 v) ?_
      refine rv (D.bool (decide (v < (0 : Int)))) ?_
      refine k_done (k_skip_seq ?_)
      refine rkn 11 (decide (v < (0 : Int))) false (decide_eq_false (by assumption)) ?_
      refine kcf (k_skip_seq (k_seq ?_))
      refine rv (D.agg [D.sl (List.map nW lN) none, D.sl (List.map HeldR.cells lH) none]) ?_
      refine rv (D.str name) ?_
      refine runs_call ([D.agg [D.sl (List.map nW lN) none, D.sl (List.map HeldR.cells lH) none], D.str name]) (by kernel_rfl) (by kernel_rfl) (by kernel_rfl) (by kernel_rfl) (hf1) (by kernel_rfl) ?_
      refine ra0 (D.int IntKind.i64 (-1 : Int)) ?_
      refine k_done (k_skip_seq (k_seq (k_seq ?_)))
      refine rv (D.int IntKind.i64 (-1 : Int)) ?_
      refine rv (D.bool true) ?_
      refine k_done (k_skip_seq (kct (k_seq ?_)))
      refine rv (D.agg [D.sl (List.map nW lN) none, D.sl (List.map HeldR.cells lH) none]) ?_
      refine rgf (D.junk) ([]) ?_
      refine rv (D.int IntKind.i64 (60 : Int)) ?_
      refine k_done (k_skip_seq (k_ret ?_))
      exact ⟨.inr rfl, by kernel_rfl, .tup [treeD lN lH, .int .i64 60], [], by kernel_rfl, by kernel_rfl⟩
    · have hmem := W.permN.subset (List.getElem_mem hi1)
      have hus := used_ok (n + 16) W.p W.permN W.permH name f2 (by omega) (by omega) (by omega) (by omega)
      obtain ⟨u1, u2, u3⟩ := W.p.u _ hmem
      rw [f1, ← sumAt_perm W.permH] at u1
      rw [← u1] at hus
      have hf : rs.find? (·.name == name) = some lN[i1] := by
        unfold hasR at f2
        obtain ⟨r, hr⟩ := Option.isSome_iff_exists.1 f2
        rw [hr, keys_inj (key := fun w : NodeR => w.name) W.p.nod (List.mem_of_find?_eq_some hr) hmem (by rw [f1]; simpa using List.find?_some hr)]
      by_cases c2 : v < lN[i1].used
      · have hq : limQ rs name v = 61 := by unfold limQ; rw [if_neg c1, hf]; exact if_pos c2
        rw [hq, show limN rs lN name v = lN by unfold limN; rw [hq]; rfl]
        unfold treeD
        refine k_seq ?_
        refine rgf (D.lptr (3 : Nat) (0 : Nat)) ([]) ?_
        refine rgf (D.lptr (6 : Nat) (0 : Nat)) ([]) ?_
        refine rv (D.int IntKind.i64 (0 : Int)) ?_
        refine k_done (k_skip_seq (k_seq (k_seq ?_)))
        refine rv (D.int IntKind.i64 v) ?_
        refine rv (D.bool (decide (v < (0 : Int)))) ?_
        refine k_done (k_skip_seq ?_)
        refine rkn 11 (decide (v < (0 : Int))) false (decide_eq_false (by assumption)) ?_
        refine kcf (k_skip_seq (k_seq ?_))
        refine rv (D.agg [D.sl (List.map nW lN) none, D.sl (List.map HeldR.cells lH) none]) ?_
        refine rv (D.str name) ?_
        refine runs_call ([D.agg [D.sl (List.map nW lN) none, D.sl (List.map HeldR.cells lH) none], D.str name]) (by kernel_rfl) (by kernel_rfl) (by kernel_rfl) (by kernel_rfl) (hf1) (by kernel_rfl) ?_
        refine ra0 (D.int IntKind.i64 (↑i1 : Int)) ?_
        refine k_done (k_skip_seq (k_seq (k_seq ?_)))
        refine rv (D.int IntKind.i64 (↑i1 : Int)) ?_
        refine rv (D.bool false) ?_
        refine k_done (k_skip_seq (kcf (k_skip_seq (k_seq (k_seq ?_)))))
        refine rv (D.int IntKind.i64 v) ?_
        refine rv (D.agg [D.sl (List.map nW lN) none, D.sl (List.map HeldR.cells lH) none]) ?_
        refine rv (D.str name) ?_
        refine runs_call ([D.agg [D.sl (List.map nW lN) none, D.sl (List.map HeldR.cells lH) none], D.str name]) (by kernel_rfl) (by kernel_rfl) (by kernel_rfl) (by kernel_rfl) (hus) (by kernel_rfl) ?_
        refine rv (D.bool (decide (v < NodeR.used lN[i1]))) ?_
        refine k_done (k_skip_seq ?_)
        refine rkn 23 (decide (v < NodeR.used lN[i1])) true (decide_eq_true (by assumption)) ?_
        refine kct (k_seq ?_)
        refine rv (D.agg [D.sl (List.map nW lN) none, D.sl (List.map HeldR.cells lH) none]) ?_
        refine rgf (D.junk) ([]) ?_
        refine rv (D.int IntKind.i64 (61 : Int)) ?_
        refine k_done (k_skip_seq (k_ret ?_))
        exact ⟨.inr rfl, by kernel_rfl, .tup [treeD lN lH, .int .i64 61], [], by kernel_rfl, by kernel_rfl⟩
      · have hq : limQ rs name v = 0 := by unfold limQ; rw [if_neg c1, hf]; exact if_neg c2
        rw [hq, show limN rs lN name v = setR lN name (fun r => { r with limit := v }) by unfold limN; rw [hq]; rfl]
        unfold treeD
        have hall : ((List.map nW lN).all fun e => e.length == 3) = true := all_rows nW 3 (fun _ => rfl) _
        have hsc : (List.map nW lN).flatten.all scalar1 = true := scalar_W lN
        have hoff : 0 + i1 * 3 + 2 < (List.map nW lN).flatten.length := by rw [flat_length]; omega
        have hi2 : i1 < (List.map nW lN).length := by simpa using hi1
        have hset : setR lN name (fun r => { r with limit := v }) = lN.set i1 { lN[i1] with limit := v } := set_one ((W.permN.map (·.name)).nodup_iff.2 W.p.nod) hi1 f1 _
        refine k_seq ?_
        refine rgf (D.lptr (3 : Nat) (0 : Nat)) ([]) ?_
        refine rgf (D.lptr (6 : Nat) (0 : Nat)) ([]) ?_
        refine rv (D.int IntKind.i64 (0 : Int)) ?_
        refine k_done (k_skip_seq (k_seq (k_seq ?_)))
        refine rv (D.int IntKind.i64 v) ?_
        refine rv (D.bool (decide (v < (0 : Int)))) ?_
        refine k_done (k_skip_seq ?_)
        refine rkn 11 (decide (v < (0 : Int))) false (decide_eq_false (by assumption)) ?_
        refine kcf (k_skip_seq (k_seq ?_))
        refine rv (D.agg [D.sl (List.map nW lN) none, D.sl (List.map HeldR.cells lH) none]) ?_
        refine rv (D.str name) ?_
        refine runs_call ([D.agg [D.sl (List.map nW lN) none, D.sl (List.map HeldR.cells lH) none], D.str name]) (by kernel_rfl) (by kernel_rfl) (by kernel_rfl) (by kernel_rfl) (hf1) (by kernel_rfl) ?_
        refine ra0 (D.int IntKind.i64 (↑i1 : Int)) ?_
        refine k_done (k_skip_seq (k_seq (k_seq ?_)))
        refine rv (D.int IntKind.i64 (↑i1 : Int)) ?_
        refine rv (D.bool false) ?_
        refine k_done (k_skip_seq (kcf (k_skip_seq (k_seq (k_seq ?_)))))
        refine rv (D.int IntKind.i64 v) ?_
        refine rv (D.agg [D.sl (List.map nW lN) none, D.sl (List.map HeldR.cells lH) none]) ?_
        refine rv (D.str name) ?_
        refine runs_call ([D.agg [D.sl (List.map nW lN) none, D.sl (List.map HeldR.cells lH) none], D.str name]) (by kernel_rfl) (by kernel_rfl) (by kernel_rfl) (by kernel_rfl) (hus) (by kernel_rfl) ?_
        refine rv (D.bool (decide (v < NodeR.used lN[i1]))) ?_
        refine k_done (k_skip_seq ?_)
        refine rkn 23 (decide (v < NodeR.used lN[i1])) false (decide_eq_false (by assumption)) ?_
        refine kcf (k_skip_seq (k_seq ?_))
        refine rv (D.sl [] (some (81 : Nat))) ?_
        refine k_done (k_skip_seq (k_seq ?_))
        refine runs_steal (D.sl [] (some (81 : Nat))) (by kernel_rfl) (by kernel_rfl) ?_
        refine rv (D.lptr (3 : Nat) (0 : Nat)) ?_
        refine rv (D.sl (List.map nW lN) none) ?_
        refine runs_appendN 0 (List.map nW lN) [Go.Abs.Obj.cells (List.map nW lN).flatten, Go.Abs.Obj.row 81] (by kernel_rfl) (by kernel_rfl) (by kernel_rfl) hall (by simp; omega) hsc (by simp [room]; omega) rfl rfl ?_
        refine ra0 (D.msl (0 : Nat) (0 : Nat) (List.length (List.map nW lN)) (3 : Nat)) ?_
        refine k_done (k_skip_seq (k_seq ?_))
        refine rv (D.msl (0 : Nat) (0 : Nat) (List.length (List.map nW lN)) (3 : Nat)) ?_
        refine rv (D.int IntKind.i64 (↑i1 : Int)) ?_
        refine rv (D.int IntKind.i64 v) ?_
        refine runs_indexM (kd := IntKind.i64) ((0 : Nat)) ((0 : Nat)) (List.length (List.map nW lN)) (i1) (by kernel_rfl) (by kernel_rfl) (by kernel_rfl) (by assumption) ?_
        refine rv (D.ptr (0 : Nat) ((0 : Nat) + i1 * (3 : Nat) + (2 : Nat))) ?_
        refine runs_storeP ((0 : Nat)) ((0 : Nat) + i1 * (3 : Nat) + (2 : Nat)) (List.flatten (List.map nW lN)) (List.set (List.flatten (List.map nW lN)) ((0 : Nat) + i1 * (3 : Nat) + (2 : Nat)) (D.int IntKind.i64 v)) (D.int IntKind.i64 v) ([.cells (List.set (List.flatten (List.map nW lN)) ((0 : Nat) + i1 * (3 : Nat) + (2 : Nat)) (D.int IntKind.i64 v)), Obj.row (81 : Nat)]) (by kernel_rfl) (by kernel_rfl) (by kernel_rfl) (by kernel_rfl) (by kernel_rfl) (by kernel_rfl) (by kernel_rfl) (by assumption) rfl (by kernel_rfl) ?_
        refine k_done (k_skip_seq (k_seq ?_))
        refine rv (D.msl (0 : Nat) (0 : Nat) (List.length (List.map nW lN)) (3 : Nat)) ?_
        refine rv (D.lptr (3 : Nat) (0 : Nat)) ?_
        refine rgf (D.junk) ([Obj.cells (List.set (List.flatten (List.map nW lN)) ((0 : Nat) + i1 * (3 : Nat) + (2 : Nat)) (D.int IntKind.i64 v)), Obj.row (81 : Nat)]) ?_
        refine k_done (k_skip_seq (k_seq ?_))
        refine rv (D.agg [D.msl (0 : Nat) (0 : Nat) (List.length (List.map nW lN)) (3 : Nat), D.sl (List.map HeldR.cells lH) none]) ?_
        refine rgf (D.junk) ([Obj.cells (List.set (List.flatten (List.map nW lN)) ((0 : Nat) + i1 * (3 : Nat) + (2 : Nat)) (D.int IntKind.i64 v)), Obj.row (81 : Nat)]) ?_
        refine rv (D.int IntKind.i64 (0 : Int)) ?_
        refine k_done (k_skip_seq (k_ret ?_))
        exact ⟨.inr rfl, by kernel_rfl, .tup [.agg [.msl 0 0 (List.length (List.map nW lN)) 3, .sl (lH.map HeldR.cells) none], .int .i64 0], [Go.Abs.Obj.cells (List.set (List.flatten (List.map nW lN)) (0 + i1 * 3 + 2) (.int .i64 v)), Go.Abs.Obj.row 81], by kernel_rfl, by rw [hset]; exact freeze_W lN lH i1 hi1 v⟩
end Go.Abs.C
