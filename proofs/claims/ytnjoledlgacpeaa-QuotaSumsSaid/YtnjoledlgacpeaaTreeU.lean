import Derived.Test.YtnjoledlgacpeaaKont2
import Derived.Test.YtnjoledlgacpeaaTreeS
set_option linter.unusedVariables false
set_option linter.unusedSimpArgs false
/-
  QuotaSums as the machine code sees it.
-/
namespace Go.Abs.C
open Go Go.Abs
set_option maxRecDepth 8000
attribute [local irreducible] callN runC evalOp
abbrev kp (d : D) : D := keptD [5, 9, 10, 7, 11, 13, 14, 15, 12, 8, 4, 0, 2] d
structure SS where
  i : Nat
  σ : St
  ns : List NodeX
  hs : List HeldR
  d7 : D
  d8 : D
  d9 : D
  d10 : D
  d11 : D
  d12 : D
  d13 : D
  d14 : D
  d15 : D
structure KS where
  k : Nat
  d10 : D
  d11 : D
  d12 : D
  d13 : D
  d14 : D
  d15 : D
structure JS where
  j : Nat
  sum : Int
  d12 : D
  d13 : D
  d14 : D
  d15 : D
structure NS where
  n : Nat
  here : Nm
  d14 : D
  d15 : D
def fA (sc : List ActR) (i : Nat) (d7 d8 d9 d10 d11 d12 d13 d14 d15 : D) : Fr := ⟨[.sl (acts sc) none, .junk, .bool false, .junk, .ptr 2 0, .int .i64 i, .junk, d7, d8, d9, d10, d11, d12, d13, d14, d15] ++ List.replicate 137 .junk, List.replicate 153 none, []⟩
def fK (sc : List ActR) (i : Nat) (lN : List NodeR) (lH : List HeldR) (k : Nat) (d10 d11 d12 d13 d14 d15 : D) : Fr := fA sc i (.sl (lN.map NodeR.cells) none) (.sl (lH.map HeldR.cells) none) (.int .i64 k) d10 d11 d12 d13 d14 d15
theorem last_used {rs lN : List NodeR} {hs lH : List HeldR} (p : PInv rs hs) (hN : lN.Perm rs) (hH : lH.Perm hs) {k : Nat} (hk : k < lN.length) {sum : Int} (h : sum = sumAt (npR rs) lN[k].name (lH.take lH.length)) : lN[k].used = sum ∧ sum ≤ lN[k].limit ∧ 0 ≤ sum := by
  rw [List.take_length, sumAt_perm hH] at h
  have hm : lN[k] ∈ rs := hN.subset (List.getElem_mem hk)
  obtain ⟨u1, u2, u3⟩ := p.u _ hm
  obtain ⟨u4, u5, u6⟩ := used_range p hm
  exact ⟨by omega, by omega, by omega⟩
theorem sum_add {rs lN : List NodeR} {hs lH : List HeldR} (p : PInv rs hs) (hN : lN.Perm rs) (hH : lH.Perm hs) {k j : Nat} (hk : k < lN.length) (hj : j < lH.length) {sum : Int} (h : sum = sumAt (npR rs) lN[k].name (lH.take j)) (hm : lN[k].name ∈ lineP (npR rs) lH[j].node) :
    0 ≤ sum + lH[j].amount ∧ sum + lH[j].amount ≤ 9223372036854775807 ∧ sum + lH[j].amount = sumAt (npR rs) lN[k].name (lH.take (j + 1)) := by
  have h1 := sumAt_snoc (npR rs) lN[k].name lH j hj
  rw [if_pos hm] at h1
  have h2 := sumAt_take (np := npR rs) (name := lN[k].name) (hs := lH) (fun x hx => (p.h x (hH.subset hx)).1) (j + 1)
  rw [sumAt_perm hH] at h2
  have hmem : lN[k] ∈ rs := hN.subset (List.getElem_mem hk)
  obtain ⟨u1, u2, u3⟩ := p.u _ hmem
  omega
theorem sum_keep {np : List (Nm × Nm)} {name : Nm} {lH : List HeldR} {j : Nat} (hj : j < lH.length) {sum : Int} (h : sum = sumAt np name (lH.take j)) (hm : name ∉ lineP np lH[j].node) : sum = sumAt np name (lH.take (j + 1)) := by
  rw [sumAt_snoc np name lH j hj, if_neg hm, h]
  omega
set_option maxHeartbeats 2000000
theorem lawSums_ok (sc : List ActR) (hok : ∀ a ∈ sc, a.n ≤ 9223372036854775807) : ∃ σ, callN T 100 4 [.sl (acts sc) none] [] = some (.bool true, σ) := by
  refine call_ofE (m := m4) rfl rfl (by decide) (k_start ?_)
  unfold m4
  have hnew : callN T 99 11 [] [] = some (.ptr 2 0, [Go.Abs.Obj.map [], Go.Abs.Obj.map [], Go.Abs.Obj.cells [.map 0, .map 1]]) := new_ok 98 []
  have hl0 : Lay [Go.Abs.Obj.map [], Go.Abs.Obj.map [], Go.Abs.Obj.cells [.map 0, .map 1]] 2 0 1 [] [] := new_lay []
  obtain ⟨σw, haw⟩ := awake_ok
  refine k_seq ?_
  refine rv (D.bool false) ?_
  refine k_done (k_skip_seq (k_seq ?_))
  refine runs_call ([]) (by kernel_rfl) (by kernel_rfl) (by kernel_rfl) (by kernel_rfl) (haw) (by kernel_rfl) ?_
  refine ra0 (D.bool true) ?_
  refine k_done (k_skip_seq (k_seq (k_seq ?_)))
  refine rv (D.bool true) ?_
  refine rv (D.bool false) ?_
  refine k_done (k_skip_seq (kcf (k_skip_seq (k_seq ?_))))
  refine runs_call_fr ([]) (by kernel_rfl) (by kernel_rfl) (by kernel_rfl) (by kernel_rfl) (hnew) (by kernel_rfl) (by kernel_rfl) (hnew) ?_
  refine ra0 (D.ptr (2 : Nat) (0 : Nat)) ?_
  refine k_done (k_skip_seq (k_seq (k_seq ?_)))
  refine rv (D.int IntKind.i64 (0 : Int)) ?_
  refine k_done (k_skip_seq (k_block ?_))
  refine k_loop (fun s : SS => fA sc s.i s.d7 s.d8 s.d9 s.d10 s.d11 s.d12 s.d13 s.d14 s.d15) (fun s => s.σ) (fun s => s.i ≤ 40 ∧ QInv s.σ 2 0 1 s.ns s.hs ∧ s.ns.length ≤ s.i ∧ s.hs.length ≤ s.i) (fun s => 40 - s.i) ⟨0, _, [], [], .junk, .junk, .junk, .junk, .junk, .junk, .junk, .junk, .junk⟩ (by kernel_rfl) (by kernel_rfl) ⟨by simp, ⟨hl0, ⟨.nil, by simp, by simp, by simp⟩, by simp⟩, by simp, by simp⟩ (fun s hs => by omega) ?_
  clear hl0 haw hnew
  rintro ⟨i, σ, ns, hs, d7, d8, d9, d10, d11, d12, d13, d14, d15⟩ ⟨hi, I, hn, hh⟩
  simp only at hi I hn hh
  show Runs (runC _ _ _ (fA sc i d7 d8 d9 d10 d11 d12 d13 d14 d15) σ) _
  unfold fA l4_4
  by_cases c1 : i < sc.length
  · by_cases c2 : i < 40
    · have hai := hok _ (List.getElem_mem c1)
      by_cases k0 : IntKind.wrap IntKind.i64 (↑(BitVec.toNat (BitVec.ofInt (IntKind.bits IntKind.i64) (ActR.kind sc[i]) &&& BitVec.ofInt (IntKind.bits IntKind.i64) (3 : Int))) : Int) = 0
      · obtain ⟨σ1, ns1, hc, O, p1, _, n0⟩ := q_add I 98 sc[i].a sc[i].b sc[i].n hai
        have n1 : ns1.length ≤ i + 1 := by omega
        have m1 : hs.length ≤ i + 1 := by omega
        obtain ⟨hs1, hhs⟩ : ∃ l, l = hs := ⟨_, rfl⟩
        rw [← hhs] at O p1 m1
        have L1 := O.L
        have hN := nodes_ok L1 (by omega) 98
        have hLv := live_ok L1 (by omega) 97
        have hpN : (nodesV ns1).Perm (ns1.map (·.r)) := sortK_perm _ _
        have hpH : (heldV hs1).Perm hs1 := sortK_perm _ _
        have I1 : QInv (σ1 ++ [Go.Abs.Obj.cells [.map 1]]) 2 0 1 ns1 hs1 := ⟨L1.append _, p1, by omega, by omega⟩
        generalize nodesV ns1 = lN at hN hpN
        generalize heldV hs1 = lH at hLv hpH
        have lenN : lN.length = ns1.length := by rw [hpN.length_eq, List.length_map]
        have lenH : lH.length = hs1.length := hpH.length_eq
        generalize hrs : ns1.map (·.r) = rs at p1 hpN
        have hnod : (rs.map (·.name)).Nodup := by have := grown_names p1.g; unfold npR at this; rw [List.map_map] at this; exact this
        refine k_seq (k_seq ?_)
        refine rv (D.int IntKind.i64 (↑i : Int)) ?_
        refine rv (D.sl (acts sc) none) ?_
        refine rve (D.int IntKind.i64 (↑(List.length (acts sc)) : Int)) (.int IntKind.i64 ((↑(List.length sc) : Int))) (by simp only [ints, eInt, rows, eInts, bools, eBool, trips, eTrip, i8s, u16s, u8s, acts, List.length_map]) ?_
        refine rv (D.bool (decide ((↑i : Int) < (↑(List.length sc) : Int)))) ?_
        refine rv (D.bool (decide ((↑i : Int) < (↑(List.length sc) : Int)))) ?_
        refine rkn 24 (decide ((↑i : Int) < (↑(List.length sc) : Int))) true (decide_eq_true (by omega)) ?_
        refine rv (D.int IntKind.i64 (↑i : Int)) ?_
        refine rv (D.bool (decide ((↑i : Int) < (40 : Int)))) ?_
        refine rv (D.bool (decide ((↑i : Int) < (40 : Int)))) ?_
        refine k_done (k_skip_seq ?_)
        refine rkn 27 (decide ((↑i : Int) < (40 : Int))) true (decide_eq_true (by omega)) ?_
        refine kct (k_skip_seq (k_seq (k_block (k_seq ?_))))
        refine rv (D.sl (acts sc) none) ?_
        refine rv (D.int IntKind.i64 (↑i : Int)) ?_
        refine runs_index (sc) (ActR.cells) (o := none) (kd := IntKind.i64) (i) (by kernel_rfl) (by kernel_rfl) (by kernel_rfl) (by assumption) (by kernel_rfl) ?_
        refine rv (D.agg [D.int IntKind.i64 (ActR.kind sc[i]), D.str (ActR.a sc[i]), D.str (ActR.b sc[i]), D.int IntKind.i64 (ActR.n sc[i])]) ?_
        refine rgf (D.lptr (6 : Nat) (0 : Nat)) (σ) ?_
        refine rgf (D.junk) (σ) ?_
        refine k_done (k_skip_seq (k_seq (k_seq ?_)))
        refine rv (D.lptr (6 : Nat) (0 : Nat)) ?_
        refine rv (D.int IntKind.i64 (ActR.kind sc[i])) ?_
        refine rv (D.int IntKind.i64 (IntKind.wrap IntKind.i64 (↑(BitVec.toNat (BitVec.ofInt (IntKind.bits IntKind.i64) (ActR.kind sc[i]) &&& BitVec.ofInt (IntKind.bits IntKind.i64) (3 : Int))) : Int))) ?_
        refine k_done (k_skip_seq (k_block (k_seq ?_)))
        refine rv (D.bool (IntKind.wrap IntKind.i64 (↑(BitVec.toNat (BitVec.ofInt (IntKind.bits IntKind.i64) (ActR.kind sc[i]) &&& BitVec.ofInt (IntKind.bits IntKind.i64) (3 : Int))) : Int) == (0 : Int))) ?_
        refine ra0 (D.bool (IntKind.wrap IntKind.i64 (↑(BitVec.toNat (BitVec.ofInt (IntKind.bits IntKind.i64) (ActR.kind sc[i]) &&& BitVec.ofInt (IntKind.bits IntKind.i64) (3 : Int))) : Int) == (0 : Int))) ?_
        refine k_done (k_skip_seq ?_)
        refine rkn 43 (IntKind.wrap IntKind.i64 (↑(BitVec.toNat (BitVec.ofInt (IntKind.bits IntKind.i64) (ActR.kind sc[i]) &&& BitVec.ofInt (IntKind.bits IntKind.i64) (3 : Int))) : Int) == (0 : Int)) true (decide_eq_true (by assumption)) ?_
        refine kct ?_
        refine rv (D.ptr (2 : Nat) (0 : Nat)) ?_
        refine rv (D.lptr (6 : Nat) (1 : Nat)) ?_
        refine rv (D.str (ActR.a sc[i])) ?_
        refine rv (D.lptr (6 : Nat) (2 : Nat)) ?_
        refine rv (D.str (ActR.b sc[i])) ?_
        refine rv (D.lptr (6 : Nat) (3 : Nat)) ?_
        refine rv (D.int IntKind.i64 (ActR.n sc[i])) ?_
        refine runs_call_st ([D.ptr (2 : Nat) (0 : Nat), D.str (ActR.a sc[i]), D.str (ActR.b sc[i]), D.int IntKind.i64 (ActR.n sc[i])]) (by kernel_rfl) (by kernel_rfl) (by kernel_rfl) (by kernel_rfl) (hc) ?_
        refine k_done (k_skip_block (k_skip_seq (k_seq ?_)))
        refine rv (D.ptr (2 : Nat) (0 : Nat)) ?_
        refine runs_call_st ([D.ptr (2 : Nat) (0 : Nat)]) (by kernel_rfl) (by kernel_rfl) (by kernel_rfl) (by kernel_rfl) (hN) ?_
        refine ra0 (D.sl (List.map NodeR.cells lN) none) ?_
        refine k_done (k_skip_seq (k_seq ?_))
        refine rv (D.ptr (2 : Nat) (0 : Nat)) ?_
        refine runs_call_st ([D.ptr (2 : Nat) (0 : Nat)]) (by kernel_rfl) (by kernel_rfl) (by kernel_rfl) (by kernel_rfl) (hLv) ?_
        refine ra0 (D.sl (List.map HeldR.cells lH) none) ?_
        refine k_done (k_skip_seq (k_seq ?_))
        refine rv (D.int IntKind.i64 (0 : Int)) ?_
        refine k_done (k_skip_seq (k_block ?_))
        refine k_loop (fun s : KS => fK sc i lN lH s.k s.d10 s.d11 s.d12 s.d13 s.d14 s.d15) (fun _ => σ1 ++ [Go.Abs.Obj.cells [.map 1]]) (fun s => s.k ≤ lN.length) (fun s => lN.length - s.k) ⟨0, kp d10, kp d11, kp d12, kp d13, kp d14, kp d15⟩ (by kernel_rfl) (by kernel_rfl) (by simp) (fun s hs => by omega) ?_
        rintro ⟨k, d10, d11, d12, d13, d14, d15⟩ hk
        simp only at hk
        show Runs (runC _ _ _ (fK sc i lN lH k d10 d11 d12 d13 d14 d15) (σ1 ++ [Go.Abs.Obj.cells [.map 1]])) _
        unfold fK fA l4_3
        by_cases ck : k < lN.length
        · refine k_seq (k_seq ?_)
          refine rv (D.int IntKind.i64 (↑k : Int)) ?_
          refine rv (D.sl (List.map NodeR.cells lN) none) ?_
          refine rve (D.int IntKind.i64 (↑(List.length (List.map NodeR.cells lN)) : Int)) (.int IntKind.i64 ((↑(List.length lN) : Int))) (by simp only [ints, eInt, rows, eInts, bools, eBool, trips, eTrip, i8s, u16s, u8s, acts, List.length_map]) ?_
          refine rv (D.bool (decide ((↑k : Int) < (↑(List.length lN) : Int)))) ?_
          refine k_done (k_skip_seq ?_)
          refine rkn 76 (decide ((↑k : Int) < (↑(List.length lN) : Int))) true (decide_eq_true (by omega)) ?_
          refine kct (k_skip_seq (k_seq (k_block (k_seq ?_))))
          refine rv (D.int IntKind.i64 (0 : Int)) ?_
          refine k_done (k_skip_seq (k_seq (k_seq ?_)))
          refine rv (D.int IntKind.i64 (0 : Int)) ?_
          refine k_done (k_skip_seq (k_block ?_))
          refine k_loop (fun s : JS => fK sc i lN lH k (.int .i64 s.sum) (.int .i64 s.j) s.d12 s.d13 s.d14 s.d15) (fun _ => σ1 ++ [Go.Abs.Obj.cells [.map 1]]) (fun s => s.j ≤ lH.length ∧ s.sum = sumAt (npR rs) lN[k].name (lH.take s.j)) (fun s => lH.length - s.j) ⟨0, 0, kp d12, kp d13, kp d14, kp d15⟩ (by kernel_rfl) (by kernel_rfl) ⟨by simp, rfl⟩ (fun s hs => by omega) ?_
          rintro ⟨j, sum, d12, d13, d14, d15⟩ ⟨hj, hsum⟩
          simp only at hj hsum
          show Runs (runC _ _ _ (fK sc i lN lH k (.int .i64 sum) (.int .i64 j) d12 d13 d14 d15) (σ1 ++ [Go.Abs.Obj.cells [.map 1]])) _
          unfold fK fA l4_2
          by_cases cj : j < lH.length
          · refine k_seq (k_seq ?_)
            refine rv (D.int IntKind.i64 (↑j : Int)) ?_
            refine rv (D.sl (List.map HeldR.cells lH) none) ?_
            refine rve (D.int IntKind.i64 (↑(List.length (List.map HeldR.cells lH)) : Int)) (.int IntKind.i64 ((↑(List.length lH) : Int))) (by simp only [ints, eInt, rows, eInts, bools, eBool, trips, eTrip, i8s, u16s, u8s, acts, List.length_map]) ?_
            refine rv (D.bool (decide ((↑j : Int) < (↑(List.length lH) : Int)))) ?_
            refine k_done (k_skip_seq ?_)
            refine rkn 82 (decide ((↑j : Int) < (↑(List.length lH) : Int))) true (decide_eq_true (by omega)) ?_
            refine kct (k_skip_seq (k_seq (k_block (k_seq ?_))))
            refine rv (D.sl (List.map HeldR.cells lH) none) ?_
            refine rv (D.int IntKind.i64 (↑j : Int)) ?_
            refine runs_index (lH) (HeldR.cells) (o := none) (kd := IntKind.i64) (j) (by kernel_rfl) (by kernel_rfl) (by kernel_rfl) (by assumption) (by kernel_rfl) ?_
            refine rv (D.ref [D.str (HeldR.node lH[j]), D.int IntKind.i64 (HeldR.amount lH[j])]) ?_
            refine rv (D.str (HeldR.node lH[j])) ?_
            refine ra0 (D.str (HeldR.node lH[j])) ?_
            refine k_done (k_skip_seq (k_seq ?_))
            refine rv (D.int IntKind.i64 (0 : Int)) ?_
            refine k_done (k_skip_seq (k_block ?_))
            refine k_loop (fun s : NS => fK sc i lN lH k (.int .i64 sum) (.int .i64 j) (.str s.here) (.int .i64 s.n) s.d14 s.d15) (fun _ => σ1 ++ [Go.Abs.Obj.cells [.map 1]]) (fun s => s.n ≤ lN.length + 1 ∧ (lN[k].name ∈ pathP (npR rs) (lN.length + 1 - s.n) s.here ↔ lN[k].name ∈ lineP (npR rs) lH[j].node)) (fun s => lN.length + 1 - s.n) ⟨0, lH[j].node, kp d14, kp d15⟩ (by kernel_rfl) (by kernel_rfl) ⟨by simp, by rw [show lN.length = (npR rs).length by rw [hpN.length_eq]; simp [npR]]; exact Iff.rfl⟩ (fun s hs => by omega) ?_
            rintro ⟨n, at1, d14, d15⟩ ⟨hn1, hin⟩
            simp only at hn1 hin
            show Runs (runC _ _ _ (fK sc i lN lH k (.int .i64 sum) (.int .i64 j) (.str at1) (.int .i64 n) d14 d15) (σ1 ++ [Go.Abs.Obj.cells [.map 1]])) _
            unfold fK fA l4_1
            by_cases cn1 : n ≤ lN.length
            · by_cases cn2 : at1 = []
              · subst cn2
                refine k_seq (k_seq ?_)
                refine rv (D.int IntKind.i64 (↑n : Int)) ?_
                refine rv (D.sl (List.map NodeR.cells lN) none) ?_
                refine rve (D.int IntKind.i64 (↑(List.length (List.map NodeR.cells lN)) : Int)) (.int IntKind.i64 ((↑(List.length lN) : Int))) (by simp only [ints, eInt, rows, eInts, bools, eBool, trips, eTrip, i8s, u16s, u8s, acts, List.length_map]) ?_
                refine rv (D.bool (decide ((↑n : Int) ≤ (↑(List.length lN) : Int)))) ?_
                refine rv (D.bool (decide ((↑n : Int) ≤ (↑(List.length lN) : Int)))) ?_
                refine rkn 94 (decide ((↑n : Int) ≤ (↑(List.length lN) : Int))) true (decide_eq_true (by omega)) ?_
                refine rv (D.str []) ?_
                refine rv (D.bool false) ?_
                refine rv (D.bool false) ?_
                refine k_done (k_skip_seq (kcf (k_exit_seq (k_exit_back (k_exit_hit rfl (k_skip_block (k_skip_seq ?_)))))))
                refine rv (D.int IntKind.i64 (↑j : Int)) ?_
                refine rve (D.int IntKind.i64 (IntKind.wrap IntKind.i64 ((↑j : Int) + (1 : Int)))) (.int IntKind.i64 ((j + 1 : Nat) : Int)) (congrArg (D.int IntKind.i64) (show IntKind.wrap IntKind.i64 ((↑j : Int) + (1 : Int)) = ((j + 1 : Nat) : Int) from wrap_eq (by omega) (by omega) (by omega))) ?_
                refine ra0 (D.int IntKind.i64 (↑(j + (1 : Nat)) : Int)) ?_
                refine k_done (k_skip_back ?_)
                exact ⟨⟨j + 1, sum, .str [], .int .i64 n, kp d14, kp d15⟩, ⟨cj, sum_keep cj hsum (fun h => mem_path_empty p1.g _ _ (hin.2 h))⟩, by simp only []; omega, by kernel_rfl, rfl⟩
              · by_cases cn3 : at1 = lN[k].name
                · have hmem : lN[k].name ∈ lineP (npR rs) lH[j].node := by
                    rw [← hin, ← cn3, show lN.length + 1 - n = (lN.length - n) + 1 by omega]
                    exact mem_path_here (by rw [cn3, lookP_has]; exact hasR_mem (hpN.subset (List.getElem_mem ck)))
                  obtain ⟨s1, s2, s3⟩ := sum_add p1 hpN hpH ck cj hsum hmem
                  refine k_seq (k_seq ?_)
                  refine rv (D.int IntKind.i64 (↑n : Int)) ?_
                  refine rv (D.sl (List.map NodeR.cells lN) none) ?_
                  refine rve (D.int IntKind.i64 (↑(List.length (List.map NodeR.cells lN)) : Int)) (.int IntKind.i64 ((↑(List.length lN) : Int))) (by simp only [ints, eInt, rows, eInts, bools, eBool, trips, eTrip, i8s, u16s, u8s, acts, List.length_map]) ?_
                  refine rv (D.bool (decide ((↑n : Int) ≤ (↑(List.length lN) : Int)))) ?_
                  refine rv (D.bool (decide ((↑n : Int) ≤ (↑(List.length lN) : Int)))) ?_
                  refine rkn 94 (decide ((↑n : Int) ≤ (↑(List.length lN) : Int))) true (decide_eq_true (by omega)) ?_
                  refine rv (D.str at1) ?_
                  refine rv (D.bool !at1 == []) ?_
                  refine rv (D.bool !at1 == []) ?_
                  refine k_done (k_skip_seq ?_)
                  refine rkn 97 (!at1 == []) true (bne_iff_ne.2 (by assumption)) ?_
                  refine kct (k_skip_seq (k_seq (k_block (k_seq (k_seq ?_)))))
                  refine rv (D.str at1) ?_
                  refine rv (D.sl (List.map NodeR.cells lN) none) ?_
                  refine rv (D.int IntKind.i64 (↑k : Int)) ?_
                  refine runs_index (lN) (NodeR.cells) (o := none) (kd := IntKind.i64) (k) (by kernel_rfl) (by kernel_rfl) (by kernel_rfl) (by assumption) (by kernel_rfl) ?_
                  refine rv (D.ref [D.str (NodeR.name lN[k]), D.str (NodeR.parent lN[k]), D.int IntKind.i64 (NodeR.limit lN[k]), D.int IntKind.i64 (NodeR.used lN[k])]) ?_
                  refine rv (D.str (NodeR.name lN[k])) ?_
                  refine rv (D.bool (at1 == NodeR.name lN[k])) ?_
                  refine k_done (k_skip_seq ?_)
                  refine rkn 106 (at1 == NodeR.name lN[k]) true (beq_iff_eq.2 (by assumption)) ?_
                  refine kct (k_seq ?_)
                  refine rv (D.int IntKind.i64 sum) ?_
                  refine rv (D.sl (List.map HeldR.cells lH) none) ?_
                  refine rv (D.int IntKind.i64 (↑j : Int)) ?_
                  refine runs_index (lH) (HeldR.cells) (o := none) (kd := IntKind.i64) (j) (by kernel_rfl) (by kernel_rfl) (by kernel_rfl) (by assumption) (by kernel_rfl) ?_
                  refine rv (D.ref [D.int IntKind.i64 (HeldR.amount lH[j])]) ?_
                  refine rv (D.int IntKind.i64 (HeldR.amount lH[j])) ?_
                  refine rve (D.int IntKind.i64 (IntKind.wrap IntKind.i64 (sum + HeldR.amount lH[j]))) (.int IntKind.i64 (sum + HeldR.amount lH[j])) (congrArg (D.int IntKind.i64) (show IntKind.wrap IntKind.i64 (sum + HeldR.amount lH[j]) = (sum + HeldR.amount lH[j]) from wrap_eq (by omega) (by omega) (by omega))) ?_
                  refine ra0 (D.int IntKind.i64 (sum + HeldR.amount lH[j])) ?_
                  refine k_done (k_skip_seq (k_exit_seq (k_exit_miss (by decide) (k_exit_seq (k_exit_back (k_exit_hit rfl (k_skip_block (k_skip_seq ?_))))))))
                  refine rv (D.int IntKind.i64 (↑j : Int)) ?_
                  refine rve (D.int IntKind.i64 (IntKind.wrap IntKind.i64 ((↑j : Int) + (1 : Int)))) (.int IntKind.i64 ((j + 1 : Nat) : Int)) (congrArg (D.int IntKind.i64) (show IntKind.wrap IntKind.i64 ((↑j : Int) + (1 : Int)) = ((j + 1 : Nat) : Int) from wrap_eq (by omega) (by omega) (by omega))) ?_
                  refine ra0 (D.int IntKind.i64 (↑(j + (1 : Nat)) : Int)) ?_
                  refine k_done (k_skip_back ?_)
                  exact ⟨⟨j + 1, sum + lH[j].amount, .str at1, .int .i64 n, kp d14, kp d15⟩, ⟨cj, s3⟩, by simp only []; omega, by kernel_rfl, rfl⟩
                · refine k_seq (k_seq ?_)
                  refine rv (D.int IntKind.i64 (↑n : Int)) ?_
                  refine rv (D.sl (List.map NodeR.cells lN) none) ?_
                  refine rve (D.int IntKind.i64 (↑(List.length (List.map NodeR.cells lN)) : Int)) (.int IntKind.i64 ((↑(List.length lN) : Int))) (by simp only [ints, eInt, rows, eInts, bools, eBool, trips, eTrip, i8s, u16s, u8s, acts, List.length_map]) ?_
                  refine rv (D.bool (decide ((↑n : Int) ≤ (↑(List.length lN) : Int)))) ?_
                  refine rv (D.bool (decide ((↑n : Int) ≤ (↑(List.length lN) : Int)))) ?_
                  refine rkn 94 (decide ((↑n : Int) ≤ (↑(List.length lN) : Int))) true (decide_eq_true (by omega)) ?_
                  refine rv (D.str at1) ?_
                  refine rv (D.bool !at1 == []) ?_
                  refine rv (D.bool !at1 == []) ?_
                  refine k_done (k_skip_seq ?_)
                  refine rkn 97 (!at1 == []) true (bne_iff_ne.2 (by assumption)) ?_
                  refine kct (k_skip_seq (k_seq (k_block (k_seq (k_seq ?_)))))
                  refine rv (D.str at1) ?_
                  refine rv (D.sl (List.map NodeR.cells lN) none) ?_
                  refine rv (D.int IntKind.i64 (↑k : Int)) ?_
                  refine runs_index (lN) (NodeR.cells) (o := none) (kd := IntKind.i64) (k) (by kernel_rfl) (by kernel_rfl) (by kernel_rfl) (by assumption) (by kernel_rfl) ?_
                  refine rv (D.ref [D.str (NodeR.name lN[k]), D.str (NodeR.parent lN[k]), D.int IntKind.i64 (NodeR.limit lN[k]), D.int IntKind.i64 (NodeR.used lN[k])]) ?_
                  refine rv (D.str (NodeR.name lN[k])) ?_
                  refine rv (D.bool (at1 == NodeR.name lN[k])) ?_
                  refine k_done (k_skip_seq ?_)
                  refine rkn 106 (at1 == NodeR.name lN[k]) false (beq_eq_false_iff_ne.2 (by assumption)) ?_
                  refine kcf (k_skip_seq (k_seq ?_))
                  refine rv (D.str []) ?_
                  refine k_done (k_skip_seq (k_seq (k_seq ?_)))
                  refine rv (D.int IntKind.i64 (0 : Int)) ?_
                  refine k_done (k_skip_seq (k_block ?_))
                  refine k_loop (fun s : Nat × Nm => fK sc i lN lH k (.int .i64 sum) (.int .i64 j) (.str at1) (.int .i64 n) (.str s.2) (.int .i64 s.1)) (fun _ => σ1 ++ [Go.Abs.Obj.cells [.map 1]]) (fun s => s.1 ≤ lN.length ∧ s.2 = upF (lN.take s.1) at1) (fun s => lN.length - s.1) (0, []) (by kernel_rfl) (by kernel_rfl) ⟨by simp, rfl⟩ (fun s hs => by omega) ?_
                  rintro ⟨m, up⟩ ⟨hm, hup⟩
                  simp only at hm hup
                  show Runs (runC _ _ _ (fK sc i lN lH k (.int .i64 sum) (.int .i64 j) (.str at1) (.int .i64 n) (.str up) (.int .i64 m)) (σ1 ++ [Go.Abs.Obj.cells [.map 1]])) _
                  unfold fK fA l4_0
                  by_cases cm : m < lN.length
                  · have hst := upF_take lN at1 m cm
                    by_cases ce : lN[m].name = at1
                    · refine k_seq (k_seq ?_)
                      refine rv (D.int IntKind.i64 (↑m : Int)) ?_
                      refine rv (D.sl (List.map NodeR.cells lN) none) ?_
                      refine rve (D.int IntKind.i64 (↑(List.length (List.map NodeR.cells lN)) : Int)) (.int IntKind.i64 ((↑(List.length lN) : Int))) (by simp only [ints, eInt, rows, eInts, bools, eBool, trips, eTrip, i8s, u16s, u8s, acts, List.length_map]) ?_
                      refine rv (D.bool (decide ((↑m : Int) < (↑(List.length lN) : Int)))) ?_
                      refine k_done (k_skip_seq ?_)
                      refine rkn 117 (decide ((↑m : Int) < (↑(List.length lN) : Int))) true (decide_eq_true (by omega)) ?_
                      refine kct (k_skip_seq (k_seq (k_block (k_seq ?_))))
                      refine rv (D.sl (List.map NodeR.cells lN) none) ?_
                      refine rv (D.int IntKind.i64 (↑m : Int)) ?_
                      refine runs_index (lN) (NodeR.cells) (o := none) (kd := IntKind.i64) (m) (by kernel_rfl) (by kernel_rfl) (by kernel_rfl) (by assumption) (by kernel_rfl) ?_
                      refine rv (D.ref [D.str (NodeR.name lN[m]), D.str (NodeR.parent lN[m]), D.int IntKind.i64 (NodeR.limit lN[m]), D.int IntKind.i64 (NodeR.used lN[m])]) ?_
                      refine rv (D.str (NodeR.name lN[m])) ?_
                      refine rv (D.str at1) ?_
                      refine rv (D.bool (NodeR.name lN[m] == at1)) ?_
                      refine k_done (k_skip_seq ?_)
                      refine rkn 126 (NodeR.name lN[m] == at1) true (beq_iff_eq.2 (by assumption)) ?_
                      refine kct ?_
                      refine rv (D.sl (List.map NodeR.cells lN) none) ?_
                      refine rv (D.int IntKind.i64 (↑m : Int)) ?_
                      refine runs_index (lN) (NodeR.cells) (o := none) (kd := IntKind.i64) (m) (by kernel_rfl) (by kernel_rfl) (by kernel_rfl) (by assumption) (by kernel_rfl) ?_
                      refine rv (D.ref [D.str (NodeR.parent lN[m]), D.int IntKind.i64 (NodeR.limit lN[m]), D.int IntKind.i64 (NodeR.used lN[m])]) ?_
                      refine rv (D.str (NodeR.parent lN[m])) ?_
                      refine ra0 (D.str (NodeR.parent lN[m])) ?_
                      refine k_done (k_skip_block (k_skip_seq ?_))
                      refine rv (D.int IntKind.i64 (↑m : Int)) ?_
                      refine rve (D.int IntKind.i64 (IntKind.wrap IntKind.i64 ((↑m : Int) + (1 : Int)))) (.int IntKind.i64 ((m + 1 : Nat) : Int)) (congrArg (D.int IntKind.i64) (show IntKind.wrap IntKind.i64 ((↑m : Int) + (1 : Int)) = ((m + 1 : Nat) : Int) from wrap_eq (by omega) (by omega) (by omega))) ?_
                      refine ra0 (D.int IntKind.i64 (↑(m + (1 : Nat)) : Int)) ?_
                      refine k_done (k_skip_back ?_)
                      exact ⟨(m + 1, lN[m].parent), ⟨cm, by rw [hst, if_pos ce]⟩, by simp only []; omega, by kernel_rfl, rfl⟩
                    · refine k_seq (k_seq ?_)
                      refine rv (D.int IntKind.i64 (↑m : Int)) ?_
                      refine rv (D.sl (List.map NodeR.cells lN) none) ?_
                      refine rve (D.int IntKind.i64 (↑(List.length (List.map NodeR.cells lN)) : Int)) (.int IntKind.i64 ((↑(List.length lN) : Int))) (by simp only [ints, eInt, rows, eInts, bools, eBool, trips, eTrip, i8s, u16s, u8s, acts, List.length_map]) ?_
                      refine rv (D.bool (decide ((↑m : Int) < (↑(List.length lN) : Int)))) ?_
                      refine k_done (k_skip_seq ?_)
                      refine rkn 117 (decide ((↑m : Int) < (↑(List.length lN) : Int))) true (decide_eq_true (by omega)) ?_
                      refine kct (k_skip_seq (k_seq (k_block (k_seq ?_))))
                      refine rv (D.sl (List.map NodeR.cells lN) none) ?_
                      refine rv (D.int IntKind.i64 (↑m : Int)) ?_
                      refine runs_index (lN) (NodeR.cells) (o := none) (kd := IntKind.i64) (m) (by kernel_rfl) (by kernel_rfl) (by kernel_rfl) (by assumption) (by kernel_rfl) ?_
                      refine rv (D.ref [D.str (NodeR.name lN[m]), D.str (NodeR.parent lN[m]), D.int IntKind.i64 (NodeR.limit lN[m]), D.int IntKind.i64 (NodeR.used lN[m])]) ?_
                      refine rv (D.str (NodeR.name lN[m])) ?_
                      refine rv (D.str at1) ?_
                      refine rv (D.bool (NodeR.name lN[m] == at1)) ?_
                      refine k_done (k_skip_seq ?_)
                      refine rkn 126 (NodeR.name lN[m] == at1) false (beq_eq_false_iff_ne.2 (by assumption)) ?_
                      refine kcf (k_skip_block (k_skip_seq ?_))
                      refine rv (D.int IntKind.i64 (↑m : Int)) ?_
                      refine rve (D.int IntKind.i64 (IntKind.wrap IntKind.i64 ((↑m : Int) + (1 : Int)))) (.int IntKind.i64 ((m + 1 : Nat) : Int)) (congrArg (D.int IntKind.i64) (show IntKind.wrap IntKind.i64 ((↑m : Int) + (1 : Int)) = ((m + 1 : Nat) : Int) from wrap_eq (by omega) (by omega) (by omega))) ?_
                      refine ra0 (D.int IntKind.i64 (↑(m + (1 : Nat)) : Int)) ?_
                      refine k_done (k_skip_back ?_)
                      exact ⟨(m + 1, up), ⟨cm, by rw [hst, if_neg ce, hup]⟩, by simp only []; omega, by kernel_rfl, rfl⟩
                  · refine k_seq (k_seq ?_)
                    refine rv (D.int IntKind.i64 (↑m : Int)) ?_
                    refine rv (D.sl (List.map NodeR.cells lN) none) ?_
                    refine rve (D.int IntKind.i64 (↑(List.length (List.map NodeR.cells lN)) : Int)) (.int IntKind.i64 ((↑(List.length lN) : Int))) (by simp only [ints, eInt, rows, eInts, bools, eBool, trips, eTrip, i8s, u16s, u8s, acts, List.length_map]) ?_
                    refine rv (D.bool (decide ((↑m : Int) < (↑(List.length lN) : Int)))) ?_
                    refine k_done (k_skip_seq ?_)
                    refine rkn 117 (decide ((↑m : Int) < (↑(List.length lN) : Int))) false (decide_eq_false (by omega)) ?_
                    refine kcf (k_exit_seq (k_exit_back (k_exit_hit rfl (k_skip_seq ?_))))
                    refine rv (D.str up) ?_
                    refine ra0 (D.str up) ?_
                    refine k_done (k_skip_block (k_skip_seq ?_))
                    refine rv (D.int IntKind.i64 (↑n : Int)) ?_
                    refine rve (D.int IntKind.i64 (IntKind.wrap IntKind.i64 ((↑n : Int) + (1 : Int)))) (.int IntKind.i64 ((n + 1 : Nat) : Int)) (congrArg (D.int IntKind.i64) (show IntKind.wrap IntKind.i64 ((↑n : Int) + (1 : Int)) = ((n + 1 : Nat) : Int) from wrap_eq (by omega) (by omega) (by omega))) ?_
                    refine ra0 (D.int IntKind.i64 (↑(n + (1 : Nat)) : Int)) ?_
                    refine k_done (k_skip_back ?_)
                    have hup2 : up = (lookP (npR rs) at1).getD [] := by
                      rw [hup, show m = lN.length by omega, List.take_length, upF_all hpN hnod]
                    refine ⟨⟨n + 1, up, .str up, .int .i64 m⟩, ⟨by simp only []; omega, ?_⟩, by simp only []; omega, by kernel_rfl, rfl⟩
                    simp only []
                    rw [hup2, ← hin, show lN.length + 1 - n = (lN.length + 1 - (n + 1)) + 1 by omega]
                    exact (mem_path_step p1.g cn3).symm
            · refine k_seq (k_seq ?_)
              refine rv (D.int IntKind.i64 (↑n : Int)) ?_
              refine rv (D.sl (List.map NodeR.cells lN) none) ?_
              refine rve (D.int IntKind.i64 (↑(List.length (List.map NodeR.cells lN)) : Int)) (.int IntKind.i64 ((↑(List.length lN) : Int))) (by simp only [ints, eInt, rows, eInts, bools, eBool, trips, eTrip, i8s, u16s, u8s, acts, List.length_map]) ?_
              refine rv (D.bool (decide ((↑n : Int) ≤ (↑(List.length lN) : Int)))) ?_
              refine rv (D.bool (decide ((↑n : Int) ≤ (↑(List.length lN) : Int)))) ?_
              refine rkn 94 (decide ((↑n : Int) ≤ (↑(List.length lN) : Int))) false (decide_eq_false (by omega)) ?_
              refine rno (rno ?_)
              refine rv (D.bool false) ?_
              refine k_done (k_skip_seq (kcf (k_exit_seq (k_exit_back (k_exit_hit rfl (k_skip_block (k_skip_seq ?_)))))))
              refine rv (D.int IntKind.i64 (↑j : Int)) ?_
              refine rve (D.int IntKind.i64 (IntKind.wrap IntKind.i64 ((↑j : Int) + (1 : Int)))) (.int IntKind.i64 ((j + 1 : Nat) : Int)) (congrArg (D.int IntKind.i64) (show IntKind.wrap IntKind.i64 ((↑j : Int) + (1 : Int)) = ((j + 1 : Nat) : Int) from wrap_eq (by omega) (by omega) (by omega))) ?_
              refine ra0 (D.int IntKind.i64 (↑(j + (1 : Nat)) : Int)) ?_
              refine k_done (k_skip_back ?_)
              have hout : lN[k].name ∉ lineP (npR rs) lH[j].node := by
                rw [← hin, show lN.length + 1 - n = 0 by omega]
                simp [pathP]
              exact ⟨⟨j + 1, sum, .str at1, .int .i64 n, kp d14, kp d15⟩, ⟨cj, sum_keep cj hsum hout⟩, by simp only []; omega, by kernel_rfl, rfl⟩
          · have hj2 : j = lH.length := by omega
            subst hj2
            obtain ⟨t1, t2, t3⟩ := last_used p1 hpN hpH ck hsum
            refine k_seq (k_seq ?_)
            refine rv (D.int IntKind.i64 (↑(List.length lH) : Int)) ?_
            refine rv (D.sl (List.map HeldR.cells lH) none) ?_
            refine rve (D.int IntKind.i64 (↑(List.length (List.map HeldR.cells lH)) : Int)) (.int IntKind.i64 ((↑(List.length lH) : Int))) (by simp only [ints, eInt, rows, eInts, bools, eBool, trips, eTrip, i8s, u16s, u8s, acts, List.length_map]) ?_
            refine rv (D.bool (decide ((↑(List.length lH) : Int) < (↑(List.length lH) : Int)))) ?_
            refine k_done (k_skip_seq ?_)
            refine rkn 82 (decide ((↑(List.length lH) : Int) < (↑(List.length lH) : Int))) false (decide_eq_false (by omega)) ?_
            refine kcf (k_exit_seq (k_exit_back (k_exit_hit rfl (k_skip_seq (k_seq ?_)))))
            refine rv (D.sl (List.map NodeR.cells lN) none) ?_
            refine rv (D.int IntKind.i64 (↑k : Int)) ?_
            refine runs_index (lN) (NodeR.cells) (o := none) (kd := IntKind.i64) (k) (by kernel_rfl) (by kernel_rfl) (by kernel_rfl) (by assumption) (by kernel_rfl) ?_
            refine rv (D.ref [D.int IntKind.i64 (NodeR.used lN[k])]) ?_
            refine rv (D.int IntKind.i64 (NodeR.used lN[k])) ?_
            refine rv (D.int IntKind.i64 sum) ?_
            refine rv (D.bool (NodeR.used lN[k] != sum)) ?_
            refine rv (D.bool (NodeR.used lN[k] != sum)) ?_
            refine rkn 140 (NodeR.used lN[k] != sum) false (bne_eq_false_iff_eq.2 (by assumption)) ?_
            refine rv (D.int IntKind.i64 sum) ?_
            refine rv (D.sl (List.map NodeR.cells lN) none) ?_
            refine rv (D.int IntKind.i64 (↑k : Int)) ?_
            refine runs_index (lN) (NodeR.cells) (o := none) (kd := IntKind.i64) (k) (by kernel_rfl) (by kernel_rfl) (by kernel_rfl) (by assumption) (by kernel_rfl) ?_
            refine rv (D.ref [D.int IntKind.i64 (NodeR.limit lN[k]), D.int IntKind.i64 (NodeR.used lN[k])]) ?_
            refine rv (D.int IntKind.i64 (NodeR.limit lN[k])) ?_
            refine rv (D.bool (decide (sum > NodeR.limit lN[k]))) ?_
            refine rv (D.bool (decide (sum > NodeR.limit lN[k]))) ?_
            refine rv (D.bool (decide (sum > NodeR.limit lN[k]))) ?_
            refine rkn 149 (decide (sum > NodeR.limit lN[k])) false (decide_eq_false (by omega)) ?_
            refine rv (D.int IntKind.i64 sum) ?_
            refine rv (D.bool (decide (sum < (0 : Int)))) ?_
            refine rv (D.bool (decide (sum < (0 : Int)))) ?_
            refine k_done (k_skip_seq ?_)
            refine rkn 152 (decide (sum < (0 : Int))) false (decide_eq_false (by omega)) ?_
            refine kcf (k_skip_block (k_skip_seq ?_))
            refine rv (D.int IntKind.i64 (↑k : Int)) ?_
            refine rve (D.int IntKind.i64 (IntKind.wrap IntKind.i64 ((↑k : Int) + (1 : Int)))) (.int IntKind.i64 ((k + 1 : Nat) : Int)) (congrArg (D.int IntKind.i64) (show IntKind.wrap IntKind.i64 ((↑k : Int) + (1 : Int)) = ((k + 1 : Nat) : Int) from wrap_eq (by omega) (by omega) (by omega))) ?_
            refine ra0 (D.int IntKind.i64 (↑(k + (1 : Nat)) : Int)) ?_
            refine k_done (k_skip_back ?_)
            exact ⟨⟨k + 1, .int .i64 sum, .int .i64 lH.length, kp d12, kp d13, kp d14, kp d15⟩, ck, by simp only []; omega, by kernel_rfl, rfl⟩
        · refine k_seq (k_seq ?_)
          refine rv (D.int IntKind.i64 (↑k : Int)) ?_
          refine rv (D.sl (List.map NodeR.cells lN) none) ?_
          refine rve (D.int IntKind.i64 (↑(List.length (List.map NodeR.cells lN)) : Int)) (.int IntKind.i64 ((↑(List.length lN) : Int))) (by simp only [ints, eInt, rows, eInts, bools, eBool, trips, eTrip, i8s, u16s, u8s, acts, List.length_map]) ?_
          refine rv (D.bool (decide ((↑k : Int) < (↑(List.length lN) : Int)))) ?_
          refine k_done (k_skip_seq ?_)
          refine rkn 76 (decide ((↑k : Int) < (↑(List.length lN) : Int))) false (decide_eq_false (by omega)) ?_
          refine kcf (k_exit_seq (k_exit_back (k_exit_hit rfl (k_skip_block (k_skip_seq ?_)))))
          refine rv (D.int IntKind.i64 (↑i : Int)) ?_
          refine rve (D.int IntKind.i64 (IntKind.wrap IntKind.i64 ((↑i : Int) + (1 : Int)))) (.int IntKind.i64 ((i + 1 : Nat) : Int)) (congrArg (D.int IntKind.i64) (show IntKind.wrap IntKind.i64 ((↑i : Int) + (1 : Int)) = ((i + 1 : Nat) : Int) from wrap_eq (by omega) (by omega) (by omega))) ?_
          refine ra0 (D.int IntKind.i64 (↑(i + (1 : Nat)) : Int)) ?_
          refine k_done (k_skip_back ?_)
          exact ⟨⟨i + 1, σ1 ++ [Go.Abs.Obj.cells [.map 1]], ns1, hs1, .sl (lN.map NodeR.cells) none, .sl (lH.map HeldR.cells) none, .int .i64 k, kp d10, kp d11, kp d12, kp d13, kp d14, kp d15⟩, ⟨c2, I1, n1, m1⟩, by simp only []; omega, by kernel_rfl, rfl⟩
      · by_cases k1 : IntKind.wrap IntKind.i64 (↑(BitVec.toNat (BitVec.ofInt (IntKind.bits IntKind.i64) (ActR.kind sc[i]) &&& BitVec.ofInt (IntKind.bits IntKind.i64) (3 : Int))) : Int) = 1
        · obtain ⟨σ1, ns1, hs1, hc, O, p1, _, _, n0, m0⟩ := q_res I 97 sc[i].a sc[i].b sc[i].n
          have n1 : ns1.length ≤ i + 1 := by omega
          have m1 : hs1.length ≤ i + 1 := by omega
          have L1 := O.L
          have hN := nodes_ok L1 (by omega) 98
          have hLv := live_ok L1 (by omega) 97
          have hpN : (nodesV ns1).Perm (ns1.map (·.r)) := sortK_perm _ _
          have hpH : (heldV hs1).Perm hs1 := sortK_perm _ _
          have I1 : QInv (σ1 ++ [Go.Abs.Obj.cells [.map 1]]) 2 0 1 ns1 hs1 := ⟨L1.append _, p1, by omega, by omega⟩
          generalize nodesV ns1 = lN at hN hpN
          generalize heldV hs1 = lH at hLv hpH
          have lenN : lN.length = ns1.length := by rw [hpN.length_eq, List.length_map]
          have lenH : lH.length = hs1.length := hpH.length_eq
          generalize hrs : ns1.map (·.r) = rs at p1 hpN
          have hnod : (rs.map (·.name)).Nodup := by have := grown_names p1.g; unfold npR at this; rw [List.map_map] at this; exact this
          refine k_seq (k_seq ?_)
          refine rv (D.int IntKind.i64 (↑i : Int)) ?_
          refine rv (D.sl (acts sc) none) ?_
          refine rve (D.int IntKind.i64 (↑(List.length (acts sc)) : Int)) (.int IntKind.i64 ((↑(List.length sc) : Int))) (by simp only [ints, eInt, rows, eInts, bools, eBool, trips, eTrip, i8s, u16s, u8s, acts, List.length_map]) ?_
          refine rv (D.bool (decide ((↑i : Int) < (↑(List.length sc) : Int)))) ?_
          refine rv (D.bool (decide ((↑i : Int) < (↑(List.length sc) : Int)))) ?_
          refine rkn 24 (decide ((↑i : Int) < (↑(List.length sc) : Int))) true (decide_eq_true (by omega)) ?_
          refine rv (D.int IntKind.i64 (↑i : Int)) ?_
          refine rv (D.bool (decide ((↑i : Int) < (40 : Int)))) ?_
          refine rv (D.bool (decide ((↑i : Int) < (40 : Int)))) ?_
          refine k_done (k_skip_seq ?_)
          refine rkn 27 (decide ((↑i : Int) < (40 : Int))) true (decide_eq_true (by omega)) ?_
          refine kct (k_skip_seq (k_seq (k_block (k_seq ?_))))
          refine rv (D.sl (acts sc) none) ?_
          refine rv (D.int IntKind.i64 (↑i : Int)) ?_
          refine runs_index (sc) (ActR.cells) (o := none) (kd := IntKind.i64) (i) (by kernel_rfl) (by kernel_rfl) (by kernel_rfl) (by assumption) (by kernel_rfl) ?_
          refine rv (D.agg [D.int IntKind.i64 (ActR.kind sc[i]), D.str (ActR.a sc[i]), D.str (ActR.b sc[i]), D.int IntKind.i64 (ActR.n sc[i])]) ?_
          refine rgf (D.lptr (6 : Nat) (0 : Nat)) (σ) ?_
          refine rgf (D.junk) (σ) ?_
          refine k_done (k_skip_seq (k_seq (k_seq ?_)))
          refine rv (D.lptr (6 : Nat) (0 : Nat)) ?_
          refine rv (D.int IntKind.i64 (ActR.kind sc[i])) ?_
          refine rv (D.int IntKind.i64 (IntKind.wrap IntKind.i64 (↑(BitVec.toNat (BitVec.ofInt (IntKind.bits IntKind.i64) (ActR.kind sc[i]) &&& BitVec.ofInt (IntKind.bits IntKind.i64) (3 : Int))) : Int))) ?_
          refine k_done (k_skip_seq (k_block (k_seq ?_)))
          refine rv (D.bool (IntKind.wrap IntKind.i64 (↑(BitVec.toNat (BitVec.ofInt (IntKind.bits IntKind.i64) (ActR.kind sc[i]) &&& BitVec.ofInt (IntKind.bits IntKind.i64) (3 : Int))) : Int) == (0 : Int))) ?_
          refine ra0 (D.bool (IntKind.wrap IntKind.i64 (↑(BitVec.toNat (BitVec.ofInt (IntKind.bits IntKind.i64) (ActR.kind sc[i]) &&& BitVec.ofInt (IntKind.bits IntKind.i64) (3 : Int))) : Int) == (0 : Int))) ?_
          refine k_done (k_skip_seq ?_)
          refine rkn 43 (IntKind.wrap IntKind.i64 (↑(BitVec.toNat (BitVec.ofInt (IntKind.bits IntKind.i64) (ActR.kind sc[i]) &&& BitVec.ofInt (IntKind.bits IntKind.i64) (3 : Int))) : Int) == (0 : Int)) false (decide_eq_false (by assumption)) ?_
          refine kcf (k_seq ?_)
          refine rv (D.bool (IntKind.wrap IntKind.i64 (↑(BitVec.toNat (BitVec.ofInt (IntKind.bits IntKind.i64) (ActR.kind sc[i]) &&& BitVec.ofInt (IntKind.bits IntKind.i64) (3 : Int))) : Int) == (1 : Int))) ?_
          refine ra0 (D.bool (IntKind.wrap IntKind.i64 (↑(BitVec.toNat (BitVec.ofInt (IntKind.bits IntKind.i64) (ActR.kind sc[i]) &&& BitVec.ofInt (IntKind.bits IntKind.i64) (3 : Int))) : Int) == (1 : Int))) ?_
          refine k_done (k_skip_seq ?_)
          refine rkn 53 (IntKind.wrap IntKind.i64 (↑(BitVec.toNat (BitVec.ofInt (IntKind.bits IntKind.i64) (ActR.kind sc[i]) &&& BitVec.ofInt (IntKind.bits IntKind.i64) (3 : Int))) : Int) == (1 : Int)) true (decide_eq_true (by assumption)) ?_
          refine kct ?_
          refine rv (D.ptr (2 : Nat) (0 : Nat)) ?_
          refine rv (D.lptr (6 : Nat) (1 : Nat)) ?_
          refine rv (D.str (ActR.a sc[i])) ?_
          refine rv (D.lptr (6 : Nat) (2 : Nat)) ?_
          refine rv (D.str (ActR.b sc[i])) ?_
          refine rv (D.lptr (6 : Nat) (3 : Nat)) ?_
          refine rv (D.int IntKind.i64 (ActR.n sc[i])) ?_
          refine runs_call_st ([D.ptr (2 : Nat) (0 : Nat), D.str (ActR.a sc[i]), D.str (ActR.b sc[i]), D.int IntKind.i64 (ActR.n sc[i])]) (by kernel_rfl) (by kernel_rfl) (by kernel_rfl) (by kernel_rfl) (hc) ?_
          refine k_done (k_skip_block (k_skip_seq (k_seq ?_)))
          refine rv (D.ptr (2 : Nat) (0 : Nat)) ?_
          refine runs_call_st ([D.ptr (2 : Nat) (0 : Nat)]) (by kernel_rfl) (by kernel_rfl) (by kernel_rfl) (by kernel_rfl) (hN) ?_
          refine ra0 (D.sl (List.map NodeR.cells lN) none) ?_
          refine k_done (k_skip_seq (k_seq ?_))
          refine rv (D.ptr (2 : Nat) (0 : Nat)) ?_
          refine runs_call_st ([D.ptr (2 : Nat) (0 : Nat)]) (by kernel_rfl) (by kernel_rfl) (by kernel_rfl) (by kernel_rfl) (hLv) ?_
          refine ra0 (D.sl (List.map HeldR.cells lH) none) ?_
          refine k_done (k_skip_seq (k_seq ?_))
          refine rv (D.int IntKind.i64 (0 : Int)) ?_
          refine k_done (k_skip_seq (k_block ?_))
          refine k_loop (fun s : KS => fK sc i lN lH s.k s.d10 s.d11 s.d12 s.d13 s.d14 s.d15) (fun _ => σ1 ++ [Go.Abs.Obj.cells [.map 1]]) (fun s => s.k ≤ lN.length) (fun s => lN.length - s.k) ⟨0, kp d10, kp d11, kp d12, kp d13, kp d14, kp d15⟩ (by kernel_rfl) (by kernel_rfl) (by simp) (fun s hs => by omega) ?_
          rintro ⟨k, d10, d11, d12, d13, d14, d15⟩ hk
          simp only at hk
          show Runs (runC _ _ _ (fK sc i lN lH k d10 d11 d12 d13 d14 d15) (σ1 ++ [Go.Abs.Obj.cells [.map 1]])) _
          unfold fK fA l4_3
          by_cases ck : k < lN.length
          · refine k_seq (k_seq ?_)
            refine rv (D.int IntKind.i64 (↑k : Int)) ?_
            refine rv (D.sl (List.map NodeR.cells lN) none) ?_
            refine rve (D.int IntKind.i64 (↑(List.length (List.map NodeR.cells lN)) : Int)) (.int IntKind.i64 ((↑(List.length lN) : Int))) (by simp only [ints, eInt, rows, eInts, bools, eBool, trips, eTrip, i8s, u16s, u8s, acts, List.length_map]) ?_
            refine rv (D.bool (decide ((↑k : Int) < (↑(List.length lN) : Int)))) ?_
            refine k_done (k_skip_seq ?_)
            refine rkn 76 (decide ((↑k : Int) < (↑(List.length lN) : Int))) true (decide_eq_true (by omega)) ?_
            refine kct (k_skip_seq (k_seq (k_block (k_seq ?_))))
            refine rv (D.int IntKind.i64 (0 : Int)) ?_
            refine k_done (k_skip_seq (k_seq (k_seq ?_)))
            refine rv (D.int IntKind.i64 (0 : Int)) ?_
            refine k_done (k_skip_seq (k_block ?_))
            refine k_loop (fun s : JS => fK sc i lN lH k (.int .i64 s.sum) (.int .i64 s.j) s.d12 s.d13 s.d14 s.d15) (fun _ => σ1 ++ [Go.Abs.Obj.cells [.map 1]]) (fun s => s.j ≤ lH.length ∧ s.sum = sumAt (npR rs) lN[k].name (lH.take s.j)) (fun s => lH.length - s.j) ⟨0, 0, kp d12, kp d13, kp d14, kp d15⟩ (by kernel_rfl) (by kernel_rfl) ⟨by simp, rfl⟩ (fun s hs => by omega) ?_
            rintro ⟨j, sum, d12, d13, d14, d15⟩ ⟨hj, hsum⟩
            simp only at hj hsum
            show Runs (runC _ _ _ (fK sc i lN lH k (.int .i64 sum) (.int .i64 j) d12 d13 d14 d15) (σ1 ++ [Go.Abs.Obj.cells [.map 1]])) _
            unfold fK fA l4_2
            by_cases cj : j < lH.length
            · refine k_seq (k_seq ?_)
              refine rv (D.int IntKind.i64 (↑j : Int)) ?_
              refine rv (D.sl (List.map HeldR.cells lH) none) ?_
              refine rve (D.int IntKind.i64 (↑(List.length (List.map HeldR.cells lH)) : Int)) (.int IntKind.i64 ((↑(List.length lH) : Int))) (by simp only [ints, eInt, rows, eInts, bools, eBool, trips, eTrip, i8s, u16s, u8s, acts, List.length_map]) ?_
              refine rv (D.bool (decide ((↑j : Int) < (↑(List.length lH) : Int)))) ?_
              refine k_done (k_skip_seq ?_)
              refine rkn 82 (decide ((↑j : Int) < (↑(List.length lH) : Int))) true (decide_eq_true (by omega)) ?_
              refine kct (k_skip_seq (k_seq (k_block (k_seq ?_))))
              refine rv (D.sl (List.map HeldR.cells lH) none) ?_
              refine rv (D.int IntKind.i64 (↑j : Int)) ?_
              refine runs_index (lH) (HeldR.cells) (o := none) (kd := IntKind.i64) (j) (by kernel_rfl) (by kernel_rfl) (by kernel_rfl) (by assumption) (by kernel_rfl) ?_
              refine rv (D.ref [D.str (HeldR.node lH[j]), D.int IntKind.i64 (HeldR.amount lH[j])]) ?_
              refine rv (D.str (HeldR.node lH[j])) ?_
              refine ra0 (D.str (HeldR.node lH[j])) ?_
              refine k_done (k_skip_seq (k_seq ?_))
              refine rv (D.int IntKind.i64 (0 : Int)) ?_
              refine k_done (k_skip_seq (k_block ?_))
              refine k_loop (fun s : NS => fK sc i lN lH k (.int .i64 sum) (.int .i64 j) (.str s.here) (.int .i64 s.n) s.d14 s.d15) (fun _ => σ1 ++ [Go.Abs.Obj.cells [.map 1]]) (fun s => s.n ≤ lN.length + 1 ∧ (lN[k].name ∈ pathP (npR rs) (lN.length + 1 - s.n) s.here ↔ lN[k].name ∈ lineP (npR rs) lH[j].node)) (fun s => lN.length + 1 - s.n) ⟨0, lH[j].node, kp d14, kp d15⟩ (by kernel_rfl) (by kernel_rfl) ⟨by simp, by rw [show lN.length = (npR rs).length by rw [hpN.length_eq]; simp [npR]]; exact Iff.rfl⟩ (fun s hs => by omega) ?_
              rintro ⟨n, at1, d14, d15⟩ ⟨hn1, hin⟩
              simp only at hn1 hin
              show Runs (runC _ _ _ (fK sc i lN lH k (.int .i64 sum) (.int .i64 j) (.str at1) (.int .i64 n) d14 d15) (σ1 ++ [Go.Abs.Obj.cells [.map 1]])) _
              unfold fK fA l4_1
              by_cases cn1 : n ≤ lN.length
              · by_cases cn2 : at1 = []
                · subst cn2
                  refine k_seq (k_seq ?_)
                  refine rv (D.int IntKind.i64 (↑n : Int)) ?_
                  refine rv (D.sl (List.map NodeR.cells lN) none) ?_
                  refine rve (D.int IntKind.i64 (↑(List.length (List.map NodeR.cells lN)) : Int)) (.int IntKind.i64 ((↑(List.length lN) : Int))) (by simp only [ints, eInt, rows, eInts, bools, eBool, trips, eTrip, i8s, u16s, u8s, acts, List.length_map]) ?_
                  refine rv (D.bool (decide ((↑n : Int) ≤ (↑(List.length lN) : Int)))) ?_
                  refine rv (D.bool (decide ((↑n : Int) ≤ (↑(List.length lN) : Int)))) ?_
                  refine rkn 94 (decide ((↑n : Int) ≤ (↑(List.length lN) : Int))) true (decide_eq_true (by omega)) ?_
                  refine rv (D.str []) ?_
                  refine rv (D.bool false) ?_
                  refine rv (D.bool false) ?_
                  refine k_done (k_skip_seq (kcf (k_exit_seq (k_exit_back (k_exit_hit rfl (k_skip_block (k_skip_seq ?_)))))))
                  refine rv (D.int IntKind.i64 (↑j : Int)) ?_
                  refine rve (D.int IntKind.i64 (IntKind.wrap IntKind.i64 ((↑j : Int) + (1 : Int)))) (.int IntKind.i64 ((j + 1 : Nat) : Int)) (congrArg (D.int IntKind.i64) (show IntKind.wrap IntKind.i64 ((↑j : Int) + (1 : Int)) = ((j + 1 : Nat) : Int) from wrap_eq (by omega) (by omega) (by omega))) ?_
                  refine ra0 (D.int IntKind.i64 (↑(j + (1 : Nat)) : Int)) ?_
                  refine k_done (k_skip_back ?_)
                  exact ⟨⟨j + 1, sum, .str [], .int .i64 n, kp d14, kp d15⟩, ⟨cj, sum_keep cj hsum (fun h => mem_path_empty p1.g _ _ (hin.2 h))⟩, by simp only []; omega, by kernel_rfl, rfl⟩
                · by_cases cn3 : at1 = lN[k].name
                  · have hmem : lN[k].name ∈ lineP (npR rs) lH[j].node := by
                      rw [← hin, ← cn3, show lN.length + 1 - n = (lN.length - n) + 1 by omega]
                      exact mem_path_here (by rw [cn3, lookP_has]; exact hasR_mem (hpN.subset (List.getElem_mem ck)))
                    obtain ⟨s1, s2, s3⟩ := sum_add p1 hpN hpH ck cj hsum hmem
                    refine k_seq (k_seq ?_)
                    refine rv (D.int IntKind.i64 (↑n : Int)) ?_
                    refine rv (D.sl (List.map NodeR.cells lN) none) ?_
                    refine rve (D.int IntKind.i64 (↑(List.length (List.map NodeR.cells lN)) : Int)) (.int IntKind.i64 ((↑(List.length lN) : Int))) (by simp only [ints, eInt, rows, eInts, bools, eBool, trips, eTrip, i8s, u16s, u8s, acts, List.length_map]) ?_
                    refine rv (D.bool (decide ((↑n : Int) ≤ (↑(List.length lN) : Int)))) ?_
                    refine rv (D.bool (decide ((↑n : Int) ≤ (↑(List.length lN) : Int)))) ?_
                    refine rkn 94 (decide ((↑n : Int) ≤ (↑(List.length lN) : Int))) true (decide_eq_true (by omega)) ?_
                    refine rv (D.str at1) ?_
                    refine rv (D.bool !at1 == []) ?_
                    refine rv (D.bool !at1 == []) ?_
                    refine k_done (k_skip_seq ?_)
                    refine rkn 97 (!at1 == []) true (bne_iff_ne.2 (by assumption)) ?_
                    refine kct (k_skip_seq (k_seq (k_block (k_seq (k_seq ?_)))))
                    refine rv (D.str at1) ?_
                    refine rv (D.sl (List.map NodeR.cells lN) none) ?_
                    refine rv (D.int IntKind.i64 (↑k : Int)) ?_
                    refine runs_index (lN) (NodeR.cells) (o := none) (kd := IntKind.i64) (k) (by kernel_rfl) (by kernel_rfl) (by kernel_rfl) (by assumption) (by kernel_rfl) ?_
                    refine rv (D.ref [D.str (NodeR.name lN[k]), D.str (NodeR.parent lN[k]), D.int IntKind.i64 (NodeR.limit lN[k]), D.int IntKind.i64 (NodeR.used lN[k])]) ?_
                    refine rv (D.str (NodeR.name lN[k])) ?_
                    refine rv (D.bool (at1 == NodeR.name lN[k])) ?_
                    refine k_done (k_skip_seq ?_)
                    refine rkn 106 (at1 == NodeR.name lN[k]) true (beq_iff_eq.2 (by assumption)) ?_
                    refine kct (k_seq ?_)
                    refine rv (D.int IntKind.i64 sum) ?_
                    refine rv (D.sl (List.map HeldR.cells lH) none) ?_
                    refine rv (D.int IntKind.i64 (↑j : Int)) ?_
                    refine runs_index (lH) (HeldR.cells) (o := none) (kd := IntKind.i64) (j) (by kernel_rfl) (by kernel_rfl) (by kernel_rfl) (by assumption) (by kernel_rfl) ?_
                    refine rv (D.ref [D.int IntKind.i64 (HeldR.amount lH[j])]) ?_
                    refine rv (D.int IntKind.i64 (HeldR.amount lH[j])) ?_
                    refine rve (D.int IntKind.i64 (IntKind.wrap IntKind.i64 (sum + HeldR.amount lH[j]))) (.int IntKind.i64 (sum + HeldR.amount lH[j])) (congrArg (D.int IntKind.i64) (show IntKind.wrap IntKind.i64 (sum + HeldR.amount lH[j]) = (sum + HeldR.amount lH[j]) from wrap_eq (by omega) (by omega) (by omega))) ?_
                    refine ra0 (D.int IntKind.i64 (sum + HeldR.amount lH[j])) ?_
                    refine k_done (k_skip_seq (k_exit_seq (k_exit_miss (by decide) (k_exit_seq (k_exit_back (k_exit_hit rfl (k_skip_block (k_skip_seq ?_))))))))
                    refine rv (D.int IntKind.i64 (↑j : Int)) ?_
                    refine rve (D.int IntKind.i64 (IntKind.wrap IntKind.i64 ((↑j : Int) + (1 : Int)))) (.int IntKind.i64 ((j + 1 : Nat) : Int)) (congrArg (D.int IntKind.i64) (show IntKind.wrap IntKind.i64 ((↑j : Int) + (1 : Int)) = ((j + 1 : Nat) : Int) from wrap_eq (by omega) (by omega) (by omega))) ?_
                    refine ra0 (D.int IntKind.i64 (↑(j + (1 : Nat)) : Int)) ?_
                    refine k_done (k_skip_back ?_)
                    exact ⟨⟨j + 1, sum + lH[j].amount, .str at1, .int .i64 n, kp d14, kp d15⟩, ⟨cj, s3⟩, by simp only []; omega, by kernel_rfl, rfl⟩
                  · refine k_seq (k_seq ?_)
                    refine rv (D.int IntKind.i64 (↑n : Int)) ?_
                    refine rv (D.sl (List.map NodeR.cells lN) none) ?_
                    refine rve (D.int IntKind.i64 (↑(List.length (List.map NodeR.cells lN)) : Int)) (.int IntKind.i64 ((↑(List.length lN) : Int))) (by simp only [ints, eInt, rows, eInts, bools, eBool, trips, eTrip, i8s, u16s, u8s, acts, List.length_map]) ?_
                    refine rv (D.bool (decide ((↑n : Int) ≤ (↑(List.length lN) : Int)))) ?_
                    refine rv (D.bool (decide ((↑n : Int) ≤ (↑(List.length lN) : Int)))) ?_
                    refine rkn 94 (decide ((↑n : Int) ≤ (↑(List.length lN) : Int))) true (decide_eq_true (by omega)) ?_
                    refine rv (D.str at1) ?_
                    refine rv (D.bool !at1 == []) ?_
                    refine rv (D.bool !at1 == []) ?_
                    refine k_done (k_skip_seq ?_)
                    refine rkn 97 (!at1 == []) true (bne_iff_ne.2 (by assumption)) ?_
                    refine kct (k_skip_seq (k_seq (k_block (k_seq (k_seq ?_)))))
                    refine rv (D.str at1) ?_
                    refine rv (D.sl (List.map NodeR.cells lN) none) ?_
                    refine rv (D.int IntKind.i64 (↑k : Int)) ?_
                    refine runs_index (lN) (NodeR.cells) (o := none) (kd := IntKind.i64) (k) (by kernel_rfl) (by kernel_rfl) (by kernel_rfl) (by assumption) (by kernel_rfl) ?_
                    refine rv (D.ref [D.str (NodeR.name lN[k]), D.str (NodeR.parent lN[k]), D.int IntKind.i64 (NodeR.limit lN[k]), D.int IntKind.i64 (NodeR.used lN[k])]) ?_
                    refine rv (D.str (NodeR.name lN[k])) ?_
                    refine rv (D.bool (at1 == NodeR.name lN[k])) ?_
                    refine k_done (k_skip_seq ?_)
                    refine rkn 106 (at1 == NodeR.name lN[k]) false (beq_eq_false_iff_ne.2 (by assumption)) ?_
                    refine kcf (k_skip_seq (k_seq ?_))
                    refine rv (D.str []) ?_
                    refine k_done (k_skip_seq (k_seq (k_seq ?_)))
                    refine rv (D.int IntKind.i64 (0 : Int)) ?_
                    refine k_done (k_skip_seq (k_block ?_))
                    refine k_loop (fun s : Nat × Nm => fK sc i lN lH k (.int .i64 sum) (.int .i64 j) (.str at1) (.int .i64 n) (.str s.2) (.int .i64 s.1)) (fun _ => σ1 ++ [Go.Abs.Obj.cells [.map 1]]) (fun s => s.1 ≤ lN.length ∧ s.2 = upF (lN.take s.1) at1) (fun s => lN.length - s.1) (0, []) (by kernel_rfl) (by kernel_rfl) ⟨by simp, rfl⟩ (fun s hs => by omega) ?_
                    rintro ⟨m, up⟩ ⟨hm, hup⟩
                    simp only at hm hup
                    show Runs (runC _ _ _ (fK sc i lN lH k (.int .i64 sum) (.int .i64 j) (.str at1) (.int .i64 n) (.str up) (.int .i64 m)) (σ1 ++ [Go.Abs.Obj.cells [.map 1]])) _
                    unfold fK fA l4_0
                    by_cases cm : m < lN.length
                    · have hst := upF_take lN at1 m cm
                      by_cases ce : lN[m].name = at1
                      · refine k_seq (k_seq ?_)
                        refine rv (D.int IntKind.i64 (↑m : Int)) ?_
                        refine rv (D.sl (List.map NodeR.cells lN) none) ?_
                        refine rve (D.int IntKind.i64 (↑(List.length (List.map NodeR.cells lN)) : Int)) (.int IntKind.i64 ((↑(List.length lN) : Int))) (by simp only [ints, eInt, rows, eInts, bools, eBool, trips, eTrip, i8s, u16s, u8s, acts, List.length_map]) ?_
                        refine rv (D.bool (decide ((↑m : Int) < (↑(List.length lN) : Int)))) ?_
                        refine k_done (k_skip_seq ?_)
                        refine rkn 117 (decide ((↑m : Int) < (↑(List.length lN) : Int))) true (decide_eq_true (by omega)) ?_
                        refine kct (k_skip_seq (k_seq (k_block (k_seq ?_))))
                        refine rv (D.sl (List.map NodeR.cells lN) none) ?_
                        refine rv (D.int IntKind.i64 (↑m : Int)) ?_
                        refine runs_index (lN) (NodeR.cells) (o := none) (kd := IntKind.i64) (m) (by kernel_rfl) (by kernel_rfl) (by kernel_rfl) (by assumption) (by kernel_rfl) ?_
                        refine rv (D.ref [D.str (NodeR.name lN[m]), D.str (NodeR.parent lN[m]), D.int IntKind.i64 (NodeR.limit lN[m]), D.int IntKind.i64 (NodeR.used lN[m])]) ?_
                        refine rv (D.str (NodeR.name lN[m])) ?_
                        refine rv (D.str at1) ?_
                        refine rv (D.bool (NodeR.name lN[m] == at1)) ?_
                        refine k_done (k_skip_seq ?_)
                        refine rkn 126 (NodeR.name lN[m] == at1) true (beq_iff_eq.2 (by assumption)) ?_
                        refine kct ?_
                        refine rv (D.sl (List.map NodeR.cells lN) none) ?_
                        refine rv (D.int IntKind.i64 (↑m : Int)) ?_
                        refine runs_index (lN) (NodeR.cells) (o := none) (kd := IntKind.i64) (m) (by kernel_rfl) (by kernel_rfl) (by kernel_rfl) (by assumption) (by kernel_rfl) ?_
                        refine rv (D.ref [D.str (NodeR.parent lN[m]), D.int IntKind.i64 (NodeR.limit lN[m]), D.int IntKind.i64 (NodeR.used lN[m])]) ?_
                        refine rv (D.str (NodeR.parent lN[m])) ?_
                        refine ra0 (D.str (NodeR.parent lN[m])) ?_
                        refine k_done (k_skip_block (k_skip_seq ?_))
                        refine rv (D.int IntKind.i64 (↑m : Int)) ?_
                        refine rve (D.int IntKind.i64 (IntKind.wrap IntKind.i64 ((↑m : Int) + (1 : Int)))) (.int IntKind.i64 ((m + 1 : Nat) : Int)) (congrArg (D.int IntKind.i64) (show IntKind.wrap IntKind.i64 ((↑m : Int) + (1 : Int)) = ((m + 1 : Nat) : Int) from wrap_eq (by omega) (by omega) (by omega))) ?_
                        refine ra0 (D.int IntKind.i64 (↑(m + (1 : Nat)) : Int)) ?_
                        refine k_done (k_skip_back ?_)
                        exact ⟨(m + 1, lN[m].parent), ⟨cm, by rw [hst, if_pos ce]⟩, by simp only []; omega, by kernel_rfl, rfl⟩
                      · refine k_seq (k_seq ?_)
                        refine rv (D.int IntKind.i64 (↑m : Int)) ?_
                        refine rv (D.sl (List.map NodeR.cells lN) none) ?_
                        refine rve (D.int IntKind.i64 (↑(List.length (List.map NodeR.cells lN)) : Int)) (.int IntKind.i64 ((↑(List.length lN) : Int))) (by simp only [ints, eInt, rows, eInts, bools, eBool, trips, eTrip, i8s, u16s, u8s, acts, List.length_map]) ?_
                        refine rv (D.bool (decide ((↑m : Int) < (↑(List.length lN) : Int)))) ?_
                        refine k_done (k_skip_seq ?_)
                        refine rkn 117 (decide ((↑m : Int) < (↑(List.length lN) : Int))) true (decide_eq_true (by omega)) ?_
                        refine kct (k_skip_seq (k_seq (k_block (k_seq ?_))))
                        refine rv (D.sl (List.map NodeR.cells lN) none) ?_
                        refine rv (D.int IntKind.i64 (↑m : Int)) ?_
                        refine runs_index (lN) (NodeR.cells) (o := none) (kd := IntKind.i64) (m) (by kernel_rfl) (by kernel_rfl) (by kernel_rfl) (by assumption) (by kernel_rfl) ?_
                        refine rv (D.ref [D.str (NodeR.name lN[m]), D.str (NodeR.parent lN[m]), D.int IntKind.i64 (NodeR.limit lN[m]), D.int IntKind.i64 (NodeR.used lN[m])]) ?_
                        refine rv (D.str (NodeR.name lN[m])) ?_
                        refine rv (D.str at1) ?_
                        refine rv (D.bool (NodeR.name lN[m] == at1)) ?_
                        refine k_done (k_skip_seq ?_)
                        refine rkn 126 (NodeR.name lN[m] == at1) false (beq_eq_false_iff_ne.2 (by assumption)) ?_
                        refine kcf (k_skip_block (k_skip_seq ?_))
                        refine rv (D.int IntKind.i64 (↑m : Int)) ?_
                        refine rve (D.int IntKind.i64 (IntKind.wrap IntKind.i64 ((↑m : Int) + (1 : Int)))) (.int IntKind.i64 ((m + 1 : Nat) : Int)) (congrArg (D.int IntKind.i64) (show IntKind.wrap IntKind.i64 ((↑m : Int) + (1 : Int)) = ((m + 1 : Nat) : Int) from wrap_eq (by omega) (by omega) (by omega))) ?_
                        refine ra0 (D.int IntKind.i64 (↑(m + (1 : Nat)) : Int)) ?_
                        refine k_done (k_skip_back ?_)
                        exact ⟨(m + 1, up), ⟨cm, by rw [hst, if_neg ce, hup]⟩, by simp only []; omega, by kernel_rfl, rfl⟩
                    · refine k_seq (k_seq ?_)
                      refine rv (D.int IntKind.i64 (↑m : Int)) ?_
                      refine rv (D.sl (List.map NodeR.cells lN) none) ?_
                      refine rve (D.int IntKind.i64 (↑(List.length (List.map NodeR.cells lN)) : Int)) (.int IntKind.i64 ((↑(List.length lN) : Int))) (by simp only [ints, eInt, rows, eInts, bools, eBool, trips, eTrip, i8s, u16s, u8s, acts, List.length_map]) ?_
                      refine rv (D.bool (decide ((↑m : Int) < (↑(List.length lN) : Int)))) ?_
                      refine k_done (k_skip_seq ?_)
                      refine rkn 117 (decide ((↑m : Int) < (↑(List.length lN) : Int))) false (decide_eq_false (by omega)) ?_
                      refine kcf (k_exit_seq (k_exit_back (k_exit_hit rfl (k_skip_seq ?_))))
                      refine rv (D.str up) ?_
                      refine ra0 (D.str up) ?_
                      refine k_done (k_skip_block (k_skip_seq ?_))
                      refine rv (D.int IntKind.i64 (↑n : Int)) ?_
                      refine rve (D.int IntKind.i64 (IntKind.wrap IntKind.i64 ((↑n : Int) + (1 : Int)))) (.int IntKind.i64 ((n + 1 : Nat) : Int)) (congrArg (D.int IntKind.i64) (show IntKind.wrap IntKind.i64 ((↑n : Int) + (1 : Int)) = ((n + 1 : Nat) : Int) from wrap_eq (by omega) (by omega) (by omega))) ?_
                      refine ra0 (D.int IntKind.i64 (↑(n + (1 : Nat)) : Int)) ?_
                      refine k_done (k_skip_back ?_)
                      have hup2 : up = (lookP (npR rs) at1).getD [] := by
                        rw [hup, show m = lN.length by omega, List.take_length, upF_all hpN hnod]
                      refine ⟨⟨n + 1, up, .str up, .int .i64 m⟩, ⟨by simp only []; omega, ?_⟩, by simp only []; omega, by kernel_rfl, rfl⟩
                      simp only []
                      rw [hup2, ← hin, show lN.length + 1 - n = (lN.length + 1 - (n + 1)) + 1 by omega]
                      exact (mem_path_step p1.g cn3).symm
              · refine k_seq (k_seq ?_)
                refine rv (D.int IntKind.i64 (↑n : Int)) ?_
                refine rv (D.sl (List.map NodeR.cells lN) none) ?_
                refine rve (D.int IntKind.i64 (↑(List.length (List.map NodeR.cells lN)) : Int)) (.int IntKind.i64 ((↑(List.length lN) : Int))) (by simp only [ints, eInt, rows, eInts, bools, eBool, trips, eTrip, i8s, u16s, u8s, acts, List.length_map]) ?_
                refine rv (D.bool (decide ((↑n : Int) ≤ (↑(List.length lN) : Int)))) ?_
                refine rv (D.bool (decide ((↑n : Int) ≤ (↑(List.length lN) : Int)))) ?_
                refine rkn 94 (decide ((↑n : Int) ≤ (↑(List.length lN) : Int))) false (decide_eq_false (by omega)) ?_
                refine rno (rno ?_)
                refine rv (D.bool false) ?_
                refine k_done (k_skip_seq (kcf (k_exit_seq (k_exit_back (k_exit_hit rfl (k_skip_block (k_skip_seq ?_)))))))
                refine rv (D.int IntKind.i64 (↑j : Int)) ?_
                refine rve (D.int IntKind.i64 (IntKind.wrap IntKind.i64 ((↑j : Int) + (1 : Int)))) (.int IntKind.i64 ((j + 1 : Nat) : Int)) (congrArg (D.int IntKind.i64) (show IntKind.wrap IntKind.i64 ((↑j : Int) + (1 : Int)) = ((j + 1 : Nat) : Int) from wrap_eq (by omega) (by omega) (by omega))) ?_
                refine ra0 (D.int IntKind.i64 (↑(j + (1 : Nat)) : Int)) ?_
                refine k_done (k_skip_back ?_)
                have hout : lN[k].name ∉ lineP (npR rs) lH[j].node := by
                  rw [← hin, show lN.length + 1 - n = 0 by omega]
                  simp [pathP]
                exact ⟨⟨j + 1, sum, .str at1, .int .i64 n, kp d14, kp d15⟩, ⟨cj, sum_keep cj hsum hout⟩, by simp only []; omega, by kernel_rfl, rfl⟩
            · have hj2 : j = lH.length := by omega
              subst hj2
              obtain ⟨t1, t2, t3⟩ := last_used p1 hpN hpH ck hsum
              refine k_seq (k_seq ?_)
              refine rv (D.int IntKind.i64 (↑(List.length lH) : Int)) ?_
              refine rv (D.sl (List.map HeldR.cells lH) none) ?_
              refine rve (D.int IntKind.i64 (↑(List.length (List.map HeldR.cells lH)) : Int)) (.int IntKind.i64 ((↑(List.length lH) : Int))) (by simp only [ints, eInt, rows, eInts, bools, eBool, trips, eTrip, i8s, u16s, u8s, acts, List.length_map]) ?_
              refine rv (D.bool (decide ((↑(List.length lH) : Int) < (↑(List.length lH) : Int)))) ?_
              refine k_done (k_skip_seq ?_)
              refine rkn 82 (decide ((↑(List.length lH) : Int) < (↑(List.length lH) : Int))) false (decide_eq_false (by omega)) ?_
              refine kcf (k_exit_seq (k_exit_back (k_exit_hit rfl (k_skip_seq (k_seq ?_)))))
              refine rv (D.sl (List.map NodeR.cells lN) none) ?_
              refine rv (D.int IntKind.i64 (↑k : Int)) ?_
              refine runs_index (lN) (NodeR.cells) (o := none) (kd := IntKind.i64) (k) (by kernel_rfl) (by kernel_rfl) (by kernel_rfl) (by assumption) (by kernel_rfl) ?_
              refine rv (D.ref [D.int IntKind.i64 (NodeR.used lN[k])]) ?_
              refine rv (D.int IntKind.i64 (NodeR.used lN[k])) ?_
              refine rv (D.int IntKind.i64 sum) ?_
              refine rv (D.bool (NodeR.used lN[k] != sum)) ?_
              refine rv (D.bool (NodeR.used lN[k] != sum)) ?_
              refine rkn 140 (NodeR.used lN[k] != sum) false (bne_eq_false_iff_eq.2 (by assumption)) ?_
              refine rv (D.int IntKind.i64 sum) ?_
              refine rv (D.sl (List.map NodeR.cells lN) none) ?_
              refine rv (D.int IntKind.i64 (↑k : Int)) ?_
              refine runs_index (lN) (NodeR.cells) (o := none) (kd := IntKind.i64) (k) (by kernel_rfl) (by kernel_rfl) (by kernel_rfl) (by assumption) (by kernel_rfl) ?_
              refine rv (D.ref [D.int IntKind.i64 (NodeR.limit lN[k]), D.int IntKind.i64 (NodeR.used lN[k])]) ?_
              refine rv (D.int IntKind.i64 (NodeR.limit lN[k])) ?_
              refine rv (D.bool (decide (sum > NodeR.limit lN[k]))) ?_
              refine rv (D.bool (decide (sum > NodeR.limit lN[k]))) ?_
              refine rv (D.bool (decide (sum > NodeR.limit lN[k]))) ?_
              refine rkn 149 (decide (sum > NodeR.limit lN[k])) false (decide_eq_false (by omega)) ?_
              refine rv (D.int IntKind.i64 sum) ?_
              refine rv (D.bool (decide (sum < (0 : Int)))) ?_
              refine rv (D.bool (decide (sum < (0 : Int)))) ?_
              refine k_done (k_skip_seq ?_)
              refine rkn 152 (decide (sum < (0 : Int))) false (decide_eq_false (by omega)) ?_
              refine kcf (k_skip_block (k_skip_seq ?_))
              refine rv (D.int IntKind.i64 (↑k : Int)) ?_
              refine rve (D.int IntKind.i64 (IntKind.wrap IntKind.i64 ((↑k : Int) + (1 : Int)))) (.int IntKind.i64 ((k + 1 : Nat) : Int)) (congrArg (D.int IntKind.i64) (show IntKind.wrap IntKind.i64 ((↑k : Int) + (1 : Int)) = ((k + 1 : Nat) : Int) from wrap_eq (by omega) (by omega) (by omega))) ?_
              refine ra0 (D.int IntKind.i64 (↑(k + (1 : Nat)) : Int)) ?_
              refine k_done (k_skip_back ?_)
              exact ⟨⟨k + 1, .int .i64 sum, .int .i64 lH.length, kp d12, kp d13, kp d14, kp d15⟩, ck, by simp only []; omega, by kernel_rfl, rfl⟩
          · refine k_seq (k_seq ?_)
            refine rv (D.int IntKind.i64 (↑k : Int)) ?_
            refine rv (D.sl (List.map NodeR.cells lN) none) ?_
            refine rve (D.int IntKind.i64 (↑(List.length (List.map NodeR.cells lN)) : Int)) (.int IntKind.i64 ((↑(List.length lN) : Int))) (by simp only [ints, eInt, rows, eInts, bools, eBool, trips, eTrip, i8s, u16s, u8s, acts, List.length_map]) ?_
            refine rv (D.bool (decide ((↑k : Int) < (↑(List.length lN) : Int)))) ?_
            refine k_done (k_skip_seq ?_)
            refine rkn 76 (decide ((↑k : Int) < (↑(List.length lN) : Int))) false (decide_eq_false (by omega)) ?_
            refine kcf (k_exit_seq (k_exit_back (k_exit_hit rfl (k_skip_block (k_skip_seq ?_)))))
            refine rv (D.int IntKind.i64 (↑i : Int)) ?_
            refine rve (D.int IntKind.i64 (IntKind.wrap IntKind.i64 ((↑i : Int) + (1 : Int)))) (.int IntKind.i64 ((i + 1 : Nat) : Int)) (congrArg (D.int IntKind.i64) (show IntKind.wrap IntKind.i64 ((↑i : Int) + (1 : Int)) = ((i + 1 : Nat) : Int) from wrap_eq (by omega) (by omega) (by omega))) ?_
            refine ra0 (D.int IntKind.i64 (↑(i + (1 : Nat)) : Int)) ?_
            refine k_done (k_skip_back ?_)
            exact ⟨⟨i + 1, σ1 ++ [Go.Abs.Obj.cells [.map 1]], ns1, hs1, .sl (lN.map NodeR.cells) none, .sl (lH.map HeldR.cells) none, .int .i64 k, kp d10, kp d11, kp d12, kp d13, kp d14, kp d15⟩, ⟨c2, I1, n1, m1⟩, by simp only []; omega, by kernel_rfl, rfl⟩
        · by_cases k2 : IntKind.wrap IntKind.i64 (↑(BitVec.toNat (BitVec.ofInt (IntKind.bits IntKind.i64) (ActR.kind sc[i]) &&& BitVec.ofInt (IntKind.bits IntKind.i64) (3 : Int))) : Int) = 2
          · obtain ⟨σ1, ns1, hs1, e1, hc, O, p1, _, _, _, n0, m0⟩ := q_rel I 97 sc[i].b
            have n1 : ns1.length ≤ i + 1 := by omega
            have m1 : hs1.length ≤ i + 1 := by omega
            have L1 := O.L
            have hN := nodes_ok L1 (by omega) 98
            have hLv := live_ok L1 (by omega) 97
            have hpN : (nodesV ns1).Perm (ns1.map (·.r)) := sortK_perm _ _
            have hpH : (heldV hs1).Perm hs1 := sortK_perm _ _
            have I1 : QInv (σ1 ++ [Go.Abs.Obj.cells [.map 1]]) 2 0 1 ns1 hs1 := ⟨L1.append _, p1, by omega, by omega⟩
            generalize nodesV ns1 = lN at hN hpN
            generalize heldV hs1 = lH at hLv hpH
            have lenN : lN.length = ns1.length := by rw [hpN.length_eq, List.length_map]
            have lenH : lH.length = hs1.length := hpH.length_eq
            generalize hrs : ns1.map (·.r) = rs at p1 hpN
            have hnod : (rs.map (·.name)).Nodup := by have := grown_names p1.g; unfold npR at this; rw [List.map_map] at this; exact this
            refine k_seq (k_seq ?_)
            refine rv (D.int IntKind.i64 (↑i : Int)) ?_
            refine rv (D.sl (acts sc) none) ?_
            refine rve (D.int IntKind.i64 (↑(List.length (acts sc)) : Int)) (.int IntKind.i64 ((↑(List.length sc) : Int))) (by simp only [ints, eInt, rows, eInts, bools, eBool, trips, eTrip, i8s, u16s, u8s, acts, List.length_map]) ?_
            refine rv (D.bool (decide ((↑i : Int) < (↑(List.length sc) : Int)))) ?_
            refine rv (D.bool (decide ((↑i : Int) < (↑(List.length sc) : Int)))) ?_
            refine rkn 24 (decide ((↑i : Int) < (↑(List.length sc) : Int))) true (decide_eq_true (by omega)) ?_
            refine rv (D.int IntKind.i64 (↑i : Int)) ?_
            refine rv (D.bool (decide ((↑i : Int) < (40 : Int)))) ?_
            refine rv (D.bool (decide ((↑i : Int) < (40 : Int)))) ?_
            refine k_done (k_skip_seq ?_)
            refine rkn 27 (decide ((↑i : Int) < (40 : Int))) true (decide_eq_true (by omega)) ?_
            refine kct (k_skip_seq (k_seq (k_block (k_seq ?_))))
            refine rv (D.sl (acts sc) none) ?_
            refine rv (D.int IntKind.i64 (↑i : Int)) ?_
            refine runs_index (sc) (ActR.cells) (o := none) (kd := IntKind.i64) (i) (by kernel_rfl) (by kernel_rfl) (by kernel_rfl) (by assumption) (by kernel_rfl) ?_
            refine rv (D.agg [D.int IntKind.i64 (ActR.kind sc[i]), D.str (ActR.a sc[i]), D.str (ActR.b sc[i]), D.int IntKind.i64 (ActR.n sc[i])]) ?_
            refine rgf (D.lptr (6 : Nat) (0 : Nat)) (σ) ?_
            refine rgf (D.junk) (σ) ?_
            refine k_done (k_skip_seq (k_seq (k_seq ?_)))
            refine rv (D.lptr (6 : Nat) (0 : Nat)) ?_
            refine rv (D.int IntKind.i64 (ActR.kind sc[i])) ?_
            refine rv (D.int IntKind.i64 (IntKind.wrap IntKind.i64 (↑(BitVec.toNat (BitVec.ofInt (IntKind.bits IntKind.i64) (ActR.kind sc[i]) &&& BitVec.ofInt (IntKind.bits IntKind.i64) (3 : Int))) : Int))) ?_
            refine k_done (k_skip_seq (k_block (k_seq ?_)))
            refine rv (D.bool (IntKind.wrap IntKind.i64 (↑(BitVec.toNat (BitVec.ofInt (IntKind.bits IntKind.i64) (ActR.kind sc[i]) &&& BitVec.ofInt (IntKind.bits IntKind.i64) (3 : Int))) : Int) == (0 : Int))) ?_
            refine ra0 (D.bool (IntKind.wrap IntKind.i64 (↑(BitVec.toNat (BitVec.ofInt (IntKind.bits IntKind.i64) (ActR.kind sc[i]) &&& BitVec.ofInt (IntKind.bits IntKind.i64) (3 : Int))) : Int) == (0 : Int))) ?_
            refine k_done (k_skip_seq ?_)
            refine rkn 43 (IntKind.wrap IntKind.i64 (↑(BitVec.toNat (BitVec.ofInt (IntKind.bits IntKind.i64) (ActR.kind sc[i]) &&& BitVec.ofInt (IntKind.bits IntKind.i64) (3 : Int))) : Int) == (0 : Int)) false (decide_eq_false (by assumption)) ?_
            refine kcf (k_seq ?_)
            refine rv (D.bool (IntKind.wrap IntKind.i64 (↑(BitVec.toNat (BitVec.ofInt (IntKind.bits IntKind.i64) (ActR.kind sc[i]) &&& BitVec.ofInt (IntKind.bits IntKind.i64) (3 : Int))) : Int) == (1 : Int))) ?_
            refine ra0 (D.bool (IntKind.wrap IntKind.i64 (↑(BitVec.toNat (BitVec.ofInt (IntKind.bits IntKind.i64) (ActR.kind sc[i]) &&& BitVec.ofInt (IntKind.bits IntKind.i64) (3 : Int))) : Int) == (1 : Int))) ?_
            refine k_done (k_skip_seq ?_)
            refine rkn 53 (IntKind.wrap IntKind.i64 (↑(BitVec.toNat (BitVec.ofInt (IntKind.bits IntKind.i64) (ActR.kind sc[i]) &&& BitVec.ofInt (IntKind.bits IntKind.i64) (3 : Int))) : Int) == (1 : Int)) false (decide_eq_false (by assumption)) ?_
            refine kcf (k_seq ?_)
            refine rv (D.bool (IntKind.wrap IntKind.i64 (↑(BitVec.toNat (BitVec.ofInt (IntKind.bits IntKind.i64) (ActR.kind sc[i]) &&& BitVec.ofInt (IntKind.bits IntKind.i64) (3 : Int))) : Int) == (2 : Int))) ?_
            refine ra0 (D.bool (IntKind.wrap IntKind.i64 (↑(BitVec.toNat (BitVec.ofInt (IntKind.bits IntKind.i64) (ActR.kind sc[i]) &&& BitVec.ofInt (IntKind.bits IntKind.i64) (3 : Int))) : Int) == (2 : Int))) ?_
            refine k_done (k_skip_seq ?_)
            refine rkn 63 (IntKind.wrap IntKind.i64 (↑(BitVec.toNat (BitVec.ofInt (IntKind.bits IntKind.i64) (ActR.kind sc[i]) &&& BitVec.ofInt (IntKind.bits IntKind.i64) (3 : Int))) : Int) == (2 : Int)) true (decide_eq_true (by assumption)) ?_
            refine kct ?_
            refine rv (D.ptr (2 : Nat) (0 : Nat)) ?_
            refine rv (D.lptr (6 : Nat) (2 : Nat)) ?_
            refine rv (D.str (ActR.b sc[i])) ?_
            refine runs_call_st ([D.ptr (2 : Nat) (0 : Nat), D.str (ActR.b sc[i])]) (by kernel_rfl) (by kernel_rfl) (by kernel_rfl) (by kernel_rfl) (hc) ?_
            refine k_done (k_skip_block (k_skip_seq (k_seq ?_)))
            refine rv (D.ptr (2 : Nat) (0 : Nat)) ?_
            refine runs_call_st ([D.ptr (2 : Nat) (0 : Nat)]) (by kernel_rfl) (by kernel_rfl) (by kernel_rfl) (by kernel_rfl) (hN) ?_
            refine ra0 (D.sl (List.map NodeR.cells lN) none) ?_
            refine k_done (k_skip_seq (k_seq ?_))
            refine rv (D.ptr (2 : Nat) (0 : Nat)) ?_
            refine runs_call_st ([D.ptr (2 : Nat) (0 : Nat)]) (by kernel_rfl) (by kernel_rfl) (by kernel_rfl) (by kernel_rfl) (hLv) ?_
            refine ra0 (D.sl (List.map HeldR.cells lH) none) ?_
            refine k_done (k_skip_seq (k_seq ?_))
            refine rv (D.int IntKind.i64 (0 : Int)) ?_
            refine k_done (k_skip_seq (k_block ?_))
            refine k_loop (fun s : KS => fK sc i lN lH s.k s.d10 s.d11 s.d12 s.d13 s.d14 s.d15) (fun _ => σ1 ++ [Go.Abs.Obj.cells [.map 1]]) (fun s => s.k ≤ lN.length) (fun s => lN.length - s.k) ⟨0, kp d10, kp d11, kp d12, kp d13, kp d14, kp d15⟩ (by kernel_rfl) (by kernel_rfl) (by simp) (fun s hs => by omega) ?_
            rintro ⟨k, d10, d11, d12, d13, d14, d15⟩ hk
            simp only at hk
            show Runs (runC _ _ _ (fK sc i lN lH k d10 d11 d12 d13 d14 d15) (σ1 ++ [Go.Abs.Obj.cells [.map 1]])) _
            unfold fK fA l4_3
            by_cases ck : k < lN.length
            · refine k_seq (k_seq ?_)
              refine rv (D.int IntKind.i64 (↑k : Int)) ?_
              refine rv (D.sl (List.map NodeR.cells lN) none) ?_
              refine rve (D.int IntKind.i64 (↑(List.length (List.map NodeR.cells lN)) : Int)) (.int IntKind.i64 ((↑(List.length lN) : Int))) (by simp only [ints, eInt, rows, eInts, bools, eBool, trips, eTrip, i8s, u16s, u8s, acts, List.length_map]) ?_
              refine rv (D.bool (decide ((↑k : Int) < (↑(List.length lN) : Int)))) ?_
              refine k_done (k_skip_seq ?_)
              refine rkn 76 (decide ((↑k : Int) < (↑(List.length lN) : Int))) true (decide_eq_true (by omega)) ?_
              refine kct (k_skip_seq (k_seq (k_block (k_seq ?_))))
              refine rv (D.int IntKind.i64 (0 : Int)) ?_
              refine k_done (k_skip_seq (k_seq (k_seq ?_)))
              refine rv (D.int IntKind.i64 (0 : Int)) ?_
              refine k_done (k_skip_seq (k_block ?_))
              refine k_loop (fun s : JS => fK sc i lN lH k (.int .i64 s.sum) (.int .i64 s.j) s.d12 s.d13 s.d14 s.d15) (fun _ => σ1 ++ [Go.Abs.Obj.cells [.map 1]]) (fun s => s.j ≤ lH.length ∧ s.sum = sumAt (npR rs) lN[k].name (lH.take s.j)) (fun s => lH.length - s.j) ⟨0, 0, kp d12, kp d13, kp d14, kp d15⟩ (by kernel_rfl) (by kernel_rfl) ⟨by simp, rfl⟩ (fun s hs => by omega) ?_
              rintro ⟨j, sum, d12, d13, d14, d15⟩ ⟨hj, hsum⟩
              simp only at hj hsum
              show Runs (runC _ _ _ (fK sc i lN lH k (.int .i64 sum) (.int .i64 j) d12 d13 d14 d15) (σ1 ++ [Go.Abs.Obj.cells [.map 1]])) _
              unfold fK fA l4_2
              by_cases cj : j < lH.length
              · refine k_seq (k_seq ?_)
                refine rv (D.int IntKind.i64 (↑j : Int)) ?_
                refine rv (D.sl (List.map HeldR.cells lH) none) ?_
                refine rve (D.int IntKind.i64 (↑(List.length (List.map HeldR.cells lH)) : Int)) (.int IntKind.i64 ((↑(List.length lH) : Int))) (by simp only [ints, eInt, rows, eInts, bools, eBool, trips, eTrip, i8s, u16s, u8s, acts, List.length_map]) ?_
                refine rv (D.bool (decide ((↑j : Int) < (↑(List.length lH) : Int)))) ?_
                refine k_done (k_skip_seq ?_)
                refine rkn 82 (decide ((↑j : Int) < (↑(List.length lH) : Int))) true (decide_eq_true (by omega)) ?_
                refine kct (k_skip_seq (k_seq (k_block (k_seq ?_))))
                refine rv (D.sl (List.map HeldR.cells lH) none) ?_
                refine rv (D.int IntKind.i64 (↑j : Int)) ?_
                refine runs_index (lH) (HeldR.cells) (o := none) (kd := IntKind.i64) (j) (by kernel_rfl) (by kernel_rfl) (by kernel_rfl) (by assumption) (by kernel_rfl) ?_
                refine rv (D.ref [D.str (HeldR.node lH[j]), D.int IntKind.i64 (HeldR.amount lH[j])]) ?_
                refine rv (D.str (HeldR.node lH[j])) ?_
                refine ra0 (D.str (HeldR.node lH[j])) ?_
                refine k_done (k_skip_seq (k_seq ?_))
                refine rv (D.int IntKind.i64 (0 : Int)) ?_
                refine k_done (k_skip_seq (k_block ?_))
                refine k_loop (fun s : NS => fK sc i lN lH k (.int .i64 sum) (.int .i64 j) (.str s.here) (.int .i64 s.n) s.d14 s.d15) (fun _ => σ1 ++ [Go.Abs.Obj.cells [.map 1]]) (fun s => s.n ≤ lN.length + 1 ∧ (lN[k].name ∈ pathP (npR rs) (lN.length + 1 - s.n) s.here ↔ lN[k].name ∈ lineP (npR rs) lH[j].node)) (fun s => lN.length + 1 - s.n) ⟨0, lH[j].node, kp d14, kp d15⟩ (by kernel_rfl) (by kernel_rfl) ⟨by simp, by rw [show lN.length = (npR rs).length by rw [hpN.length_eq]; simp [npR]]; exact Iff.rfl⟩ (fun s hs => by omega) ?_
                rintro ⟨n, at1, d14, d15⟩ ⟨hn1, hin⟩
                simp only at hn1 hin
                show Runs (runC _ _ _ (fK sc i lN lH k (.int .i64 sum) (.int .i64 j) (.str at1) (.int .i64 n) d14 d15) (σ1 ++ [Go.Abs.Obj.cells [.map 1]])) _
                unfold fK fA l4_1
                by_cases cn1 : n ≤ lN.length
                · by_cases cn2 : at1 = []
                  · subst cn2
                    refine k_seq (k_seq ?_)
                    refine rv (D.int IntKind.i64 (↑n : Int)) ?_
                    refine rv (D.sl (List.map NodeR.cells lN) none) ?_
                    refine rve (D.int IntKind.i64 (↑(List.length (List.map NodeR.cells lN)) : Int)) (.int IntKind.i64 ((↑(List.length lN) : Int))) (by simp only [ints, eInt, rows, eInts, bools, eBool, trips, eTrip, i8s, u16s, u8s, acts, List.length_map]) ?_
                    refine rv (D.bool (decide ((↑n : Int) ≤ (↑(List.length lN) : Int)))) ?_
                    refine rv (D.bool (decide ((↑n : Int) ≤ (↑(List.length lN) : Int)))) ?_
                    refine rkn 94 (decide ((↑n : Int) ≤ (↑(List.length lN) : Int))) true (decide_eq_true (by omega)) ?_
                    refine rv (D.str []) ?_
                    refine rv (D.bool false) ?_
                    refine rv (D.bool false) ?_
                    refine k_done (k_skip_seq (kcf (k_exit_seq (k_exit_back (k_exit_hit rfl (k_skip_block (k_skip_seq ?_)))))))
                    refine rv (D.int IntKind.i64 (↑j : Int)) ?_
                    refine rve (D.int IntKind.i64 (IntKind.wrap IntKind.i64 ((↑j : Int) + (1 : Int)))) (.int IntKind.i64 ((j + 1 : Nat) : Int)) (congrArg (D.int IntKind.i64) (show IntKind.wrap IntKind.i64 ((↑j : Int) + (1 : Int)) = ((j + 1 : Nat) : Int) from wrap_eq (by omega) (by omega) (by omega))) ?_
                    refine ra0 (D.int IntKind.i64 (↑(j + (1 : Nat)) : Int)) ?_
                    refine k_done (k_skip_back ?_)
                    exact ⟨⟨j + 1, sum, .str [], .int .i64 n, kp d14, kp d15⟩, ⟨cj, sum_keep cj hsum (fun h => mem_path_empty p1.g _ _ (hin.2 h))⟩, by simp only []; omega, by kernel_rfl, rfl⟩
                  · by_cases cn3 : at1 = lN[k].name
                    · have hmem : lN[k].name ∈ lineP (npR rs) lH[j].node := by
                        rw [← hin, ← cn3, show lN.length + 1 - n = (lN.length - n) + 1 by omega]
                        exact mem_path_here (by rw [cn3, lookP_has]; exact hasR_mem (hpN.subset (List.getElem_mem ck)))
                      obtain ⟨s1, s2, s3⟩ := sum_add p1 hpN hpH ck cj hsum hmem
                      refine k_seq (k_seq ?_)
                      refine rv (D.int IntKind.i64 (↑n : Int)) ?_
                      refine rv (D.sl (List.map NodeR.cells lN) none) ?_
                      refine rve (D.int IntKind.i64 (↑(List.length (List.map NodeR.cells lN)) : Int)) (.int IntKind.i64 ((↑(List.length lN) : Int))) (by simp only [ints, eInt, rows, eInts, bools, eBool, trips, eTrip, i8s, u16s, u8s, acts, List.length_map]) ?_
                      refine rv (D.bool (decide ((↑n : Int) ≤ (↑(List.length lN) : Int)))) ?_
                      refine rv (D.bool (decide ((↑n : Int) ≤ (↑(List.length lN) : Int)))) ?_
                      refine rkn 94 (decide ((↑n : Int) ≤ (↑(List.length lN) : Int))) true (decide_eq_true (by omega)) ?_
                      refine rv (D.str at1) ?_
                      refine rv (D.bool !at1 == []) ?_
                      refine rv (D.bool !at1 == []) ?_
                      refine k_done (k_skip_seq ?_)
                      refine rkn 97 (!at1 == []) true (bne_iff_ne.2 (by assumption)) ?_
                      refine kct (k_skip_seq (k_seq (k_block (k_seq (k_seq ?_)))))
                      refine rv (D.str at1) ?_
                      refine rv (D.sl (List.map NodeR.cells lN) none) ?_
                      refine rv (D.int IntKind.i64 (↑k : Int)) ?_
                      refine runs_index (lN) (NodeR.cells) (o := none) (kd := IntKind.i64) (k) (by kernel_rfl) (by kernel_rfl) (by kernel_rfl) (by assumption) (by kernel_rfl) ?_
                      refine rv (D.ref [D.str (NodeR.name lN[k]), D.str (NodeR.parent lN[k]), D.int IntKind.i64 (NodeR.limit lN[k]), D.int IntKind.i64 (NodeR.used lN[k])]) ?_
                      refine rv (D.str (NodeR.name lN[k])) ?_
                      refine rv (D.bool (at1 == NodeR.name lN[k])) ?_
                      refine k_done (k_skip_seq ?_)
                      refine rkn 106 (at1 == NodeR.name lN[k]) true (beq_iff_eq.2 (by assumption)) ?_
                      refine kct (k_seq ?_)
                      refine rv (D.int IntKind.i64 sum) ?_
                      refine rv (D.sl (List.map HeldR.cells lH) none) ?_
                      refine rv (D.int IntKind.i64 (↑j : Int)) ?_
                      refine runs_index (lH) (HeldR.cells) (o := none) (kd := IntKind.i64) (j) (by kernel_rfl) (by kernel_rfl) (by kernel_rfl) (by assumption) (by kernel_rfl) ?_
                      refine rv (D.ref [D.int IntKind.i64 (HeldR.amount lH[j])]) ?_
                      refine rv (D.int IntKind.i64 (HeldR.amount lH[j])) ?_
                      refine rve (D.int IntKind.i64 (IntKind.wrap IntKind.i64 (sum + HeldR.amount lH[j]))) (.int IntKind.i64 (sum + HeldR.amount lH[j])) (congrArg (D.int IntKind.i64) (show IntKind.wrap IntKind.i64 (sum + HeldR.amount lH[j]) = (sum + HeldR.amount lH[j]) from wrap_eq (by omega) (by omega) (by omega))) ?_
                      refine ra0 (D.int IntKind.i64 (sum + HeldR.amount lH[j])) ?_
                      refine k_done (k_skip_seq (k_exit_seq (k_exit_miss (by decide) (k_exit_seq (k_exit_back (k_exit_hit rfl (k_skip_block (k_skip_seq ?_))))))))
                      refine rv (D.int IntKind.i64 (↑j : Int)) ?_
                      refine rve (D.int IntKind.i64 (IntKind.wrap IntKind.i64 ((↑j : Int) + (1 : Int)))) (.int IntKind.i64 ((j + 1 : Nat) : Int)) (congrArg (D.int IntKind.i64) (show IntKind.wrap IntKind.i64 ((↑j : Int) + (1 : Int)) = ((j + 1 : Nat) : Int) from wrap_eq (by omega) (by omega) (by omega))) ?_
                      refine ra0 (D.int IntKind.i64 (↑(j + (1 : Nat)) : Int)) ?_
                      refine k_done (k_skip_back ?_)
                      exact ⟨⟨j + 1, sum + lH[j].amount, .str at1, .int .i64 n, kp d14, kp d15⟩, ⟨cj, s3⟩, by simp only []; omega, by kernel_rfl, rfl⟩
                    · refine k_seq (k_seq ?_)
                      refine rv (D.int IntKind.i64 (↑n : Int)) ?_
                      refine rv (D.sl (List.map NodeR.cells lN) none) ?_
                      refine rve (D.int IntKind.i64 (↑(List.length (List.map NodeR.cells lN)) : Int)) (.int IntKind.i64 ((↑(List.length lN) : Int))) (by simp only [ints, eInt, rows, eInts, bools, eBool, trips, eTrip, i8s, u16s, u8s, acts, List.length_map]) ?_
                      refine rv (D.bool (decide ((↑n : Int) ≤ (↑(List.length lN) : Int)))) ?_
                      refine rv (D.bool (decide ((↑n : Int) ≤ (↑(List.length lN) : Int)))) ?_
                      refine rkn 94 (decide ((↑n : Int) ≤ (↑(List.length lN) : Int))) true (decide_eq_true (by omega)) ?_
                      refine rv (D.str at1) ?_
                      refine rv (D.bool !at1 == []) ?_
                      refine rv (D.bool !at1 == []) ?_
                      refine k_done (k_skip_seq ?_)
                      refine rkn 97 (!at1 == []) true (bne_iff_ne.2 (by assumption)) ?_
                      refine kct (k_skip_seq (k_seq (k_block (k_seq (k_seq ?_)))))
                      refine rv (D.str at1) ?_
                      refine rv (D.sl (List.map NodeR.cells lN) none) ?_
                      refine rv (D.int IntKind.i64 (↑k : Int)) ?_
                      refine runs_index (lN) (NodeR.cells) (o := none) (kd := IntKind.i64) (k) (by kernel_rfl) (by kernel_rfl) (by kernel_rfl) (by assumption) (by kernel_rfl) ?_
                      refine rv (D.ref [D.str (NodeR.name lN[k]), D.str (NodeR.parent lN[k]), D.int IntKind.i64 (NodeR.limit lN[k]), D.int IntKind.i64 (NodeR.used lN[k])]) ?_
                      refine rv (D.str (NodeR.name lN[k])) ?_
                      refine rv (D.bool (at1 == NodeR.name lN[k])) ?_
                      refine k_done (k_skip_seq ?_)
                      refine rkn 106 (at1 == NodeR.name lN[k]) false (beq_eq_false_iff_ne.2 (by assumption)) ?_
                      refine kcf (k_skip_seq (k_seq ?_))
                      refine rv (D.str []) ?_
                      refine k_done (k_skip_seq (k_seq (k_seq ?_)))
                      refine rv (D.int IntKind.i64 (0 : Int)) ?_
                      refine k_done (k_skip_seq (k_block ?_))
                      refine k_loop (fun s : Nat × Nm => fK sc i lN lH k (.int .i64 sum) (.int .i64 j) (.str at1) (.int .i64 n) (.str s.2) (.int .i64 s.1)) (fun _ => σ1 ++ [Go.Abs.Obj.cells [.map 1]]) (fun s => s.1 ≤ lN.length ∧ s.2 = upF (lN.take s.1) at1) (fun s => lN.length - s.1) (0, []) (by kernel_rfl) (by kernel_rfl) ⟨by simp, rfl⟩ (fun s hs => by omega) ?_
                      rintro ⟨m, up⟩ ⟨hm, hup⟩
                      simp only at hm hup
                      show Runs (runC _ _ _ (fK sc i lN lH k (.int .i64 sum) (.int .i64 j) (.str at1) (.int .i64 n) (.str up) (.int .i64 m)) (σ1 ++ [Go.Abs.Obj.cells [.map 1]])) _
                      unfold fK fA l4_0
                      by_cases cm : m < lN.length
                      · have hst := upF_take lN at1 m cm
                        by_cases ce : lN[m].name = at1
                        · refine k_seq (k_seq ?_)
                          refine rv (D.int IntKind.i64 (↑m : Int)) ?_
                          refine rv (D.sl (List.map NodeR.cells lN) none) ?_
                          refine rve (D.int IntKind.i64 (↑(List.length (List.map NodeR.cells lN)) : Int)) (.int IntKind.i64 ((↑(List.length lN) : Int))) (by simp only [ints, eInt, rows, eInts, bools, eBool, trips, eTrip, i8s, u16s, u8s, acts, List.length_map]) ?_
                          refine rv (D.bool (decide ((↑m : Int) < (↑(List.length lN) : Int)))) ?_
                          refine k_done (k_skip_seq ?_)
                          refine rkn 117 (decide ((↑m : Int) < (↑(List.length lN) : Int))) true (decide_eq_true (by omega)) ?_
                          refine kct (k_skip_seq (k_seq (k_block (k_seq ?_))))
                          refine rv (D.sl (List.map NodeR.cells lN) none) ?_
                          refine rv (D.int IntKind.i64 (↑m : Int)) ?_
                          refine runs_index (lN) (NodeR.cells) (o := none) (kd := IntKind.i64) (m) (by kernel_rfl) (by kernel_rfl) (by kernel_rfl) (by assumption) (by kernel_rfl) ?_
                          refine rv (D.ref [D.str (NodeR.name lN[m]), D.str (NodeR.parent lN[m]), D.int IntKind.i64 (NodeR.limit lN[m]), D.int IntKind.i64 (NodeR.used lN[m])]) ?_
                          refine rv (D.str (NodeR.name lN[m])) ?_
                          refine rv (D.str at1) ?_
                          refine rv (D.bool (NodeR.name lN[m] == at1)) ?_
                          refine k_done (k_skip_seq ?_)
                          refine rkn 126 (NodeR.name lN[m] == at1) true (beq_iff_eq.2 (by assumption)) ?_
                          refine kct ?_
                          refine rv (D.sl (List.map NodeR.cells lN) none) ?_
                          refine rv (D.int IntKind.i64 (↑m : Int)) ?_
                          refine runs_index (lN) (NodeR.cells) (o := none) (kd := IntKind.i64) (m) (by kernel_rfl) (by kernel_rfl) (by kernel_rfl) (by assumption) (by kernel_rfl) ?_
                          refine rv (D.ref [D.str (NodeR.parent lN[m]), D.int IntKind.i64 (NodeR.limit lN[m]), D.int IntKind.i64 (NodeR.used lN[m])]) ?_
                          refine rv (D.str (NodeR.parent lN[m])) ?_
                          refine ra0 (D.str (NodeR.parent lN[m])) ?_
                          refine k_done (k_skip_block (k_skip_seq ?_))
                          refine rv (D.int IntKind.i64 (↑m : Int)) ?_
                          refine rve (D.int IntKind.i64 (IntKind.wrap IntKind.i64 ((↑m : Int) + (1 : Int)))) (.int IntKind.i64 ((m + 1 : Nat) : Int)) (congrArg (D.int IntKind.i64) (show IntKind.wrap IntKind.i64 ((↑m : Int) + (1 : Int)) = ((m + 1 : Nat) : Int) from wrap_eq (by omega) (by omega) (by omega))) ?_
                          refine ra0 (D.int IntKind.i64 (↑(m + (1 : Nat)) : Int)) ?_
                          refine k_done (k_skip_back ?_)
                          exact ⟨(m + 1, lN[m].parent), ⟨cm, by rw [hst, if_pos ce]⟩, by simp only []; omega, by kernel_rfl, rfl⟩
                        · refine k_seq (k_seq ?_)
                          refine rv (D.int IntKind.i64 (↑m : Int)) ?_
                          refine rv (D.sl (List.map NodeR.cells lN) none) ?_
                          refine rve (D.int IntKind.i64 (↑(List.length (List.map NodeR.cells lN)) : Int)) (.int IntKind.i64 ((↑(List.length lN) : Int))) (by simp only [ints, eInt, rows, eInts, bools, eBool, trips, eTrip, i8s, u16s, u8s, acts, List.length_map]) ?_
                          refine rv (D.bool (decide ((↑m : Int) < (↑(List.length lN) : Int)))) ?_
                          refine k_done (k_skip_seq ?_)
                          refine rkn 117 (decide ((↑m : Int) < (↑(List.length lN) : Int))) true (decide_eq_true (by omega)) ?_
                          refine kct (k_skip_seq (k_seq (k_block (k_seq ?_))))
                          refine rv (D.sl (List.map NodeR.cells lN) none) ?_
                          refine rv (D.int IntKind.i64 (↑m : Int)) ?_
                          refine runs_index (lN) (NodeR.cells) (o := none) (kd := IntKind.i64) (m) (by kernel_rfl) (by kernel_rfl) (by kernel_rfl) (by assumption) (by kernel_rfl) ?_
                          refine rv (D.ref [D.str (NodeR.name lN[m]), D.str (NodeR.parent lN[m]), D.int IntKind.i64 (NodeR.limit lN[m]), D.int IntKind.i64 (NodeR.used lN[m])]) ?_
                          refine rv (D.str (NodeR.name lN[m])) ?_
                          refine rv (D.str at1) ?_
                          refine rv (D.bool (NodeR.name lN[m] == at1)) ?_
                          refine k_done (k_skip_seq ?_)
                          refine rkn 126 (NodeR.name lN[m] == at1) false (beq_eq_false_iff_ne.2 (by assumption)) ?_
                          refine kcf (k_skip_block (k_skip_seq ?_))
                          refine rv (D.int IntKind.i64 (↑m : Int)) ?_
                          refine rve (D.int IntKind.i64 (IntKind.wrap IntKind.i64 ((↑m : Int) + (1 : Int)))) (.int IntKind.i64 ((m + 1 : Nat) : Int)) (congrArg (D.int IntKind.i64) (show IntKind.wrap IntKind.i64 ((↑m : Int) + (1 : Int)) = ((m + 1 : Nat) : Int) from wrap_eq (by omega) (by omega) (by omega))) ?_
                          refine ra0 (D.int IntKind.i64 (↑(m + (1 : Nat)) : Int)) ?_
                          refine k_done (k_skip_back ?_)
                          exact ⟨(m + 1, up), ⟨cm, by rw [hst, if_neg ce, hup]⟩, by simp only []; omega, by kernel_rfl, rfl⟩
                      · refine k_seq (k_seq ?_)
                        refine rv (D.int IntKind.i64 (↑m : Int)) ?_
                        refine rv (D.sl (List.map NodeR.cells lN) none) ?_
                        refine rve (D.int IntKind.i64 (↑(List.length (List.map NodeR.cells lN)) : Int)) (.int IntKind.i64 ((↑(List.length lN) : Int))) (by simp only [ints, eInt, rows, eInts, bools, eBool, trips, eTrip, i8s, u16s, u8s, acts, List.length_map]) ?_
                        refine rv (D.bool (decide ((↑m : Int) < (↑(List.length lN) : Int)))) ?_
                        refine k_done (k_skip_seq ?_)
                        refine rkn 117 (decide ((↑m : Int) < (↑(List.length lN) : Int))) false (decide_eq_false (by omega)) ?_
                        refine kcf (k_exit_seq (k_exit_back (k_exit_hit rfl (k_skip_seq ?_))))
                        refine rv (D.str up) ?_
                        refine ra0 (D.str up) ?_
                        refine k_done (k_skip_block (k_skip_seq ?_))
                        refine rv (D.int IntKind.i64 (↑n : Int)) ?_
                        refine rve (D.int IntKind.i64 (IntKind.wrap IntKind.i64 ((↑n : Int) + (1 : Int)))) (.int IntKind.i64 ((n + 1 : Nat) : Int)) (congrArg (D.int IntKind.i64) (show IntKind.wrap IntKind.i64 ((↑n : Int) + (1 : Int)) = ((n + 1 : Nat) : Int) from wrap_eq (by omega) (by omega) (by omega))) ?_
                        refine ra0 (D.int IntKind.i64 (↑(n + (1 : Nat)) : Int)) ?_
                        refine k_done (k_skip_back ?_)
                        have hup2 : up = (lookP (npR rs) at1).getD [] := by
                          rw [hup, show m = lN.length by omega, List.take_length, upF_all hpN hnod]
                        refine ⟨⟨n + 1, up, .str up, .int .i64 m⟩, ⟨by simp only []; omega, ?_⟩, by simp only []; omega, by kernel_rfl, rfl⟩
                        simp only []
                        rw [hup2, ← hin, show lN.length + 1 - n = (lN.length + 1 - (n + 1)) + 1 by omega]
                        exact (mem_path_step p1.g cn3).symm
                · refine k_seq (k_seq ?_)
                  refine rv (D.int IntKind.i64 (↑n : Int)) ?_
                  refine rv (D.sl (List.map NodeR.cells lN) none) ?_
                  refine rve (D.int IntKind.i64 (↑(List.length (List.map NodeR.cells lN)) : Int)) (.int IntKind.i64 ((↑(List.length lN) : Int))) (by simp only [ints, eInt, rows, eInts, bools, eBool, trips, eTrip, i8s, u16s, u8s, acts, List.length_map]) ?_
                  refine rv (D.bool (decide ((↑n : Int) ≤ (↑(List.length lN) : Int)))) ?_
                  refine rv (D.bool (decide ((↑n : Int) ≤ (↑(List.length lN) : Int)))) ?_
                  refine rkn 94 (decide ((↑n : Int) ≤ (↑(List.length lN) : Int))) false (decide_eq_false (by omega)) ?_
                  refine rno (rno ?_)
                  refine rv (D.bool false) ?_
                  refine k_done (k_skip_seq (kcf (k_exit_seq (k_exit_back (k_exit_hit rfl (k_skip_block (k_skip_seq ?_)))))))
                  refine rv (D.int IntKind.i64 (↑j : Int)) ?_
                  refine rve (D.int IntKind.i64 (IntKind.wrap IntKind.i64 ((↑j : Int) + (1 : Int)))) (.int IntKind.i64 ((j + 1 : Nat) : Int)) (congrArg (D.int IntKind.i64) (show IntKind.wrap IntKind.i64 ((↑j : Int) + (1 : Int)) = ((j + 1 : Nat) : Int) from wrap_eq (by omega) (by omega) (by omega))) ?_
                  refine ra0 (D.int IntKind.i64 (↑(j + (1 : Nat)) : Int)) ?_
                  refine k_done (k_skip_back ?_)
                  have hout : lN[k].name ∉ lineP (npR rs) lH[j].node := by
                    rw [← hin, show lN.length + 1 - n = 0 by omega]
                    simp [pathP]
                  exact ⟨⟨j + 1, sum, .str at1, .int .i64 n, kp d14, kp d15⟩, ⟨cj, sum_keep cj hsum hout⟩, by simp only []; omega, by kernel_rfl, rfl⟩
              · have hj2 : j = lH.length := by omega
                subst hj2
                obtain ⟨t1, t2, t3⟩ := last_used p1 hpN hpH ck hsum
                refine k_seq (k_seq ?_)
                refine rv (D.int IntKind.i64 (↑(List.length lH) : Int)) ?_
                refine rv (D.sl (List.map HeldR.cells lH) none) ?_
                refine rve (D.int IntKind.i64 (↑(List.length (List.map HeldR.cells lH)) : Int)) (.int IntKind.i64 ((↑(List.length lH) : Int))) (by simp only [ints, eInt, rows, eInts, bools, eBool, trips, eTrip, i8s, u16s, u8s, acts, List.length_map]) ?_
                refine rv (D.bool (decide ((↑(List.length lH) : Int) < (↑(List.length lH) : Int)))) ?_
                refine k_done (k_skip_seq ?_)
                refine rkn 82 (decide ((↑(List.length lH) : Int) < (↑(List.length lH) : Int))) false (decide_eq_false (by omega)) ?_
                refine kcf (k_exit_seq (k_exit_back (k_exit_hit rfl (k_skip_seq (k_seq ?_)))))
                refine rv (D.sl (List.map NodeR.cells lN) none) ?_
                refine rv (D.int IntKind.i64 (↑k : Int)) ?_
                refine runs_index (lN) (NodeR.cells) (o := none) (kd := IntKind.i64) (k) (by kernel_rfl) (by kernel_rfl) (by kernel_rfl) (by assumption) (by kernel_rfl) ?_
                refine rv (D.ref [D.int IntKind.i64 (NodeR.used lN[k])]) ?_
                refine rv (D.int IntKind.i64 (NodeR.used lN[k])) ?_
                refine rv (D.int IntKind.i64 sum) ?_
                refine rv (D.bool (NodeR.used lN[k] != sum)) ?_
                refine rv (D.bool (NodeR.used lN[k] != sum)) ?_
                refine rkn 140 (NodeR.used lN[k] != sum) false (bne_eq_false_iff_eq.2 (by assumption)) ?_
                refine rv (D.int IntKind.i64 sum) ?_
                refine rv (D.sl (List.map NodeR.cells lN) none) ?_
                refine rv (D.int IntKind.i64 (↑k : Int)) ?_
                refine runs_index (lN) (NodeR.cells) (o := none) (kd := IntKind.i64) (k) (by kernel_rfl) (by kernel_rfl) (by kernel_rfl) (by assumption) (by kernel_rfl) ?_
                refine rv (D.ref [D.int IntKind.i64 (NodeR.limit lN[k]), D.int IntKind.i64 (NodeR.used lN[k])]) ?_
                refine rv (D.int IntKind.i64 (NodeR.limit lN[k])) ?_
                refine rv (D.bool (decide (sum > NodeR.limit lN[k]))) ?_
                refine rv (D.bool (decide (sum > NodeR.limit lN[k]))) ?_
                refine rv (D.bool (decide (sum > NodeR.limit lN[k]))) ?_
                refine rkn 149 (decide (sum > NodeR.limit lN[k])) false (decide_eq_false (by omega)) ?_
                refine rv (D.int IntKind.i64 sum) ?_
                refine rv (D.bool (decide (sum < (0 : Int)))) ?_
                refine rv (D.bool (decide (sum < (0 : Int)))) ?_
                refine k_done (k_skip_seq ?_)
                refine rkn 152 (decide (sum < (0 : Int))) false (decide_eq_false (by omega)) ?_
                refine kcf (k_skip_block (k_skip_seq ?_))
                refine rv (D.int IntKind.i64 (↑k : Int)) ?_
                refine rve (D.int IntKind.i64 (IntKind.wrap IntKind.i64 ((↑k : Int) + (1 : Int)))) (.int IntKind.i64 ((k + 1 : Nat) : Int)) (congrArg (D.int IntKind.i64) (show IntKind.wrap IntKind.i64 ((↑k : Int) + (1 : Int)) = ((k + 1 : Nat) : Int) from wrap_eq (by omega) (by omega) (by omega))) ?_
                refine ra0 (D.int IntKind.i64 (↑(k + (1 : Nat)) : Int)) ?_
                refine k_done (k_skip_back ?_)
                exact ⟨⟨k + 1, .int .i64 sum, .int .i64 lH.length, kp d12, kp d13, kp d14, kp d15⟩, ck, by simp only []; omega, by kernel_rfl, rfl⟩
            · refine k_seq (k_seq ?_)
              refine rv (D.int IntKind.i64 (↑k : Int)) ?_
              refine rv (D.sl (List.map NodeR.cells lN) none) ?_
              refine rve (D.int IntKind.i64 (↑(List.length (List.map NodeR.cells lN)) : Int)) (.int IntKind.i64 ((↑(List.length lN) : Int))) (by simp only [ints, eInt, rows, eInts, bools, eBool, trips, eTrip, i8s, u16s, u8s, acts, List.length_map]) ?_
              refine rv (D.bool (decide ((↑k : Int) < (↑(List.length lN) : Int)))) ?_
              refine k_done (k_skip_seq ?_)
              refine rkn 76 (decide ((↑k : Int) < (↑(List.length lN) : Int))) false (decide_eq_false (by omega)) ?_
              refine kcf (k_exit_seq (k_exit_back (k_exit_hit rfl (k_skip_block (k_skip_seq ?_)))))
              refine rv (D.int IntKind.i64 (↑i : Int)) ?_
              refine rve (D.int IntKind.i64 (IntKind.wrap IntKind.i64 ((↑i : Int) + (1 : Int)))) (.int IntKind.i64 ((i + 1 : Nat) : Int)) (congrArg (D.int IntKind.i64) (show IntKind.wrap IntKind.i64 ((↑i : Int) + (1 : Int)) = ((i + 1 : Nat) : Int) from wrap_eq (by omega) (by omega) (by omega))) ?_
              refine ra0 (D.int IntKind.i64 (↑(i + (1 : Nat)) : Int)) ?_
              refine k_done (k_skip_back ?_)
              exact ⟨⟨i + 1, σ1 ++ [Go.Abs.Obj.cells [.map 1]], ns1, hs1, .sl (lN.map NodeR.cells) none, .sl (lH.map HeldR.cells) none, .int .i64 k, kp d10, kp d11, kp d12, kp d13, kp d14, kp d15⟩, ⟨c2, I1, n1, m1⟩, by simp only []; omega, by kernel_rfl, rfl⟩
          · obtain ⟨σ1, ns1, hc, O, p1, _, n0⟩ := q_lim I 98 sc[i].a sc[i].n hai
            have n1 : ns1.length ≤ i + 1 := by omega
            have m1 : hs.length ≤ i + 1 := by omega
            obtain ⟨hs1, hhs⟩ : ∃ l, l = hs := ⟨_, rfl⟩
            rw [← hhs] at O p1 m1
            have L1 := O.L
            have hN := nodes_ok L1 (by omega) 98
            have hLv := live_ok L1 (by omega) 97
            have hpN : (nodesV ns1).Perm (ns1.map (·.r)) := sortK_perm _ _
            have hpH : (heldV hs1).Perm hs1 := sortK_perm _ _
            have I1 : QInv (σ1 ++ [Go.Abs.Obj.cells [.map 1]]) 2 0 1 ns1 hs1 := ⟨L1.append _, p1, by omega, by omega⟩
            generalize nodesV ns1 = lN at hN hpN
            generalize heldV hs1 = lH at hLv hpH
            have lenN : lN.length = ns1.length := by rw [hpN.length_eq, List.length_map]
            have lenH : lH.length = hs1.length := hpH.length_eq
            generalize hrs : ns1.map (·.r) = rs at p1 hpN
            have hnod : (rs.map (·.name)).Nodup := by have := grown_names p1.g; unfold npR at this; rw [List.map_map] at this; exact this
            refine k_seq (k_seq ?_)
            refine rv (D.int IntKind.i64 (↑i : Int)) ?_
            refine rv (D.sl (acts sc) none) ?_
            refine rve (D.int IntKind.i64 (↑(List.length (acts sc)) : Int)) (.int IntKind.i64 ((↑(List.length sc) : Int))) (by simp only [ints, eInt, rows, eInts, bools, eBool, trips, eTrip, i8s, u16s, u8s, acts, List.length_map]) ?_
            refine rv (D.bool (decide ((↑i : Int) < (↑(List.length sc) : Int)))) ?_
            refine rv (D.bool (decide ((↑i : Int) < (↑(List.length sc) : Int)))) ?_
            refine rkn 24 (decide ((↑i : Int) < (↑(List.length sc) : Int))) true (decide_eq_true (by omega)) ?_
            refine rv (D.int IntKind.i64 (↑i : Int)) ?_
            refine rv (D.bool (decide ((↑i : Int) < (40 : Int)))) ?_
            refine rv (D.bool (decide ((↑i : Int) < (40 : Int)))) ?_
            refine k_done (k_skip_seq ?_)
            refine rkn 27 (decide ((↑i : Int) < (40 : Int))) true (decide_eq_true (by omega)) ?_
            refine kct (k_skip_seq (k_seq (k_block (k_seq ?_))))
            refine rv (D.sl (acts sc) none) ?_
            refine rv (D.int IntKind.i64 (↑i : Int)) ?_
            refine runs_index (sc) (ActR.cells) (o := none) (kd := IntKind.i64) (i) (by kernel_rfl) (by kernel_rfl) (by kernel_rfl) (by assumption) (by kernel_rfl) ?_
            refine rv (D.agg [D.int IntKind.i64 (ActR.kind sc[i]), D.str (ActR.a sc[i]), D.str (ActR.b sc[i]), D.int IntKind.i64 (ActR.n sc[i])]) ?_
            refine rgf (D.lptr (6 : Nat) (0 : Nat)) (σ) ?_
            refine rgf (D.junk) (σ) ?_
            refine k_done (k_skip_seq (k_seq (k_seq ?_)))
            refine rv (D.lptr (6 : Nat) (0 : Nat)) ?_
            refine rv (D.int IntKind.i64 (ActR.kind sc[i])) ?_
            refine rv (D.int IntKind.i64 (IntKind.wrap IntKind.i64 (↑(BitVec.toNat (BitVec.ofInt (IntKind.bits IntKind.i64) (ActR.kind sc[i]) &&& BitVec.ofInt (IntKind.bits IntKind.i64) (3 : Int))) : Int))) ?_
            refine k_done (k_skip_seq (k_block (k_seq ?_)))
            refine rv (D.bool (IntKind.wrap IntKind.i64 (↑(BitVec.toNat (BitVec.ofInt (IntKind.bits IntKind.i64) (ActR.kind sc[i]) &&& BitVec.ofInt (IntKind.bits IntKind.i64) (3 : Int))) : Int) == (0 : Int))) ?_
            refine ra0 (D.bool (IntKind.wrap IntKind.i64 (↑(BitVec.toNat (BitVec.ofInt (IntKind.bits IntKind.i64) (ActR.kind sc[i]) &&& BitVec.ofInt (IntKind.bits IntKind.i64) (3 : Int))) : Int) == (0 : Int))) ?_
            refine k_done (k_skip_seq ?_)
            refine rkn 43 (IntKind.wrap IntKind.i64 (↑(BitVec.toNat (BitVec.ofInt (IntKind.bits IntKind.i64) (ActR.kind sc[i]) &&& BitVec.ofInt (IntKind.bits IntKind.i64) (3 : Int))) : Int) == (0 : Int)) false (decide_eq_false (by assumption)) ?_
            refine kcf (k_seq ?_)
            refine rv (D.bool (IntKind.wrap IntKind.i64 (↑(BitVec.toNat (BitVec.ofInt (IntKind.bits IntKind.i64) (ActR.kind sc[i]) &&& BitVec.ofInt (IntKind.bits IntKind.i64) (3 : Int))) : Int) == (1 : Int))) ?_
            refine ra0 (D.bool (IntKind.wrap IntKind.i64 (↑(BitVec.toNat (BitVec.ofInt (IntKind.bits IntKind.i64) (ActR.kind sc[i]) &&& BitVec.ofInt (IntKind.bits IntKind.i64) (3 : Int))) : Int) == (1 : Int))) ?_
            refine k_done (k_skip_seq ?_)
            refine rkn 53 (IntKind.wrap IntKind.i64 (↑(BitVec.toNat (BitVec.ofInt (IntKind.bits IntKind.i64) (ActR.kind sc[i]) &&& BitVec.ofInt (IntKind.bits IntKind.i64) (3 : Int))) : Int) == (1 : Int)) false (decide_eq_false (by assumption)) ?_
            refine kcf (k_seq ?_)
            refine rv (D.bool (IntKind.wrap IntKind.i64 (↑(BitVec.toNat (BitVec.ofInt (IntKind.bits IntKind.i64) (ActR.kind sc[i]) &&& BitVec.ofInt (IntKind.bits IntKind.i64) (3 : Int))) : Int) == (2 : Int))) ?_
            refine ra0 (D.bool (IntKind.wrap IntKind.i64 (↑(BitVec.toNat (BitVec.ofInt (IntKind.bits IntKind.i64) (ActR.kind sc[i]) &&& BitVec.ofInt (IntKind.bits IntKind.i64) (3 : Int))) : Int) == (2 : Int))) ?_
            refine k_done (k_skip_seq ?_)
            refine rkn 63 (IntKind.wrap IntKind.i64 (↑(BitVec.toNat (BitVec.ofInt (IntKind.bits IntKind.i64) (ActR.kind sc[i]) &&& BitVec.ofInt (IntKind.bits IntKind.i64) (3 : Int))) : Int) == (2 : Int)) false (decide_eq_false (by assumption)) ?_
            refine kcf ?_
            refine rv (D.ptr (2 : Nat) (0 : Nat)) ?_
            refine rv (D.lptr (6 : Nat) (1 : Nat)) ?_
            refine rv (D.str (ActR.a sc[i])) ?_
            refine rv (D.lptr (6 : Nat) (3 : Nat)) ?_
            refine rv (D.int IntKind.i64 (ActR.n sc[i])) ?_
            refine runs_call_st ([D.ptr (2 : Nat) (0 : Nat), D.str (ActR.a sc[i]), D.int IntKind.i64 (ActR.n sc[i])]) (by kernel_rfl) (by kernel_rfl) (by kernel_rfl) (by kernel_rfl) (hc) ?_
            refine k_done (k_skip_block (k_skip_seq (k_seq ?_)))
            refine rv (D.ptr (2 : Nat) (0 : Nat)) ?_
            refine runs_call_st ([D.ptr (2 : Nat) (0 : Nat)]) (by kernel_rfl) (by kernel_rfl) (by kernel_rfl) (by kernel_rfl) (hN) ?_
            refine ra0 (D.sl (List.map NodeR.cells lN) none) ?_
            refine k_done (k_skip_seq (k_seq ?_))
            refine rv (D.ptr (2 : Nat) (0 : Nat)) ?_
            refine runs_call_st ([D.ptr (2 : Nat) (0 : Nat)]) (by kernel_rfl) (by kernel_rfl) (by kernel_rfl) (by kernel_rfl) (hLv) ?_
            refine ra0 (D.sl (List.map HeldR.cells lH) none) ?_
            refine k_done (k_skip_seq (k_seq ?_))
            refine rv (D.int IntKind.i64 (0 : Int)) ?_
            refine k_done (k_skip_seq (k_block ?_))
            refine k_loop (fun s : KS => fK sc i lN lH s.k s.d10 s.d11 s.d12 s.d13 s.d14 s.d15) (fun _ => σ1 ++ [Go.Abs.Obj.cells [.map 1]]) (fun s => s.k ≤ lN.length) (fun s => lN.length - s.k) ⟨0, kp d10, kp d11, kp d12, kp d13, kp d14, kp d15⟩ (by kernel_rfl) (by kernel_rfl) (by simp) (fun s hs => by omega) ?_
            rintro ⟨k, d10, d11, d12, d13, d14, d15⟩ hk
            simp only at hk
            show Runs (runC _ _ _ (fK sc i lN lH k d10 d11 d12 d13 d14 d15) (σ1 ++ [Go.Abs.Obj.cells [.map 1]])) _
            unfold fK fA l4_3
            by_cases ck : k < lN.length
            · refine k_seq (k_seq ?_)
              refine rv (D.int IntKind.i64 (↑k : Int)) ?_
              refine rv (D.sl (List.map NodeR.cells lN) none) ?_
              refine rve (D.int IntKind.i64 (↑(List.length (List.map NodeR.cells lN)) : Int)) (.int IntKind.i64 ((↑(List.length lN) : Int))) (by simp only [ints, eInt, rows, eInts, bools, eBool, trips, eTrip, i8s, u16s, u8s, acts, List.length_map]) ?_
              refine rv (D.bool (decide ((↑k : Int) < (↑(List.length lN) : Int)))) ?_
              refine k_done (k_skip_seq ?_)
              refine rkn 76 (decide ((↑k : Int) < (↑(List.length lN) : Int))) true (decide_eq_true (by omega)) ?_
              refine kct (k_skip_seq (k_seq (k_block (k_seq ?_))))
              refine rv (D.int IntKind.i64 (0 : Int)) ?_
              refine k_done (k_skip_seq (k_seq (k_seq ?_)))
              refine rv (D.int IntKind.i64 (0 : Int)) ?_
              refine k_done (k_skip_seq (k_block ?_))
              refine k_loop (fun s : JS => fK sc i lN lH k (.int .i64 s.sum) (.int .i64 s.j) s.d12 s.d13 s.d14 s.d15) (fun _ => σ1 ++ [Go.Abs.Obj.cells [.map 1]]) (fun s => s.j ≤ lH.length ∧ s.sum = sumAt (npR rs) lN[k].name (lH.take s.j)) (fun s => lH.length - s.j) ⟨0, 0, kp d12, kp d13, kp d14, kp d15⟩ (by kernel_rfl) (by kernel_rfl) ⟨by simp, rfl⟩ (fun s hs => by omega) ?_
              rintro ⟨j, sum, d12, d13, d14, d15⟩ ⟨hj, hsum⟩
              simp only at hj hsum
              show Runs (runC _ _ _ (fK sc i lN lH k (.int .i64 sum) (.int .i64 j) d12 d13 d14 d15) (σ1 ++ [Go.Abs.Obj.cells [.map 1]])) _
              unfold fK fA l4_2
              by_cases cj : j < lH.length
              · refine k_seq (k_seq ?_)
                refine rv (D.int IntKind.i64 (↑j : Int)) ?_
                refine rv (D.sl (List.map HeldR.cells lH) none) ?_
                refine rve (D.int IntKind.i64 (↑(List.length (List.map HeldR.cells lH)) : Int)) (.int IntKind.i64 ((↑(List.length lH) : Int))) (by simp only [ints, eInt, rows, eInts, bools, eBool, trips, eTrip, i8s, u16s, u8s, acts, List.length_map]) ?_
                refine rv (D.bool (decide ((↑j : Int) < (↑(List.length lH) : Int)))) ?_
                refine k_done (k_skip_seq ?_)
                refine rkn 82 (decide ((↑j : Int) < (↑(List.length lH) : Int))) true (decide_eq_true (by omega)) ?_
                refine kct (k_skip_seq (k_seq (k_block (k_seq ?_))))
                refine rv (D.sl (List.map HeldR.cells lH) none) ?_
                refine rv (D.int IntKind.i64 (↑j : Int)) ?_
                refine runs_index (lH) (HeldR.cells) (o := none) (kd := IntKind.i64) (j) (by kernel_rfl) (by kernel_rfl) (by kernel_rfl) (by assumption) (by kernel_rfl) ?_
                refine rv (D.ref [D.str (HeldR.node lH[j]), D.int IntKind.i64 (HeldR.amount lH[j])]) ?_
                refine rv (D.str (HeldR.node lH[j])) ?_
                refine ra0 (D.str (HeldR.node lH[j])) ?_
                refine k_done (k_skip_seq (k_seq ?_))
                refine rv (D.int IntKind.i64 (0 : Int)) ?_
                refine k_done (k_skip_seq (k_block ?_))
                refine k_loop (fun s : NS => fK sc i lN lH k (.int .i64 sum) (.int .i64 j) (.str s.here) (.int .i64 s.n) s.d14 s.d15) (fun _ => σ1 ++ [Go.Abs.Obj.cells [.map 1]]) (fun s => s.n ≤ lN.length + 1 ∧ (lN[k].name ∈ pathP (npR rs) (lN.length + 1 - s.n) s.here ↔ lN[k].name ∈ lineP (npR rs) lH[j].node)) (fun s => lN.length + 1 - s.n) ⟨0, lH[j].node, kp d14, kp d15⟩ (by kernel_rfl) (by kernel_rfl) ⟨by simp, by rw [show lN.length = (npR rs).length by rw [hpN.length_eq]; simp [npR]]; exact Iff.rfl⟩ (fun s hs => by omega) ?_
                rintro ⟨n, at1, d14, d15⟩ ⟨hn1, hin⟩
                simp only at hn1 hin
                show Runs (runC _ _ _ (fK sc i lN lH k (.int .i64 sum) (.int .i64 j) (.str at1) (.int .i64 n) d14 d15) (σ1 ++ [Go.Abs.Obj.cells [.map 1]])) _
                unfold fK fA l4_1
                by_cases cn1 : n ≤ lN.length
                · by_cases cn2 : at1 = []
                  · subst cn2
                    refine k_seq (k_seq ?_)
                    refine rv (D.int IntKind.i64 (↑n : Int)) ?_
                    refine rv (D.sl (List.map NodeR.cells lN) none) ?_
                    refine rve (D.int IntKind.i64 (↑(List.length (List.map NodeR.cells lN)) : Int)) (.int IntKind.i64 ((↑(List.length lN) : Int))) (by simp only [ints, eInt, rows, eInts, bools, eBool, trips, eTrip, i8s, u16s, u8s, acts, List.length_map]) ?_
                    refine rv (D.bool (decide ((↑n : Int) ≤ (↑(List.length lN) : Int)))) ?_
                    refine rv (D.bool (decide ((↑n : Int) ≤ (↑(List.length lN) : Int)))) ?_
                    refine rkn 94 (decide ((↑n : Int) ≤ (↑(List.length lN) : Int))) true (decide_eq_true (by omega)) ?_
                    refine rv (D.str []) ?_
                    refine rv (D.bool false) ?_
                    refine rv (D.bool false) ?_
                    refine k_done (k_skip_seq (kcf (k_exit_seq (k_exit_back (k_exit_hit rfl (k_skip_block (k_skip_seq ?_)))))))
                    refine rv (D.int IntKind.i64 (↑j : Int)) ?_
                    refine rve (D.int IntKind.i64 (IntKind.wrap IntKind.i64 ((↑j : Int) + (1 : Int)))) (.int IntKind.i64 ((j + 1 : Nat) : Int)) (congrArg (D.int IntKind.i64) (show IntKind.wrap IntKind.i64 ((↑j : Int) + (1 : Int)) = ((j + 1 : Nat) : Int) from wrap_eq (by omega) (by omega) (by omega))) ?_
                    refine ra0 (D.int IntKind.i64 (↑(j + (1 : Nat)) : Int)) ?_
                    refine k_done (k_skip_back ?_)
                    exact ⟨⟨j + 1, sum, .str [], .int .i64 n, kp d14, kp d15⟩, ⟨cj, sum_keep cj hsum (fun h => mem_path_empty p1.g _ _ (hin.2 h))⟩, by simp only []; omega, by kernel_rfl, rfl⟩
                  · by_cases cn3 : at1 = lN[k].name
                    · have hmem : lN[k].name ∈ lineP (npR rs) lH[j].node := by
                        rw [← hin, ← cn3, show lN.length + 1 - n = (lN.length - n) + 1 by omega]
                        exact mem_path_here (by rw [cn3, lookP_has]; exact hasR_mem (hpN.subset (List.getElem_mem ck)))
                      obtain ⟨s1, s2, s3⟩ := sum_add p1 hpN hpH ck cj hsum hmem
                      refine k_seq (k_seq ?_)
                      refine rv (D.int IntKind.i64 (↑n : Int)) ?_
                      refine rv (D.sl (List.map NodeR.cells lN) none) ?_
                      refine rve (D.int IntKind.i64 (↑(List.length (List.map NodeR.cells lN)) : Int)) (.int IntKind.i64 ((↑(List.length lN) : Int))) (by simp only [ints, eInt, rows, eInts, bools, eBool, trips, eTrip, i8s, u16s, u8s, acts, List.length_map]) ?_
                      refine rv (D.bool (decide ((↑n : Int) ≤ (↑(List.length lN) : Int)))) ?_
                      refine rv (D.bool (decide ((↑n : Int) ≤ (↑(List.length lN) : Int)))) ?_
                      refine rkn 94 (decide ((↑n : Int) ≤ (↑(List.length lN) : Int))) true (decide_eq_true (by omega)) ?_
                      refine rv (D.str at1) ?_
                      refine rv (D.bool !at1 == []) ?_
                      refine rv (D.bool !at1 == []) ?_
                      refine k_done (k_skip_seq ?_)
                      refine rkn 97 (!at1 == []) true (bne_iff_ne.2 (by assumption)) ?_
                      refine kct (k_skip_seq (k_seq (k_block (k_seq (k_seq ?_)))))
                      refine rv (D.str at1) ?_
                      refine rv (D.sl (List.map NodeR.cells lN) none) ?_
                      refine rv (D.int IntKind.i64 (↑k : Int)) ?_
                      refine runs_index (lN) (NodeR.cells) (o := none) (kd := IntKind.i64) (k) (by kernel_rfl) (by kernel_rfl) (by kernel_rfl) (by assumption) (by kernel_rfl) ?_
                      refine rv (D.ref [D.str (NodeR.name lN[k]), D.str (NodeR.parent lN[k]), D.int IntKind.i64 (NodeR.limit lN[k]), D.int IntKind.i64 (NodeR.used lN[k])]) ?_
                      refine rv (D.str (NodeR.name lN[k])) ?_
                      refine rv (D.bool (at1 == NodeR.name lN[k])) ?_
                      refine k_done (k_skip_seq ?_)
                      refine rkn 106 (at1 == NodeR.name lN[k]) true (beq_iff_eq.2 (by assumption)) ?_
                      refine kct (k_seq ?_)
                      refine rv (D.int IntKind.i64 sum) ?_
                      refine rv (D.sl (List.map HeldR.cells lH) none) ?_
                      refine rv (D.int IntKind.i64 (↑j : Int)) ?_
                      refine runs_index (lH) (HeldR.cells) (o := none) (kd := IntKind.i64) (j) (by kernel_rfl) (by kernel_rfl) (by kernel_rfl) (by assumption) (by kernel_rfl) ?_
                      refine rv (D.ref [D.int IntKind.i64 (HeldR.amount lH[j])]) ?_
                      refine rv (D.int IntKind.i64 (HeldR.amount lH[j])) ?_
                      refine rve (D.int IntKind.i64 (IntKind.wrap IntKind.i64 (sum + HeldR.amount lH[j]))) (.int IntKind.i64 (sum + HeldR.amount lH[j])) (congrArg (D.int IntKind.i64) (show IntKind.wrap IntKind.i64 (sum + HeldR.amount lH[j]) = (sum + HeldR.amount lH[j]) from wrap_eq (by omega) (by omega) (by omega))) ?_
                      refine ra0 (D.int IntKind.i64 (sum + HeldR.amount lH[j])) ?_
                      refine k_done (k_skip_seq (k_exit_seq (k_exit_miss (by decide) (k_exit_seq (k_exit_back (k_exit_hit rfl (k_skip_block (k_skip_seq ?_))))))))
                      refine rv (D.int IntKind.i64 (↑j : Int)) ?_
                      refine rve (D.int IntKind.i64 (IntKind.wrap IntKind.i64 ((↑j : Int) + (1 : Int)))) (.int IntKind.i64 ((j + 1 : Nat) : Int)) (congrArg (D.int IntKind.i64) (show IntKind.wrap IntKind.i64 ((↑j : Int) + (1 : Int)) = ((j + 1 : Nat) : Int) from wrap_eq (by omega) (by omega) (by omega))) ?_
                      refine ra0 (D.int IntKind.i64 (↑(j + (1 : Nat)) : Int)) ?_
                      refine k_done (k_skip_back ?_)
                      exact ⟨⟨j + 1, sum + lH[j].amount, .str at1, .int .i64 n, kp d14, kp d15⟩, ⟨cj, s3⟩, by simp only []; omega, by kernel_rfl, rfl⟩
                    · refine k_seq (k_seq ?_)
                      refine rv (D.int IntKind.i64 (↑n : Int)) ?_
                      refine rv (D.sl (List.map NodeR.cells lN) none) ?_
                      refine rve (D.int IntKind.i64 (↑(List.length (List.map NodeR.cells lN)) : Int)) (.int IntKind.i64 ((↑(List.length lN) : Int))) (by simp only [ints, eInt, rows, eInts, bools, eBool, trips, eTrip, i8s, u16s, u8s, acts, List.length_map]) ?_
                      refine rv (D.bool (decide ((↑n : Int) ≤ (↑(List.length lN) : Int)))) ?_
                      refine rv (D.bool (decide ((↑n : Int) ≤ (↑(List.length lN) : Int)))) ?_
                      refine rkn 94 (decide ((↑n : Int) ≤ (↑(List.length lN) : Int))) true (decide_eq_true (by omega)) ?_
                      refine rv (D.str at1) ?_
                      refine rv (D.bool !at1 == []) ?_
                      refine rv (D.bool !at1 == []) ?_
                      refine k_done (k_skip_seq ?_)
                      refine rkn 97 (!at1 == []) true (bne_iff_ne.2 (by assumption)) ?_
                      refine kct (k_skip_seq (k_seq (k_block (k_seq (k_seq ?_)))))
                      refine rv (D.str at1) ?_
                      refine rv (D.sl (List.map NodeR.cells lN) none) ?_
                      refine rv (D.int IntKind.i64 (↑k : Int)) ?_
                      refine runs_index (lN) (NodeR.cells) (o := none) (kd := IntKind.i64) (k) (by kernel_rfl) (by kernel_rfl) (by kernel_rfl) (by assumption) (by kernel_rfl) ?_
                      refine rv (D.ref [D.str (NodeR.name lN[k]), D.str (NodeR.parent lN[k]), D.int IntKind.i64 (NodeR.limit lN[k]), D.int IntKind.i64 (NodeR.used lN[k])]) ?_
                      refine rv (D.str (NodeR.name lN[k])) ?_
                      refine rv (D.bool (at1 == NodeR.name lN[k])) ?_
                      refine k_done (k_skip_seq ?_)
                      refine rkn 106 (at1 == NodeR.name lN[k]) false (beq_eq_false_iff_ne.2 (by assumption)) ?_
                      refine kcf (k_skip_seq (k_seq ?_))
                      refine rv (D.str []) ?_
                      refine k_done (k_skip_seq (k_seq (k_seq ?_)))
                      refine rv (D.int IntKind.i64 (0 : Int)) ?_
                      refine k_done (k_skip_seq (k_block ?_))
                      refine k_loop (fun s : Nat × Nm => fK sc i lN lH k (.int .i64 sum) (.int .i64 j) (.str at1) (.int .i64 n) (.str s.2) (.int .i64 s.1)) (fun _ => σ1 ++ [Go.Abs.Obj.cells [.map 1]]) (fun s => s.1 ≤ lN.length ∧ s.2 = upF (lN.take s.1) at1) (fun s => lN.length - s.1) (0, []) (by kernel_rfl) (by kernel_rfl) ⟨by simp, rfl⟩ (fun s hs => by omega) ?_
                      rintro ⟨m, up⟩ ⟨hm, hup⟩
                      simp only at hm hup
                      show Runs (runC _ _ _ (fK sc i lN lH k (.int .i64 sum) (.int .i64 j) (.str at1) (.int .i64 n) (.str up) (.int .i64 m)) (σ1 ++ [Go.Abs.Obj.cells [.map 1]])) _
                      unfold fK fA l4_0
                      by_cases cm : m < lN.length
                      · have hst := upF_take lN at1 m cm
                        by_cases ce : lN[m].name = at1
                        · refine k_seq (k_seq ?_)
                          refine rv (D.int IntKind.i64 (↑m : Int)) ?_
                          refine rv (D.sl (List.map NodeR.cells lN) none) ?_
                          refine rve (D.int IntKind.i64 (↑(List.length (List.map NodeR.cells lN)) : Int)) (.int IntKind.i64 ((↑(List.length lN) : Int))) (by simp only [ints, eInt, rows, eInts, bools, eBool, trips, eTrip, i8s, u16s, u8s, acts, List.length_map]) ?_
                          refine rv (D.bool (decide ((↑m : Int) < (↑(List.length lN) : Int)))) ?_
                          refine k_done (k_skip_seq ?_)
                          refine rkn 117 (decide ((↑m : Int) < (↑(List.length lN) : Int))) true (decide_eq_true (by omega)) ?_
                          refine kct (k_skip_seq (k_seq (k_block (k_seq ?_))))
                          refine rv (D.sl (List.map NodeR.cells lN) none) ?_
                          refine rv (D.int IntKind.i64 (↑m : Int)) ?_
                          refine runs_index (lN) (NodeR.cells) (o := none) (kd := IntKind.i64) (m) (by kernel_rfl) (by kernel_rfl) (by kernel_rfl) (by assumption) (by kernel_rfl) ?_
                          refine rv (D.ref [D.str (NodeR.name lN[m]), D.str (NodeR.parent lN[m]), D.int IntKind.i64 (NodeR.limit lN[m]), D.int IntKind.i64 (NodeR.used lN[m])]) ?_
                          refine rv (D.str (NodeR.name lN[m])) ?_
                          refine rv (D.str at1) ?_
                          refine rv (D.bool (NodeR.name lN[m] == at1)) ?_
                          refine k_done (k_skip_seq ?_)
                          refine rkn 126 (NodeR.name lN[m] == at1) true (beq_iff_eq.2 (by assumption)) ?_
                          refine kct ?_
                          refine rv (D.sl (List.map NodeR.cells lN) none) ?_
                          refine rv (D.int IntKind.i64 (↑m : Int)) ?_
                          refine runs_index (lN) (NodeR.cells) (o := none) (kd := IntKind.i64) (m) (by kernel_rfl) (by kernel_rfl) (by kernel_rfl) (by assumption) (by kernel_rfl) ?_
                          refine rv (D.ref [D.str (NodeR.parent lN[m]), D.int IntKind.i64 (NodeR.limit lN[m]), D.int IntKind.i64 (NodeR.used lN[m])]) ?_
                          refine rv (D.str (NodeR.parent lN[m])) ?_
                          refine ra0 (D.str (NodeR.parent lN[m])) ?_
                          refine k_done (k_skip_block (k_skip_seq ?_))
                          refine rv (D.int IntKind.i64 (↑m : Int)) ?_
                          refine rve (D.int IntKind.i64 (IntKind.wrap IntKind.i64 ((↑m : Int) + (1 : Int)))) (.int IntKind.i64 ((m + 1 : Nat) : Int)) (congrArg (D.int IntKind.i64) (show IntKind.wrap IntKind.i64 ((↑m : Int) + (1 : Int)) = ((m + 1 : Nat) : Int) from wrap_eq (by omega) (by omega) (by omega))) ?_
                          refine ra0 (D.int IntKind.i64 (↑(m + (1 : Nat)) : Int)) ?_
                          refine k_done (k_skip_back ?_)
                          exact ⟨(m + 1, lN[m].parent), ⟨cm, by rw [hst, if_pos ce]⟩, by simp only []; omega, by kernel_rfl, rfl⟩
                        · refine k_seq (k_seq ?_)
                          refine rv (D.int IntKind.i64 (↑m : Int)) ?_
                          refine rv (D.sl (List.map NodeR.cells lN) none) ?_
                          refine rve (D.int IntKind.i64 (↑(List.length (List.map NodeR.cells lN)) : Int)) (.int IntKind.i64 ((↑(List.length lN) : Int))) (by simp only [ints, eInt, rows, eInts, bools, eBool, trips, eTrip, i8s, u16s, u8s, acts, List.length_map]) ?_
                          refine rv (D.bool (decide ((↑m : Int) < (↑(List.length lN) : Int)))) ?_
                          refine k_done (k_skip_seq ?_)
                          refine rkn 117 (decide ((↑m : Int) < (↑(List.length lN) : Int))) true (decide_eq_true (by omega)) ?_
                          refine kct (k_skip_seq (k_seq (k_block (k_seq ?_))))
                          refine rv (D.sl (List.map NodeR.cells lN) none) ?_
                          refine rv (D.int IntKind.i64 (↑m : Int)) ?_
                          refine runs_index (lN) (NodeR.cells) (o := none) (kd := IntKind.i64) (m) (by kernel_rfl) (by kernel_rfl) (by kernel_rfl) (by assumption) (by kernel_rfl) ?_
                          refine rv (D.ref [D.str (NodeR.name lN[m]), D.str (NodeR.parent lN[m]), D.int IntKind.i64 (NodeR.limit lN[m]), D.int IntKind.i64 (NodeR.used lN[m])]) ?_
                          refine rv (D.str (NodeR.name lN[m])) ?_
                          refine rv (D.str at1) ?_
                          refine rv (D.bool (NodeR.name lN[m] == at1)) ?_
                          refine k_done (k_skip_seq ?_)
                          refine rkn 126 (NodeR.name lN[m] == at1) false (beq_eq_false_iff_ne.2 (by assumption)) ?_
                          refine kcf (k_skip_block (k_skip_seq ?_))
                          refine rv (D.int IntKind.i64 (↑m : Int)) ?_
                          refine rve (D.int IntKind.i64 (IntKind.wrap IntKind.i64 ((↑m : Int) + (1 : Int)))) (.int IntKind.i64 ((m + 1 : Nat) : Int)) (congrArg (D.int IntKind.i64) (show IntKind.wrap IntKind.i64 ((↑m : Int) + (1 : Int)) = ((m + 1 : Nat) : Int) from wrap_eq (by omega) (by omega) (by omega))) ?_
                          refine ra0 (D.int IntKind.i64 (↑(m + (1 : Nat)) : Int)) ?_
                          refine k_done (k_skip_back ?_)
                          exact ⟨(m + 1, up), ⟨cm, by rw [hst, if_neg ce, hup]⟩, by simp only []; omega, by kernel_rfl, rfl⟩
                      · refine k_seq (k_seq ?_)
                        refine rv (D.int IntKind.i64 (↑m : Int)) ?_
                        refine rv (D.sl (List.map NodeR.cells lN) none) ?_
                        refine rve (D.int IntKind.i64 (↑(List.length (List.map NodeR.cells lN)) : Int)) (.int IntKind.i64 ((↑(List.length lN) : Int))) (by simp only [ints, eInt, rows, eInts, bools, eBool, trips, eTrip, i8s, u16s, u8s, acts, List.length_map]) ?_
                        refine rv (D.bool (decide ((↑m : Int) < (↑(List.length lN) : Int)))) ?_
                        refine k_done (k_skip_seq ?_)
                        refine rkn 117 (decide ((↑m : Int) < (↑(List.length lN) : Int))) false (decide_eq_false (by omega)) ?_
                        refine kcf (k_exit_seq (k_exit_back (k_exit_hit rfl (k_skip_seq ?_))))
                        refine rv (D.str up) ?_
                        refine ra0 (D.str up) ?_
                        refine k_done (k_skip_block (k_skip_seq ?_))
                        refine rv (D.int IntKind.i64 (↑n : Int)) ?_
                        refine rve (D.int IntKind.i64 (IntKind.wrap IntKind.i64 ((↑n : Int) + (1 : Int)))) (.int IntKind.i64 ((n + 1 : Nat) : Int)) (congrArg (D.int IntKind.i64) (show IntKind.wrap IntKind.i64 ((↑n : Int) + (1 : Int)) = ((n + 1 : Nat) : Int) from wrap_eq (by omega) (by omega) (by omega))) ?_
                        refine ra0 (D.int IntKind.i64 (↑(n + (1 : Nat)) : Int)) ?_
                        refine k_done (k_skip_back ?_)
                        have hup2 : up = (lookP (npR rs) at1).getD [] := by
                          rw [hup, show m = lN.length by omega, List.take_length, upF_all hpN hnod]
                        refine ⟨⟨n + 1, up, .str up, .int .i64 m⟩, ⟨by simp only []; omega, ?_⟩, by simp only []; omega, by kernel_rfl, rfl⟩
                        simp only []
                        rw [hup2, ← hin, show lN.length + 1 - n = (lN.length + 1 - (n + 1)) + 1 by omega]
                        exact (mem_path_step p1.g cn3).symm
                · refine k_seq (k_seq ?_)
                  refine rv (D.int IntKind.i64 (↑n : Int)) ?_
                  refine rv (D.sl (List.map NodeR.cells lN) none) ?_
                  refine rve (D.int IntKind.i64 (↑(List.length (List.map NodeR.cells lN)) : Int)) (.int IntKind.i64 ((↑(List.length lN) : Int))) (by simp only [ints, eInt, rows, eInts, bools, eBool, trips, eTrip, i8s, u16s, u8s, acts, List.length_map]) ?_
                  refine rv (D.bool (decide ((↑n : Int) ≤ (↑(List.length lN) : Int)))) ?_
                  refine rv (D.bool (decide ((↑n : Int) ≤ (↑(List.length lN) : Int)))) ?_
                  refine rkn 94 (decide ((↑n : Int) ≤ (↑(List.length lN) : Int))) false (decide_eq_false (by omega)) ?_
                  refine rno (rno ?_)
                  refine rv (D.bool false) ?_
                  refine k_done (k_skip_seq (kcf (k_exit_seq (k_exit_back (k_exit_hit rfl (k_skip_block (k_skip_seq ?_)))))))
                  refine rv (D.int IntKind.i64 (↑j : Int)) ?_
                  refine rve (D.int IntKind.i64 (IntKind.wrap IntKind.i64 ((↑j : Int) + (1 : Int)))) (.int IntKind.i64 ((j + 1 : Nat) : Int)) (congrArg (D.int IntKind.i64) (show IntKind.wrap IntKind.i64 ((↑j : Int) + (1 : Int)) = ((j + 1 : Nat) : Int) from wrap_eq (by omega) (by omega) (by omega))) ?_
                  refine ra0 (D.int IntKind.i64 (↑(j + (1 : Nat)) : Int)) ?_
                  refine k_done (k_skip_back ?_)
                  have hout : lN[k].name ∉ lineP (npR rs) lH[j].node := by
                    rw [← hin, show lN.length + 1 - n = 0 by omega]
                    simp [pathP]
                  exact ⟨⟨j + 1, sum, .str at1, .int .i64 n, kp d14, kp d15⟩, ⟨cj, sum_keep cj hsum hout⟩, by simp only []; omega, by kernel_rfl, rfl⟩
              · have hj2 : j = lH.length := by omega
                subst hj2
                obtain ⟨t1, t2, t3⟩ := last_used p1 hpN hpH ck hsum
                refine k_seq (k_seq ?_)
                refine rv (D.int IntKind.i64 (↑(List.length lH) : Int)) ?_
                refine rv (D.sl (List.map HeldR.cells lH) none) ?_
                refine rve (D.int IntKind.i64 (↑(List.length (List.map HeldR.cells lH)) : Int)) (.int IntKind.i64 ((↑(List.length lH) : Int))) (by simp only [ints, eInt, rows, eInts, bools, eBool, trips, eTrip, i8s, u16s, u8s, acts, List.length_map]) ?_
                refine rv (D.bool (decide ((↑(List.length lH) : Int) < (↑(List.length lH) : Int)))) ?_
                refine k_done (k_skip_seq ?_)
                refine rkn 82 (decide ((↑(List.length lH) : Int) < (↑(List.length lH) : Int))) false (decide_eq_false (by omega)) ?_
                refine kcf (k_exit_seq (k_exit_back (k_exit_hit rfl (k_skip_seq (k_seq ?_)))))
                refine rv (D.sl (List.map NodeR.cells lN) none) ?_
                refine rv (D.int IntKind.i64 (↑k : Int)) ?_
                refine runs_index (lN) (NodeR.cells) (o := none) (kd := IntKind.i64) (k) (by kernel_rfl) (by kernel_rfl) (by kernel_rfl) (by assumption) (by kernel_rfl) ?_
                refine rv (D.ref [D.int IntKind.i64 (NodeR.used lN[k])]) ?_
                refine rv (D.int IntKind.i64 (NodeR.used lN[k])) ?_
                refine rv (D.int IntKind.i64 sum) ?_
                refine rv (D.bool (NodeR.used lN[k] != sum)) ?_
                refine rv (D.bool (NodeR.used lN[k] != sum)) ?_
                refine rkn 140 (NodeR.used lN[k] != sum) false (bne_eq_false_iff_eq.2 (by assumption)) ?_
                refine rv (D.int IntKind.i64 sum) ?_
                refine rv (D.sl (List.map NodeR.cells lN) none) ?_
                refine rv (D.int IntKind.i64 (↑k : Int)) ?_
                refine runs_index (lN) (NodeR.cells) (o := none) (kd := IntKind.i64) (k) (by kernel_rfl) (by kernel_rfl) (by kernel_rfl) (by assumption) (by kernel_rfl) ?_
                refine rv (D.ref [D.int IntKind.i64 (NodeR.limit lN[k]), D.int IntKind.i64 (NodeR.used lN[k])]) ?_
                refine rv (D.int IntKind.i64 (NodeR.limit lN[k])) ?_
                refine rv (D.bool (decide (sum > NodeR.limit lN[k]))) ?_
                refine rv (D.bool (decide (sum > NodeR.limit lN[k]))) ?_
                refine rv (D.bool (decide (sum > NodeR.limit lN[k]))) ?_
                refine rkn 149 (decide (sum > NodeR.limit lN[k])) false (decide_eq_false (by omega)) ?_
                refine rv (D.int IntKind.i64 sum) ?_
                refine rv (D.bool (decide (sum < (0 : Int)))) ?_
                refine rv (D.bool (decide (sum < (0 : Int)))) ?_
                refine k_done (k_skip_seq ?_)
                refine rkn 152 (decide (sum < (0 : Int))) false (decide_eq_false (by omega)) ?_
                refine kcf (k_skip_block (k_skip_seq ?_))
                refine rv (D.int IntKind.i64 (↑k : Int)) ?_
                refine rve (D.int IntKind.i64 (IntKind.wrap IntKind.i64 ((↑k : Int) + (1 : Int)))) (.int IntKind.i64 ((k + 1 : Nat) : Int)) (congrArg (D.int IntKind.i64) (show IntKind.wrap IntKind.i64 ((↑k : Int) + (1 : Int)) = ((k + 1 : Nat) : Int) from wrap_eq (by omega) (by omega) (by omega))) ?_
                refine ra0 (D.int IntKind.i64 (↑(k + (1 : Nat)) : Int)) ?_
                refine k_done (k_skip_back ?_)
                exact ⟨⟨k + 1, .int .i64 sum, .int .i64 lH.length, kp d12, kp d13, kp d14, kp d15⟩, ck, by simp only []; omega, by kernel_rfl, rfl⟩
            · refine k_seq (k_seq ?_)
              refine rv (D.int IntKind.i64 (↑k : Int)) ?_
              refine rv (D.sl (List.map NodeR.cells lN) none) ?_
              refine rve (D.int IntKind.i64 (↑(List.length (List.map NodeR.cells lN)) : Int)) (.int IntKind.i64 ((↑(List.length lN) : Int))) (by simp only [ints, eInt, rows, eInts, bools, eBool, trips, eTrip, i8s, u16s, u8s, acts, List.length_map]) ?_
              refine rv (D.bool (decide ((↑k : Int) < (↑(List.length lN) : Int)))) ?_
              refine k_done (k_skip_seq ?_)
              refine rkn 76 (decide ((↑k : Int) < (↑(List.length lN) : Int))) false (decide_eq_false (by omega)) ?_
              refine kcf (k_exit_seq (k_exit_back (k_exit_hit rfl (k_skip_block (k_skip_seq ?_)))))
              refine rv (D.int IntKind.i64 (↑i : Int)) ?_
              refine rve (D.int IntKind.i64 (IntKind.wrap IntKind.i64 ((↑i : Int) + (1 : Int)))) (.int IntKind.i64 ((i + 1 : Nat) : Int)) (congrArg (D.int IntKind.i64) (show IntKind.wrap IntKind.i64 ((↑i : Int) + (1 : Int)) = ((i + 1 : Nat) : Int) from wrap_eq (by omega) (by omega) (by omega))) ?_
              refine ra0 (D.int IntKind.i64 (↑(i + (1 : Nat)) : Int)) ?_
              refine k_done (k_skip_back ?_)
              exact ⟨⟨i + 1, σ1 ++ [Go.Abs.Obj.cells [.map 1]], ns1, hs1, .sl (lN.map NodeR.cells) none, .sl (lH.map HeldR.cells) none, .int .i64 k, kp d10, kp d11, kp d12, kp d13, kp d14, kp d15⟩, ⟨c2, I1, n1, m1⟩, by simp only []; omega, by kernel_rfl, rfl⟩
    · refine k_seq (k_seq ?_)
      refine rv (D.int IntKind.i64 (↑i : Int)) ?_
      refine rv (D.sl (acts sc) none) ?_
      refine rve (D.int IntKind.i64 (↑(List.length (acts sc)) : Int)) (.int IntKind.i64 ((↑(List.length sc) : Int))) (by simp only [ints, eInt, rows, eInts, bools, eBool, trips, eTrip, i8s, u16s, u8s, acts, List.length_map]) ?_
      refine rv (D.bool (decide ((↑i : Int) < (↑(List.length sc) : Int)))) ?_
      refine rv (D.bool (decide ((↑i : Int) < (↑(List.length sc) : Int)))) ?_
      refine rkn 24 (decide ((↑i : Int) < (↑(List.length sc) : Int))) true (decide_eq_true (by omega)) ?_
      refine rv (D.int IntKind.i64 (↑i : Int)) ?_
      refine rv (D.bool (decide ((↑i : Int) < (40 : Int)))) ?_
      refine rv (D.bool (decide ((↑i : Int) < (40 : Int)))) ?_
      refine k_done (k_skip_seq ?_)
      refine rkn 27 (decide ((↑i : Int) < (40 : Int))) false (decide_eq_false (by omega)) ?_
      refine kcf (k_exit_seq (k_exit_back (k_exit_hit rfl (k_skip_seq (k_seq ?_)))))
      refine rv (D.bool true) ?_
      refine k_done (k_skip_seq (k_ret ?_))
      exact ⟨.inr rfl, by kernel_rfl, σ, by kernel_rfl⟩
  · refine k_seq (k_seq ?_)
    refine rv (D.int IntKind.i64 (↑i : Int)) ?_
    refine rv (D.sl (acts sc) none) ?_
    refine rve (D.int IntKind.i64 (↑(List.length (acts sc)) : Int)) (.int IntKind.i64 ((↑(List.length sc) : Int))) (by simp only [ints, eInt, rows, eInts, bools, eBool, trips, eTrip, i8s, u16s, u8s, acts, List.length_map]) ?_
    refine rv (D.bool (decide ((↑i : Int) < (↑(List.length sc) : Int)))) ?_
    refine rv (D.bool (decide ((↑i : Int) < (↑(List.length sc) : Int)))) ?_
    refine rkn 24 (decide ((↑i : Int) < (↑(List.length sc) : Int))) false (decide_eq_false (by omega)) ?_
    refine rno (rno ?_)
    refine rv (D.bool false) ?_
    refine k_done (k_skip_seq (kcf (k_exit_seq (k_exit_back (k_exit_hit rfl (k_skip_seq (k_seq ?_)))))))
    refine rv (D.bool true) ?_
    refine k_done (k_skip_seq (k_ret ?_))
    exact ⟨.inr rfl, by kernel_rfl, σ, by kernel_rfl⟩
end Go.Abs.C
