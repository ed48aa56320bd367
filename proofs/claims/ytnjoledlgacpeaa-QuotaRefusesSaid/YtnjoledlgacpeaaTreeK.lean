import Derived.Test.YtnjoledlgacpeaaKont2
import Derived.Test.YtnjoledlgacpeaaTreeH
set_option linter.unusedVariables false
set_option linter.unusedSimpArgs false
/-
  QuotaRefuses as the machine code sees it.
-/
namespace Go.Abs.C
open Go Go.Abs
set_option maxRecDepth 8000
attribute [local irreducible] callN runC evalOp
def ksOf (a : ActR) : List ActR := [⟨0, a.a, a.b, a.n⟩, ⟨1, a.a, a.b, a.n⟩, ⟨2, [], a.b, 0⟩, ⟨3, a.a, [], a.n⟩]
def h8 (sc : List ActR) (a : ActR) (oc : Nat) (lN : List NodeR) (lH : List HeldR) (i : Nat) : Fr := ⟨[.sl (acts sc) none, .agg [.int .i64 a.kind, .str a.a, .str a.b, .int .i64 a.n], .junk, .junk, .bool false, .junk, .junk, .lptr 7 0, .junk, .ptr oc 0, .sl [[.int .i64 0, .str a.a, .str a.b, .int .i64 a.n], [.int .i64 1, .str a.a, .str a.b, .int .i64 a.n], [.int .i64 2, .str [], .str a.b, .int .i64 0], [.int .i64 3, .str a.a, .str [], .int .i64 a.n]] (some 34), .int .i64 i] ++ List.replicate 81 .junk,
  [none, none, none, none, none, none, none, some [.sl (lN.map nW) none, .sl (lH.map HeldR.cells) none]] ++ List.replicate 85 none, []⟩
theorem round8 (n : Nat) (k : ActR) (hok : k.n ≤ 9223372036854775807 ∧ k.a.length < n ∧ k.b.length < n) (hn1 : 1000 < n) (hn2 : n ≤ 9223372036854775808) {σ : St} {oc om oh : Nat} {ns : List NodeX} {hs : List HeldR} (P : PS n σ oc om oh ns hs 40) :
    ∃ (od : Nat) (σ1 σ2 : St) (lN : List NodeR) (lH : List HeldR) (σ3 : St), callN T (n + 21) 18 [.ptr oc 0] σ = some (.ptr od 0, σ1) ∧ callN T (n + 21) 10 [.ptr od 0, .agg [.sl ((nodesV ns).map nW) none, .sl ((heldV hs).map HeldR.cells) none], .sl [[.int .i64 k.kind, .str k.a, .str k.b, .int .i64 k.n]] none] σ1 = some (.tup [.agg [.sl (lN.map nW) none, .sl (lH.map HeldR.cells) none], .bool true], σ2) ∧
      callN T (n + 21) 19 [.ptr oc 0, .agg [.sl ((nodesV ns).map nW) none, .sl ((heldV hs).map HeldR.cells) none]] σ2 = some (.bool true, σ3) ∧ PS n σ3 oc om oh ns hs 40 := by
  have hc := copy_ok P.I.L (n + 20)
  have PC := copy_ps P
  obtain ⟨r2, σ4, hq, ns2, hs2, rfl, P2, K2, _⟩ := play_ok n [k] (fun x hx => by simp only [List.mem_singleton] at hx; subst hx; exact hok) PC (by omega) hn1 hn2
  rw [nodesV_copy] at hq
  have P3 : PS n σ4 oc om oh ns hs 40 := by
    refine ⟨⟨Lay.kept (P.I.L.append _) K2 (fun o hm hM => ?_), P.I.p, P.I.k⟩, P.sa, P.sb, P.ln, P.lh⟩
    have h1 := mine_near P.I.L hm
    have h2 := copy_far hM
    omega
  have hs' := same_ok (n + 1) P3.I (by omega)
  rw [show n + 1 + 20 = n + 21 by omega] at hs'
  exact ⟨_, _, _, _, _, _, hc, hq, hs', P3.app _⟩
set_option maxHeartbeats 2000000
theorem lawRefuses_ok (n : Nat) (sc : List ActR) (a : ActR) (hlen : sc.length ≤ 9223372036854775807) (hok : ∀ a ∈ sc, a.n ≤ 9223372036854775807 ∧ a.a.length < n ∧ a.b.length < n) (hoka : a.n ≤ 9223372036854775807 ∧ a.a.length < n ∧ a.b.length < n) (hn1 : 1000 < n) (hn2 : n ≤ 9223372036854775808) :
    ∃ σ, callN T (n + 22) 8 [.sl (acts sc) none, .agg a.cells] [] = some (.bool true, σ) := by
  have hnew : callN T (n + 21) 11 [] [] = some (.ptr 2 0, [Go.Abs.Obj.map [], Go.Abs.Obj.map [], Go.Abs.Obj.cells [.map 0, .map 1]]) := new_ok (n + 20) []
  obtain ⟨σw, haw⟩ := awakeN_ok (n - 78)
  rw [show n - 78 + 99 = n + 21 by omega] at haw
  obtain ⟨r, σ1, hp, ns1, hs1, rfl, P1, _⟩ := play_ok n sc hok (new_ps n) (by omega) hn1 hn2
  change callN T (n + 21) 10 [.ptr 2 0, .agg [.sl [] none, .sl [] none], .sl (acts sc) none] _ = _ at hp
  have hc := copy_ok P1.I.L (n + 20)
  have PC := copy_ps P1
  unfold treeD at hp
  generalize hX : copyS σ1 ns1 hs1 = X at hc PC
  generalize hoc : σ1.length + 2 + ns1.length = oc at hc PC
  have hnv : nodesV (copyN (σ1.length + 2) ns1) = nodesV ns1 := nodesV_copy _ _
  generalize copyN (σ1.length + 2) ns1 = nsC at PC hnv
  refine call_ofE (m := m8) rfl rfl (by decide) (k_start ?_)
  unfold m8
  unfold ActR.cells
  by_cases c1 : sc.length > 30
  · refine k_seq ?_
    refine rgf (D.lptr (3 : Nat) (0 : Nat)) ([]) ?_
    refine rv (D.bool false) ?_
    refine k_done (k_skip_seq (k_seq ?_))
    refine runs_call ([]) (by kernel_rfl) (by kernel_rfl) (by kernel_rfl) (by kernel_rfl) (haw) (by kernel_rfl) ?_
    refine ra0 (D.bool true) ?_
    refine k_done (k_skip_seq (k_seq (k_seq ?_)))
    refine rv (D.bool true) ?_
    refine rv (D.bool false) ?_
    refine k_done (k_skip_seq (kcf (k_skip_seq (k_seq ?_))))
    refine runs_call_fr ([]) (by kernel_rfl) (by kernel_rfl) (by kernel_rfl) (by kernel_rfl) (hnew) (by kernel_rfl) (by kernel_rfl) (hnew) ?_
    refine ra0 (D.ptr (2 : Nat) (0 : Nat)) ?_
    refine k_done (k_skip_seq (k_seq ?_))
    refine rv (D.ptr (2 : Nat) (0 : Nat)) ?_
    refine rv (D.agg [D.nils (81 : Nat), D.nils (83 : Nat)]) ?_
    refine rv (D.sl (acts sc) none) ?_
    refine runs_call_st ([D.ptr (2 : Nat) (0 : Nat), D.agg [D.sl [] none, D.sl [] none], D.sl (acts sc) none]) (by kernel_rfl) (by kernel_rfl) (by kernel_rfl) (by kernel_rfl) (hp) ?_
    refine rv (D.tup [D.agg [D.sl (List.map nW (nodesV ns1)) none, D.sl (List.map HeldR.cells (heldV hs1)) none], D.bool true]) ?_
    refine rv (D.agg [D.sl (List.map nW (nodesV ns1)) none, D.sl (List.map HeldR.cells (heldV hs1)) none]) ?_
    refine rv (D.bool true) ?_
    refine rgf (D.lptr (7 : Nat) (0 : Nat)) (σ1) ?_
    refine rgf (D.junk) (σ1) ?_
    refine ra0 (D.bool true) ?_
    refine k_done (k_skip_seq (k_seq (k_seq ?_)))
    refine rv (D.bool true) ?_
    refine rv (D.bool false) ?_
    refine k_done (k_skip_seq (kcf (k_skip_seq (k_seq (k_seq ?_)))))
    refine rv (D.sl (acts sc) none) ?_
    refine rve (D.int IntKind.i64 (↑(List.length (acts sc)) : Int)) (.int IntKind.i64 ((↑(List.length sc) : Int))) (by simp only [ints, eInt, rows, eInts, bools, eBool, trips, eTrip, i8s, u16s, u8s, acts, List.length_map]) ?_
    refine rv (D.bool (decide ((↑(List.length sc) : Int) > (30 : Int)))) ?_
    refine rv (D.bool (decide ((↑(List.length sc) : Int) > (30 : Int)))) ?_
    refine rkn 31 (decide ((↑(List.length sc) : Int) > (30 : Int))) true (decide_eq_true (by omega)) ?_
    refine rno (rno (rno (rno ?_)))
    refine rv (D.bool true) ?_
    refine rv (D.bool true) ?_
    refine rno (rno (rno (rno ?_)))
    refine rv (D.bool true) ?_
    refine k_done (k_skip_seq (kct (k_seq ?_)))
    refine rv (D.bool true) ?_
    refine k_done (k_skip_seq (k_ret ?_))
    exact ⟨.inr rfl, by kernel_rfl, σ1, by kernel_rfl⟩
  · by_cases c2 : a.a.length > 100
    · refine k_seq ?_
      refine rgf (D.lptr (3 : Nat) (0 : Nat)) ([]) ?_
      refine rv (D.bool false) ?_
      refine k_done (k_skip_seq (k_seq ?_))
      refine runs_call ([]) (by kernel_rfl) (by kernel_rfl) (by kernel_rfl) (by kernel_rfl) (haw) (by kernel_rfl) ?_
      refine ra0 (D.bool true) ?_
      refine k_done (k_skip_seq (k_seq (k_seq ?_)))
      refine rv (D.bool true) ?_
      refine rv (D.bool false) ?_
      refine k_done (k_skip_seq (kcf (k_skip_seq (k_seq ?_))))
      refine runs_call_fr ([]) (by kernel_rfl) (by kernel_rfl) (by kernel_rfl) (by kernel_rfl) (hnew) (by kernel_rfl) (by kernel_rfl) (hnew) ?_
      refine ra0 (D.ptr (2 : Nat) (0 : Nat)) ?_
      refine k_done (k_skip_seq (k_seq ?_))
      refine rv (D.ptr (2 : Nat) (0 : Nat)) ?_
      refine rv (D.agg [D.nils (81 : Nat), D.nils (83 : Nat)]) ?_
      refine rv (D.sl (acts sc) none) ?_
      refine runs_call_st ([D.ptr (2 : Nat) (0 : Nat), D.agg [D.sl [] none, D.sl [] none], D.sl (acts sc) none]) (by kernel_rfl) (by kernel_rfl) (by kernel_rfl) (by kernel_rfl) (hp) ?_
      refine rv (D.tup [D.agg [D.sl (List.map nW (nodesV ns1)) none, D.sl (List.map HeldR.cells (heldV hs1)) none], D.bool true]) ?_
      refine rv (D.agg [D.sl (List.map nW (nodesV ns1)) none, D.sl (List.map HeldR.cells (heldV hs1)) none]) ?_
      refine rv (D.bool true) ?_
      refine rgf (D.lptr (7 : Nat) (0 : Nat)) (σ1) ?_
      refine rgf (D.junk) (σ1) ?_
      refine ra0 (D.bool true) ?_
      refine k_done (k_skip_seq (k_seq (k_seq ?_)))
      refine rv (D.bool true) ?_
      refine rv (D.bool false) ?_
      refine k_done (k_skip_seq (kcf (k_skip_seq (k_seq (k_seq ?_)))))
      refine rv (D.sl (acts sc) none) ?_
      refine rve (D.int IntKind.i64 (↑(List.length (acts sc)) : Int)) (.int IntKind.i64 ((↑(List.length sc) : Int))) (by simp only [ints, eInt, rows, eInts, bools, eBool, trips, eTrip, i8s, u16s, u8s, acts, List.length_map]) ?_
      refine rv (D.bool (decide ((↑(List.length sc) : Int) > (30 : Int)))) ?_
      refine rv (D.bool (decide ((↑(List.length sc) : Int) > (30 : Int)))) ?_
      refine rkn 31 (decide ((↑(List.length sc) : Int) > (30 : Int))) false (decide_eq_false (by omega)) ?_
      refine rv (D.lptr (3 : Nat) (1 : Nat)) ?_
      refine rv (D.str (ActR.a a)) ?_
      refine rv (D.int IntKind.i64 (↑(List.length (ActR.a a)) : Int)) ?_
      refine rv (D.bool (decide ((↑(List.length (ActR.a a)) : Int) > (100 : Int)))) ?_
      refine rv (D.bool (decide ((↑(List.length (ActR.a a)) : Int) > (100 : Int)))) ?_
      refine rv (D.bool (decide ((↑(List.length (ActR.a a)) : Int) > (100 : Int)))) ?_
      refine rkn 37 (decide ((↑(List.length (ActR.a a)) : Int) > (100 : Int))) true (decide_eq_true (by omega)) ?_
      refine rno (rno (rno (rno ?_)))
      refine rv (D.bool true) ?_
      refine k_done (k_skip_seq (kct (k_seq ?_)))
      refine rv (D.bool true) ?_
      refine k_done (k_skip_seq (k_ret ?_))
      exact ⟨.inr rfl, by kernel_rfl, σ1, by kernel_rfl⟩
    · by_cases c3 : a.b.length > 100
      · refine k_seq ?_
        refine rgf (D.lptr (3 : Nat) (0 : Nat)) ([]) ?_
        refine rv (D.bool false) ?_
        refine k_done (k_skip_seq (k_seq ?_))
        refine runs_call ([]) (by kernel_rfl) (by kernel_rfl) (by kernel_rfl) (by kernel_rfl) (haw) (by kernel_rfl) ?_
        refine ra0 (D.bool true) ?_
        refine k_done (k_skip_seq (k_seq (k_seq ?_)))
        refine rv (D.bool true) ?_
        refine rv (D.bool false) ?_
        refine k_done (k_skip_seq (kcf (k_skip_seq (k_seq ?_))))
        refine runs_call_fr ([]) (by kernel_rfl) (by kernel_rfl) (by kernel_rfl) (by kernel_rfl) (hnew) (by kernel_rfl) (by kernel_rfl) (hnew) ?_
        refine ra0 (D.ptr (2 : Nat) (0 : Nat)) ?_
        refine k_done (k_skip_seq (k_seq ?_))
        refine rv (D.ptr (2 : Nat) (0 : Nat)) ?_
        refine rv (D.agg [D.nils (81 : Nat), D.nils (83 : Nat)]) ?_
        refine rv (D.sl (acts sc) none) ?_
        refine runs_call_st ([D.ptr (2 : Nat) (0 : Nat), D.agg [D.sl [] none, D.sl [] none], D.sl (acts sc) none]) (by kernel_rfl) (by kernel_rfl) (by kernel_rfl) (by kernel_rfl) (hp) ?_
        refine rv (D.tup [D.agg [D.sl (List.map nW (nodesV ns1)) none, D.sl (List.map HeldR.cells (heldV hs1)) none], D.bool true]) ?_
        refine rv (D.agg [D.sl (List.map nW (nodesV ns1)) none, D.sl (List.map HeldR.cells (heldV hs1)) none]) ?_
        refine rv (D.bool true) ?_
        refine rgf (D.lptr (7 : Nat) (0 : Nat)) (σ1) ?_
        refine rgf (D.junk) (σ1) ?_
        refine ra0 (D.bool true) ?_
        refine k_done (k_skip_seq (k_seq (k_seq ?_)))
        refine rv (D.bool true) ?_
        refine rv (D.bool false) ?_
        refine k_done (k_skip_seq (kcf (k_skip_seq (k_seq (k_seq ?_)))))
        refine rv (D.sl (acts sc) none) ?_
        refine rve (D.int IntKind.i64 (↑(List.length (acts sc)) : Int)) (.int IntKind.i64 ((↑(List.length sc) : Int))) (by simp only [ints, eInt, rows, eInts, bools, eBool, trips, eTrip, i8s, u16s, u8s, acts, List.length_map]) ?_
        refine rv (D.bool (decide ((↑(List.length sc) : Int) > (30 : Int)))) ?_
        refine rv (D.bool (decide ((↑(List.length sc) : Int) > (30 : Int)))) ?_
        refine rkn 31 (decide ((↑(List.length sc) : Int) > (30 : Int))) false (decide_eq_false (by omega)) ?_
        refine rv (D.lptr (3 : Nat) (1 : Nat)) ?_
        refine rv (D.str (ActR.a a)) ?_
        refine rv (D.int IntKind.i64 (↑(List.length (ActR.a a)) : Int)) ?_
        refine rv (D.bool (decide ((↑(List.length (ActR.a a)) : Int) > (100 : Int)))) ?_
        refine rv (D.bool (decide ((↑(List.length (ActR.a a)) : Int) > (100 : Int)))) ?_
        refine rv (D.bool (decide ((↑(List.length (ActR.a a)) : Int) > (100 : Int)))) ?_
        refine rkn 37 (decide ((↑(List.length (ActR.a a)) : Int) > (100 : Int))) false (decide_eq_false (by omega)) ?_
        refine rv (D.lptr (3 : Nat) (2 : Nat)) ?_
        refine rv (D.str (ActR.b a)) ?_
        refine rv (D.int IntKind.i64 (↑(List.length (ActR.b a)) : Int)) ?_
        refine rv (D.bool (decide ((↑(List.length (ActR.b a)) : Int) > (100 : Int)))) ?_
        refine rv (D.bool (decide ((↑(List.length (ActR.b a)) : Int) > (100 : Int)))) ?_
        refine k_done (k_skip_seq ?_)
        refine rkn 42 (decide ((↑(List.length (ActR.b a)) : Int) > (100 : Int))) true (decide_eq_true (by omega)) ?_
        refine kct (k_seq ?_)
        refine rv (D.bool true) ?_
        refine k_done (k_skip_seq (k_ret ?_))
        exact ⟨.inr rfl, by kernel_rfl, σ1, by kernel_rfl⟩
      · refine k_seq ?_
        refine rgf (D.lptr (3 : Nat) (0 : Nat)) ([]) ?_
        refine rv (D.bool false) ?_
        refine k_done (k_skip_seq (k_seq ?_))
        refine runs_call ([]) (by kernel_rfl) (by kernel_rfl) (by kernel_rfl) (by kernel_rfl) (haw) (by kernel_rfl) ?_
        refine ra0 (D.bool true) ?_
        refine k_done (k_skip_seq (k_seq (k_seq ?_)))
        refine rv (D.bool true) ?_
        refine rv (D.bool false) ?_
        refine k_done (k_skip_seq (kcf (k_skip_seq (k_seq ?_))))
        refine runs_call_fr ([]) (by kernel_rfl) (by kernel_rfl) (by kernel_rfl) (by kernel_rfl) (hnew) (by kernel_rfl) (by kernel_rfl) (hnew) ?_
        refine ra0 (D.ptr (2 : Nat) (0 : Nat)) ?_
        refine k_done (k_skip_seq (k_seq ?_))
        refine rv (D.ptr (2 : Nat) (0 : Nat)) ?_
        refine rv (D.agg [D.nils (81 : Nat), D.nils (83 : Nat)]) ?_
        refine rv (D.sl (acts sc) none) ?_
        refine runs_call_st ([D.ptr (2 : Nat) (0 : Nat), D.agg [D.sl [] none, D.sl [] none], D.sl (acts sc) none]) (by kernel_rfl) (by kernel_rfl) (by kernel_rfl) (by kernel_rfl) (hp) ?_
        refine rv (D.tup [D.agg [D.sl (List.map nW (nodesV ns1)) none, D.sl (List.map HeldR.cells (heldV hs1)) none], D.bool true]) ?_
        refine rv (D.agg [D.sl (List.map nW (nodesV ns1)) none, D.sl (List.map HeldR.cells (heldV hs1)) none]) ?_
        refine rv (D.bool true) ?_
        refine rgf (D.lptr (7 : Nat) (0 : Nat)) (σ1) ?_
        refine rgf (D.junk) (σ1) ?_
        refine ra0 (D.bool true) ?_
        refine k_done (k_skip_seq (k_seq (k_seq ?_)))
        refine rv (D.bool true) ?_
        refine rv (D.bool false) ?_
        refine k_done (k_skip_seq (kcf (k_skip_seq (k_seq (k_seq ?_)))))
        refine rv (D.sl (acts sc) none) ?_
        refine rve (D.int IntKind.i64 (↑(List.length (acts sc)) : Int)) (.int IntKind.i64 ((↑(List.length sc) : Int))) (by simp only [ints, eInt, rows, eInts, bools, eBool, trips, eTrip, i8s, u16s, u8s, acts, List.length_map]) ?_
        refine rv (D.bool (decide ((↑(List.length sc) : Int) > (30 : Int)))) ?_
        refine rv (D.bool (decide ((↑(List.length sc) : Int) > (30 : Int)))) ?_
        refine rkn 31 (decide ((↑(List.length sc) : Int) > (30 : Int))) false (decide_eq_false (by omega)) ?_
        refine rv (D.lptr (3 : Nat) (1 : Nat)) ?_
        refine rv (D.str (ActR.a a)) ?_
        refine rv (D.int IntKind.i64 (↑(List.length (ActR.a a)) : Int)) ?_
        refine rv (D.bool (decide ((↑(List.length (ActR.a a)) : Int) > (100 : Int)))) ?_
        refine rv (D.bool (decide ((↑(List.length (ActR.a a)) : Int) > (100 : Int)))) ?_
        refine rv (D.bool (decide ((↑(List.length (ActR.a a)) : Int) > (100 : Int)))) ?_
        refine rkn 37 (decide ((↑(List.length (ActR.a a)) : Int) > (100 : Int))) false (decide_eq_false (by omega)) ?_
        refine rv (D.lptr (3 : Nat) (2 : Nat)) ?_
        refine rv (D.str (ActR.b a)) ?_
        refine rv (D.int IntKind.i64 (↑(List.length (ActR.b a)) : Int)) ?_
        refine rv (D.bool (decide ((↑(List.length (ActR.b a)) : Int) > (100 : Int)))) ?_
        refine rv (D.bool (decide ((↑(List.length (ActR.b a)) : Int) > (100 : Int)))) ?_
        refine k_done (k_skip_seq ?_)
        refine rkn 42 (decide ((↑(List.length (ActR.b a)) : Int) > (100 : Int))) false (decide_eq_false (by omega)) ?_
        refine kcf (k_skip_seq (k_seq ?_))
        refine rv (D.ptr (2 : Nat) (0 : Nat)) ?_
        refine runs_call_st ([D.ptr (2 : Nat) (0 : Nat)]) (by kernel_rfl) (by kernel_rfl) (by kernel_rfl) (by kernel_rfl) (hc) ?_
        refine ra0 (D.ptr oc (0 : Nat)) ?_
        refine k_done (k_skip_seq (k_seq ?_))
        refine rv (D.lptr (3 : Nat) (1 : Nat)) ?_
        refine rv (D.str (ActR.a a)) ?_
        refine rv (D.lptr (3 : Nat) (2 : Nat)) ?_
        refine rv (D.str (ActR.b a)) ?_
        refine rv (D.lptr (3 : Nat) (3 : Nat)) ?_
        refine rv (D.int IntKind.i64 (ActR.n a)) ?_
        refine rv (D.agg [D.int IntKind.i64 (0 : Int), D.str (ActR.a a), D.str (ActR.b a), D.int IntKind.i64 (ActR.n a)]) ?_
        refine rv (D.lptr (3 : Nat) (1 : Nat)) ?_
        refine rv (D.str (ActR.a a)) ?_
        refine rv (D.lptr (3 : Nat) (2 : Nat)) ?_
        refine rv (D.str (ActR.b a)) ?_
        refine rv (D.lptr (3 : Nat) (3 : Nat)) ?_
        refine rv (D.int IntKind.i64 (ActR.n a)) ?_
        refine rv (D.agg [D.int IntKind.i64 (1 : Int), D.str (ActR.a a), D.str (ActR.b a), D.int IntKind.i64 (ActR.n a)]) ?_
        refine rv (D.lptr (3 : Nat) (2 : Nat)) ?_
        refine rv (D.str (ActR.b a)) ?_
        refine rv (D.agg [D.int IntKind.i64 (2 : Int), D.str [], D.str (ActR.b a), D.int IntKind.i64 (0 : Int)]) ?_
        refine rv (D.lptr (3 : Nat) (1 : Nat)) ?_
        refine rv (D.str (ActR.a a)) ?_
        refine rv (D.lptr (3 : Nat) (3 : Nat)) ?_
        refine rv (D.int IntKind.i64 (ActR.n a)) ?_
        refine rv (D.agg [D.int IntKind.i64 (3 : Int), D.str (ActR.a a), D.str [], D.int IntKind.i64 (ActR.n a)]) ?_
        refine rv (D.sl [[D.int IntKind.i64 (0 : Int), D.str (ActR.a a), D.str (ActR.b a), D.int IntKind.i64 (ActR.n a)], [D.int IntKind.i64 (1 : Int), D.str (ActR.a a), D.str (ActR.b a), D.int IntKind.i64 (ActR.n a)], [D.int IntKind.i64 (2 : Int), D.str [], D.str (ActR.b a), D.int IntKind.i64 (0 : Int)], [D.int IntKind.i64 (3 : Int), D.str (ActR.a a), D.str [], D.int IntKind.i64 (ActR.n a)]] (some (34 : Nat))) ?_
        refine runs_assign (D.sl [[D.int IntKind.i64 (0 : Int), D.str (ActR.a a), D.str (ActR.b a), D.int IntKind.i64 (ActR.n a)], [D.int IntKind.i64 (1 : Int), D.str (ActR.a a), D.str (ActR.b a), D.int IntKind.i64 (ActR.n a)], [D.int IntKind.i64 (2 : Int), D.str [], D.str (ActR.b a), D.int IntKind.i64 (0 : Int)], [D.int IntKind.i64 (3 : Int), D.str (ActR.a a), D.str [], D.int IntKind.i64 (ActR.n a)]] (some (34 : Nat))) (by kernel_rfl) (by kernel_rfl) ?_
        refine k_done (k_skip_seq (k_seq (k_seq ?_)))
        refine rv (D.int IntKind.i64 (0 : Int)) ?_
        refine k_done (k_skip_seq (k_block ?_))
        refine k_loop (fun s : Nat × St => h8 sc a oc (nodesV ns1) (heldV hs1) s.1) (fun s => s.2) (fun s => s.1 ≤ 4 ∧ PS n s.2 oc σ1.length (σ1.length + 1) nsC hs1 40) (fun s => 4 - s.1) (0, X) (by kernel_rfl) (by kernel_rfl) ⟨by simp, PC⟩ (fun s hs => by omega) ?_
        rintro ⟨i, σ2⟩ ⟨hi, P⟩
        simp only at hi P
        show Runs (runC _ _ _ (h8 sc a oc (nodesV ns1) (heldV hs1) i) σ2) _
        rw [← hnv]
        unfold h8 l8_0
        have hi4 : i = 0 ∨ i = 1 ∨ i = 2 ∨ i = 3 ∨ i = 4 := by omega
        rcases hi4 with rfl | rfl | rfl | rfl | rfl
        · obtain ⟨od, σ3, σ4, lN, lH, σ5, hd, hq, hs, P'⟩ := round8 n ⟨0, a.a, a.b, a.n⟩ (by first | exact hoka | exact ⟨by simp only []; omega, by simp only [List.length_nil]; omega, hoka.2.2⟩ | exact ⟨hoka.1, hoka.2.1, by simp only [List.length_nil]; omega⟩) hn1 hn2 P
          simp only at hq
          refine k_seq (k_seq ?_)
          refine rv (D.int IntKind.i64 (0 : Int)) ?_
          refine rv (D.bool true) ?_
          refine k_done (k_skip_seq (kct (k_skip_seq (k_seq (k_block (k_seq ?_))))))
          refine rv (D.ptr oc (0 : Nat)) ?_
          refine runs_call_st ([D.ptr oc (0 : Nat)]) (by kernel_rfl) (by kernel_rfl) (by kernel_rfl) (by kernel_rfl) (hd) ?_
          refine ra0 (D.ptr od (0 : Nat)) ?_
          refine k_done (k_skip_seq (k_seq ?_))
          refine rv (D.ptr od (0 : Nat)) ?_
          refine runs_loadA (by kernel_rfl) ?_
          refine rv (D.agg [D.sl (List.map nW (nodesV nsC)) none, D.sl (List.map HeldR.cells (heldV hs1)) none]) ?_
          refine rv (D.sl [[D.int IntKind.i64 (0 : Int), D.str (ActR.a a), D.str (ActR.b a), D.int IntKind.i64 (ActR.n a)], [D.int IntKind.i64 (1 : Int), D.str (ActR.a a), D.str (ActR.b a), D.int IntKind.i64 (ActR.n a)], [D.int IntKind.i64 (2 : Int), D.str [], D.str (ActR.b a), D.int IntKind.i64 (0 : Int)], [D.int IntKind.i64 (3 : Int), D.str (ActR.a a), D.str [], D.int IntKind.i64 (ActR.n a)]] none) ?_
          refine rv (D.int IntKind.i64 (0 : Int)) ?_
          refine rv (D.int IntKind.i64 (0 : Int)) ?_
          refine rv (D.int IntKind.i64 (1 : Int)) ?_
          refine rv (D.sl [[D.int IntKind.i64 (0 : Int), D.str (ActR.a a), D.str (ActR.b a), D.int IntKind.i64 (ActR.n a)]] none) ?_
          refine runs_callT (by kernel_rfl) ?_
          refine runs_call_st ([D.ptr od (0 : Nat), D.agg [D.sl (List.map nW (nodesV nsC)) none, D.sl (List.map HeldR.cells (heldV hs1)) none], D.sl [[D.int IntKind.i64 (0 : Int), D.str (ActR.a a), D.str (ActR.b a), D.int IntKind.i64 (ActR.n a)]] none]) (by kernel_rfl) (by kernel_rfl) (by kernel_rfl) (by kernel_rfl) (hq) ?_
          refine rv (D.tup [D.agg [D.sl (List.map nW lN) none, D.sl (List.map HeldR.cells lH) none], D.bool true]) ?_
          refine rv (D.agg [D.sl (List.map nW lN) none, D.sl (List.map HeldR.cells lH) none]) ?_
          refine rv (D.bool true) ?_
          refine runs_allocR (by kernel_rfl) ?_
          refine rgf (D.lptr (13 : Nat) (0 : Nat)) (σ4) ?_
          refine runs_storeR (by kernel_rfl) ?_
          refine rgf (D.junk) (σ4) ?_
          refine ra0 (D.bool true) ?_
          refine k_done (k_skip_seq (k_seq ?_))
          refine rv (D.bool true) ?_
          refine rv (D.bool false) ?_
          refine rv (D.bool false) ?_
          refine rv (D.ptr oc (0 : Nat)) ?_
          refine rv (D.agg [D.sl (List.map nW (nodesV nsC)) none, D.sl (List.map HeldR.cells (heldV hs1)) none]) ?_
          refine runs_call_st ([D.ptr oc (0 : Nat), D.agg [D.sl (List.map nW (nodesV nsC)) none, D.sl (List.map HeldR.cells (heldV hs1)) none]]) (by kernel_rfl) (by kernel_rfl) (by kernel_rfl) (by kernel_rfl) (hs) ?_
          refine rv (D.bool false) ?_
          refine rv (D.bool false) ?_
          refine k_done (k_skip_seq (kcf (k_skip_block (k_skip_seq ?_))))
          refine rv (D.int IntKind.i64 (0 : Int)) ?_
          refine rv (D.int IntKind.i64 (1 : Int)) ?_
          refine ra0 (D.int IntKind.i64 (1 : Int)) ?_
          refine k_done (k_skip_back ?_)
          exact ⟨(1, σ5), ⟨by simp only []; omega, P'⟩, by simp only []; omega, by kernel_rfl, rfl⟩
        · obtain ⟨od, σ3, σ4, lN, lH, σ5, hd, hq, hs, P'⟩ := round8 n ⟨1, a.a, a.b, a.n⟩ (by first | exact hoka | exact ⟨by simp only []; omega, by simp only [List.length_nil]; omega, hoka.2.2⟩ | exact ⟨hoka.1, hoka.2.1, by simp only [List.length_nil]; omega⟩) hn1 hn2 P
          simp only at hq
          refine k_seq (k_seq ?_)
          refine rv (D.int IntKind.i64 (1 : Int)) ?_
          refine rv (D.bool true) ?_
          refine k_done (k_skip_seq (kct (k_skip_seq (k_seq (k_block (k_seq ?_))))))
          refine rv (D.ptr oc (0 : Nat)) ?_
          refine runs_call_st ([D.ptr oc (0 : Nat)]) (by kernel_rfl) (by kernel_rfl) (by kernel_rfl) (by kernel_rfl) (hd) ?_
          refine ra0 (D.ptr od (0 : Nat)) ?_
          refine k_done (k_skip_seq (k_seq ?_))
          refine rv (D.ptr od (0 : Nat)) ?_
          refine runs_loadA (by kernel_rfl) ?_
          refine rv (D.agg [D.sl (List.map nW (nodesV nsC)) none, D.sl (List.map HeldR.cells (heldV hs1)) none]) ?_
          refine rv (D.sl [[D.int IntKind.i64 (0 : Int), D.str (ActR.a a), D.str (ActR.b a), D.int IntKind.i64 (ActR.n a)], [D.int IntKind.i64 (1 : Int), D.str (ActR.a a), D.str (ActR.b a), D.int IntKind.i64 (ActR.n a)], [D.int IntKind.i64 (2 : Int), D.str [], D.str (ActR.b a), D.int IntKind.i64 (0 : Int)], [D.int IntKind.i64 (3 : Int), D.str (ActR.a a), D.str [], D.int IntKind.i64 (ActR.n a)]] none) ?_
          refine rv (D.int IntKind.i64 (1 : Int)) ?_
          refine rv (D.int IntKind.i64 (1 : Int)) ?_
          refine rv (D.int IntKind.i64 (2 : Int)) ?_
          refine rv (D.sl [[D.int IntKind.i64 (1 : Int), D.str (ActR.a a), D.str (ActR.b a), D.int IntKind.i64 (ActR.n a)]] none) ?_
          refine runs_callT (by kernel_rfl) ?_
          refine runs_call_st ([D.ptr od (0 : Nat), D.agg [D.sl (List.map nW (nodesV nsC)) none, D.sl (List.map HeldR.cells (heldV hs1)) none], D.sl [[D.int IntKind.i64 (1 : Int), D.str (ActR.a a), D.str (ActR.b a), D.int IntKind.i64 (ActR.n a)]] none]) (by kernel_rfl) (by kernel_rfl) (by kernel_rfl) (by kernel_rfl) (hq) ?_
          refine rv (D.tup [D.agg [D.sl (List.map nW lN) none, D.sl (List.map HeldR.cells lH) none], D.bool true]) ?_
          refine rv (D.agg [D.sl (List.map nW lN) none, D.sl (List.map HeldR.cells lH) none]) ?_
          refine rv (D.bool true) ?_
          refine runs_allocR (by kernel_rfl) ?_
          refine rgf (D.lptr (13 : Nat) (0 : Nat)) (σ4) ?_
          refine runs_storeR (by kernel_rfl) ?_
          refine rgf (D.junk) (σ4) ?_
          refine ra0 (D.bool true) ?_
          refine k_done (k_skip_seq (k_seq ?_))
          refine rv (D.bool true) ?_
          refine rv (D.bool false) ?_
          refine rv (D.bool false) ?_
          refine rv (D.ptr oc (0 : Nat)) ?_
          refine rv (D.agg [D.sl (List.map nW (nodesV nsC)) none, D.sl (List.map HeldR.cells (heldV hs1)) none]) ?_
          refine runs_call_st ([D.ptr oc (0 : Nat), D.agg [D.sl (List.map nW (nodesV nsC)) none, D.sl (List.map HeldR.cells (heldV hs1)) none]]) (by kernel_rfl) (by kernel_rfl) (by kernel_rfl) (by kernel_rfl) (hs) ?_
          refine rv (D.bool false) ?_
          refine rv (D.bool false) ?_
          refine k_done (k_skip_seq (kcf (k_skip_block (k_skip_seq ?_))))
          refine rv (D.int IntKind.i64 (1 : Int)) ?_
          refine rv (D.int IntKind.i64 (2 : Int)) ?_
          refine ra0 (D.int IntKind.i64 (2 : Int)) ?_
          refine k_done (k_skip_back ?_)
          exact ⟨(2, σ5), ⟨by simp only []; omega, P'⟩, by simp only []; omega, by kernel_rfl, rfl⟩
        · obtain ⟨od, σ3, σ4, lN, lH, σ5, hd, hq, hs, P'⟩ := round8 n ⟨2, [], a.b, 0⟩ (by first | exact hoka | exact ⟨by simp only []; omega, by simp only [List.length_nil]; omega, hoka.2.2⟩ | exact ⟨hoka.1, hoka.2.1, by simp only [List.length_nil]; omega⟩) hn1 hn2 P
          simp only at hq
          refine k_seq (k_seq ?_)
          refine rv (D.int IntKind.i64 (2 : Int)) ?_
          refine rv (D.bool true) ?_
          refine k_done (k_skip_seq (kct (k_skip_seq (k_seq (k_block (k_seq ?_))))))
          refine rv (D.ptr oc (0 : Nat)) ?_
          refine runs_call_st ([D.ptr oc (0 : Nat)]) (by kernel_rfl) (by kernel_rfl) (by kernel_rfl) (by kernel_rfl) (hd) ?_
          refine ra0 (D.ptr od (0 : Nat)) ?_
          refine k_done (k_skip_seq (k_seq ?_))
          refine rv (D.ptr od (0 : Nat)) ?_
          refine runs_loadA (by kernel_rfl) ?_
          refine rv (D.agg [D.sl (List.map nW (nodesV nsC)) none, D.sl (List.map HeldR.cells (heldV hs1)) none]) ?_
          refine rv (D.sl [[D.int IntKind.i64 (0 : Int), D.str (ActR.a a), D.str (ActR.b a), D.int IntKind.i64 (ActR.n a)], [D.int IntKind.i64 (1 : Int), D.str (ActR.a a), D.str (ActR.b a), D.int IntKind.i64 (ActR.n a)], [D.int IntKind.i64 (2 : Int), D.str [], D.str (ActR.b a), D.int IntKind.i64 (0 : Int)], [D.int IntKind.i64 (3 : Int), D.str (ActR.a a), D.str [], D.int IntKind.i64 (ActR.n a)]] none) ?_
          refine rv (D.int IntKind.i64 (2 : Int)) ?_
          refine rv (D.int IntKind.i64 (2 : Int)) ?_
          refine rv (D.int IntKind.i64 (3 : Int)) ?_
          refine rv (D.sl [[D.int IntKind.i64 (2 : Int), D.str [], D.str (ActR.b a), D.int IntKind.i64 (0 : Int)]] none) ?_
          refine runs_callT (by kernel_rfl) ?_
          refine runs_call_st ([D.ptr od (0 : Nat), D.agg [D.sl (List.map nW (nodesV nsC)) none, D.sl (List.map HeldR.cells (heldV hs1)) none], D.sl [[D.int IntKind.i64 (2 : Int), D.str [], D.str (ActR.b a), D.int IntKind.i64 (0 : Int)]] none]) (by kernel_rfl) (by kernel_rfl) (by kernel_rfl) (by kernel_rfl) (hq) ?_
          refine rv (D.tup [D.agg [D.sl (List.map nW lN) none, D.sl (List.map HeldR.cells lH) none], D.bool true]) ?_
          refine rv (D.agg [D.sl (List.map nW lN) none, D.sl (List.map HeldR.cells lH) none]) ?_
          refine rv (D.bool true) ?_
          refine runs_allocR (by kernel_rfl) ?_
          refine rgf (D.lptr (13 : Nat) (0 : Nat)) (σ4) ?_
          refine runs_storeR (by kernel_rfl) ?_
          refine rgf (D.junk) (σ4) ?_
          refine ra0 (D.bool true) ?_
          refine k_done (k_skip_seq (k_seq ?_))
          refine rv (D.bool true) ?_
          refine rv (D.bool false) ?_
          refine rv (D.bool false) ?_
          refine rv (D.ptr oc (0 : Nat)) ?_
          refine rv (D.agg [D.sl (List.map nW (nodesV nsC)) none, D.sl (List.map HeldR.cells (heldV hs1)) none]) ?_
          refine runs_call_st ([D.ptr oc (0 : Nat), D.agg [D.sl (List.map nW (nodesV nsC)) none, D.sl (List.map HeldR.cells (heldV hs1)) none]]) (by kernel_rfl) (by kernel_rfl) (by kernel_rfl) (by kernel_rfl) (hs) ?_
          refine rv (D.bool false) ?_
          refine rv (D.bool false) ?_
          refine k_done (k_skip_seq (kcf (k_skip_block (k_skip_seq ?_))))
          refine rv (D.int IntKind.i64 (2 : Int)) ?_
          refine rv (D.int IntKind.i64 (3 : Int)) ?_
          refine ra0 (D.int IntKind.i64 (3 : Int)) ?_
          refine k_done (k_skip_back ?_)
          exact ⟨(3, σ5), ⟨by simp only []; omega, P'⟩, by simp only []; omega, by kernel_rfl, rfl⟩
        · obtain ⟨od, σ3, σ4, lN, lH, σ5, hd, hq, hs, P'⟩ := round8 n ⟨3, a.a, [], a.n⟩ (by first | exact hoka | exact ⟨by simp only []; omega, by simp only [List.length_nil]; omega, hoka.2.2⟩ | exact ⟨hoka.1, hoka.2.1, by simp only [List.length_nil]; omega⟩) hn1 hn2 P
          simp only at hq
          refine k_seq (k_seq ?_)
          refine rv (D.int IntKind.i64 (3 : Int)) ?_
          refine rv (D.bool true) ?_
          refine k_done (k_skip_seq (kct (k_skip_seq (k_seq (k_block (k_seq ?_))))))
          refine rv (D.ptr oc (0 : Nat)) ?_
          refine runs_call_st ([D.ptr oc (0 : Nat)]) (by kernel_rfl) (by kernel_rfl) (by kernel_rfl) (by kernel_rfl) (hd) ?_
          refine ra0 (D.ptr od (0 : Nat)) ?_
          refine k_done (k_skip_seq (k_seq ?_))
          refine rv (D.ptr od (0 : Nat)) ?_
          refine runs_loadA (by kernel_rfl) ?_
          refine rv (D.agg [D.sl (List.map nW (nodesV nsC)) none, D.sl (List.map HeldR.cells (heldV hs1)) none]) ?_
          refine rv (D.sl [[D.int IntKind.i64 (0 : Int), D.str (ActR.a a), D.str (ActR.b a), D.int IntKind.i64 (ActR.n a)], [D.int IntKind.i64 (1 : Int), D.str (ActR.a a), D.str (ActR.b a), D.int IntKind.i64 (ActR.n a)], [D.int IntKind.i64 (2 : Int), D.str [], D.str (ActR.b a), D.int IntKind.i64 (0 : Int)], [D.int IntKind.i64 (3 : Int), D.str (ActR.a a), D.str [], D.int IntKind.i64 (ActR.n a)]] none) ?_
          refine rv (D.int IntKind.i64 (3 : Int)) ?_
          refine rv (D.int IntKind.i64 (3 : Int)) ?_
          refine rv (D.int IntKind.i64 (4 : Int)) ?_
          refine rv (D.sl [[D.int IntKind.i64 (3 : Int), D.str (ActR.a a), D.str [], D.int IntKind.i64 (ActR.n a)]] none) ?_
          refine runs_callT (by kernel_rfl) ?_
          refine runs_call_st ([D.ptr od (0 : Nat), D.agg [D.sl (List.map nW (nodesV nsC)) none, D.sl (List.map HeldR.cells (heldV hs1)) none], D.sl [[D.int IntKind.i64 (3 : Int), D.str (ActR.a a), D.str [], D.int IntKind.i64 (ActR.n a)]] none]) (by kernel_rfl) (by kernel_rfl) (by kernel_rfl) (by kernel_rfl) (hq) ?_
          refine rv (D.tup [D.agg [D.sl (List.map nW lN) none, D.sl (List.map HeldR.cells lH) none], D.bool true]) ?_
          refine rv (D.agg [D.sl (List.map nW lN) none, D.sl (List.map HeldR.cells lH) none]) ?_
          refine rv (D.bool true) ?_
          refine runs_allocR (by kernel_rfl) ?_
          refine rgf (D.lptr (13 : Nat) (0 : Nat)) (σ4) ?_
          refine runs_storeR (by kernel_rfl) ?_
          refine rgf (D.junk) (σ4) ?_
          refine ra0 (D.bool true) ?_
          refine k_done (k_skip_seq (k_seq ?_))
          refine rv (D.bool true) ?_
          refine rv (D.bool false) ?_
          refine rv (D.bool false) ?_
          refine rv (D.ptr oc (0 : Nat)) ?_
          refine rv (D.agg [D.sl (List.map nW (nodesV nsC)) none, D.sl (List.map HeldR.cells (heldV hs1)) none]) ?_
          refine runs_call_st ([D.ptr oc (0 : Nat), D.agg [D.sl (List.map nW (nodesV nsC)) none, D.sl (List.map HeldR.cells (heldV hs1)) none]]) (by kernel_rfl) (by kernel_rfl) (by kernel_rfl) (by kernel_rfl) (hs) ?_
          refine rv (D.bool false) ?_
          refine rv (D.bool false) ?_
          refine k_done (k_skip_seq (kcf (k_skip_block (k_skip_seq ?_))))
          refine rv (D.int IntKind.i64 (3 : Int)) ?_
          refine rv (D.int IntKind.i64 (4 : Int)) ?_
          refine ra0 (D.int IntKind.i64 (4 : Int)) ?_
          refine k_done (k_skip_back ?_)
          exact ⟨(4, σ5), ⟨by simp only []; omega, P'⟩, by simp only []; omega, by kernel_rfl, rfl⟩
        · refine k_seq (k_seq ?_)
          refine rv (D.int IntKind.i64 (4 : Int)) ?_
          refine rv (D.bool false) ?_
          refine k_done (k_skip_seq (kcf (k_exit_seq (k_exit_back (k_exit_hit rfl (k_skip_seq (k_seq ?_)))))))
          refine rv (D.bool true) ?_
          refine k_done (k_skip_seq (k_ret ?_))
          exact ⟨.inr rfl, by kernel_rfl, σ2, by kernel_rfl⟩
end Go.Abs.C
