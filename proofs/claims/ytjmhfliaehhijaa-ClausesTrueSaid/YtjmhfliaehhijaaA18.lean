/-
  The statement ClausesTrue as the machine code sees it.
-/
import Derived.Test.YtjmhfliaehhijaaKont2
import Derived.Test.YtjmhfliaehhijaaA16
import Derived.Test.YtjmhfliaehhijaaA17
set_option linter.unusedVariables false
set_option linter.unusedSimpArgs false
namespace Go.Abs.A
open Go Go.Abs
set_option maxRecDepth 8000
attribute [local irreducible] callN runC evalOp

/-- Truths by place. -/
def rng (n : Nat) (F : Nat → Bool) : List Bool := (List.range n).map F
theorem rng_len (n : Nat) (F : Nat → Bool) : (rng n F).length = n := by simp [rng]
theorem rng_congr {n : Nat} {F G : Nat → Bool} (h : ∀ j, j < n → F j = G j) : rng n F = rng n G := List.map_congr_left fun j hj => h j (List.mem_range.1 hj)
theorem rng_set (n : Nat) (F : Nat → Bool) (i : Nat) (b : Bool) : (rng n F).set i b = rng n (fun j => if j = i then b else F j) := by
  apply List.ext_getElem
  · simp [rng]
  · intro j h1 h2
    simp only [rng, List.getElem_set, List.getElem_map, List.getElem_range]
    by_cases h : i = j
    · rw [if_pos h, if_pos h.symm]
    · rw [if_neg h, if_neg (fun q => h q.symm)]
theorem rng_zero (n : Nat) : List.replicate n false = rng n (fun _ => false) := by simp [rng, List.map_const']
def at1 (t : List Bool) (i j : Nat) : Bool := if j < i then t.getD j false else false
def at2 (t : List Bool) (x k j : Nat) : Bool := if j < 6 then t.getD j false else if j < 6 + k then x.testBit (j - 6) else false
theorem at1_next {t : List Bool} {n i : Nat} (h : i < t.length) : (rng n (at1 t i)).set i t[i] = rng n (at1 t (i + 1)) := by
  rw [rng_set]
  refine rng_congr fun j _ => ?_
  unfold at1
  by_cases hj : j = i
  · subst hj
    rw [if_pos rfl, if_pos (by omega), List.getD_eq_getElem?_getD, List.getElem?_eq_getElem h]
    rfl
  · rw [if_neg hj]
    by_cases hj2 : j < i
    · rw [if_pos hj2, if_pos (by omega)]
    · rw [if_neg hj2, if_neg (by omega)]
theorem at1_end {t : List Bool} {n i x : Nat} (h : i ≤ 6) (h2 : i = 6 ∨ t.length ≤ i) : rng n (at1 t i) = rng n (at2 t x 0) := by
  refine rng_congr fun j _ => ?_
  unfold at1 at2
  by_cases h6 : j < 6
  · rw [if_pos h6]
    by_cases hj : j < i
    · rw [if_pos hj]
    · rw [if_neg hj, List.getD_eq_getElem?_getD, List.getElem?_eq_none (by omega)]
      rfl
  · rw [if_neg h6, if_neg (by omega), if_neg (by omega)]
theorem at2_next {t : List Bool} {n x k : Nat} : (rng n (at2 t x k)).set (6 + k) (x.testBit k) = rng n (at2 t x (k + 1)) := by
  rw [rng_set]
  refine rng_congr fun j _ => ?_
  unfold at2
  by_cases hj : j = 6 + k
  · subst hj
    rw [if_pos rfl, if_neg (by omega), if_pos (by omega)]
    congr 1
    omega
  · rw [if_neg hj]
    by_cases h6 : j < 6
    · rw [if_pos h6, if_pos h6]
    · rw [if_neg h6, if_neg h6]
      by_cases hk : j < 6 + k
      · rw [if_pos hk, if_pos (by omega)]
      · rw [if_neg hk, if_neg (by omega)]
theorem at2_end (t : List Bool) (x m : Nat) : rng (m + 6) (at2 t x m) = asg t m x := by
  apply List.ext_getElem
  · rw [rng_len, asg_len, Nat.add_comm]
  · intro j h1 h2
    rw [rng_len] at h1
    simp only [rng, asg, List.getElem_map, List.getElem_range, List.getElem_append, List.length_map, List.length_range]
    unfold at2
    by_cases h6 : j < 6
    · rw [if_pos h6, dif_pos h6]
    · rw [if_neg h6, dif_neg h6, if_pos (by omega)]
theorem u64_id {n : Nat} (h : n < 1000) : IntKind.u64.wrap (n : Int) = n := by
  show (n : Int) % 18446744073709551616 = n
  omega
theorem shl_ok {m : Nat} (h : m ≤ 10) : IntKind.i64.wrap (1 * 2 ^ min (IntKind.u64.wrap (m : Int)).toNat 64) = ((2 ^ m : Nat) : Int) := by
  rw [u64_id (by omega)]
  have : min ((m : Int)).toNat 64 = m := by omega
  rw [this]
  have : m = 0 ∨ m = 1 ∨ m = 2 ∨ m = 3 ∨ m = 4 ∨ m = 5 ∨ m = 6 ∨ m = 7 ∨ m = 8 ∨ m = 9 ∨ m = 10 := by omega
  rcases this with h | h | h | h | h | h | h | h | h | h | h <;> subst h <;> rfl
theorem bit_ok {x i : Nat} (hx : x < 1024) (hi : i < 10) : (IntKind.i64.wrap ((BitVec.ofInt 64 (Int.fdiv (x : Int) (2 ^ min (IntKind.u64.wrap (i : Int)).toNat 64)) &&& BitVec.ofInt 64 1).toNat : Int) == 1) = x.testBit i := by
  rw [u64_id (by omega)]
  have : min ((i : Int)).toNat 64 = i := by omega
  rw [this]
  have e : Int.fdiv (x : Int) (2 ^ i) = ((x / 2 ^ i : Nat) : Int) := by
    rw [Int.fdiv_eq_ediv_of_nonneg _ (by exact Int.pow_nonneg (by omega))]
    simp
  rw [e]
  have hq : x / 2 ^ i < 1024 := Nat.lt_of_le_of_lt (Nat.div_le_self _ _) hx
  rw [Nat.testBit_eq_decide_div_mod_eq]
  generalize x / 2 ^ i = q at *
  have e2 : (BitVec.ofInt 64 (q : Int) &&& BitVec.ofInt 64 1).toNat = q % 2 := by
    rw [BitVec.toNat_and]
    have h1 : (BitVec.ofInt 64 (q : Int)).toNat = q := by
      rw [BitVec.toNat_ofInt]
      omega
    have h2 : (BitVec.ofInt 64 1).toNat = 1 := rfl
    rw [h1, h2, Nat.and_one_is_mod]
  rw [e2, wrap_eq (m := ((q % 2 : Nat) : Int)) rfl (by omega) (by omega)]
  have : q % 2 = 0 ∨ q % 2 = 1 := by omega
  rcases this with h | h <;> rw [h] <;> rfl

def f10 (f : Fm) (t : List Bool) (l : List (List Int)) (m : Nat) (found x : Int) (d12 d13 d14 : D) : Fr :=
  Fr.mk ([.agg (eF f), .sl (bools t) none, .lptr 2 0, .junk, .bool false, .junk, .junk, .sl (rows l) none, .int .i64 ((m + 6 : Nat) : Int), .int .i64 m, .int .i64 found, .int .i64 x, d12, d13, d14] ++ List.replicate 100 .junk) (bx 115 2 (eF f)) []
set_option maxHeartbeats 1600000 in
theorem lawTrue_ok (f : Fm) (t : List Bool) (o : Option Nat) (ht : t.length ≤ 9223372036854775807) : ∃ σ, callN T 5001 10 [.agg (eF f), .sl (bools t) o] [] = some (.bool true, σ) := by
  have hb := bounded19_ok 41 f 0 5000 [] rfl (by omega) (by omega)
  by_cases h1 : boundedR 41 f = true
  case neg =>
    refine ⟨[], ?_⟩
    refine call_of (m := m10) rfl rfl (by decide) (k_start ?_)
    unfold m10
    have h1' : boundedR 41 f = false := by simpa using h1
    rw [h1'] at hb
    refine k_seq ?_
    refine rgf (D.lptr (2 : Nat) (0 : Nat)) ([]) ?_
    refine rv (D.bool false) ?_
    refine k_done (k_skip_seq (k_seq ?_))
    refine runs_call ([]) (by kernel_rfl) (by kernel_rfl) (by kernel_rfl) (by kernel_rfl) (awake19_ok) (by kernel_rfl) ?_
    refine ra0 (D.bool true) ?_
    refine k_done (k_skip_seq (k_seq (k_seq ?_)))
    refine rv (D.bool true) ?_
    refine rv (D.bool false) ?_
    refine k_done (k_skip_seq (kcf (k_skip_seq (k_seq ?_))))
    refine rv (D.agg [D.int IntKind.i64 (Fm.op f), D.int IntKind.i64 (Fm.n f), D.sl (eFs (Fm.kids f)) none]) ?_
    refine runs_call ([D.agg [D.int IntKind.i64 (Fm.op f), D.int IntKind.i64 (Fm.n f), D.sl (eFs (Fm.kids f)) none], D.int IntKind.i64 (0 : Int)]) (by kernel_rfl) (by kernel_rfl) (by kernel_rfl) (by kernel_rfl) (hb) (by kernel_rfl) ?_
    refine ra0 (D.bool false) ?_
    refine k_done (k_skip_seq (k_seq (k_seq ?_)))
    refine rv (D.bool false) ?_
    refine rv (D.bool true) ?_
    refine rv (D.bool true) ?_
    refine rno (rno (rno ?_))
    refine rv (D.bool true) ?_
    refine rv (D.bool true) ?_
    refine rno (rno (rno (rno ?_)))
    refine rv (D.bool true) ?_
    refine rv (D.bool true) ?_
    refine rno (rno (rno (rno ?_)))
    refine rv (D.bool true) ?_
    refine k_done (k_skip_seq (kct (k_seq ?_)))
    refine rv (D.bool true) ?_
    refine k_done (k_skip_seq (k_ret ?_))
    exact ⟨.inr rfl, by kernel_rfl, by kernel_rfl⟩
  rw [h1] at hb
  have hfit := boundedR_fits h1
  have hw := weight19_ok 41 f 5000 [] hfit (by omega) (by omega)
  have k2 := model19_ok 41 f 5000 [] hfit (by omega)
  have k3 := refCheck_ok 41 f 4999 [] hfit (by omega) (by omega)
  by_cases h2 : weightR 41 f > 40
  · refine ⟨[], ?_⟩
    refine call_of (m := m10) rfl rfl (by decide) (k_start ?_)
    unfold m10
    refine k_seq ?_
    refine rgf (D.lptr (2 : Nat) (0 : Nat)) ([]) ?_
    refine rv (D.bool false) ?_
    refine k_done (k_skip_seq (k_seq ?_))
    refine runs_call ([]) (by kernel_rfl) (by kernel_rfl) (by kernel_rfl) (by kernel_rfl) (awake19_ok) (by kernel_rfl) ?_
    refine ra0 (D.bool true) ?_
    refine k_done (k_skip_seq (k_seq (k_seq ?_)))
    refine rv (D.bool true) ?_
    refine rv (D.bool false) ?_
    refine k_done (k_skip_seq (kcf (k_skip_seq (k_seq ?_))))
    refine rv (D.agg [D.int IntKind.i64 (Fm.op f), D.int IntKind.i64 (Fm.n f), D.sl (eFs (Fm.kids f)) none]) ?_
    refine runs_call ([D.agg [D.int IntKind.i64 (Fm.op f), D.int IntKind.i64 (Fm.n f), D.sl (eFs (Fm.kids f)) none], D.int IntKind.i64 (0 : Int)]) (by kernel_rfl) (by kernel_rfl) (by kernel_rfl) (by kernel_rfl) (hb) (by kernel_rfl) ?_
    refine ra0 (D.bool true) ?_
    refine k_done (k_skip_seq (k_seq (k_seq ?_)))
    refine rv (D.bool true) ?_
    refine rv (D.bool false) ?_
    refine rv (D.bool false) ?_
    refine rv (D.agg [D.int IntKind.i64 (Fm.op f), D.int IntKind.i64 (Fm.n f), D.sl (eFs (Fm.kids f)) none]) ?_
    refine runs_call ([D.agg [D.int IntKind.i64 (Fm.op f), D.int IntKind.i64 (Fm.n f), D.sl (eFs (Fm.kids f)) none]]) (by kernel_rfl) (by kernel_rfl) (by kernel_rfl) (by kernel_rfl) (hw) (by kernel_rfl) ?_
    refine rv (D.bool (decide (weightR (41 : Nat) f > (40 : Int)))) ?_
    refine rv (D.bool (decide (weightR (41 : Nat) f > (40 : Int)))) ?_
    refine rv (D.bool (decide (weightR (41 : Nat) f > (40 : Int)))) ?_
    refine rkn 29 (decide (weightR (41 : Nat) f > (40 : Int))) true (decide_eq_true (by assumption)) ?_
    refine rno (rno (rno (rno ?_)))
    refine rv (D.bool true) ?_
    refine rv (D.bool true) ?_
    refine rno (rno (rno (rno ?_)))
    refine rv (D.bool true) ?_
    refine k_done (k_skip_seq (kct (k_seq ?_)))
    refine rv (D.bool true) ?_
    refine k_done (k_skip_seq (k_ret ?_))
    exact ⟨.inr rfl, by kernel_rfl, by kernel_rfl⟩
  by_cases h3 : checkF 41 f = 0
  case neg =>
    refine ⟨[], ?_⟩
    refine call_of (m := m10) rfl rfl (by decide) (k_start ?_)
    unfold m10
    refine k_seq ?_
    refine rgf (D.lptr (2 : Nat) (0 : Nat)) ([]) ?_
    refine rv (D.bool false) ?_
    refine k_done (k_skip_seq (k_seq ?_))
    refine runs_call ([]) (by kernel_rfl) (by kernel_rfl) (by kernel_rfl) (by kernel_rfl) (awake19_ok) (by kernel_rfl) ?_
    refine ra0 (D.bool true) ?_
    refine k_done (k_skip_seq (k_seq (k_seq ?_)))
    refine rv (D.bool true) ?_
    refine rv (D.bool false) ?_
    refine k_done (k_skip_seq (kcf (k_skip_seq (k_seq ?_))))
    refine rv (D.agg [D.int IntKind.i64 (Fm.op f), D.int IntKind.i64 (Fm.n f), D.sl (eFs (Fm.kids f)) none]) ?_
    refine runs_call ([D.agg [D.int IntKind.i64 (Fm.op f), D.int IntKind.i64 (Fm.n f), D.sl (eFs (Fm.kids f)) none], D.int IntKind.i64 (0 : Int)]) (by kernel_rfl) (by kernel_rfl) (by kernel_rfl) (by kernel_rfl) (hb) (by kernel_rfl) ?_
    refine ra0 (D.bool true) ?_
    refine k_done (k_skip_seq (k_seq (k_seq ?_)))
    refine rv (D.bool true) ?_
    refine rv (D.bool false) ?_
    refine rv (D.bool false) ?_
    refine rv (D.agg [D.int IntKind.i64 (Fm.op f), D.int IntKind.i64 (Fm.n f), D.sl (eFs (Fm.kids f)) none]) ?_
    refine runs_call ([D.agg [D.int IntKind.i64 (Fm.op f), D.int IntKind.i64 (Fm.n f), D.sl (eFs (Fm.kids f)) none]]) (by kernel_rfl) (by kernel_rfl) (by kernel_rfl) (by kernel_rfl) (hw) (by kernel_rfl) ?_
    refine rv (D.bool (decide (weightR (41 : Nat) f > (40 : Int)))) ?_
    refine rv (D.bool (decide (weightR (41 : Nat) f > (40 : Int)))) ?_
    refine rv (D.bool (decide (weightR (41 : Nat) f > (40 : Int)))) ?_
    refine rkn 29 (decide (weightR (41 : Nat) f > (40 : Int))) false (decide_eq_false (by assumption)) ?_
    refine rv (D.agg [D.int IntKind.i64 (Fm.op f), D.int IntKind.i64 (Fm.n f), D.sl (eFs (Fm.kids f)) none]) ?_
    refine runs_call ([D.agg [D.int IntKind.i64 (Fm.op f), D.int IntKind.i64 (Fm.n f), D.sl (eFs (Fm.kids f)) none]]) (by kernel_rfl) (by kernel_rfl) (by kernel_rfl) (by kernel_rfl) (k2) (by kernel_rfl) ?_
    refine runs_call ([D.agg [D.int IntKind.i64 (Fm.op f), D.int IntKind.i64 (Fm.n f), D.sl (eFs (Fm.kids f)) none]]) (by kernel_rfl) (by kernel_rfl) (by kernel_rfl) (by kernel_rfl) (k3) (by kernel_rfl) ?_
    refine rv (D.bool (checkF (41 : Nat) f != (0 : Int))) ?_
    refine rv (D.bool (checkF (41 : Nat) f != (0 : Int))) ?_
    refine rv (D.bool (checkF (41 : Nat) f != (0 : Int))) ?_
    refine rkn 35 (checkF (41 : Nat) f != (0 : Int)) true (bne_iff_ne.2 (by assumption)) ?_
    refine rno (rno (rno (rno ?_)))
    refine rv (D.bool true) ?_
    refine k_done (k_skip_seq (kct (k_seq ?_)))
    refine rv (D.bool true) ?_
    refine k_done (k_skip_seq (k_ret ?_))
    exact ⟨.inr rfl, by kernel_rfl, by kernel_rfl⟩
  have hmay := check0 h3
  rw [h3] at k3
  have e4 := refAtoms_ok 41 f 5000 [] hfit hmay (by omega)
  by_cases h4 : atomsR 41 f > 6
  · refine ⟨[], ?_⟩
    refine call_of (m := m10) rfl rfl (by decide) (k_start ?_)
    unfold m10
    refine k_seq ?_
    refine rgf (D.lptr (2 : Nat) (0 : Nat)) ([]) ?_
    refine rv (D.bool false) ?_
    refine k_done (k_skip_seq (k_seq ?_))
    refine runs_call ([]) (by kernel_rfl) (by kernel_rfl) (by kernel_rfl) (by kernel_rfl) (awake19_ok) (by kernel_rfl) ?_
    refine ra0 (D.bool true) ?_
    refine k_done (k_skip_seq (k_seq (k_seq ?_)))
    refine rv (D.bool true) ?_
    refine rv (D.bool false) ?_
    refine k_done (k_skip_seq (kcf (k_skip_seq (k_seq ?_))))
    refine rv (D.agg [D.int IntKind.i64 (Fm.op f), D.int IntKind.i64 (Fm.n f), D.sl (eFs (Fm.kids f)) none]) ?_
    refine runs_call ([D.agg [D.int IntKind.i64 (Fm.op f), D.int IntKind.i64 (Fm.n f), D.sl (eFs (Fm.kids f)) none], D.int IntKind.i64 (0 : Int)]) (by kernel_rfl) (by kernel_rfl) (by kernel_rfl) (by kernel_rfl) (hb) (by kernel_rfl) ?_
    refine ra0 (D.bool true) ?_
    refine k_done (k_skip_seq (k_seq (k_seq ?_)))
    refine rv (D.bool true) ?_
    refine rv (D.bool false) ?_
    refine rv (D.bool false) ?_
    refine rv (D.agg [D.int IntKind.i64 (Fm.op f), D.int IntKind.i64 (Fm.n f), D.sl (eFs (Fm.kids f)) none]) ?_
    refine runs_call ([D.agg [D.int IntKind.i64 (Fm.op f), D.int IntKind.i64 (Fm.n f), D.sl (eFs (Fm.kids f)) none]]) (by kernel_rfl) (by kernel_rfl) (by kernel_rfl) (by kernel_rfl) (hw) (by kernel_rfl) ?_
    refine rv (D.bool (decide (weightR (41 : Nat) f > (40 : Int)))) ?_
    refine rv (D.bool (decide (weightR (41 : Nat) f > (40 : Int)))) ?_
    refine rv (D.bool (decide (weightR (41 : Nat) f > (40 : Int)))) ?_
    refine rkn 29 (decide (weightR (41 : Nat) f > (40 : Int))) false (decide_eq_false (by assumption)) ?_
    refine rv (D.agg [D.int IntKind.i64 (Fm.op f), D.int IntKind.i64 (Fm.n f), D.sl (eFs (Fm.kids f)) none]) ?_
    refine runs_call ([D.agg [D.int IntKind.i64 (Fm.op f), D.int IntKind.i64 (Fm.n f), D.sl (eFs (Fm.kids f)) none]]) (by kernel_rfl) (by kernel_rfl) (by kernel_rfl) (by kernel_rfl) (k2) (by kernel_rfl) ?_
    refine runs_call ([D.agg [D.int IntKind.i64 (Fm.op f), D.int IntKind.i64 (Fm.n f), D.sl (eFs (Fm.kids f)) none]]) (by kernel_rfl) (by kernel_rfl) (by kernel_rfl) (by kernel_rfl) (k3) (by kernel_rfl) ?_
    refine rv (D.bool false) ?_
    refine rv (D.bool false) ?_
    refine rv (D.bool false) ?_
    refine rv (D.agg [D.int IntKind.i64 (Fm.op f), D.int IntKind.i64 (Fm.n f), D.sl (eFs (Fm.kids f)) none]) ?_
    refine runs_call ([D.agg [D.int IntKind.i64 (Fm.op f), D.int IntKind.i64 (Fm.n f), D.sl (eFs (Fm.kids f)) none]]) (by kernel_rfl) (by kernel_rfl) (by kernel_rfl) (by kernel_rfl) (k2) (by kernel_rfl) ?_
    refine runs_call ([D.agg [D.int IntKind.i64 (Fm.op f), D.int IntKind.i64 (Fm.n f), D.sl (eFs (Fm.kids f)) none]]) (by kernel_rfl) (by kernel_rfl) (by kernel_rfl) (by kernel_rfl) (e4) (by kernel_rfl) ?_
    refine rv (D.bool (decide (atomsR (41 : Nat) f > (6 : Int)))) ?_
    refine rv (D.bool (decide (atomsR (41 : Nat) f > (6 : Int)))) ?_
    refine k_done (k_skip_seq ?_)
    refine rkn 40 (decide (atomsR (41 : Nat) f > (6 : Int))) true (decide_eq_true (by assumption)) ?_
    refine kct (k_seq ?_)
    refine rv (D.bool true) ?_
    refine k_done (k_skip_seq (k_ret ?_))
    exact ⟨.inr rfl, by kernel_rfl, by kernel_rfl⟩
  have hnod := weight_nodes 41 f hfit (by omega)
  have hlow := atoms_low 6 41 f hfit (by omega)
  have e5 := of_ok 40 f 4999 none hfit hmay (by show atomsR 41 f ≤ 6; omega) (by omega) (by omega) (by omega)
  have hok := of_OK (B := 6) (by omega) hfit hmay hlow (Int.le_refl 6)
  have hcount := fun m hm h64 => count_ok t (d := 41) (f := f) (m := m) hfit hmay hlow hm h64
  have e6 := refEval_ok 41 f t none 5000 [] hfit hmay ht (by omega)
  have e7 := refSimple_ok 41 f 5000 [] hfit hmay (by omega)
  have hs1 : (simpleR 41 f).op = 1 → evalR 41 f t = true := by
    intro h
    rw [← simple_eval t 41 f hfit hmay]
    show (if (simpleR 41 f).op = 1 then true else _) = true
    rw [if_pos h]
  have hup := hok.up
  have htop := hok.top
  have hcl := hok.cl
  have hnum := hok.num
  change ∃ σ', callN T (4999 + 1) 30 _ [] = some (.tup [.sl (rows (ofR 41 f 6).1) none, .int .i64 (ofR 41 f 6).2], σ') at e5
  obtain ⟨σ1, e5⟩ := e5
  generalize hr : ofR 41 f 6 = r at *
  obtain ⟨m, hm⟩ : ∃ m : Nat, r.2 = ((m + 6 : Nat) : Int) := ⟨(r.2 - 6).toNat, by omega⟩
  obtain ⟨l, n⟩ := r
  simp only [] at *
  subst hm
  by_cases h10 : m > 10
  · refine ⟨[], ?_⟩
    refine call_of (m := m10) rfl rfl (by decide) (k_start ?_)
    unfold m10
    refine k_seq ?_
    refine rgf (D.lptr (2 : Nat) (0 : Nat)) ([]) ?_
    refine rv (D.bool false) ?_
    refine k_done (k_skip_seq (k_seq ?_))
    refine runs_call ([]) (by kernel_rfl) (by kernel_rfl) (by kernel_rfl) (by kernel_rfl) (awake19_ok) (by kernel_rfl) ?_
    refine ra0 (D.bool true) ?_
    refine k_done (k_skip_seq (k_seq (k_seq ?_)))
    refine rv (D.bool true) ?_
    refine rv (D.bool false) ?_
    refine k_done (k_skip_seq (kcf (k_skip_seq (k_seq ?_))))
    refine rv (D.agg [D.int IntKind.i64 (Fm.op f), D.int IntKind.i64 (Fm.n f), D.sl (eFs (Fm.kids f)) none]) ?_
    refine runs_call ([D.agg [D.int IntKind.i64 (Fm.op f), D.int IntKind.i64 (Fm.n f), D.sl (eFs (Fm.kids f)) none], D.int IntKind.i64 (0 : Int)]) (by kernel_rfl) (by kernel_rfl) (by kernel_rfl) (by kernel_rfl) (hb) (by kernel_rfl) ?_
    refine ra0 (D.bool true) ?_
    refine k_done (k_skip_seq (k_seq (k_seq ?_)))
    refine rv (D.bool true) ?_
    refine rv (D.bool false) ?_
    refine rv (D.bool false) ?_
    refine rv (D.agg [D.int IntKind.i64 (Fm.op f), D.int IntKind.i64 (Fm.n f), D.sl (eFs (Fm.kids f)) none]) ?_
    refine runs_call ([D.agg [D.int IntKind.i64 (Fm.op f), D.int IntKind.i64 (Fm.n f), D.sl (eFs (Fm.kids f)) none]]) (by kernel_rfl) (by kernel_rfl) (by kernel_rfl) (by kernel_rfl) (hw) (by kernel_rfl) ?_
    refine rv (D.bool (decide (weightR (41 : Nat) f > (40 : Int)))) ?_
    refine rv (D.bool (decide (weightR (41 : Nat) f > (40 : Int)))) ?_
    refine rv (D.bool (decide (weightR (41 : Nat) f > (40 : Int)))) ?_
    refine rkn 29 (decide (weightR (41 : Nat) f > (40 : Int))) false (decide_eq_false (by assumption)) ?_
    refine rv (D.agg [D.int IntKind.i64 (Fm.op f), D.int IntKind.i64 (Fm.n f), D.sl (eFs (Fm.kids f)) none]) ?_
    refine runs_call ([D.agg [D.int IntKind.i64 (Fm.op f), D.int IntKind.i64 (Fm.n f), D.sl (eFs (Fm.kids f)) none]]) (by kernel_rfl) (by kernel_rfl) (by kernel_rfl) (by kernel_rfl) (k2) (by kernel_rfl) ?_
    refine runs_call ([D.agg [D.int IntKind.i64 (Fm.op f), D.int IntKind.i64 (Fm.n f), D.sl (eFs (Fm.kids f)) none]]) (by kernel_rfl) (by kernel_rfl) (by kernel_rfl) (by kernel_rfl) (k3) (by kernel_rfl) ?_
    refine rv (D.bool false) ?_
    refine rv (D.bool false) ?_
    refine rv (D.bool false) ?_
    refine rv (D.agg [D.int IntKind.i64 (Fm.op f), D.int IntKind.i64 (Fm.n f), D.sl (eFs (Fm.kids f)) none]) ?_
    refine runs_call ([D.agg [D.int IntKind.i64 (Fm.op f), D.int IntKind.i64 (Fm.n f), D.sl (eFs (Fm.kids f)) none]]) (by kernel_rfl) (by kernel_rfl) (by kernel_rfl) (by kernel_rfl) (k2) (by kernel_rfl) ?_
    refine runs_call ([D.agg [D.int IntKind.i64 (Fm.op f), D.int IntKind.i64 (Fm.n f), D.sl (eFs (Fm.kids f)) none]]) (by kernel_rfl) (by kernel_rfl) (by kernel_rfl) (by kernel_rfl) (e4) (by kernel_rfl) ?_
    refine rv (D.bool (decide (atomsR (41 : Nat) f > (6 : Int)))) ?_
    refine rv (D.bool (decide (atomsR (41 : Nat) f > (6 : Int)))) ?_
    refine k_done (k_skip_seq ?_)
    refine rkn 40 (decide (atomsR (41 : Nat) f > (6 : Int))) false (decide_eq_false (by assumption)) ?_
    refine kcf (k_skip_seq (k_seq ?_))
    refine rv (D.agg [D.int IntKind.i64 (Fm.op f), D.int IntKind.i64 (Fm.n f), D.sl (eFs (Fm.kids f)) none]) ?_
    refine runs_call ([D.agg [D.int IntKind.i64 (Fm.op f), D.int IntKind.i64 (Fm.n f), D.sl (eFs (Fm.kids f)) none], D.int IntKind.i64 (6 : Int)]) (by kernel_rfl) (by kernel_rfl) (by kernel_rfl) (by kernel_rfl) (e5) (by kernel_rfl) ?_
    refine rv (D.tup [D.sl (rows l) none, D.int IntKind.i64 (↑(m + (6 : Nat)) : Int)]) ?_
    refine rv (D.sl (rows l) none) ?_
    refine rv (D.int IntKind.i64 (↑(m + (6 : Nat)) : Int)) ?_
    refine ra0 (D.sl (rows l) none) ?_
    refine ra0 (D.int IntKind.i64 (↑(m + (6 : Nat)) : Int)) ?_
    refine k_done (k_skip_seq (k_seq ?_))
    refine rv (D.int IntKind.i64 (↑(m + (6 : Nat)) : Int)) ?_
    refine rve (D.int IntKind.i64 (IntKind.wrap IntKind.i64 ((↑(m + (6 : Nat)) : Int) - (6 : Int)))) (.int IntKind.i64 ((m + (6 : Nat) - 6 : Nat) : Int)) (congrArg (D.int IntKind.i64) (show IntKind.wrap IntKind.i64 ((↑(m + (6 : Nat)) : Int) - (6 : Int)) = ((m + (6 : Nat) - 6 : Nat) : Int) from wrap_eq (by omega) (by omega) (by omega))) ?_
    refine ra0 (D.int IntKind.i64 (↑(m + (6 : Nat) - (6 : Nat)) : Int)) ?_
    refine k_done (k_skip_seq (k_seq (k_seq ?_)))
    refine rv (D.int IntKind.i64 (↑(m + (6 : Nat) - (6 : Nat)) : Int)) ?_
    refine rv (D.bool false) ?_
    refine rv (D.bool false) ?_
    refine rv (D.int IntKind.i64 (↑(m + (6 : Nat) - (6 : Nat)) : Int)) ?_
    refine rv (D.bool (decide ((↑(m + (6 : Nat) - (6 : Nat)) : Int) > (10 : Int)))) ?_
    refine rv (D.bool (decide ((↑(m + (6 : Nat) - (6 : Nat)) : Int) > (10 : Int)))) ?_
    refine k_done (k_skip_seq ?_)
    refine rkn 53 (decide ((↑(m + (6 : Nat) - (6 : Nat)) : Int) > (10 : Int))) true (decide_eq_true (by omega)) ?_
    refine kct (k_seq ?_)
    refine rv (D.int IntKind.i64 (↑(m + (6 : Nat) - (6 : Nat)) : Int)) ?_
    refine rv (D.bool (decide ((↑(m + (6 : Nat) - (6 : Nat)) : Int) > (10 : Int)))) ?_
    refine ra0 (D.bool (decide ((↑(m + (6 : Nat) - (6 : Nat)) : Int) > (10 : Int)))) ?_
    refine k_done (k_skip_seq (k_ret ?_))
    refine ⟨.inr rfl, by kernel_rfl, ?_⟩
    exact Eq.trans (b := some (D.bool (decide (((m : Nat) : Int) > 10)), [])) (by show _ = _; kernel_rfl) (by rw [decide_eq_true (by omega)])
  have hcnt := hcount m (by omega) (by omega)
  have h2m : 2 ^ m ≤ 1024 := Nat.le_trans (Nat.pow_le_pow_right (by omega) (by omega : m ≤ 10)) (by decide)
  have hsh : IntKind.wrap IntKind.i64 ((1 : Int) * (2 : Int) ^ min (Int.toNat (IntKind.wrap IntKind.u64 (m : Int))) (IntKind.bits IntKind.i64)) = ((2 ^ m : Nat) : Int) := shl_ok (m := m) (by omega)
  refine call_ofE (m := m10) rfl rfl (by decide) (k_start ?_)
  unfold m10
  refine k_seq ?_
  refine rgf (D.lptr (2 : Nat) (0 : Nat)) ([]) ?_
  refine rv (D.bool false) ?_
  refine k_done (k_skip_seq (k_seq ?_))
  refine runs_call ([]) (by kernel_rfl) (by kernel_rfl) (by kernel_rfl) (by kernel_rfl) (awake19_ok) (by kernel_rfl) ?_
  refine ra0 (D.bool true) ?_
  refine k_done (k_skip_seq (k_seq (k_seq ?_)))
  refine rv (D.bool true) ?_
  refine rv (D.bool false) ?_
  refine k_done (k_skip_seq (kcf (k_skip_seq (k_seq ?_))))
  refine rv (D.agg [D.int IntKind.i64 (Fm.op f), D.int IntKind.i64 (Fm.n f), D.sl (eFs (Fm.kids f)) none]) ?_
  refine runs_call ([D.agg [D.int IntKind.i64 (Fm.op f), D.int IntKind.i64 (Fm.n f), D.sl (eFs (Fm.kids f)) none], D.int IntKind.i64 (0 : Int)]) (by kernel_rfl) (by kernel_rfl) (by kernel_rfl) (by kernel_rfl) (hb) (by kernel_rfl) ?_
  refine ra0 (D.bool true) ?_
  refine k_done (k_skip_seq (k_seq (k_seq ?_)))
  refine rv (D.bool true) ?_
  refine rv (D.bool false) ?_
  refine rv (D.bool false) ?_
  refine rv (D.agg [D.int IntKind.i64 (Fm.op f), D.int IntKind.i64 (Fm.n f), D.sl (eFs (Fm.kids f)) none]) ?_
  refine runs_call ([D.agg [D.int IntKind.i64 (Fm.op f), D.int IntKind.i64 (Fm.n f), D.sl (eFs (Fm.kids f)) none]]) (by kernel_rfl) (by kernel_rfl) (by kernel_rfl) (by kernel_rfl) (hw) (by kernel_rfl) ?_
  refine rv (D.bool (decide (weightR (41 : Nat) f > (40 : Int)))) ?_
  refine rv (D.bool (decide (weightR (41 : Nat) f > (40 : Int)))) ?_
  refine rv (D.bool (decide (weightR (41 : Nat) f > (40 : Int)))) ?_
  refine rkn 29 (decide (weightR (41 : Nat) f > (40 : Int))) false (decide_eq_false (by assumption)) ?_
  refine rv (D.agg [D.int IntKind.i64 (Fm.op f), D.int IntKind.i64 (Fm.n f), D.sl (eFs (Fm.kids f)) none]) ?_
  refine runs_call ([D.agg [D.int IntKind.i64 (Fm.op f), D.int IntKind.i64 (Fm.n f), D.sl (eFs (Fm.kids f)) none]]) (by kernel_rfl) (by kernel_rfl) (by kernel_rfl) (by kernel_rfl) (k2) (by kernel_rfl) ?_
  refine runs_call ([D.agg [D.int IntKind.i64 (Fm.op f), D.int IntKind.i64 (Fm.n f), D.sl (eFs (Fm.kids f)) none]]) (by kernel_rfl) (by kernel_rfl) (by kernel_rfl) (by kernel_rfl) (k3) (by kernel_rfl) ?_
  refine rv (D.bool false) ?_
  refine rv (D.bool false) ?_
  refine rv (D.bool false) ?_
  refine rv (D.agg [D.int IntKind.i64 (Fm.op f), D.int IntKind.i64 (Fm.n f), D.sl (eFs (Fm.kids f)) none]) ?_
  refine runs_call ([D.agg [D.int IntKind.i64 (Fm.op f), D.int IntKind.i64 (Fm.n f), D.sl (eFs (Fm.kids f)) none]]) (by kernel_rfl) (by kernel_rfl) (by kernel_rfl) (by kernel_rfl) (k2) (by kernel_rfl) ?_
  refine runs_call ([D.agg [D.int IntKind.i64 (Fm.op f), D.int IntKind.i64 (Fm.n f), D.sl (eFs (Fm.kids f)) none]]) (by kernel_rfl) (by kernel_rfl) (by kernel_rfl) (by kernel_rfl) (e4) (by kernel_rfl) ?_
  refine rv (D.bool (decide (atomsR (41 : Nat) f > (6 : Int)))) ?_
  refine rv (D.bool (decide (atomsR (41 : Nat) f > (6 : Int)))) ?_
  refine k_done (k_skip_seq ?_)
  refine rkn 40 (decide (atomsR (41 : Nat) f > (6 : Int))) false (decide_eq_false (by assumption)) ?_
  refine kcf (k_skip_seq (k_seq ?_))
  refine rv (D.agg [D.int IntKind.i64 (Fm.op f), D.int IntKind.i64 (Fm.n f), D.sl (eFs (Fm.kids f)) none]) ?_
  refine runs_call ([D.agg [D.int IntKind.i64 (Fm.op f), D.int IntKind.i64 (Fm.n f), D.sl (eFs (Fm.kids f)) none], D.int IntKind.i64 (6 : Int)]) (by kernel_rfl) (by kernel_rfl) (by kernel_rfl) (by kernel_rfl) (e5) (by kernel_rfl) ?_
  refine rv (D.tup [D.sl (rows l) none, D.int IntKind.i64 (↑(m + (6 : Nat)) : Int)]) ?_
  refine rv (D.sl (rows l) none) ?_
  refine rv (D.int IntKind.i64 (↑(m + (6 : Nat)) : Int)) ?_
  refine ra0 (D.sl (rows l) none) ?_
  refine ra0 (D.int IntKind.i64 (↑(m + (6 : Nat)) : Int)) ?_
  refine k_done (k_skip_seq (k_seq ?_))
  refine rv (D.int IntKind.i64 (↑(m + (6 : Nat)) : Int)) ?_
  refine rve (D.int IntKind.i64 (IntKind.wrap IntKind.i64 ((↑(m + (6 : Nat)) : Int) - (6 : Int)))) (.int IntKind.i64 ((m + (6 : Nat) - 6 : Nat) : Int)) (congrArg (D.int IntKind.i64) (show IntKind.wrap IntKind.i64 ((↑(m + (6 : Nat)) : Int) - (6 : Int)) = ((m + (6 : Nat) - 6 : Nat) : Int) from wrap_eq (by omega) (by omega) (by omega))) ?_
  refine ra0 (D.int IntKind.i64 (↑(m + (6 : Nat) - (6 : Nat)) : Int)) ?_
  refine k_done (k_skip_seq (k_seq (k_seq ?_)))
  refine rv (D.int IntKind.i64 (↑(m + (6 : Nat) - (6 : Nat)) : Int)) ?_
  refine rv (D.bool false) ?_
  refine rv (D.bool false) ?_
  refine rv (D.int IntKind.i64 (↑(m + (6 : Nat) - (6 : Nat)) : Int)) ?_
  refine rv (D.bool (decide ((↑(m + (6 : Nat) - (6 : Nat)) : Int) > (10 : Int)))) ?_
  refine rv (D.bool (decide ((↑(m + (6 : Nat) - (6 : Nat)) : Int) > (10 : Int)))) ?_
  refine k_done (k_skip_seq ?_)
  refine rkn 53 (decide ((↑(m + (6 : Nat) - (6 : Nat)) : Int) > (10 : Int))) false (decide_eq_false (by omega)) ?_
  refine kcf (k_skip_seq (k_seq ?_))
  refine rv (D.int IntKind.i64 (0 : Int)) ?_
  refine k_done (k_skip_seq (k_seq (k_seq ?_)))
  refine rv (D.int IntKind.i64 (0 : Int)) ?_
  refine k_done (k_skip_seq (k_block ?_))
  generalize 2 ^ m = M at *
  refine k_loop (S := Nat × St × D × D × D) (fun s => f10 f t l m (cntX (fun x => metB l (asg t m x)) s.1) s.1 s.2.2.1 s.2.2.2.1 s.2.2.2.2) (fun s => s.2.1) (fun s => s.1 ≤ M) (fun s => M - s.1) (0, [], .junk, .junk, .junk) (by kernel_rfl) rfl (by simp) (by intro s hs; omega) ?_
  rintro ⟨x, σ0, d12, d13, d14⟩ hx
  simp only [] at hx
  show Runs (runC (callN T 5000) 5000 l10_2 (f10 f t l m (cntX (fun x => metB l (asg t m x)) x) x d12 d13 d14) σ0) _
  have hcle := cntX_le (fun x => metB l (asg t m x)) x
  by_cases hlt : x < M
  · have hcond : decide ((x : Int) < IntKind.wrap IntKind.i64 ((1 : Int) * (2 : Int) ^ min (Int.toNat (IntKind.wrap IntKind.u64 (m : Int))) (IntKind.bits IntKind.i64))) = true := by
      rw [hsh]
      exact decide_eq_true (by omega)
    have hc1 : cntX (fun x => metB l (asg t m x)) (x + 1) = cntX (fun x => metB l (asg t m x)) x + (if metB l (asg t m x) = true then 1 else 0) := rfl
    have e8 := progMet_ok 4993 l (asg t m x) none none (by omega) (by omega) (fun c hc => ⟨by have := (hcl c hc).1; omega, fun v hv => by have := (hcl c hc).2 v hv; omega⟩) (by rw [asg_len]; omega)
    have hsnap : snap (σ0 ++ [.cells (bls (asg t m x))]) [D.sl (rows l) none, D.msl σ0.length 0 (m + 6) 1] = some ([D.sl (rows l) none, D.sl (bools (asg t m x)) none], [σ0.length]) := by
      have he := elems_bls (last_get σ0 (.cells (bls (asg t m x))))
      rw [asg_len, Nat.add_comm] at he
      simp only [snap, he, Option.map_some]
    have hend := at2_end t x m
    generalize cntX (fun x => metB l (asg t m x)) x = c at *
    generalize metB l (asg t m x) = mt at *
    generalize asg t m x = L2 at *
    refine k_seq (k_seq ?_)
    refine rv (D.int IntKind.i64 (↑x : Int)) ?_
    refine rv (D.int IntKind.i64 (↑m : Int)) ?_
    refine rv (D.int IntKind.u64 (IntKind.wrap IntKind.u64 (↑m : Int))) ?_
    refine rv (D.int IntKind.i64 (IntKind.wrap IntKind.i64 ((1 : Int) * (2 : Int) ^ min (Int.toNat (IntKind.wrap IntKind.u64 (↑m : Int))) (IntKind.bits IntKind.i64)))) ?_
    refine rv (D.bool (decide ((↑x : Int) < IntKind.wrap IntKind.i64 ((1 : Int) * (2 : Int) ^ min (Int.toNat (IntKind.wrap IntKind.u64 (↑m : Int))) (IntKind.bits IntKind.i64))))) ?_
    refine k_done (k_skip_seq ?_)
    refine rkn 60 (decide ((↑x : Int) < IntKind.wrap IntKind.i64 ((1 : Int) * (2 : Int) ^ min (Int.toNat (IntKind.wrap IntKind.u64 (↑m : Int))) (IntKind.bits IntKind.i64)))) true (by assumption) ?_
    refine kct (k_skip_seq (k_seq (k_block (k_seq ?_))))
    refine rv (D.int IntKind.i64 (↑(m + (6 : Nat)) : Int)) ?_
    refine runs_make (m + (6 : Nat)) (bls (List.replicate (m + (6 : Nat)) false)) (by kernel_rfl) (by kernel_rfl) (by kernel_rfl) (by omega) (bls_new (m + (6 : Nat))) ?_
    refine ra0 (D.msl (List.length σ0) (0 : Nat) (m + (6 : Nat)) (1 : Nat)) ?_
    refine k_done (k_skip_seq (k_seq (k_seq ?_)))
    refine rv (D.int IntKind.i64 (0 : Int)) ?_
    refine k_done (k_skip_seq (k_block ?_))
    refine k_loop (S := Nat × D) (fun s => f10 f t l m c x (.msl σ0.length 0 (m + 6) 1) (.int .i64 s.1) s.2) (fun s => σ0 ++ [.cells (bls (rng (m + 6) (at1 t s.1)))]) (fun s => s.1 ≤ 6 ∧ s.1 ≤ t.length) (fun s => 6 - s.1) (0, keptD [10, 2, 1, 11, 12, 7, 14, 9, 13, 8, 0, 4] d14) (by kernel_rfl) (by rw [rng_zero]; rfl) (by simp) (by intro s hs; omega) ?_
    rintro ⟨i, e14⟩ ⟨hi, hi2⟩
    simp only [] at hi hi2
    show Runs (runC (callN T 5000) 5000 l10_0 (f10 f t l m c x (.msl σ0.length 0 (m + 6) 1) (.int .i64 i) e14) (σ0 ++ [.cells (bls (rng (m + 6) (at1 t i)))])) _
    by_cases h6 : i < 6
    · by_cases ht2 : i < t.length
      · have hL := rng_len (m + 6) (at1 t i)
        have hnext := at1_next (n := m + 6) ht2
        generalize rng (m + 6) (at1 t i) = L at *
        refine k_seq (k_seq ?_)
        refine rv (D.int IntKind.i64 (↑i : Int)) ?_
        refine rv (D.bool (decide ((↑i : Int) < (6 : Int)))) ?_
        refine rv (D.bool (decide ((↑i : Int) < (6 : Int)))) ?_
        refine rkn 67 (decide ((↑i : Int) < (6 : Int))) true (decide_eq_true (by omega)) ?_
        refine rv (D.int IntKind.i64 (↑i : Int)) ?_
        refine rv (D.sl (bools t) none) ?_
        refine rve (D.int IntKind.i64 (↑(List.length (bools t)) : Int)) (.int IntKind.i64 ((↑(List.length t) : Int))) (by simp only [ints, eInt, rows, eInts, bools, eBool, trips, eTrip, List.length_map]) ?_
        refine rv (D.bool (decide ((↑i : Int) < (↑(List.length t) : Int)))) ?_
        refine rv (D.bool (decide ((↑i : Int) < (↑(List.length t) : Int)))) ?_
        refine k_done (k_skip_seq ?_)
        refine rkn 72 (decide ((↑i : Int) < (↑(List.length t) : Int))) true (decide_eq_true (by omega)) ?_
        refine kct (k_skip_seq (k_seq (k_block ?_)))
        refine rv (D.msl (List.length σ0) (0 : Nat) (m + (6 : Nat)) (1 : Nat)) ?_
        refine rv (D.int IntKind.i64 (↑i : Int)) ?_
        refine rv (D.sl (bools t) none) ?_
        refine rv (D.int IntKind.i64 (↑i : Int)) ?_
        refine runs_index (t) (eBool) (o := none) (kd := IntKind.i64) (i) (by kernel_rfl) (by kernel_rfl) (by kernel_rfl) (by assumption) (by kernel_rfl) ?_
        refine rv (D.bool t[i]) ?_
        refine runs_indexM (kd := IntKind.i64) (List.length σ0) ((0 : Nat)) (m + (6 : Nat)) (i) (by kernel_rfl) (by kernel_rfl) (by kernel_rfl) (by omega) ?_
        refine runs_storeP (List.length σ0) ((0 : Nat) + i * (1 : Nat)) (bls L) (bls (List.set (L) ((0 : Nat) + i * (1 : Nat)) (t[i]))) (D.bool t[i]) (σ0 ++ [.cells (bls (List.set (L) ((0 : Nat) + i * (1 : Nat)) (t[i])))]) (by kernel_rfl) (by kernel_rfl) (by kernel_rfl) (by kernel_rfl) (by kernel_rfl) (by kernel_rfl) (last_get _ _) (by rw [bls_len]; first | assumption | omega | (simp; omega)) (bls_set _ _ _) (last_set _ _ _) ?_
        refine k_done (k_skip_block (k_skip_seq ?_))
        refine rv (D.int IntKind.i64 (↑i : Int)) ?_
        refine rve (D.int IntKind.i64 (IntKind.wrap IntKind.i64 ((↑i : Int) + (1 : Int)))) (.int IntKind.i64 ((i + 1 : Nat) : Int)) (congrArg (D.int IntKind.i64) (show IntKind.wrap IntKind.i64 ((↑i : Int) + (1 : Int)) = ((i + 1 : Nat) : Int) from wrap_eq (by omega) (by omega) (by omega))) ?_
        refine ra0 (D.int IntKind.i64 (↑(i + (1 : Nat)) : Int)) ?_
        refine k_done (k_skip_back ?_)
        refine ⟨(i + 1, keptD [10, 2, 1, 11, 12, 7, 14, 9, 13, 8, 0, 4] e14), ⟨h6, ht2⟩, by simp only []; omega, by kernel_rfl, ?_⟩
        simp only []
        rw [← hnext, Nat.mul_one, Nat.zero_add]
      · have hst := at1_end (t := t) (n := m + 6) (x := x) hi (.inr (by omega))
        rw [hst]
        refine k_seq (k_seq ?_)
        refine rv (D.int IntKind.i64 (↑i : Int)) ?_
        refine rv (D.bool (decide ((↑i : Int) < (6 : Int)))) ?_
        refine rv (D.bool (decide ((↑i : Int) < (6 : Int)))) ?_
        refine rkn 67 (decide ((↑i : Int) < (6 : Int))) true (decide_eq_true (by omega)) ?_
        refine rv (D.int IntKind.i64 (↑i : Int)) ?_
        refine rv (D.sl (bools t) none) ?_
        refine rve (D.int IntKind.i64 (↑(List.length (bools t)) : Int)) (.int IntKind.i64 ((↑(List.length t) : Int))) (by simp only [ints, eInt, rows, eInts, bools, eBool, trips, eTrip, List.length_map]) ?_
        refine rv (D.bool (decide ((↑i : Int) < (↑(List.length t) : Int)))) ?_
        refine rv (D.bool (decide ((↑i : Int) < (↑(List.length t) : Int)))) ?_
        refine k_done (k_skip_seq ?_)
        refine rkn 72 (decide ((↑i : Int) < (↑(List.length t) : Int))) false (decide_eq_false (by omega)) ?_
        refine kcf (k_exit_seq (k_exit_back (k_exit_hit rfl (k_skip_seq (k_seq (k_seq ?_))))))
        refine rv (D.int IntKind.i64 (0 : Int)) ?_
        refine k_done (k_skip_seq (k_block ?_))
        refine k_loop (fun k : Nat => f10 f t l m c x (.msl σ0.length 0 (m + 6) 1) (.int .i64 i) (.int .i64 k)) (fun k => σ0 ++ [.cells (bls (rng (m + 6) (at2 t x k)))]) (fun k => k ≤ m) (fun k => m - k) 0 (by kernel_rfl) rfl (by simp) (by intro s hs; omega) ?_
        intro k hk
        by_cases hkm : k < m
        · have hL := rng_len (m + 6) (at2 t x k)
          have hnext := at2_next (t := t) (n := m + 6) (x := x) (k := k)
          have hbit : (IntKind.wrap IntKind.i64 ((BitVec.ofInt (IntKind.bits IntKind.i64) (Int.fdiv (x : Int) (2 ^ min (IntKind.u64.wrap (k : Int)).toNat 64)) &&& BitVec.ofInt (IntKind.bits IntKind.i64) 1).toNat : Int) == 1) = x.testBit k := bit_ok (by omega) (by omega)
          generalize rng (m + 6) (at2 t x k) = L at *
          refine k_seq (k_seq ?_)
          refine rv (D.int IntKind.i64 (↑k : Int)) ?_
          refine rv (D.int IntKind.i64 (↑m : Int)) ?_
          refine rv (D.bool (decide ((↑k : Int) < (↑m : Int)))) ?_
          refine k_done (k_skip_seq ?_)
          refine rkn 84 (decide ((↑k : Int) < (↑m : Int))) true (decide_eq_true (by omega)) ?_
          refine kct (k_skip_seq (k_seq (k_block ?_)))
          refine rv (D.msl (List.length σ0) (0 : Nat) (m + (6 : Nat)) (1 : Nat)) ?_
          refine rv (D.int IntKind.i64 (↑k : Int)) ?_
          refine rve (D.int IntKind.i64 (IntKind.wrap IntKind.i64 ((6 : Int) + (↑k : Int)))) (.int IntKind.i64 ((6 : Int) + (↑k : Int))) (congrArg (D.int IntKind.i64) (show IntKind.wrap IntKind.i64 ((6 : Int) + (↑k : Int)) = ((6 : Int) + (↑k : Int)) from wrap_eq (by omega) (by omega) (by omega))) ?_
          refine rv (D.int IntKind.i64 (↑x : Int)) ?_
          refine rv (D.int IntKind.i64 (↑k : Int)) ?_
          refine rv (D.int IntKind.u64 (IntKind.wrap IntKind.u64 (↑k : Int))) ?_
          refine rv (D.int IntKind.i64 (Int.fdiv (↑x : Int) ((2 : Int) ^ min (Int.toNat (IntKind.wrap IntKind.u64 (↑k : Int))) (IntKind.bits IntKind.i64)))) ?_
          refine rv (D.int IntKind.i64 (IntKind.wrap IntKind.i64 (↑(BitVec.toNat (BitVec.ofInt (IntKind.bits IntKind.i64) (Int.fdiv (↑x : Int) ((2 : Int) ^ min (Int.toNat (IntKind.wrap IntKind.u64 (↑k : Int))) (IntKind.bits IntKind.i64))) &&& BitVec.ofInt (IntKind.bits IntKind.i64) (1 : Int))) : Int))) ?_
          refine rv (D.bool (IntKind.wrap IntKind.i64 (↑(BitVec.toNat (BitVec.ofInt (IntKind.bits IntKind.i64) (Int.fdiv (↑x : Int) ((2 : Int) ^ min (Int.toNat (IntKind.wrap IntKind.u64 (↑k : Int))) (IntKind.bits IntKind.i64))) &&& BitVec.ofInt (IntKind.bits IntKind.i64) (1 : Int))) : Int) == (1 : Int))) ?_
          refine runs_indexMI (kd := IntKind.i64) (List.length σ0) ((0 : Nat)) (m + (6 : Nat)) ((6 : Int) + (↑k : Int)) (by kernel_rfl) (by kernel_rfl) (by kernel_rfl) (by omega) (by omega) ?_
          refine runs_storeP (List.length σ0) ((0 : Nat) + Int.toNat ((6 : Int) + (↑k : Int)) * (1 : Nat)) (bls L) (bls (List.set (L) ((0 : Nat) + Int.toNat ((6 : Int) + (↑k : Int)) * (1 : Nat)) (IntKind.wrap IntKind.i64 (↑(BitVec.toNat (BitVec.ofInt (IntKind.bits IntKind.i64) (Int.fdiv (↑x : Int) ((2 : Int) ^ min (Int.toNat (IntKind.wrap IntKind.u64 (↑k : Int))) (IntKind.bits IntKind.i64))) &&& BitVec.ofInt (IntKind.bits IntKind.i64) (1 : Int))) : Int) == (1 : Int)))) (D.bool (IntKind.wrap IntKind.i64 (↑(BitVec.toNat (BitVec.ofInt (IntKind.bits IntKind.i64) (Int.fdiv (↑x : Int) ((2 : Int) ^ min (Int.toNat (IntKind.wrap IntKind.u64 (↑k : Int))) (IntKind.bits IntKind.i64))) &&& BitVec.ofInt (IntKind.bits IntKind.i64) (1 : Int))) : Int) == (1 : Int))) (σ0 ++ [.cells (bls (List.set (L) ((0 : Nat) + Int.toNat ((6 : Int) + (↑k : Int)) * (1 : Nat)) (IntKind.wrap IntKind.i64 (↑(BitVec.toNat (BitVec.ofInt (IntKind.bits IntKind.i64) (Int.fdiv (↑x : Int) ((2 : Int) ^ min (Int.toNat (IntKind.wrap IntKind.u64 (↑k : Int))) (IntKind.bits IntKind.i64))) &&& BitVec.ofInt (IntKind.bits IntKind.i64) (1 : Int))) : Int) == (1 : Int))))]) (by kernel_rfl) (by kernel_rfl) (by kernel_rfl) (by kernel_rfl) (by kernel_rfl) (by kernel_rfl) (last_get _ _) (by rw [bls_len]; first | assumption | omega | (simp; omega)) (bls_set _ _ _) (last_set _ _ _) ?_
          refine k_done (k_skip_block (k_skip_seq ?_))
          refine rv (D.int IntKind.i64 (↑k : Int)) ?_
          refine rve (D.int IntKind.i64 (IntKind.wrap IntKind.i64 ((↑k : Int) + (1 : Int)))) (.int IntKind.i64 ((k + 1 : Nat) : Int)) (congrArg (D.int IntKind.i64) (show IntKind.wrap IntKind.i64 ((↑k : Int) + (1 : Int)) = ((k + 1 : Nat) : Int) from wrap_eq (by omega) (by omega) (by omega))) ?_
          refine ra0 (D.int IntKind.i64 (↑(k + (1 : Nat)) : Int)) ?_
          refine k_done (k_skip_back ?_)
          refine ⟨k + 1, hkm, by omega, by kernel_rfl, ?_⟩
          have hix : (0 : Nat) + Int.toNat ((6 : Int) + (k : Int)) * (1 : Nat) = 6 + k := by omega
          rw [← hnext, ← hbit, hix]
          rfl
        · obtain rfl : k = m := by omega
          rw [hend]
          by_cases hmt : mt = true
          · rw [if_pos hmt] at hc1
            subst hmt
            refine k_seq (k_seq ?_)
            refine rv (D.int IntKind.i64 (↑k : Int)) ?_
            refine rv (D.int IntKind.i64 (↑k : Int)) ?_
            refine rv (D.bool (decide ((↑k : Int) < (↑k : Int)))) ?_
            refine k_done (k_skip_seq ?_)
            refine rkn 84 (decide ((↑k : Int) < (↑k : Int))) false (decide_eq_false (by omega)) ?_
            refine kcf (k_exit_seq (k_exit_back (k_exit_hit rfl (k_skip_seq (k_seq ?_)))))
            refine rv (D.sl (rows l) none) ?_
            refine rv (D.msl (List.length σ0) (0 : Nat) (k + (6 : Nat)) (1 : Nat)) ?_
            refine runs_callS ([D.sl (rows l) none, D.msl (List.length σ0) (0 : Nat) (k + (6 : Nat)) (1 : Nat)]) _ _ (by kernel_rfl) (by kernel_rfl) (by kernel_rfl) (by assumption) (e8) (by kernel_rfl) (by kernel_rfl) ?_
            refine k_done (k_skip_seq (kct ?_))
            refine rv (D.int IntKind.i64 (↑c : Int)) ?_
            refine rve (D.int IntKind.i64 (IntKind.wrap IntKind.i64 ((↑c : Int) + (1 : Int)))) (.int IntKind.i64 ((c + 1 : Nat) : Int)) (congrArg (D.int IntKind.i64) (show IntKind.wrap IntKind.i64 ((↑c : Int) + (1 : Int)) = ((c + 1 : Nat) : Int) from wrap_eq (by omega) (by omega) (by omega))) ?_
            refine ra0 (D.int IntKind.i64 (↑(c + (1 : Nat)) : Int)) ?_
            refine k_done (k_skip_block (k_skip_seq ?_))
            refine rv (D.int IntKind.i64 (↑x : Int)) ?_
            refine rve (D.int IntKind.i64 (IntKind.wrap IntKind.i64 ((↑x : Int) + (1 : Int)))) (.int IntKind.i64 ((x + 1 : Nat) : Int)) (congrArg (D.int IntKind.i64) (show IntKind.wrap IntKind.i64 ((↑x : Int) + (1 : Int)) = ((x + 1 : Nat) : Int) from wrap_eq (by omega) (by omega) (by omega))) ?_
            refine ra0 (D.int IntKind.i64 (↑(x + (1 : Nat)) : Int)) ?_
            refine k_done (k_skip_back ?_)
            exact ⟨(x + 1, σ0 ++ [.cells (bls L2)], .msl σ0.length 0 (k + 6) 1, .int .i64 i, .int .i64 k), hlt, by simp only []; omega, by simp only []; rw [hc1]; kernel_rfl, rfl⟩
          · rw [if_neg hmt] at hc1
            have hmt' : mt = false := by simpa using hmt
            subst hmt'
            refine k_seq (k_seq ?_)
            refine rv (D.int IntKind.i64 (↑k : Int)) ?_
            refine rv (D.int IntKind.i64 (↑k : Int)) ?_
            refine rv (D.bool (decide ((↑k : Int) < (↑k : Int)))) ?_
            refine k_done (k_skip_seq ?_)
            refine rkn 84 (decide ((↑k : Int) < (↑k : Int))) false (decide_eq_false (by omega)) ?_
            refine kcf (k_exit_seq (k_exit_back (k_exit_hit rfl (k_skip_seq (k_seq ?_)))))
            refine rv (D.sl (rows l) none) ?_
            refine rv (D.msl (List.length σ0) (0 : Nat) (k + (6 : Nat)) (1 : Nat)) ?_
            refine runs_callS ([D.sl (rows l) none, D.msl (List.length σ0) (0 : Nat) (k + (6 : Nat)) (1 : Nat)]) _ _ (by kernel_rfl) (by kernel_rfl) (by kernel_rfl) (by assumption) (e8) (by kernel_rfl) (by kernel_rfl) ?_
            refine k_done (k_skip_seq (kcf (k_skip_block (k_skip_seq ?_))))
            refine rv (D.int IntKind.i64 (↑x : Int)) ?_
            refine rve (D.int IntKind.i64 (IntKind.wrap IntKind.i64 ((↑x : Int) + (1 : Int)))) (.int IntKind.i64 ((x + 1 : Nat) : Int)) (congrArg (D.int IntKind.i64) (show IntKind.wrap IntKind.i64 ((↑x : Int) + (1 : Int)) = ((x + 1 : Nat) : Int) from wrap_eq (by omega) (by omega) (by omega))) ?_
            refine ra0 (D.int IntKind.i64 (↑(x + (1 : Nat)) : Int)) ?_
            refine k_done (k_skip_back ?_)
            exact ⟨(x + 1, σ0 ++ [.cells (bls L2)], .msl σ0.length 0 (k + 6) 1, .int .i64 i, .int .i64 k), hlt, by simp only []; omega, by simp only []; rw [hc1]; kernel_rfl, rfl⟩
    · have hst := at1_end (t := t) (n := m + 6) (x := x) hi (.inl (by omega))
      rw [hst]
      refine k_seq (k_seq ?_)
      refine rv (D.int IntKind.i64 (↑i : Int)) ?_
      refine rv (D.bool (decide ((↑i : Int) < (6 : Int)))) ?_
      refine rv (D.bool (decide ((↑i : Int) < (6 : Int)))) ?_
      refine rkn 67 (decide ((↑i : Int) < (6 : Int))) false (decide_eq_false (by omega)) ?_
      refine rno (rno (rno (rno ?_)))
      refine rv (D.bool false) ?_
      refine k_done (k_skip_seq (kcf (k_exit_seq (k_exit_back (k_exit_hit rfl (k_skip_seq (k_seq (k_seq ?_))))))))
      refine rv (D.int IntKind.i64 (0 : Int)) ?_
      refine k_done (k_skip_seq (k_block ?_))
      refine k_loop (fun k : Nat => f10 f t l m c x (.msl σ0.length 0 (m + 6) 1) (.int .i64 i) (.int .i64 k)) (fun k => σ0 ++ [.cells (bls (rng (m + 6) (at2 t x k)))]) (fun k => k ≤ m) (fun k => m - k) 0 (by kernel_rfl) rfl (by simp) (by intro s hs; omega) ?_
      intro k hk
      by_cases hkm : k < m
      · have hL := rng_len (m + 6) (at2 t x k)
        have hnext := at2_next (t := t) (n := m + 6) (x := x) (k := k)
        have hbit : (IntKind.wrap IntKind.i64 ((BitVec.ofInt (IntKind.bits IntKind.i64) (Int.fdiv (x : Int) (2 ^ min (IntKind.u64.wrap (k : Int)).toNat 64)) &&& BitVec.ofInt (IntKind.bits IntKind.i64) 1).toNat : Int) == 1) = x.testBit k := bit_ok (by omega) (by omega)
        generalize rng (m + 6) (at2 t x k) = L at *
        refine k_seq (k_seq ?_)
        refine rv (D.int IntKind.i64 (↑k : Int)) ?_
        refine rv (D.int IntKind.i64 (↑m : Int)) ?_
        refine rv (D.bool (decide ((↑k : Int) < (↑m : Int)))) ?_
        refine k_done (k_skip_seq ?_)
        refine rkn 84 (decide ((↑k : Int) < (↑m : Int))) true (decide_eq_true (by omega)) ?_
        refine kct (k_skip_seq (k_seq (k_block ?_)))
        refine rv (D.msl (List.length σ0) (0 : Nat) (m + (6 : Nat)) (1 : Nat)) ?_
        refine rv (D.int IntKind.i64 (↑k : Int)) ?_
        refine rve (D.int IntKind.i64 (IntKind.wrap IntKind.i64 ((6 : Int) + (↑k : Int)))) (.int IntKind.i64 ((6 : Int) + (↑k : Int))) (congrArg (D.int IntKind.i64) (show IntKind.wrap IntKind.i64 ((6 : Int) + (↑k : Int)) = ((6 : Int) + (↑k : Int)) from wrap_eq (by omega) (by omega) (by omega))) ?_
        refine rv (D.int IntKind.i64 (↑x : Int)) ?_
        refine rv (D.int IntKind.i64 (↑k : Int)) ?_
        refine rv (D.int IntKind.u64 (IntKind.wrap IntKind.u64 (↑k : Int))) ?_
        refine rv (D.int IntKind.i64 (Int.fdiv (↑x : Int) ((2 : Int) ^ min (Int.toNat (IntKind.wrap IntKind.u64 (↑k : Int))) (IntKind.bits IntKind.i64)))) ?_
        refine rv (D.int IntKind.i64 (IntKind.wrap IntKind.i64 (↑(BitVec.toNat (BitVec.ofInt (IntKind.bits IntKind.i64) (Int.fdiv (↑x : Int) ((2 : Int) ^ min (Int.toNat (IntKind.wrap IntKind.u64 (↑k : Int))) (IntKind.bits IntKind.i64))) &&& BitVec.ofInt (IntKind.bits IntKind.i64) (1 : Int))) : Int))) ?_
        refine rv (D.bool (IntKind.wrap IntKind.i64 (↑(BitVec.toNat (BitVec.ofInt (IntKind.bits IntKind.i64) (Int.fdiv (↑x : Int) ((2 : Int) ^ min (Int.toNat (IntKind.wrap IntKind.u64 (↑k : Int))) (IntKind.bits IntKind.i64))) &&& BitVec.ofInt (IntKind.bits IntKind.i64) (1 : Int))) : Int) == (1 : Int))) ?_
        refine runs_indexMI (kd := IntKind.i64) (List.length σ0) ((0 : Nat)) (m + (6 : Nat)) ((6 : Int) + (↑k : Int)) (by kernel_rfl) (by kernel_rfl) (by kernel_rfl) (by omega) (by omega) ?_
        refine runs_storeP (List.length σ0) ((0 : Nat) + Int.toNat ((6 : Int) + (↑k : Int)) * (1 : Nat)) (bls L) (bls (List.set (L) ((0 : Nat) + Int.toNat ((6 : Int) + (↑k : Int)) * (1 : Nat)) (IntKind.wrap IntKind.i64 (↑(BitVec.toNat (BitVec.ofInt (IntKind.bits IntKind.i64) (Int.fdiv (↑x : Int) ((2 : Int) ^ min (Int.toNat (IntKind.wrap IntKind.u64 (↑k : Int))) (IntKind.bits IntKind.i64))) &&& BitVec.ofInt (IntKind.bits IntKind.i64) (1 : Int))) : Int) == (1 : Int)))) (D.bool (IntKind.wrap IntKind.i64 (↑(BitVec.toNat (BitVec.ofInt (IntKind.bits IntKind.i64) (Int.fdiv (↑x : Int) ((2 : Int) ^ min (Int.toNat (IntKind.wrap IntKind.u64 (↑k : Int))) (IntKind.bits IntKind.i64))) &&& BitVec.ofInt (IntKind.bits IntKind.i64) (1 : Int))) : Int) == (1 : Int))) (σ0 ++ [.cells (bls (List.set (L) ((0 : Nat) + Int.toNat ((6 : Int) + (↑k : Int)) * (1 : Nat)) (IntKind.wrap IntKind.i64 (↑(BitVec.toNat (BitVec.ofInt (IntKind.bits IntKind.i64) (Int.fdiv (↑x : Int) ((2 : Int) ^ min (Int.toNat (IntKind.wrap IntKind.u64 (↑k : Int))) (IntKind.bits IntKind.i64))) &&& BitVec.ofInt (IntKind.bits IntKind.i64) (1 : Int))) : Int) == (1 : Int))))]) (by kernel_rfl) (by kernel_rfl) (by kernel_rfl) (by kernel_rfl) (by kernel_rfl) (by kernel_rfl) (last_get _ _) (by rw [bls_len]; first | assumption | omega | (simp; omega)) (bls_set _ _ _) (last_set _ _ _) ?_
        refine k_done (k_skip_block (k_skip_seq ?_))
        refine rv (D.int IntKind.i64 (↑k : Int)) ?_
        refine rve (D.int IntKind.i64 (IntKind.wrap IntKind.i64 ((↑k : Int) + (1 : Int)))) (.int IntKind.i64 ((k + 1 : Nat) : Int)) (congrArg (D.int IntKind.i64) (show IntKind.wrap IntKind.i64 ((↑k : Int) + (1 : Int)) = ((k + 1 : Nat) : Int) from wrap_eq (by omega) (by omega) (by omega))) ?_
        refine ra0 (D.int IntKind.i64 (↑(k + (1 : Nat)) : Int)) ?_
        refine k_done (k_skip_back ?_)
        refine ⟨k + 1, hkm, by omega, by kernel_rfl, ?_⟩
        have hix : (0 : Nat) + Int.toNat ((6 : Int) + (k : Int)) * (1 : Nat) = 6 + k := by omega
        rw [← hnext, ← hbit, hix]
        rfl
      · obtain rfl : k = m := by omega
        rw [hend]
        by_cases hmt : mt = true
        · rw [if_pos hmt] at hc1
          subst hmt
          refine k_seq (k_seq ?_)
          refine rv (D.int IntKind.i64 (↑k : Int)) ?_
          refine rv (D.int IntKind.i64 (↑k : Int)) ?_
          refine rv (D.bool (decide ((↑k : Int) < (↑k : Int)))) ?_
          refine k_done (k_skip_seq ?_)
          refine rkn 84 (decide ((↑k : Int) < (↑k : Int))) false (decide_eq_false (by omega)) ?_
          refine kcf (k_exit_seq (k_exit_back (k_exit_hit rfl (k_skip_seq (k_seq ?_)))))
          refine rv (D.sl (rows l) none) ?_
          refine rv (D.msl (List.length σ0) (0 : Nat) (k + (6 : Nat)) (1 : Nat)) ?_
          refine runs_callS ([D.sl (rows l) none, D.msl (List.length σ0) (0 : Nat) (k + (6 : Nat)) (1 : Nat)]) _ _ (by kernel_rfl) (by kernel_rfl) (by kernel_rfl) (by assumption) (e8) (by kernel_rfl) (by kernel_rfl) ?_
          refine k_done (k_skip_seq (kct ?_))
          refine rv (D.int IntKind.i64 (↑c : Int)) ?_
          refine rve (D.int IntKind.i64 (IntKind.wrap IntKind.i64 ((↑c : Int) + (1 : Int)))) (.int IntKind.i64 ((c + 1 : Nat) : Int)) (congrArg (D.int IntKind.i64) (show IntKind.wrap IntKind.i64 ((↑c : Int) + (1 : Int)) = ((c + 1 : Nat) : Int) from wrap_eq (by omega) (by omega) (by omega))) ?_
          refine ra0 (D.int IntKind.i64 (↑(c + (1 : Nat)) : Int)) ?_
          refine k_done (k_skip_block (k_skip_seq ?_))
          refine rv (D.int IntKind.i64 (↑x : Int)) ?_
          refine rve (D.int IntKind.i64 (IntKind.wrap IntKind.i64 ((↑x : Int) + (1 : Int)))) (.int IntKind.i64 ((x + 1 : Nat) : Int)) (congrArg (D.int IntKind.i64) (show IntKind.wrap IntKind.i64 ((↑x : Int) + (1 : Int)) = ((x + 1 : Nat) : Int) from wrap_eq (by omega) (by omega) (by omega))) ?_
          refine ra0 (D.int IntKind.i64 (↑(x + (1 : Nat)) : Int)) ?_
          refine k_done (k_skip_back ?_)
          exact ⟨(x + 1, σ0 ++ [.cells (bls L2)], .msl σ0.length 0 (k + 6) 1, .int .i64 i, .int .i64 k), hlt, by simp only []; omega, by simp only []; rw [hc1]; kernel_rfl, rfl⟩
        · rw [if_neg hmt] at hc1
          have hmt' : mt = false := by simpa using hmt
          subst hmt'
          refine k_seq (k_seq ?_)
          refine rv (D.int IntKind.i64 (↑k : Int)) ?_
          refine rv (D.int IntKind.i64 (↑k : Int)) ?_
          refine rv (D.bool (decide ((↑k : Int) < (↑k : Int)))) ?_
          refine k_done (k_skip_seq ?_)
          refine rkn 84 (decide ((↑k : Int) < (↑k : Int))) false (decide_eq_false (by omega)) ?_
          refine kcf (k_exit_seq (k_exit_back (k_exit_hit rfl (k_skip_seq (k_seq ?_)))))
          refine rv (D.sl (rows l) none) ?_
          refine rv (D.msl (List.length σ0) (0 : Nat) (k + (6 : Nat)) (1 : Nat)) ?_
          refine runs_callS ([D.sl (rows l) none, D.msl (List.length σ0) (0 : Nat) (k + (6 : Nat)) (1 : Nat)]) _ _ (by kernel_rfl) (by kernel_rfl) (by kernel_rfl) (by assumption) (e8) (by kernel_rfl) (by kernel_rfl) ?_
          refine k_done (k_skip_seq (kcf (k_skip_block (k_skip_seq ?_))))
          refine rv (D.int IntKind.i64 (↑x : Int)) ?_
          refine rve (D.int IntKind.i64 (IntKind.wrap IntKind.i64 ((↑x : Int) + (1 : Int)))) (.int IntKind.i64 ((x + 1 : Nat) : Int)) (congrArg (D.int IntKind.i64) (show IntKind.wrap IntKind.i64 ((↑x : Int) + (1 : Int)) = ((x + 1 : Nat) : Int) from wrap_eq (by omega) (by omega) (by omega))) ?_
          refine ra0 (D.int IntKind.i64 (↑(x + (1 : Nat)) : Int)) ?_
          refine k_done (k_skip_back ?_)
          exact ⟨(x + 1, σ0 ++ [.cells (bls L2)], .msl σ0.length 0 (k + 6) 1, .int .i64 i, .int .i64 k), hlt, by simp only []; omega, by simp only []; rw [hc1]; kernel_rfl, rfl⟩
  · have hcond : decide ((x : Int) < IntKind.wrap IntKind.i64 ((1 : Int) * (2 : Int) ^ min (Int.toNat (IntKind.wrap IntKind.u64 (m : Int))) (IntKind.bits IntKind.i64))) = false := by
      rw [hsh]
      exact decide_eq_false (by omega)
    obtain rfl : x = M := by omega
    rw [hcnt]
    by_cases hev : evalR 41 f t = true
    · rw [hev] at e6
      rw [if_pos hev]
      by_cases hs : (simpleR 41 f).op = 1
      · generalize simpleR 41 f = s at *
        refine k_seq (k_seq ?_)
        refine rv (D.int IntKind.i64 (↑x : Int)) ?_
        refine rv (D.int IntKind.i64 (↑m : Int)) ?_
        refine rv (D.int IntKind.u64 (IntKind.wrap IntKind.u64 (↑m : Int))) ?_
        refine rv (D.int IntKind.i64 (IntKind.wrap IntKind.i64 ((1 : Int) * (2 : Int) ^ min (Int.toNat (IntKind.wrap IntKind.u64 (↑m : Int))) (IntKind.bits IntKind.i64)))) ?_
        refine rv (D.bool (decide ((↑x : Int) < IntKind.wrap IntKind.i64 ((1 : Int) * (2 : Int) ^ min (Int.toNat (IntKind.wrap IntKind.u64 (↑m : Int))) (IntKind.bits IntKind.i64))))) ?_
        refine k_done (k_skip_seq ?_)
        refine rkn 60 (decide ((↑x : Int) < IntKind.wrap IntKind.i64 ((1 : Int) * (2 : Int) ^ min (Int.toNat (IntKind.wrap IntKind.u64 (↑m : Int))) (IntKind.bits IntKind.i64)))) false (by assumption) ?_
        refine kcf (k_exit_seq (k_exit_back (k_exit_hit rfl (k_skip_seq (k_seq ?_)))))
        refine rv (D.int IntKind.i64 (0 : Int)) ?_
        refine k_done (k_skip_seq (k_seq (k_seq ?_)))
        refine rv (D.agg [D.int IntKind.i64 (Fm.op f), D.int IntKind.i64 (Fm.n f), D.sl (eFs (Fm.kids f)) none]) ?_
        refine runs_call ([D.agg [D.int IntKind.i64 (Fm.op f), D.int IntKind.i64 (Fm.n f), D.sl (eFs (Fm.kids f)) none]]) (by kernel_rfl) (by kernel_rfl) (by kernel_rfl) (by kernel_rfl) (k2) (by kernel_rfl) ?_
        refine rv (D.sl (bools t) none) ?_
        refine runs_call ([D.agg [D.int IntKind.i64 (Fm.op f), D.int IntKind.i64 (Fm.n f), D.sl (eFs (Fm.kids f)) none], D.sl (bools t) none]) (by kernel_rfl) (by kernel_rfl) (by kernel_rfl) (by kernel_rfl) (e6) (by kernel_rfl) ?_
        refine k_done (k_skip_seq (kct ?_))
        refine rv (D.int IntKind.i64 (1 : Int)) ?_
        refine k_done (k_skip_seq (k_seq ?_))
        refine rv (D.agg [D.int IntKind.i64 (Fm.op f), D.int IntKind.i64 (Fm.n f), D.sl (eFs (Fm.kids f)) none]) ?_
        refine runs_call ([D.agg [D.int IntKind.i64 (Fm.op f), D.int IntKind.i64 (Fm.n f), D.sl (eFs (Fm.kids f)) none]]) (by kernel_rfl) (by kernel_rfl) (by kernel_rfl) (by kernel_rfl) (k2) (by kernel_rfl) ?_
        refine runs_call ([D.agg [D.int IntKind.i64 (Fm.op f), D.int IntKind.i64 (Fm.n f), D.sl (eFs (Fm.kids f)) none]]) (by kernel_rfl) (by kernel_rfl) (by kernel_rfl) (by kernel_rfl) (e7) (by kernel_rfl) ?_
        refine rgf (D.lptr (16 : Nat) (0 : Nat)) (σ0) ?_
        refine rgf (D.junk) (σ0) ?_
        refine k_done (k_skip_seq (k_seq (k_seq ?_)))
        refine rv (D.lptr (16 : Nat) (0 : Nat)) ?_
        refine rv (D.int IntKind.i64 (Fm.op s)) ?_
        refine rv (D.bool (Fm.op s == (1 : Int))) ?_
        refine k_done (k_skip_seq ?_)
        refine rkn 111 (Fm.op s == (1 : Int)) true (decide_eq_true (by assumption)) ?_
        refine kct ?_
        refine rv (D.int IntKind.i64 (1 : Int)) ?_
        refine k_done (k_skip_seq (k_seq ?_))
        refine rv (D.int IntKind.i64 (1 : Int)) ?_
        refine rv (D.int IntKind.i64 (1 : Int)) ?_
        refine rv (D.bool true) ?_
        refine ra0 (D.bool true) ?_
        refine k_done (k_skip_seq (k_ret ?_))
        exact ⟨.inr rfl, by kernel_rfl, σ0, by kernel_rfl⟩
      · generalize simpleR 41 f = s at *
        refine k_seq (k_seq ?_)
        refine rv (D.int IntKind.i64 (↑x : Int)) ?_
        refine rv (D.int IntKind.i64 (↑m : Int)) ?_
        refine rv (D.int IntKind.u64 (IntKind.wrap IntKind.u64 (↑m : Int))) ?_
        refine rv (D.int IntKind.i64 (IntKind.wrap IntKind.i64 ((1 : Int) * (2 : Int) ^ min (Int.toNat (IntKind.wrap IntKind.u64 (↑m : Int))) (IntKind.bits IntKind.i64)))) ?_
        refine rv (D.bool (decide ((↑x : Int) < IntKind.wrap IntKind.i64 ((1 : Int) * (2 : Int) ^ min (Int.toNat (IntKind.wrap IntKind.u64 (↑m : Int))) (IntKind.bits IntKind.i64))))) ?_
        refine k_done (k_skip_seq ?_)
        refine rkn 60 (decide ((↑x : Int) < IntKind.wrap IntKind.i64 ((1 : Int) * (2 : Int) ^ min (Int.toNat (IntKind.wrap IntKind.u64 (↑m : Int))) (IntKind.bits IntKind.i64)))) false (by assumption) ?_
        refine kcf (k_exit_seq (k_exit_back (k_exit_hit rfl (k_skip_seq (k_seq ?_)))))
        refine rv (D.int IntKind.i64 (0 : Int)) ?_
        refine k_done (k_skip_seq (k_seq (k_seq ?_)))
        refine rv (D.agg [D.int IntKind.i64 (Fm.op f), D.int IntKind.i64 (Fm.n f), D.sl (eFs (Fm.kids f)) none]) ?_
        refine runs_call ([D.agg [D.int IntKind.i64 (Fm.op f), D.int IntKind.i64 (Fm.n f), D.sl (eFs (Fm.kids f)) none]]) (by kernel_rfl) (by kernel_rfl) (by kernel_rfl) (by kernel_rfl) (k2) (by kernel_rfl) ?_
        refine rv (D.sl (bools t) none) ?_
        refine runs_call ([D.agg [D.int IntKind.i64 (Fm.op f), D.int IntKind.i64 (Fm.n f), D.sl (eFs (Fm.kids f)) none], D.sl (bools t) none]) (by kernel_rfl) (by kernel_rfl) (by kernel_rfl) (by kernel_rfl) (e6) (by kernel_rfl) ?_
        refine k_done (k_skip_seq (kct ?_))
        refine rv (D.int IntKind.i64 (1 : Int)) ?_
        refine k_done (k_skip_seq (k_seq ?_))
        refine rv (D.agg [D.int IntKind.i64 (Fm.op f), D.int IntKind.i64 (Fm.n f), D.sl (eFs (Fm.kids f)) none]) ?_
        refine runs_call ([D.agg [D.int IntKind.i64 (Fm.op f), D.int IntKind.i64 (Fm.n f), D.sl (eFs (Fm.kids f)) none]]) (by kernel_rfl) (by kernel_rfl) (by kernel_rfl) (by kernel_rfl) (k2) (by kernel_rfl) ?_
        refine runs_call ([D.agg [D.int IntKind.i64 (Fm.op f), D.int IntKind.i64 (Fm.n f), D.sl (eFs (Fm.kids f)) none]]) (by kernel_rfl) (by kernel_rfl) (by kernel_rfl) (by kernel_rfl) (e7) (by kernel_rfl) ?_
        refine rgf (D.lptr (16 : Nat) (0 : Nat)) (σ0) ?_
        refine rgf (D.junk) (σ0) ?_
        refine k_done (k_skip_seq (k_seq (k_seq ?_)))
        refine rv (D.lptr (16 : Nat) (0 : Nat)) ?_
        refine rv (D.int IntKind.i64 (Fm.op s)) ?_
        refine rv (D.bool (Fm.op s == (1 : Int))) ?_
        refine k_done (k_skip_seq ?_)
        refine rkn 111 (Fm.op s == (1 : Int)) false (decide_eq_false (by assumption)) ?_
        refine kcf (k_skip_seq (k_seq ?_))
        refine rv (D.int IntKind.i64 (1 : Int)) ?_
        refine rv (D.int IntKind.i64 (1 : Int)) ?_
        refine rv (D.bool true) ?_
        refine ra0 (D.bool true) ?_
        refine k_done (k_skip_seq (k_ret ?_))
        exact ⟨.inr rfl, by kernel_rfl, σ0, by kernel_rfl⟩
    · have hev' : evalR 41 f t = false := by simpa using hev
      have hs : ¬ (simpleR 41 f).op = 1 := fun h => hev (hs1 h)
      rw [hev'] at e6
      rw [if_neg hev]
      generalize simpleR 41 f = s at *
      refine k_seq (k_seq ?_)
      refine rv (D.int IntKind.i64 (↑x : Int)) ?_
      refine rv (D.int IntKind.i64 (↑m : Int)) ?_
      refine rv (D.int IntKind.u64 (IntKind.wrap IntKind.u64 (↑m : Int))) ?_
      refine rv (D.int IntKind.i64 (IntKind.wrap IntKind.i64 ((1 : Int) * (2 : Int) ^ min (Int.toNat (IntKind.wrap IntKind.u64 (↑m : Int))) (IntKind.bits IntKind.i64)))) ?_
      refine rv (D.bool (decide ((↑x : Int) < IntKind.wrap IntKind.i64 ((1 : Int) * (2 : Int) ^ min (Int.toNat (IntKind.wrap IntKind.u64 (↑m : Int))) (IntKind.bits IntKind.i64))))) ?_
      refine k_done (k_skip_seq ?_)
      refine rkn 60 (decide ((↑x : Int) < IntKind.wrap IntKind.i64 ((1 : Int) * (2 : Int) ^ min (Int.toNat (IntKind.wrap IntKind.u64 (↑m : Int))) (IntKind.bits IntKind.i64)))) false (by assumption) ?_
      refine kcf (k_exit_seq (k_exit_back (k_exit_hit rfl (k_skip_seq (k_seq ?_)))))
      refine rv (D.int IntKind.i64 (0 : Int)) ?_
      refine k_done (k_skip_seq (k_seq (k_seq ?_)))
      refine rv (D.agg [D.int IntKind.i64 (Fm.op f), D.int IntKind.i64 (Fm.n f), D.sl (eFs (Fm.kids f)) none]) ?_
      refine runs_call ([D.agg [D.int IntKind.i64 (Fm.op f), D.int IntKind.i64 (Fm.n f), D.sl (eFs (Fm.kids f)) none]]) (by kernel_rfl) (by kernel_rfl) (by kernel_rfl) (by kernel_rfl) (k2) (by kernel_rfl) ?_
      refine rv (D.sl (bools t) none) ?_
      refine runs_call ([D.agg [D.int IntKind.i64 (Fm.op f), D.int IntKind.i64 (Fm.n f), D.sl (eFs (Fm.kids f)) none], D.sl (bools t) none]) (by kernel_rfl) (by kernel_rfl) (by kernel_rfl) (by kernel_rfl) (e6) (by kernel_rfl) ?_
      refine k_done (k_skip_seq (kcf (k_skip_seq (k_seq ?_))))
      refine rv (D.agg [D.int IntKind.i64 (Fm.op f), D.int IntKind.i64 (Fm.n f), D.sl (eFs (Fm.kids f)) none]) ?_
      refine runs_call ([D.agg [D.int IntKind.i64 (Fm.op f), D.int IntKind.i64 (Fm.n f), D.sl (eFs (Fm.kids f)) none]]) (by kernel_rfl) (by kernel_rfl) (by kernel_rfl) (by kernel_rfl) (k2) (by kernel_rfl) ?_
      refine runs_call ([D.agg [D.int IntKind.i64 (Fm.op f), D.int IntKind.i64 (Fm.n f), D.sl (eFs (Fm.kids f)) none]]) (by kernel_rfl) (by kernel_rfl) (by kernel_rfl) (by kernel_rfl) (e7) (by kernel_rfl) ?_
      refine rgf (D.lptr (16 : Nat) (0 : Nat)) (σ0) ?_
      refine rgf (D.junk) (σ0) ?_
      refine k_done (k_skip_seq (k_seq (k_seq ?_)))
      refine rv (D.lptr (16 : Nat) (0 : Nat)) ?_
      refine rv (D.int IntKind.i64 (Fm.op s)) ?_
      refine rv (D.bool (Fm.op s == (1 : Int))) ?_
      refine k_done (k_skip_seq ?_)
      refine rkn 111 (Fm.op s == (1 : Int)) false (decide_eq_false (by assumption)) ?_
      refine kcf (k_skip_seq (k_seq ?_))
      refine rv (D.int IntKind.i64 (0 : Int)) ?_
      refine rv (D.int IntKind.i64 (0 : Int)) ?_
      refine rv (D.bool true) ?_
      refine ra0 (D.bool true) ?_
      refine k_done (k_skip_seq (k_ret ?_))
      exact ⟨.inr rfl, by kernel_rfl, σ0, by kernel_rfl⟩
end Go.Abs.A
