/-
  Truths by place, shifts and bits.
-/
import Derived.Test.YtjmhfliaehhijaaKont2
import Derived.Test.YtjmhfliaehhijaaTs
set_option linter.unusedVariables false
set_option linter.unusedSimpArgs false
namespace Go.Abs.A
open Go Go.Abs
set_option maxRecDepth 8000
attribute [local irreducible] callN runC evalOp

/-- Truths by place. -/
def rng (n : Nat) (F : Nat → Bool) : List Bool := (List.range n).map F
theorem rng_len (n : Nat) (F : Nat → Bool) : (rng n F).length = n := by simp [rng]
theorem rng_congr {n : Nat} {F G : Nat → Bool} (h : ∀ j, j < n → F j = G j) : rng n F = rng n G := List.map_congr_left fun j hj => h j (List.mem_range.1 hj)
theorem rng_set (n : Nat) (F : Nat → Bool) (i : Nat) (b : Bool) : (rng n F).set i b = rng n (fun j => if j = i then b else F j) := by
  apply List.ext_getElem
  · simp [rng]
  · intro j h1 h2
    simp only [rng, List.getElem_set, List.getElem_map, List.getElem_range]
    by_cases h : i = j
    · rw [if_pos h, if_pos h.symm]
    · rw [if_neg h, if_neg (fun q => h q.symm)]
theorem rng_zero (n : Nat) : List.replicate n false = rng n (fun _ => false) := by simp [rng, List.map_const']
def at1 (t : List Bool) (i j : Nat) : Bool := if j < i then t.getD j false else false
def at2 (t : List Bool) (x k j : Nat) : Bool := if j < 6 then t.getD j false else if j < 6 + k then x.testBit (j - 6) else false
theorem at1_next {t : List Bool} {n i : Nat} (h : i < t.length) : (rng n (at1 t i)).set i t[i] = rng n (at1 t (i + 1)) := by
  rw [rng_set]
  refine rng_congr fun j _ => ?_
  unfold at1
  by_cases hj : j = i
  · subst hj
    rw [if_pos rfl, if_pos (by omega), List.getD_eq_getElem?_getD, List.getElem?_eq_getElem h]
    rfl
  · rw [if_neg hj]
    by_cases hj2 : j < i
    · rw [if_pos hj2, if_pos (by omega)]
    · rw [if_neg hj2, if_neg (by omega)]
theorem at1_end {t : List Bool} {n i x : Nat} (h : i ≤ 6) (h2 : i = 6 ∨ t.length ≤ i) : rng n (at1 t i) = rng n (at2 t x 0) := by
  refine rng_congr fun j _ => ?_
  unfold at1 at2
  by_cases h6 : j < 6
  · rw [if_pos h6]
    by_cases hj : j < i
    · rw [if_pos hj]
    · rw [if_neg hj, List.getD_eq_getElem?_getD, List.getElem?_eq_none (by omega)]
      rfl
  · rw [if_neg h6, if_neg (by omega), if_neg (by omega)]
theorem at2_next {t : List Bool} {n x k : Nat} : (rng n (at2 t x k)).set (6 + k) (x.testBit k) = rng n (at2 t x (k + 1)) := by
  rw [rng_set]
  refine rng_congr fun j _ => ?_
  unfold at2
  by_cases hj : j = 6 + k
  · subst hj
    rw [if_pos rfl, if_neg (by omega), if_pos (by omega)]
    congr 1
    omega
  · rw [if_neg hj]
    by_cases h6 : j < 6
    · rw [if_pos h6, if_pos h6]
    · rw [if_neg h6, if_neg h6]
      by_cases hk : j < 6 + k
      · rw [if_pos hk, if_pos (by omega)]
      · rw [if_neg hk, if_neg (by omega)]
theorem at2_end (t : List Bool) (x m : Nat) : rng (m + 6) (at2 t x m) = asg t m x := by
  apply List.ext_getElem
  · rw [rng_len, asg_len, Nat.add_comm]
  · intro j h1 h2
    rw [rng_len] at h1
    simp only [rng, asg, List.getElem_map, List.getElem_range, List.getElem_append, List.length_map, List.length_range]
    unfold at2
    by_cases h6 : j < 6
    · rw [if_pos h6, dif_pos h6]
    · rw [if_neg h6, dif_neg h6, if_pos (by omega)]
theorem u64_id {n : Nat} (h : n < 1000) : IntKind.u64.wrap (n : Int) = n := by
  show (n : Int) % 18446744073709551616 = n
  omega
theorem shl_ok {m : Nat} (h : m ≤ 10) : IntKind.i64.wrap (1 * 2 ^ min (IntKind.u64.wrap (m : Int)).toNat 64) = ((2 ^ m : Nat) : Int) := by
  rw [u64_id (by omega)]
  have : min ((m : Int)).toNat 64 = m := by omega
  rw [this]
  have : m = 0 ∨ m = 1 ∨ m = 2 ∨ m = 3 ∨ m = 4 ∨ m = 5 ∨ m = 6 ∨ m = 7 ∨ m = 8 ∨ m = 9 ∨ m = 10 := by omega
  rcases this with h | h | h | h | h | h | h | h | h | h | h <;> subst h <;> rfl
theorem bit_ok {x i : Nat} (hx : x < 1024) (hi : i < 10) : (IntKind.i64.wrap ((BitVec.ofInt 64 (Int.fdiv (x : Int) (2 ^ min (IntKind.u64.wrap (i : Int)).toNat 64)) &&& BitVec.ofInt 64 1).toNat : Int) == 1) = x.testBit i := by
  rw [u64_id (by omega)]
  have : min ((i : Int)).toNat 64 = i := by omega
  rw [this]
  have e : Int.fdiv (x : Int) (2 ^ i) = ((x / 2 ^ i : Nat) : Int) := by
    rw [Int.fdiv_eq_ediv_of_nonneg _ (by exact Int.pow_nonneg (by omega))]
    simp
  rw [e]
  have hq : x / 2 ^ i < 1024 := Nat.lt_of_le_of_lt (Nat.div_le_self _ _) hx
  rw [Nat.testBit_eq_decide_div_mod_eq]
  generalize x / 2 ^ i = q at *
  have e2 : (BitVec.ofInt 64 (q : Int) &&& BitVec.ofInt 64 1).toNat = q % 2 := by
    rw [BitVec.toNat_and]
    have h1 : (BitVec.ofInt 64 (q : Int)).toNat = q := by
      rw [BitVec.toNat_ofInt]
      omega
    have h2 : (BitVec.ofInt 64 1).toNat = 1 := rfl
    rw [h1, h2, Nat.and_one_is_mod]
  rw [e2, wrap_eq (m := ((q % 2 : Nat) : Int)) rfl (by omega) (by omega)]
  have : q % 2 = 0 ∨ q % 2 = 1 := by omega
  rcases this with h | h <;> rw [h] <;> rfl

end Go.Abs.A
