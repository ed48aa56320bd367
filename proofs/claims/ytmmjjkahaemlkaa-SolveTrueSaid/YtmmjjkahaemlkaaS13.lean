import Derived.Test.YtmmjjkahaemlkaaKont2
import Derived.Test.YtmmjjkahaemlkaaS12
set_option linter.unusedVariables false
set_option linter.unusedSimpArgs false
/-
  The statement SolveTrue as the machine code sees it.
-/
namespace Go.Abs.B
open Go Go.Abs
set_option maxRecDepth 8000
attribute [local irreducible] callN runC evalOp

/-- Truths by place. -/
def rng (n : Nat) (F : Nat → Bool) : List Bool := (List.range n).map F
theorem rng_len (n : Nat) (F : Nat → Bool) : (rng n F).length = n := by simp [rng]
theorem rng_congr {n : Nat} {F G : Nat → Bool} (h : ∀ j, j < n → F j = G j) : rng n F = rng n G := List.map_congr_left fun j hj => h j (List.mem_range.1 hj)
theorem rng_set (n : Nat) (F : Nat → Bool) (i : Nat) (b : Bool) : (rng n F).set i b = rng n (fun j => if j = i then b else F j) := by
  apply List.ext_getElem
  · simp [rng]
  · intro j h1 h2
    simp only [rng, List.getElem_set, List.getElem_map, List.getElem_range]
    by_cases h : i = j
    · rw [if_pos h, if_pos h.symm]
    · rw [if_neg h, if_neg (fun q => h q.symm)]
theorem rng_zero (n : Nat) : List.replicate n false = rng n (fun _ => false) := by simp [rng, List.map_const']
def at3 (x k j : Nat) : Bool := if j < k then x.testBit j else false
theorem at3_zero (n x : Nat) : rng n (fun _ => false) = rng n (at3 x 0) := rng_congr fun j _ => by unfold at3; rw [if_neg (by omega)]
theorem at3_next {n x k : Nat} : (rng n (at3 x k)).set k (x.testBit k) = rng n (at3 x (k + 1)) := by
  rw [rng_set]
  refine rng_congr fun j _ => ?_
  unfold at3
  by_cases hj : j = k
  · subst hj
    rw [if_pos rfl, if_pos (by omega)]
  · rw [if_neg hj]
    by_cases hk : j < k
    · rw [if_pos hk, if_pos (by omega)]
    · rw [if_neg hk, if_neg (by omega)]
theorem at3_end (x n : Nat) : rng n (at3 x n) = tX n x := List.map_congr_left fun j hj => if_pos (List.mem_range.1 hj)
theorem u64_id {n : Nat} (h : n < 1000) : IntKind.u64.wrap (n : Int) = n := by
  show (n : Int) % 18446744073709551616 = n
  omega
theorem shl_ok {m : Nat} (h : m ≤ 10) : IntKind.i64.wrap (1 * 2 ^ min (IntKind.u64.wrap (m : Int)).toNat 64) = ((2 ^ m : Nat) : Int) := by
  rw [u64_id (by omega)]
  have : min ((m : Int)).toNat 64 = m := by omega
  rw [this]
  have : m = 0 ∨ m = 1 ∨ m = 2 ∨ m = 3 ∨ m = 4 ∨ m = 5 ∨ m = 6 ∨ m = 7 ∨ m = 8 ∨ m = 9 ∨ m = 10 := by omega
  rcases this with h | h | h | h | h | h | h | h | h | h | h <;> subst h <;> rfl
theorem bit_ok {x i : Nat} (hx : x < 1024) (hi : i < 10) : (IntKind.i64.wrap ((BitVec.ofInt 64 (Int.fdiv (x : Int) (2 ^ min (IntKind.u64.wrap (i : Int)).toNat 64)) &&& BitVec.ofInt 64 1).toNat : Int) == 1) = x.testBit i := by
  rw [u64_id (by omega)]
  have : min ((i : Int)).toNat 64 = i := by omega
  rw [this]
  have e : Int.fdiv (x : Int) (2 ^ i) = ((x / 2 ^ i : Nat) : Int) := by
    rw [Int.fdiv_eq_ediv_of_nonneg _ (by exact Int.pow_nonneg (by omega))]
    simp
  rw [e]
  have hq : x / 2 ^ i < 1024 := Nat.lt_of_le_of_lt (Nat.div_le_self _ _) hx
  rw [Nat.testBit_eq_decide_div_mod_eq]
  generalize x / 2 ^ i = q at *
  have e2 : (BitVec.ofInt 64 (q : Int) &&& BitVec.ofInt 64 1).toNat = q % 2 := by
    rw [BitVec.toNat_and]
    have h1 : (BitVec.ofInt 64 (q : Int)).toNat = q := by
      rw [BitVec.toNat_ofInt]
      omega
    have h2 : (BitVec.ofInt 64 1).toNat = 1 := rfl
    rw [h1, h2, Nat.and_one_is_mod]
  rw [e2, wrap_eq (m := ((q % 2 : Nat) : Int)) rfl (by omega) (by omega)]
  have : q % 2 = 0 ∨ q % 2 = 1 := by omega
  rcases this with h | h <;> rw [h] <;> rfl
theorem and15 (x : Int) : 0 ≤ IntKind.i64.wrap (((BitVec.ofInt (IntKind.bits IntKind.i64) x &&& BitVec.ofInt (IntKind.bits IntKind.i64) 15).toNat : Nat) : Int) ∧ IntKind.i64.wrap (((BitVec.ofInt (IntKind.bits IntKind.i64) x &&& BitVec.ofInt (IntKind.bits IntKind.i64) 15).toNat : Nat) : Int) ≤ 15 := by
  have h : (BitVec.ofInt (IntKind.bits IntKind.i64) x &&& BitVec.ofInt (IntKind.bits IntKind.i64) 15).toNat ≤ 15 := by
    rw [BitVec.toNat_and]
    have h2 : (BitVec.ofInt (IntKind.bits IntKind.i64) 15).toNat = 15 := rfl
    rw [h2]
    exact Nat.and_le_right
  rw [wrap_eq rfl (by omega) (by omega)]
  omega

def f8 (l : List (List Int)) (V : Nat) (less : Int) (found : Bool) (x : Int) (d11 d12 : D) : Fr :=
  Fr.mk ([.sl (rows l) none, .int .i64 V, .int .i64 less, .junk, .junk, .junk, .bool false, .junk, .junk, .bool found, .int .i64 x, d11, d12] ++ List.replicate 126 .junk) (List.replicate 139 none) []
theorem awakeT_ok : callN T 40000 22 [] [] = some (.bool true, []) := by kernel_rfl
set_option maxHeartbeats 1600000 in
theorem lawTrue20_ok (l : List (List Int)) (vars less : Int) (o : Option Nat) : ∃ σ, callN T 40001 8 [.sl (rows l) o, .int .i64 vars, .int .i64 less] [] = some (.bool true, σ) := by
  have htd := tidy20_ok 39999 l none [] (by omega)
  by_cases h1 : tidyB l = true
  case neg =>
    have h1' : tidyB l = false := by simpa using h1
    rw [h1'] at htd
    refine ⟨[], ?_⟩
    refine call_of (m := m8) rfl rfl (by decide) (k_start ?_)
    unfold m8
    refine k_seq ?_
    refine rv (D.bool false) ?_
    refine k_done (k_skip_seq (k_seq ?_))
    refine runs_call ([]) (by kernel_rfl) (by kernel_rfl) (by kernel_rfl) (by kernel_rfl) (awakeT_ok) (by kernel_rfl) ?_
    refine ra0 (D.bool true) ?_
    refine k_done (k_skip_seq (k_seq (k_seq ?_)))
    refine rv (D.bool true) ?_
    refine rv (D.bool false) ?_
    refine k_done (k_skip_seq (kcf (k_skip_seq (k_seq ?_))))
    refine rv (D.sl (rows l) none) ?_
    refine runs_call ([D.sl (rows l) none]) (by kernel_rfl) (by kernel_rfl) (by kernel_rfl) (by kernel_rfl) (htd) (by kernel_rfl) ?_
    refine ra0 (D.bool false) ?_
    refine k_done (k_skip_seq (k_seq (k_seq ?_)))
    refine rv (D.bool false) ?_
    refine rv (D.bool true) ?_
    refine rv (D.bool true) ?_
    refine rno (rno ?_)
    refine rv (D.bool true) ?_
    refine rv (D.bool true) ?_
    refine rno (rno (rno (rno ?_)))
    refine rv (D.bool true) ?_
    refine k_done (k_skip_seq (kct (k_seq ?_)))
    refine rv (D.bool true) ?_
    refine k_done (k_skip_seq (k_ret ?_))
    exact ⟨.inr rfl, by kernel_rfl, by kernel_rfl⟩
  rw [h1] at htd
  by_cases h2 : vars ≤ 9
  case neg =>
    refine ⟨[], ?_⟩
    refine call_of (m := m8) rfl rfl (by decide) (k_start ?_)
    unfold m8
    refine k_seq ?_
    refine rv (D.bool false) ?_
    refine k_done (k_skip_seq (k_seq ?_))
    refine runs_call ([]) (by kernel_rfl) (by kernel_rfl) (by kernel_rfl) (by kernel_rfl) (awakeT_ok) (by kernel_rfl) ?_
    refine ra0 (D.bool true) ?_
    refine k_done (k_skip_seq (k_seq (k_seq ?_)))
    refine rv (D.bool true) ?_
    refine rv (D.bool false) ?_
    refine k_done (k_skip_seq (kcf (k_skip_seq (k_seq ?_))))
    refine rv (D.sl (rows l) none) ?_
    refine runs_call ([D.sl (rows l) none]) (by kernel_rfl) (by kernel_rfl) (by kernel_rfl) (by kernel_rfl) (htd) (by kernel_rfl) ?_
    refine ra0 (D.bool true) ?_
    refine k_done (k_skip_seq (k_seq (k_seq ?_)))
    refine rv (D.bool true) ?_
    refine rv (D.bool false) ?_
    refine rv (D.bool false) ?_
    refine rv (D.int IntKind.i64 vars) ?_
    refine rv (D.bool (decide (vars > (9 : Int)))) ?_
    refine rv (D.bool (decide (vars > (9 : Int)))) ?_
    refine rv (D.bool (decide (vars > (9 : Int)))) ?_
    refine rkn 27 (decide (vars > (9 : Int))) true (decide_eq_true (by omega)) ?_
    refine rno (rno (rno (rno ?_)))
    refine rv (D.bool true) ?_
    refine k_done (k_skip_seq (kct (k_seq ?_)))
    refine rv (D.bool true) ?_
    refine k_done (k_skip_seq (k_ret ?_))
    exact ⟨.inr rfl, by kernel_rfl, by kernel_rfl⟩
  have hsz : l.length ≤ 60 ∧ ∀ c ∈ l, c.length ≤ 12 := by
    have := h1
    unfold tidyB at this
    simp only [Bool.and_eq_true, decide_eq_true_eq, List.all_eq_true] at this
    exact this
  have hck := refCheck20_ok 39999 l vars none [] (by omega) (by omega) (fun c hc => by have := hsz.2 c hc; omega)
  by_cases h3 : checkC l vars = 0
  case neg =>
    have h3' : checkC l vars = 1 := by
      unfold checkC at h3 ⊢
      split at h3
      · rename_i h; exact if_pos h
      · exact absurd rfl h3
    rw [h3'] at hck
    refine ⟨[], ?_⟩
    refine call_of (m := m8) rfl rfl (by decide) (k_start ?_)
    unfold m8
    refine k_seq ?_
    refine rv (D.bool false) ?_
    refine k_done (k_skip_seq (k_seq ?_))
    refine runs_call ([]) (by kernel_rfl) (by kernel_rfl) (by kernel_rfl) (by kernel_rfl) (awakeT_ok) (by kernel_rfl) ?_
    refine ra0 (D.bool true) ?_
    refine k_done (k_skip_seq (k_seq (k_seq ?_)))
    refine rv (D.bool true) ?_
    refine rv (D.bool false) ?_
    refine k_done (k_skip_seq (kcf (k_skip_seq (k_seq ?_))))
    refine rv (D.sl (rows l) none) ?_
    refine runs_call ([D.sl (rows l) none]) (by kernel_rfl) (by kernel_rfl) (by kernel_rfl) (by kernel_rfl) (htd) (by kernel_rfl) ?_
    refine ra0 (D.bool true) ?_
    refine k_done (k_skip_seq (k_seq (k_seq ?_)))
    refine rv (D.bool true) ?_
    refine rv (D.bool false) ?_
    refine rv (D.bool false) ?_
    refine rv (D.int IntKind.i64 vars) ?_
    refine rv (D.bool (decide (vars > (9 : Int)))) ?_
    refine rv (D.bool (decide (vars > (9 : Int)))) ?_
    refine rv (D.bool (decide (vars > (9 : Int)))) ?_
    refine rkn 27 (decide (vars > (9 : Int))) false (decide_eq_false (by omega)) ?_
    refine rv (D.sl (rows l) none) ?_
    refine rv (D.int IntKind.i64 vars) ?_
    refine runs_call ([D.sl (rows l) none, D.int IntKind.i64 vars]) (by kernel_rfl) (by kernel_rfl) (by kernel_rfl) (by kernel_rfl) (hck) (by kernel_rfl) ?_
    refine rv (D.bool true) ?_
    refine rv (D.bool true) ?_
    refine k_done (k_skip_seq (kct (k_seq ?_)))
    refine rv (D.bool true) ?_
    refine k_done (k_skip_seq (k_ret ?_))
    exact ⟨.inr rfl, by kernel_rfl, by kernel_rfl⟩
  rw [h3] at hck
  have hI := okI_of h1 (by omega) h3
  have hv0 := (checkC_facts h3).1
  obtain ⟨V, rfl⟩ : ∃ V : Nat, vars = V := ⟨vars.toNat, by omega⟩
  rw [Int.toNat_natCast] at hI
  have h2V : 2 ^ V ≤ 512 := Nat.le_trans (Nat.pow_le_pow_right (by omega) (by omega : V ≤ 9)) (by decide)
  have h2V0 := two_pow V
  have hsh : IntKind.wrap IntKind.i64 ((1 : Int) * (2 : Int) ^ min (Int.toNat (IntKind.wrap IntKind.u64 (V : Int))) (IntKind.bits IntKind.i64)) = ((2 ^ V : Nat) : Int) := shl_ok (m := V) (by omega)
  have h15 := and15 less
  have ht := told (m := IntKind.i64.wrap (((BitVec.ofInt (IntKind.bits IntKind.i64) less &&& BitVec.ofInt (IntKind.bits IntKind.i64) 15).toNat : Nat) : Int)) hI h15
  obtain ⟨σ1, hs1⟩ := solve_ok 39999 l V ((2 ^ V : Nat) - 1 : Int) none hI (by omega) h3 (by omega)
  obtain ⟨σ2, hs2⟩ := solve_ok 39999 l V (IntKind.i64.wrap (((BitVec.ofInt (IntKind.bits IntKind.i64) less &&& BitVec.ofInt (IntKind.bits IntKind.i64) 15).toNat : Nat) : Int)) none hI (by omega) h3 (by omega)
  rw [if_neg (by omega)] at hs1 hs2
  have hlen : (metR (solveR l V ((2 ^ V : Nat) - 1 : Int)) V).length ≤ 12 := by
    unfold metR
    split
    · rw [truths_len]; exact hI.1
    · simp
  have hmt := metW_ok 39998 l (metR (solveR l V ((2 ^ V : Nat) - 1 : Int)) V) none none [] (by omega) (by omega) (by omega) (fun c hc => by have := hsz.2 c hc; omega)
  have hm1 : IntKind.wrap IntKind.i64 ((1 : Int) * (2 : Int) ^ min (Int.toNat (IntKind.wrap IntKind.u64 (V : Int))) (IntKind.bits IntKind.i64)) - (1 : Int) = ((2 ^ V : Nat) - 1 : Int) := by
    rw [hsh]
  have hk := ht.kind
  have hl := ht.less
  generalize metR (solveR l V ((2 ^ V : Nat) - 1 : Int)) V = trA at *
  generalize stepsR (solveR l V ((2 ^ V : Nat) - 1 : Int)) = stA at *
  generalize (solveR l V ((2 ^ V : Nat) - 1 : Int)).1 = kA at *
  generalize (solveR l V ((2 ^ V : Nat) - 1 : Int)).2.2.tried = tA at *
  rw [← hm1] at hs1
  generalize hm15 : IntKind.i64.wrap (((BitVec.ofInt (IntKind.bits IntKind.i64) less &&& BitVec.ofInt (IntKind.bits IntKind.i64) 15).toNat : Nat) : Int) = m15 at h15 hl hs2
  generalize metR (solveR l V m15) V = trB at *
  generalize stepsR (solveR l V m15) = stB at *
  generalize (solveR l V m15).1 = kB at *
  generalize (solveR l V m15).2.2.tried = tB at *
  rw [← hm15] at hs2
  refine call_ofE (m := m8) rfl rfl (by decide) (k_start ?_)
  unfold m8
  refine k_seq ?_
  refine rv (D.bool false) ?_
  refine k_done (k_skip_seq (k_seq ?_))
  refine runs_call ([]) (by kernel_rfl) (by kernel_rfl) (by kernel_rfl) (by kernel_rfl) (awakeT_ok) (by kernel_rfl) ?_
  refine ra0 (D.bool true) ?_
  refine k_done (k_skip_seq (k_seq (k_seq ?_)))
  refine rv (D.bool true) ?_
  refine rv (D.bool false) ?_
  refine k_done (k_skip_seq (kcf (k_skip_seq (k_seq ?_))))
  refine rv (D.sl (rows l) none) ?_
  refine runs_call ([D.sl (rows l) none]) (by kernel_rfl) (by kernel_rfl) (by kernel_rfl) (by kernel_rfl) (htd) (by kernel_rfl) ?_
  refine ra0 (D.bool true) ?_
  refine k_done (k_skip_seq (k_seq (k_seq ?_)))
  refine rv (D.bool true) ?_
  refine rv (D.bool false) ?_
  refine rv (D.bool false) ?_
  refine rv (D.int IntKind.i64 (↑V : Int)) ?_
  refine rv (D.bool (decide ((↑V : Int) > (9 : Int)))) ?_
  refine rv (D.bool (decide ((↑V : Int) > (9 : Int)))) ?_
  refine rv (D.bool (decide ((↑V : Int) > (9 : Int)))) ?_
  refine rkn 27 (decide ((↑V : Int) > (9 : Int))) false (decide_eq_false (by omega)) ?_
  refine rv (D.sl (rows l) none) ?_
  refine rv (D.int IntKind.i64 (↑V : Int)) ?_
  refine runs_call ([D.sl (rows l) none, D.int IntKind.i64 (↑V : Int)]) (by kernel_rfl) (by kernel_rfl) (by kernel_rfl) (by kernel_rfl) (hck) (by kernel_rfl) ?_
  refine rv (D.bool false) ?_
  refine rv (D.bool false) ?_
  refine k_done (k_skip_seq (kcf (k_skip_seq (k_seq ?_))))
  refine rv (D.bool false) ?_
  refine k_done (k_skip_seq (k_seq (k_seq ?_)))
  refine rv (D.int IntKind.i64 (0 : Int)) ?_
  refine k_done (k_skip_seq (k_block ?_))
  generalize 2 ^ V = M at *
  refine k_loop (S := Nat × St × D × D) (fun s => f8 l V less (foundX l V s.1) s.1 s.2.2.1 s.2.2.2) (fun s => s.2.1) (fun s => s.1 ≤ M) (fun s => M - s.1) (0, [], .junk, .junk) (by kernel_rfl) rfl (by simp) (by intro s hs; omega) ?_
  rintro ⟨x, σ0, d11, d12⟩ hx
  simp only [] at hx
  show Runs (runC (callN T 40000) 40000 l8_1 (f8 l V less (foundX l V x) x d11 d12) σ0) _
  by_cases hlt : x < M
  · have hcond : decide ((x : Int) < IntKind.wrap IntKind.i64 ((1 : Int) * (2 : Int) ^ min (Int.toNat (IntKind.wrap IntKind.u64 (V : Int))) (IntKind.bits IntKind.i64))) = true := by
      rw [hsh]
      exact decide_eq_true (by omega)
    have hfs := foundX_succ l V x
    have e8 := metW_ok 39998 l (tX V x) none none [] (by rw [tX_len]; omega) (by omega) (by omega) (fun c hc => by have := hsz.2 c hc; omega)
    have hsnap : snap (σ0 ++ [.cells (bls (tX V x))]) [D.sl (rows l) none, D.msl σ0.length 0 V 1] = some ([D.sl (rows l) none, D.sl (bools (tX V x)) none], [σ0.length]) := by
      have he := elems_bls (last_get σ0 (.cells (bls (tX V x))))
      rw [tX_len] at he
      simp only [snap, he, Option.map_some]
    have hend := at3_end x V
    have hz := at3_zero V x
    generalize foundX l V x = fd at *
    generalize metB l (tX V x) = mt at *
    generalize tX V x = L2 at *
    refine k_seq (k_seq ?_)
    refine rv (D.int IntKind.i64 (↑x : Int)) ?_
    refine rv (D.int IntKind.i64 (↑V : Int)) ?_
    refine rv (D.int IntKind.u64 (IntKind.wrap IntKind.u64 (↑V : Int))) ?_
    refine rv (D.int IntKind.i64 (IntKind.wrap IntKind.i64 ((1 : Int) * (2 : Int) ^ min (Int.toNat (IntKind.wrap IntKind.u64 (↑V : Int))) (IntKind.bits IntKind.i64)))) ?_
    refine rv (D.bool (decide ((↑x : Int) < IntKind.wrap IntKind.i64 ((1 : Int) * (2 : Int) ^ min (Int.toNat (IntKind.wrap IntKind.u64 (↑V : Int))) (IntKind.bits IntKind.i64))))) ?_
    refine k_done (k_skip_seq ?_)
    refine rkn 37 (decide ((↑x : Int) < IntKind.wrap IntKind.i64 ((1 : Int) * (2 : Int) ^ min (Int.toNat (IntKind.wrap IntKind.u64 (↑V : Int))) (IntKind.bits IntKind.i64)))) true (by assumption) ?_
    refine kct (k_skip_seq (k_seq (k_block (k_seq ?_))))
    refine rv (D.int IntKind.i64 (↑V : Int)) ?_
    refine runs_make (V) (bls (List.replicate (V) false)) (by kernel_rfl) (by kernel_rfl) (by kernel_rfl) (by omega) (bls_new (V)) ?_
    refine ra0 (D.msl (List.length σ0) (0 : Nat) V (1 : Nat)) ?_
    refine k_done (k_skip_seq (k_seq (k_seq ?_)))
    refine rv (D.int IntKind.i64 (0 : Int)) ?_
    refine k_done (k_skip_seq (k_block ?_))
    refine k_loop (fun k : Nat => f8 l V less fd x (.msl σ0.length 0 V 1) (.int .i64 k)) (fun k => σ0 ++ [.cells (bls (rng V (at3 x k)))]) (fun k => k ≤ V) (fun k => V - k) 0 (by kernel_rfl) (by rw [← hz, ← rng_zero]) (by simp) (by intro s hs; omega) ?_
    intro k hk2
    show Runs (runC (callN T 40000) 40000 l8_0 (f8 l V less fd x (.msl σ0.length 0 V 1) (.int .i64 k)) (σ0 ++ [.cells (bls (rng V (at3 x k)))])) _
    by_cases hkm : k < V
    · have hL := rng_len V (at3 x k)
      have hnext := at3_next (n := V) (x := x) (k := k)
      have hbit : (IntKind.wrap IntKind.i64 ((BitVec.ofInt (IntKind.bits IntKind.i64) (Int.fdiv (x : Int) (2 ^ min (IntKind.u64.wrap (k : Int)).toNat 64)) &&& BitVec.ofInt (IntKind.bits IntKind.i64) 1).toNat : Int) == 1) = x.testBit k := bit_ok (by omega) (by omega)
      generalize rng V (at3 x k) = L at *
      refine k_seq (k_seq ?_)
      refine rv (D.int IntKind.i64 (↑k : Int)) ?_
      refine rv (D.int IntKind.i64 (↑V : Int)) ?_
      refine rv (D.bool (decide ((↑k : Int) < (↑V : Int)))) ?_
      refine k_done (k_skip_seq ?_)
      refine rkn 44 (decide ((↑k : Int) < (↑V : Int))) true (decide_eq_true (by omega)) ?_
      refine kct (k_skip_seq (k_seq (k_block ?_)))
      refine rv (D.msl (List.length σ0) (0 : Nat) V (1 : Nat)) ?_
      refine rv (D.int IntKind.i64 (↑k : Int)) ?_
      refine rv (D.int IntKind.i64 (↑x : Int)) ?_
      refine rv (D.int IntKind.i64 (↑k : Int)) ?_
      refine rv (D.int IntKind.u64 (IntKind.wrap IntKind.u64 (↑k : Int))) ?_
      refine rv (D.int IntKind.i64 (Int.fdiv (↑x : Int) ((2 : Int) ^ min (Int.toNat (IntKind.wrap IntKind.u64 (↑k : Int))) (IntKind.bits IntKind.i64)))) ?_
      refine rv (D.int IntKind.i64 (IntKind.wrap IntKind.i64 (↑(BitVec.toNat (BitVec.ofInt (IntKind.bits IntKind.i64) (Int.fdiv (↑x : Int) ((2 : Int) ^ min (Int.toNat (IntKind.wrap IntKind.u64 (↑k : Int))) (IntKind.bits IntKind.i64))) &&& BitVec.ofInt (IntKind.bits IntKind.i64) (1 : Int))) : Int))) ?_
      refine rv (D.bool (IntKind.wrap IntKind.i64 (↑(BitVec.toNat (BitVec.ofInt (IntKind.bits IntKind.i64) (Int.fdiv (↑x : Int) ((2 : Int) ^ min (Int.toNat (IntKind.wrap IntKind.u64 (↑k : Int))) (IntKind.bits IntKind.i64))) &&& BitVec.ofInt (IntKind.bits IntKind.i64) (1 : Int))) : Int) == (1 : Int))) ?_
      refine runs_indexM (kd := IntKind.i64) (List.length σ0) ((0 : Nat)) (V) (k) (by kernel_rfl) (by kernel_rfl) (by kernel_rfl) (by assumption) ?_
      refine runs_storeP (List.length σ0) ((0 : Nat) + k * (1 : Nat)) (bls L) (bls (List.set (L) ((0 : Nat) + k * (1 : Nat)) (IntKind.wrap IntKind.i64 (↑(BitVec.toNat (BitVec.ofInt (IntKind.bits IntKind.i64) (Int.fdiv (↑x : Int) ((2 : Int) ^ min (Int.toNat (IntKind.wrap IntKind.u64 (↑k : Int))) (IntKind.bits IntKind.i64))) &&& BitVec.ofInt (IntKind.bits IntKind.i64) (1 : Int))) : Int) == (1 : Int)))) (D.bool (IntKind.wrap IntKind.i64 (↑(BitVec.toNat (BitVec.ofInt (IntKind.bits IntKind.i64) (Int.fdiv (↑x : Int) ((2 : Int) ^ min (Int.toNat (IntKind.wrap IntKind.u64 (↑k : Int))) (IntKind.bits IntKind.i64))) &&& BitVec.ofInt (IntKind.bits IntKind.i64) (1 : Int))) : Int) == (1 : Int))) (σ0 ++ [.cells (bls (List.set (L) ((0 : Nat) + k * (1 : Nat)) (IntKind.wrap IntKind.i64 (↑(BitVec.toNat (BitVec.ofInt (IntKind.bits IntKind.i64) (Int.fdiv (↑x : Int) ((2 : Int) ^ min (Int.toNat (IntKind.wrap IntKind.u64 (↑k : Int))) (IntKind.bits IntKind.i64))) &&& BitVec.ofInt (IntKind.bits IntKind.i64) (1 : Int))) : Int) == (1 : Int))))]) (by kernel_rfl) (by kernel_rfl) (by kernel_rfl) (by kernel_rfl) (by kernel_rfl) (by kernel_rfl) (last_get _ _) (by rw [bls_len]; first | assumption | omega | (simp; omega)) (bls_set _ _ _) (last_set _ _ _) ?_
      refine k_done (k_skip_block (k_skip_seq ?_))
      refine rv (D.int IntKind.i64 (↑k : Int)) ?_
      refine rve (D.int IntKind.i64 (IntKind.wrap IntKind.i64 ((↑k : Int) + (1 : Int)))) (.int IntKind.i64 ((k + 1 : Nat) : Int)) (congrArg (D.int IntKind.i64) (show IntKind.wrap IntKind.i64 ((↑k : Int) + (1 : Int)) = ((k + 1 : Nat) : Int) from wrap_eq (by omega) (by omega) (by omega))) ?_
      refine ra0 (D.int IntKind.i64 (↑(k + (1 : Nat)) : Int)) ?_
      refine k_done (k_skip_back ?_)
      refine ⟨k + 1, hkm, by omega, by kernel_rfl, ?_⟩
      have hix : (0 : Nat) + k * (1 : Nat) = k := by omega
      rw [← hnext, ← hbit, hix]
      rfl
    · obtain rfl : k = V := by omega
      rw [hend]
      by_cases hfd : fd = true
      · subst hfd
        refine k_seq (k_seq ?_)
        refine rv (D.int IntKind.i64 (↑k : Int)) ?_
        refine rv (D.int IntKind.i64 (↑k : Int)) ?_
        refine rv (D.bool (decide ((↑k : Int) < (↑k : Int)))) ?_
        refine k_done (k_skip_seq ?_)
        refine rkn 44 (decide ((↑k : Int) < (↑k : Int))) false (decide_eq_false (by omega)) ?_
        refine kcf (k_exit_seq (k_exit_back (k_exit_hit rfl (k_skip_seq (k_seq ?_)))))
        refine rv (D.sl (rows l) none) ?_
        refine rv (D.msl (List.length σ0) (0 : Nat) k (1 : Nat)) ?_
        refine runs_callS ([D.sl (rows l) none, D.msl (List.length σ0) (0 : Nat) k (1 : Nat)]) _ _ (by kernel_rfl) (by kernel_rfl) (by kernel_rfl) (by assumption) (e8) (by kernel_rfl) (by kernel_rfl) ?_
        refine ra0 (D.bool mt) ?_
        refine k_done (k_skip_seq ?_)
        refine rv (D.bool true) ?_
        refine rv (D.bool true) ?_
        refine rno ?_
        refine rv (D.bool true) ?_
        refine ra0 (D.bool true) ?_
        refine k_done (k_skip_block (k_skip_seq ?_))
        refine rv (D.int IntKind.i64 (↑x : Int)) ?_
        refine rve (D.int IntKind.i64 (IntKind.wrap IntKind.i64 ((↑x : Int) + (1 : Int)))) (.int IntKind.i64 ((x + 1 : Nat) : Int)) (congrArg (D.int IntKind.i64) (show IntKind.wrap IntKind.i64 ((↑x : Int) + (1 : Int)) = ((x + 1 : Nat) : Int) from wrap_eq (by omega) (by omega) (by omega))) ?_
        refine ra0 (D.int IntKind.i64 (↑(x + (1 : Nat)) : Int)) ?_
        refine k_done (k_skip_back ?_)
        exact ⟨(x + 1, σ0 ++ [.cells (bls L2)], .msl σ0.length 0 k 1, .int .i64 k), hlt, by simp only []; omega, by simp only []; rw [hfs]; kernel_rfl, rfl⟩
      · have hfd' : fd = false := by simpa using hfd
        subst hfd'
        refine k_seq (k_seq ?_)
        refine rv (D.int IntKind.i64 (↑k : Int)) ?_
        refine rv (D.int IntKind.i64 (↑k : Int)) ?_
        refine rv (D.bool (decide ((↑k : Int) < (↑k : Int)))) ?_
        refine k_done (k_skip_seq ?_)
        refine rkn 44 (decide ((↑k : Int) < (↑k : Int))) false (decide_eq_false (by omega)) ?_
        refine kcf (k_exit_seq (k_exit_back (k_exit_hit rfl (k_skip_seq (k_seq ?_)))))
        refine rv (D.sl (rows l) none) ?_
        refine rv (D.msl (List.length σ0) (0 : Nat) k (1 : Nat)) ?_
        refine runs_callS ([D.sl (rows l) none, D.msl (List.length σ0) (0 : Nat) k (1 : Nat)]) _ _ (by kernel_rfl) (by kernel_rfl) (by kernel_rfl) (by assumption) (e8) (by kernel_rfl) (by kernel_rfl) ?_
        refine ra0 (D.bool mt) ?_
        refine k_done (k_skip_seq ?_)
        refine rv (D.bool false) ?_
        refine rv (D.bool false) ?_
        refine rv (D.bool mt) ?_
        refine rv (D.bool mt) ?_
        refine ra0 (D.bool mt) ?_
        refine k_done (k_skip_block (k_skip_seq ?_))
        refine rv (D.int IntKind.i64 (↑x : Int)) ?_
        refine rve (D.int IntKind.i64 (IntKind.wrap IntKind.i64 ((↑x : Int) + (1 : Int)))) (.int IntKind.i64 ((x + 1 : Nat) : Int)) (congrArg (D.int IntKind.i64) (show IntKind.wrap IntKind.i64 ((↑x : Int) + (1 : Int)) = ((x + 1 : Nat) : Int) from wrap_eq (by omega) (by omega) (by omega))) ?_
        refine ra0 (D.int IntKind.i64 (↑(x + (1 : Nat)) : Int)) ?_
        refine k_done (k_skip_back ?_)
        exact ⟨(x + 1, σ0 ++ [.cells (bls L2)], .msl σ0.length 0 k 1, .int .i64 k), hlt, by simp only []; omega, by simp only []; rw [hfs]; kernel_rfl, rfl⟩
  · have hcond : decide ((x : Int) < IntKind.wrap IntKind.i64 ((1 : Int) * (2 : Int) ^ min (Int.toNat (IntKind.wrap IntKind.u64 (V : Int))) (IntKind.bits IntKind.i64))) = false := by
      rw [hsh]
      exact decide_eq_false (by omega)
    obtain rfl : x = M := by omega
    rcases hk with ⟨k1, k2, k3⟩ | ⟨k1, k2⟩
    · rw [k2]
      rw [k3] at hmt
      subst k1
      rcases hl with ⟨l1, l2⟩ | ⟨l1, l2, l3⟩
      · subst l1
        refine k_seq (k_seq ?_)
        refine rv (D.int IntKind.i64 (↑x : Int)) ?_
        refine rv (D.int IntKind.i64 (↑V : Int)) ?_
        refine rv (D.int IntKind.u64 (IntKind.wrap IntKind.u64 (↑V : Int))) ?_
        refine rv (D.int IntKind.i64 (IntKind.wrap IntKind.i64 ((1 : Int) * (2 : Int) ^ min (Int.toNat (IntKind.wrap IntKind.u64 (↑V : Int))) (IntKind.bits IntKind.i64)))) ?_
        refine rv (D.bool (decide ((↑x : Int) < IntKind.wrap IntKind.i64 ((1 : Int) * (2 : Int) ^ min (Int.toNat (IntKind.wrap IntKind.u64 (↑V : Int))) (IntKind.bits IntKind.i64))))) ?_
        refine k_done (k_skip_seq ?_)
        refine rkn 37 (decide ((↑x : Int) < IntKind.wrap IntKind.i64 ((1 : Int) * (2 : Int) ^ min (Int.toNat (IntKind.wrap IntKind.u64 (↑V : Int))) (IntKind.bits IntKind.i64)))) false (by assumption) ?_
        refine kcf (k_exit_seq (k_exit_back (k_exit_hit rfl (k_skip_seq (k_seq ?_)))))
        refine rv (D.sl (rows l) none) ?_
        refine rv (D.int IntKind.i64 (↑V : Int)) ?_
        refine rv (D.int IntKind.i64 (↑V : Int)) ?_
        refine rv (D.int IntKind.u64 (IntKind.wrap IntKind.u64 (↑V : Int))) ?_
        refine rv (D.int IntKind.i64 (IntKind.wrap IntKind.i64 ((1 : Int) * (2 : Int) ^ min (Int.toNat (IntKind.wrap IntKind.u64 (↑V : Int))) (IntKind.bits IntKind.i64)))) ?_
        refine rve (D.int IntKind.i64 (IntKind.wrap IntKind.i64 (IntKind.wrap IntKind.i64 ((1 : Int) * (2 : Int) ^ min (Int.toNat (IntKind.wrap IntKind.u64 (↑V : Int))) (IntKind.bits IntKind.i64)) - (1 : Int)))) (.int IntKind.i64 (IntKind.wrap IntKind.i64 ((1 : Int) * (2 : Int) ^ min (Int.toNat (IntKind.wrap IntKind.u64 (↑V : Int))) (IntKind.bits IntKind.i64)) - (1 : Int))) (congrArg (D.int IntKind.i64) (show IntKind.wrap IntKind.i64 (IntKind.wrap IntKind.i64 ((1 : Int) * (2 : Int) ^ min (Int.toNat (IntKind.wrap IntKind.u64 (↑V : Int))) (IntKind.bits IntKind.i64)) - (1 : Int)) = (IntKind.wrap IntKind.i64 ((1 : Int) * (2 : Int) ^ min (Int.toNat (IntKind.wrap IntKind.u64 (↑V : Int))) (IntKind.bits IntKind.i64)) - (1 : Int)) from wrap_eq (by omega) (by omega) (by omega))) ?_
        refine runs_call ([D.sl (rows l) none, D.int IntKind.i64 (↑V : Int), D.int IntKind.i64 (IntKind.wrap IntKind.i64 ((1 : Int) * (2 : Int) ^ min (Int.toNat (IntKind.wrap IntKind.u64 (↑V : Int))) (IntKind.bits IntKind.i64)) - (1 : Int))]) (by kernel_rfl) (by kernel_rfl) (by kernel_rfl) (by kernel_rfl) (hs1) (by kernel_rfl) ?_
        refine rgf (D.lptr (14 : Nat) (0 : Nat)) (σ0) ?_
        refine rgf (D.junk) (σ0) ?_
        refine k_done (k_skip_seq (k_seq ?_))
        refine rv (D.sl (rows l) none) ?_
        refine rv (D.int IntKind.i64 (↑V : Int)) ?_
        refine rv (D.int IntKind.i64 less) ?_
        refine rv (D.int IntKind.i64 (IntKind.wrap IntKind.i64 (↑(BitVec.toNat (BitVec.ofInt (IntKind.bits IntKind.i64) less &&& BitVec.ofInt (IntKind.bits IntKind.i64) (15 : Int))) : Int))) ?_
        refine runs_call ([D.sl (rows l) none, D.int IntKind.i64 (↑V : Int), D.int IntKind.i64 (IntKind.wrap IntKind.i64 (↑(BitVec.toNat (BitVec.ofInt (IntKind.bits IntKind.i64) less &&& BitVec.ofInt (IntKind.bits IntKind.i64) (15 : Int))) : Int))]) (by kernel_rfl) (by kernel_rfl) (by kernel_rfl) (by kernel_rfl) (hs2) (by kernel_rfl) ?_
        refine rgf (D.lptr (15 : Nat) (0 : Nat)) (σ0) ?_
        refine rgf (D.junk) (σ0) ?_
        refine k_done (k_skip_seq (k_seq (k_seq ?_)))
        refine rv (D.lptr (14 : Nat) (0 : Nat)) ?_
        refine rv (D.int IntKind.i64 (1 : Int)) ?_
        refine rv (D.bool true) ?_
        refine rv (D.bool true) ?_
        refine rv (D.bool true) ?_
        refine rv (D.bool false) ?_
        refine rv (D.bool false) ?_
        refine rv (D.sl (rows l) none) ?_
        refine rv (D.lptr (14 : Nat) (1 : Nat)) ?_
        refine rv (D.sl (bools trA) none) ?_
        refine runs_call ([D.sl (rows l) none, D.sl (bools trA) none]) (by kernel_rfl) (by kernel_rfl) (by kernel_rfl) (by kernel_rfl) (hmt) (by kernel_rfl) ?_
        refine rv (D.bool false) ?_
        refine rv (D.bool false) ?_
        refine rv (D.bool false) ?_
        refine rv (D.bool false) ?_
        refine rv (D.lptr (14 : Nat) (0 : Nat)) ?_
        refine rv (D.int IntKind.i64 (1 : Int)) ?_
        refine rv (D.bool false) ?_
        refine rv (D.bool false) ?_
        refine rno ?_
        refine rv (D.bool false) ?_
        refine rv (D.bool false) ?_
        refine rv (D.bool false) ?_
        refine rv (D.lptr (14 : Nat) (0 : Nat)) ?_
        refine rv (D.int IntKind.i64 (1 : Int)) ?_
        refine rv (D.bool false) ?_
        refine rv (D.bool false) ?_
        refine rno (rno (rno ?_))
        refine rv (D.bool false) ?_
        refine rv (D.bool false) ?_
        refine k_done (k_skip_seq (kcf (k_skip_seq (k_seq ?_))))
        refine rv (D.lptr (15 : Nat) (0 : Nat)) ?_
        refine rv (D.int IntKind.i64 (3 : Int)) ?_
        refine rv (D.bool true) ?_
        refine rv (D.bool true) ?_
        refine rv (D.lptr (15 : Nat) (3 : Nat)) ?_
        refine rv (D.int IntKind.i64 tB) ?_
        refine rv (D.int IntKind.i64 less) ?_
        refine rv (D.int IntKind.i64 (IntKind.wrap IntKind.i64 (↑(BitVec.toNat (BitVec.ofInt (IntKind.bits IntKind.i64) less &&& BitVec.ofInt (IntKind.bits IntKind.i64) (15 : Int))) : Int))) ?_
        refine rve (D.int IntKind.i64 (IntKind.wrap IntKind.i64 (IntKind.wrap IntKind.i64 (↑(BitVec.toNat (BitVec.ofInt (IntKind.bits IntKind.i64) less &&& BitVec.ofInt (IntKind.bits IntKind.i64) (15 : Int))) : Int) + (1 : Int)))) (.int IntKind.i64 (IntKind.wrap IntKind.i64 (↑(BitVec.toNat (BitVec.ofInt (IntKind.bits IntKind.i64) less &&& BitVec.ofInt (IntKind.bits IntKind.i64) (15 : Int))) : Int) + (1 : Int))) (congrArg (D.int IntKind.i64) (show IntKind.wrap IntKind.i64 (IntKind.wrap IntKind.i64 (↑(BitVec.toNat (BitVec.ofInt (IntKind.bits IntKind.i64) less &&& BitVec.ofInt (IntKind.bits IntKind.i64) (15 : Int))) : Int) + (1 : Int)) = (IntKind.wrap IntKind.i64 (↑(BitVec.toNat (BitVec.ofInt (IntKind.bits IntKind.i64) less &&& BitVec.ofInt (IntKind.bits IntKind.i64) (15 : Int))) : Int) + (1 : Int)) from wrap_eq (by omega) (by omega) (by omega))) ?_
        refine rv (D.bool (tB == IntKind.wrap IntKind.i64 (↑(BitVec.toNat (BitVec.ofInt (IntKind.bits IntKind.i64) less &&& BitVec.ofInt (IntKind.bits IntKind.i64) (15 : Int))) : Int) + (1 : Int))) ?_
        refine rv (D.bool (tB == IntKind.wrap IntKind.i64 (↑(BitVec.toNat (BitVec.ofInt (IntKind.bits IntKind.i64) less &&& BitVec.ofInt (IntKind.bits IntKind.i64) (15 : Int))) : Int) + (1 : Int))) ?_
        refine rv (D.bool (tB == IntKind.wrap IntKind.i64 (↑(BitVec.toNat (BitVec.ofInt (IntKind.bits IntKind.i64) less &&& BitVec.ofInt (IntKind.bits IntKind.i64) (15 : Int))) : Int) + (1 : Int))) ?_
        refine rkn 118 (tB == IntKind.wrap IntKind.i64 (↑(BitVec.toNat (BitVec.ofInt (IntKind.bits IntKind.i64) less &&& BitVec.ofInt (IntKind.bits IntKind.i64) (15 : Int))) : Int) + (1 : Int)) true (decide_eq_true (by omega)) ?_
        refine rno (rno (rno (rno (rno (rno (rno (rno (rno (rno (rno (rno ?_)))))))))))
        refine rno (rno (rno (rno (rno (rno (rno ?_))))))
        refine rv (D.bool true) ?_
        refine ra0 (D.bool true) ?_
        refine k_done (k_skip_seq (k_ret ?_))
        exact ⟨.inr rfl, by kernel_rfl, σ0, by kernel_rfl⟩
      · subst l1
        refine k_seq (k_seq ?_)
        refine rv (D.int IntKind.i64 (↑x : Int)) ?_
        refine rv (D.int IntKind.i64 (↑V : Int)) ?_
        refine rv (D.int IntKind.u64 (IntKind.wrap IntKind.u64 (↑V : Int))) ?_
        refine rv (D.int IntKind.i64 (IntKind.wrap IntKind.i64 ((1 : Int) * (2 : Int) ^ min (Int.toNat (IntKind.wrap IntKind.u64 (↑V : Int))) (IntKind.bits IntKind.i64)))) ?_
        refine rv (D.bool (decide ((↑x : Int) < IntKind.wrap IntKind.i64 ((1 : Int) * (2 : Int) ^ min (Int.toNat (IntKind.wrap IntKind.u64 (↑V : Int))) (IntKind.bits IntKind.i64))))) ?_
        refine k_done (k_skip_seq ?_)
        refine rkn 37 (decide ((↑x : Int) < IntKind.wrap IntKind.i64 ((1 : Int) * (2 : Int) ^ min (Int.toNat (IntKind.wrap IntKind.u64 (↑V : Int))) (IntKind.bits IntKind.i64)))) false (by assumption) ?_
        refine kcf (k_exit_seq (k_exit_back (k_exit_hit rfl (k_skip_seq (k_seq ?_)))))
        refine rv (D.sl (rows l) none) ?_
        refine rv (D.int IntKind.i64 (↑V : Int)) ?_
        refine rv (D.int IntKind.i64 (↑V : Int)) ?_
        refine rv (D.int IntKind.u64 (IntKind.wrap IntKind.u64 (↑V : Int))) ?_
        refine rv (D.int IntKind.i64 (IntKind.wrap IntKind.i64 ((1 : Int) * (2 : Int) ^ min (Int.toNat (IntKind.wrap IntKind.u64 (↑V : Int))) (IntKind.bits IntKind.i64)))) ?_
        refine rve (D.int IntKind.i64 (IntKind.wrap IntKind.i64 (IntKind.wrap IntKind.i64 ((1 : Int) * (2 : Int) ^ min (Int.toNat (IntKind.wrap IntKind.u64 (↑V : Int))) (IntKind.bits IntKind.i64)) - (1 : Int)))) (.int IntKind.i64 (IntKind.wrap IntKind.i64 ((1 : Int) * (2 : Int) ^ min (Int.toNat (IntKind.wrap IntKind.u64 (↑V : Int))) (IntKind.bits IntKind.i64)) - (1 : Int))) (congrArg (D.int IntKind.i64) (show IntKind.wrap IntKind.i64 (IntKind.wrap IntKind.i64 ((1 : Int) * (2 : Int) ^ min (Int.toNat (IntKind.wrap IntKind.u64 (↑V : Int))) (IntKind.bits IntKind.i64)) - (1 : Int)) = (IntKind.wrap IntKind.i64 ((1 : Int) * (2 : Int) ^ min (Int.toNat (IntKind.wrap IntKind.u64 (↑V : Int))) (IntKind.bits IntKind.i64)) - (1 : Int)) from wrap_eq (by omega) (by omega) (by omega))) ?_
        refine runs_call ([D.sl (rows l) none, D.int IntKind.i64 (↑V : Int), D.int IntKind.i64 (IntKind.wrap IntKind.i64 ((1 : Int) * (2 : Int) ^ min (Int.toNat (IntKind.wrap IntKind.u64 (↑V : Int))) (IntKind.bits IntKind.i64)) - (1 : Int))]) (by kernel_rfl) (by kernel_rfl) (by kernel_rfl) (by kernel_rfl) (hs1) (by kernel_rfl) ?_
        refine rgf (D.lptr (14 : Nat) (0 : Nat)) (σ0) ?_
        refine rgf (D.junk) (σ0) ?_
        refine k_done (k_skip_seq (k_seq ?_))
        refine rv (D.sl (rows l) none) ?_
        refine rv (D.int IntKind.i64 (↑V : Int)) ?_
        refine rv (D.int IntKind.i64 less) ?_
        refine rv (D.int IntKind.i64 (IntKind.wrap IntKind.i64 (↑(BitVec.toNat (BitVec.ofInt (IntKind.bits IntKind.i64) less &&& BitVec.ofInt (IntKind.bits IntKind.i64) (15 : Int))) : Int))) ?_
        refine runs_call ([D.sl (rows l) none, D.int IntKind.i64 (↑V : Int), D.int IntKind.i64 (IntKind.wrap IntKind.i64 (↑(BitVec.toNat (BitVec.ofInt (IntKind.bits IntKind.i64) less &&& BitVec.ofInt (IntKind.bits IntKind.i64) (15 : Int))) : Int))]) (by kernel_rfl) (by kernel_rfl) (by kernel_rfl) (by kernel_rfl) (hs2) (by kernel_rfl) ?_
        refine rgf (D.lptr (15 : Nat) (0 : Nat)) (σ0) ?_
        refine rgf (D.junk) (σ0) ?_
        refine k_done (k_skip_seq (k_seq (k_seq ?_)))
        refine rv (D.lptr (14 : Nat) (0 : Nat)) ?_
        refine rv (D.int IntKind.i64 (1 : Int)) ?_
        refine rv (D.bool true) ?_
        refine rv (D.bool true) ?_
        refine rv (D.bool true) ?_
        refine rv (D.bool false) ?_
        refine rv (D.bool false) ?_
        refine rv (D.sl (rows l) none) ?_
        refine rv (D.lptr (14 : Nat) (1 : Nat)) ?_
        refine rv (D.sl (bools trA) none) ?_
        refine runs_call ([D.sl (rows l) none, D.sl (bools trA) none]) (by kernel_rfl) (by kernel_rfl) (by kernel_rfl) (by kernel_rfl) (hmt) (by kernel_rfl) ?_
        refine rv (D.bool false) ?_
        refine rv (D.bool false) ?_
        refine rv (D.bool false) ?_
        refine rv (D.bool false) ?_
        refine rv (D.lptr (14 : Nat) (0 : Nat)) ?_
        refine rv (D.int IntKind.i64 (1 : Int)) ?_
        refine rv (D.bool false) ?_
        refine rv (D.bool false) ?_
        refine rno ?_
        refine rv (D.bool false) ?_
        refine rv (D.bool false) ?_
        refine rv (D.bool false) ?_
        refine rv (D.lptr (14 : Nat) (0 : Nat)) ?_
        refine rv (D.int IntKind.i64 (1 : Int)) ?_
        refine rv (D.bool false) ?_
        refine rv (D.bool false) ?_
        refine rno (rno (rno ?_))
        refine rv (D.bool false) ?_
        refine rv (D.bool false) ?_
        refine k_done (k_skip_seq (kcf (k_skip_seq (k_seq ?_))))
        refine rv (D.lptr (15 : Nat) (0 : Nat)) ?_
        refine rv (D.int IntKind.i64 (1 : Int)) ?_
        refine rv (D.bool false) ?_
        refine rv (D.bool false) ?_
        refine rno (rno (rno (rno (rno (rno ?_)))))
        refine rv (D.bool false) ?_
        refine rv (D.bool false) ?_
        refine rv (D.lptr (15 : Nat) (0 : Nat)) ?_
        refine rv (D.int IntKind.i64 (1 : Int)) ?_
        refine rv (D.lptr (14 : Nat) (0 : Nat)) ?_
        refine rv (D.int IntKind.i64 (1 : Int)) ?_
        refine rv (D.bool true) ?_
        refine rv (D.bool true) ?_
        refine rv (D.lptr (15 : Nat) (3 : Nat)) ?_
        refine rv (D.int IntKind.i64 tB) ?_
        refine rv (D.lptr (14 : Nat) (3 : Nat)) ?_
        refine rv (D.int IntKind.i64 tA) ?_
        refine rv (D.bool (tB == tA)) ?_
        refine rv (D.bool (tB == tA)) ?_
        refine rv (D.bool (tB == tA)) ?_
        refine rkn 131 (tB == tA) true (decide_eq_true (by assumption)) ?_
        refine rv (D.lptr (15 : Nat) (3 : Nat)) ?_
        refine rv (D.int IntKind.i64 tB) ?_
        refine rv (D.int IntKind.i64 less) ?_
        refine rv (D.int IntKind.i64 (IntKind.wrap IntKind.i64 (↑(BitVec.toNat (BitVec.ofInt (IntKind.bits IntKind.i64) less &&& BitVec.ofInt (IntKind.bits IntKind.i64) (15 : Int))) : Int))) ?_
        refine rv (D.bool (decide (tB ≤ IntKind.wrap IntKind.i64 (↑(BitVec.toNat (BitVec.ofInt (IntKind.bits IntKind.i64) less &&& BitVec.ofInt (IntKind.bits IntKind.i64) (15 : Int))) : Int)))) ?_
        refine rv (D.bool (decide (tB ≤ IntKind.wrap IntKind.i64 (↑(BitVec.toNat (BitVec.ofInt (IntKind.bits IntKind.i64) less &&& BitVec.ofInt (IntKind.bits IntKind.i64) (15 : Int))) : Int)))) ?_
        refine rv (D.bool (decide (tB ≤ IntKind.wrap IntKind.i64 (↑(BitVec.toNat (BitVec.ofInt (IntKind.bits IntKind.i64) less &&& BitVec.ofInt (IntKind.bits IntKind.i64) (15 : Int))) : Int)))) ?_
        refine ra0 (D.bool (decide (tB ≤ IntKind.wrap IntKind.i64 (↑(BitVec.toNat (BitVec.ofInt (IntKind.bits IntKind.i64) less &&& BitVec.ofInt (IntKind.bits IntKind.i64) (15 : Int))) : Int)))) ?_
        refine k_done (k_skip_seq (k_ret ?_))
        refine ⟨.inr rfl, by kernel_rfl, σ0, ?_⟩
        exact Eq.trans (b := some (D.bool (decide (tB ≤ IntKind.i64.wrap (((BitVec.ofInt (IntKind.bits IntKind.i64) less &&& BitVec.ofInt (IntKind.bits IntKind.i64) 15).toNat : Nat) : Int))), σ0)) (by show _ = _; kernel_rfl) (by rw [decide_eq_true (by omega)])
    · rw [k2]
      subst k1
      rcases hl with ⟨l1, l2⟩ | ⟨l1, l2, l3⟩
      · subst l1
        refine k_seq (k_seq ?_)
        refine rv (D.int IntKind.i64 (↑x : Int)) ?_
        refine rv (D.int IntKind.i64 (↑V : Int)) ?_
        refine rv (D.int IntKind.u64 (IntKind.wrap IntKind.u64 (↑V : Int))) ?_
        refine rv (D.int IntKind.i64 (IntKind.wrap IntKind.i64 ((1 : Int) * (2 : Int) ^ min (Int.toNat (IntKind.wrap IntKind.u64 (↑V : Int))) (IntKind.bits IntKind.i64)))) ?_
        refine rv (D.bool (decide ((↑x : Int) < IntKind.wrap IntKind.i64 ((1 : Int) * (2 : Int) ^ min (Int.toNat (IntKind.wrap IntKind.u64 (↑V : Int))) (IntKind.bits IntKind.i64))))) ?_
        refine k_done (k_skip_seq ?_)
        refine rkn 37 (decide ((↑x : Int) < IntKind.wrap IntKind.i64 ((1 : Int) * (2 : Int) ^ min (Int.toNat (IntKind.wrap IntKind.u64 (↑V : Int))) (IntKind.bits IntKind.i64)))) false (by assumption) ?_
        refine kcf (k_exit_seq (k_exit_back (k_exit_hit rfl (k_skip_seq (k_seq ?_)))))
        refine rv (D.sl (rows l) none) ?_
        refine rv (D.int IntKind.i64 (↑V : Int)) ?_
        refine rv (D.int IntKind.i64 (↑V : Int)) ?_
        refine rv (D.int IntKind.u64 (IntKind.wrap IntKind.u64 (↑V : Int))) ?_
        refine rv (D.int IntKind.i64 (IntKind.wrap IntKind.i64 ((1 : Int) * (2 : Int) ^ min (Int.toNat (IntKind.wrap IntKind.u64 (↑V : Int))) (IntKind.bits IntKind.i64)))) ?_
        refine rve (D.int IntKind.i64 (IntKind.wrap IntKind.i64 (IntKind.wrap IntKind.i64 ((1 : Int) * (2 : Int) ^ min (Int.toNat (IntKind.wrap IntKind.u64 (↑V : Int))) (IntKind.bits IntKind.i64)) - (1 : Int)))) (.int IntKind.i64 (IntKind.wrap IntKind.i64 ((1 : Int) * (2 : Int) ^ min (Int.toNat (IntKind.wrap IntKind.u64 (↑V : Int))) (IntKind.bits IntKind.i64)) - (1 : Int))) (congrArg (D.int IntKind.i64) (show IntKind.wrap IntKind.i64 (IntKind.wrap IntKind.i64 ((1 : Int) * (2 : Int) ^ min (Int.toNat (IntKind.wrap IntKind.u64 (↑V : Int))) (IntKind.bits IntKind.i64)) - (1 : Int)) = (IntKind.wrap IntKind.i64 ((1 : Int) * (2 : Int) ^ min (Int.toNat (IntKind.wrap IntKind.u64 (↑V : Int))) (IntKind.bits IntKind.i64)) - (1 : Int)) from wrap_eq (by omega) (by omega) (by omega))) ?_
        refine runs_call ([D.sl (rows l) none, D.int IntKind.i64 (↑V : Int), D.int IntKind.i64 (IntKind.wrap IntKind.i64 ((1 : Int) * (2 : Int) ^ min (Int.toNat (IntKind.wrap IntKind.u64 (↑V : Int))) (IntKind.bits IntKind.i64)) - (1 : Int))]) (by kernel_rfl) (by kernel_rfl) (by kernel_rfl) (by kernel_rfl) (hs1) (by kernel_rfl) ?_
        refine rgf (D.lptr (14 : Nat) (0 : Nat)) (σ0) ?_
        refine rgf (D.junk) (σ0) ?_
        refine k_done (k_skip_seq (k_seq ?_))
        refine rv (D.sl (rows l) none) ?_
        refine rv (D.int IntKind.i64 (↑V : Int)) ?_
        refine rv (D.int IntKind.i64 less) ?_
        refine rv (D.int IntKind.i64 (IntKind.wrap IntKind.i64 (↑(BitVec.toNat (BitVec.ofInt (IntKind.bits IntKind.i64) less &&& BitVec.ofInt (IntKind.bits IntKind.i64) (15 : Int))) : Int))) ?_
        refine runs_call ([D.sl (rows l) none, D.int IntKind.i64 (↑V : Int), D.int IntKind.i64 (IntKind.wrap IntKind.i64 (↑(BitVec.toNat (BitVec.ofInt (IntKind.bits IntKind.i64) less &&& BitVec.ofInt (IntKind.bits IntKind.i64) (15 : Int))) : Int))]) (by kernel_rfl) (by kernel_rfl) (by kernel_rfl) (by kernel_rfl) (hs2) (by kernel_rfl) ?_
        refine rgf (D.lptr (15 : Nat) (0 : Nat)) (σ0) ?_
        refine rgf (D.junk) (σ0) ?_
        refine k_done (k_skip_seq (k_seq (k_seq ?_)))
        refine rv (D.lptr (14 : Nat) (0 : Nat)) ?_
        refine rv (D.int IntKind.i64 (2 : Int)) ?_
        refine rv (D.bool false) ?_
        refine rv (D.bool false) ?_
        refine rno (rno (rno (rno (rno (rno (rno (rno (rno ?_))))))))
        refine rv (D.bool false) ?_
        refine rv (D.bool false) ?_
        refine rv (D.lptr (14 : Nat) (0 : Nat)) ?_
        refine rv (D.int IntKind.i64 (2 : Int)) ?_
        refine rv (D.bool true) ?_
        refine rv (D.bool true) ?_
        refine rv (D.bool false) ?_
        refine rv (D.bool false) ?_
        refine rv (D.bool false) ?_
        refine rv (D.bool false) ?_
        refine rv (D.lptr (14 : Nat) (0 : Nat)) ?_
        refine rv (D.int IntKind.i64 (2 : Int)) ?_
        refine rv (D.bool true) ?_
        refine rv (D.bool true) ?_
        refine rv (D.lptr (14 : Nat) (0 : Nat)) ?_
        refine rv (D.int IntKind.i64 (2 : Int)) ?_
        refine rv (D.bool false) ?_
        refine rv (D.bool false) ?_
        refine rv (D.bool false) ?_
        refine k_done (k_skip_seq (kcf (k_skip_seq (k_seq ?_))))
        refine rv (D.lptr (15 : Nat) (0 : Nat)) ?_
        refine rv (D.int IntKind.i64 (3 : Int)) ?_
        refine rv (D.bool true) ?_
        refine rv (D.bool true) ?_
        refine rv (D.lptr (15 : Nat) (3 : Nat)) ?_
        refine rv (D.int IntKind.i64 tB) ?_
        refine rv (D.int IntKind.i64 less) ?_
        refine rv (D.int IntKind.i64 (IntKind.wrap IntKind.i64 (↑(BitVec.toNat (BitVec.ofInt (IntKind.bits IntKind.i64) less &&& BitVec.ofInt (IntKind.bits IntKind.i64) (15 : Int))) : Int))) ?_
        refine rve (D.int IntKind.i64 (IntKind.wrap IntKind.i64 (IntKind.wrap IntKind.i64 (↑(BitVec.toNat (BitVec.ofInt (IntKind.bits IntKind.i64) less &&& BitVec.ofInt (IntKind.bits IntKind.i64) (15 : Int))) : Int) + (1 : Int)))) (.int IntKind.i64 (IntKind.wrap IntKind.i64 (↑(BitVec.toNat (BitVec.ofInt (IntKind.bits IntKind.i64) less &&& BitVec.ofInt (IntKind.bits IntKind.i64) (15 : Int))) : Int) + (1 : Int))) (congrArg (D.int IntKind.i64) (show IntKind.wrap IntKind.i64 (IntKind.wrap IntKind.i64 (↑(BitVec.toNat (BitVec.ofInt (IntKind.bits IntKind.i64) less &&& BitVec.ofInt (IntKind.bits IntKind.i64) (15 : Int))) : Int) + (1 : Int)) = (IntKind.wrap IntKind.i64 (↑(BitVec.toNat (BitVec.ofInt (IntKind.bits IntKind.i64) less &&& BitVec.ofInt (IntKind.bits IntKind.i64) (15 : Int))) : Int) + (1 : Int)) from wrap_eq (by omega) (by omega) (by omega))) ?_
        refine rv (D.bool (tB == IntKind.wrap IntKind.i64 (↑(BitVec.toNat (BitVec.ofInt (IntKind.bits IntKind.i64) less &&& BitVec.ofInt (IntKind.bits IntKind.i64) (15 : Int))) : Int) + (1 : Int))) ?_
        refine rv (D.bool (tB == IntKind.wrap IntKind.i64 (↑(BitVec.toNat (BitVec.ofInt (IntKind.bits IntKind.i64) less &&& BitVec.ofInt (IntKind.bits IntKind.i64) (15 : Int))) : Int) + (1 : Int))) ?_
        refine rv (D.bool (tB == IntKind.wrap IntKind.i64 (↑(BitVec.toNat (BitVec.ofInt (IntKind.bits IntKind.i64) less &&& BitVec.ofInt (IntKind.bits IntKind.i64) (15 : Int))) : Int) + (1 : Int))) ?_
        refine rkn 118 (tB == IntKind.wrap IntKind.i64 (↑(BitVec.toNat (BitVec.ofInt (IntKind.bits IntKind.i64) less &&& BitVec.ofInt (IntKind.bits IntKind.i64) (15 : Int))) : Int) + (1 : Int)) true (decide_eq_true (by omega)) ?_
        refine rno (rno (rno (rno (rno (rno (rno (rno (rno (rno (rno (rno ?_)))))))))))
        refine rno (rno (rno (rno (rno (rno (rno ?_))))))
        refine rv (D.bool true) ?_
        refine ra0 (D.bool true) ?_
        refine k_done (k_skip_seq (k_ret ?_))
        exact ⟨.inr rfl, by kernel_rfl, σ0, by kernel_rfl⟩
      · subst l1
        refine k_seq (k_seq ?_)
        refine rv (D.int IntKind.i64 (↑x : Int)) ?_
        refine rv (D.int IntKind.i64 (↑V : Int)) ?_
        refine rv (D.int IntKind.u64 (IntKind.wrap IntKind.u64 (↑V : Int))) ?_
        refine rv (D.int IntKind.i64 (IntKind.wrap IntKind.i64 ((1 : Int) * (2 : Int) ^ min (Int.toNat (IntKind.wrap IntKind.u64 (↑V : Int))) (IntKind.bits IntKind.i64)))) ?_
        refine rv (D.bool (decide ((↑x : Int) < IntKind.wrap IntKind.i64 ((1 : Int) * (2 : Int) ^ min (Int.toNat (IntKind.wrap IntKind.u64 (↑V : Int))) (IntKind.bits IntKind.i64))))) ?_
        refine k_done (k_skip_seq ?_)
        refine rkn 37 (decide ((↑x : Int) < IntKind.wrap IntKind.i64 ((1 : Int) * (2 : Int) ^ min (Int.toNat (IntKind.wrap IntKind.u64 (↑V : Int))) (IntKind.bits IntKind.i64)))) false (by assumption) ?_
        refine kcf (k_exit_seq (k_exit_back (k_exit_hit rfl (k_skip_seq (k_seq ?_)))))
        refine rv (D.sl (rows l) none) ?_
        refine rv (D.int IntKind.i64 (↑V : Int)) ?_
        refine rv (D.int IntKind.i64 (↑V : Int)) ?_
        refine rv (D.int IntKind.u64 (IntKind.wrap IntKind.u64 (↑V : Int))) ?_
        refine rv (D.int IntKind.i64 (IntKind.wrap IntKind.i64 ((1 : Int) * (2 : Int) ^ min (Int.toNat (IntKind.wrap IntKind.u64 (↑V : Int))) (IntKind.bits IntKind.i64)))) ?_
        refine rve (D.int IntKind.i64 (IntKind.wrap IntKind.i64 (IntKind.wrap IntKind.i64 ((1 : Int) * (2 : Int) ^ min (Int.toNat (IntKind.wrap IntKind.u64 (↑V : Int))) (IntKind.bits IntKind.i64)) - (1 : Int)))) (.int IntKind.i64 (IntKind.wrap IntKind.i64 ((1 : Int) * (2 : Int) ^ min (Int.toNat (IntKind.wrap IntKind.u64 (↑V : Int))) (IntKind.bits IntKind.i64)) - (1 : Int))) (congrArg (D.int IntKind.i64) (show IntKind.wrap IntKind.i64 (IntKind.wrap IntKind.i64 ((1 : Int) * (2 : Int) ^ min (Int.toNat (IntKind.wrap IntKind.u64 (↑V : Int))) (IntKind.bits IntKind.i64)) - (1 : Int)) = (IntKind.wrap IntKind.i64 ((1 : Int) * (2 : Int) ^ min (Int.toNat (IntKind.wrap IntKind.u64 (↑V : Int))) (IntKind.bits IntKind.i64)) - (1 : Int)) from wrap_eq (by omega) (by omega) (by omega))) ?_
        refine runs_call ([D.sl (rows l) none, D.int IntKind.i64 (↑V : Int), D.int IntKind.i64 (IntKind.wrap IntKind.i64 ((1 : Int) * (2 : Int) ^ min (Int.toNat (IntKind.wrap IntKind.u64 (↑V : Int))) (IntKind.bits IntKind.i64)) - (1 : Int))]) (by kernel_rfl) (by kernel_rfl) (by kernel_rfl) (by kernel_rfl) (hs1) (by kernel_rfl) ?_
        refine rgf (D.lptr (14 : Nat) (0 : Nat)) (σ0) ?_
        refine rgf (D.junk) (σ0) ?_
        refine k_done (k_skip_seq (k_seq ?_))
        refine rv (D.sl (rows l) none) ?_
        refine rv (D.int IntKind.i64 (↑V : Int)) ?_
        refine rv (D.int IntKind.i64 less) ?_
        refine rv (D.int IntKind.i64 (IntKind.wrap IntKind.i64 (↑(BitVec.toNat (BitVec.ofInt (IntKind.bits IntKind.i64) less &&& BitVec.ofInt (IntKind.bits IntKind.i64) (15 : Int))) : Int))) ?_
        refine runs_call ([D.sl (rows l) none, D.int IntKind.i64 (↑V : Int), D.int IntKind.i64 (IntKind.wrap IntKind.i64 (↑(BitVec.toNat (BitVec.ofInt (IntKind.bits IntKind.i64) less &&& BitVec.ofInt (IntKind.bits IntKind.i64) (15 : Int))) : Int))]) (by kernel_rfl) (by kernel_rfl) (by kernel_rfl) (by kernel_rfl) (hs2) (by kernel_rfl) ?_
        refine rgf (D.lptr (15 : Nat) (0 : Nat)) (σ0) ?_
        refine rgf (D.junk) (σ0) ?_
        refine k_done (k_skip_seq (k_seq (k_seq ?_)))
        refine rv (D.lptr (14 : Nat) (0 : Nat)) ?_
        refine rv (D.int IntKind.i64 (2 : Int)) ?_
        refine rv (D.bool false) ?_
        refine rv (D.bool false) ?_
        refine rno (rno (rno (rno (rno (rno (rno (rno (rno ?_))))))))
        refine rv (D.bool false) ?_
        refine rv (D.bool false) ?_
        refine rv (D.lptr (14 : Nat) (0 : Nat)) ?_
        refine rv (D.int IntKind.i64 (2 : Int)) ?_
        refine rv (D.bool true) ?_
        refine rv (D.bool true) ?_
        refine rv (D.bool false) ?_
        refine rv (D.bool false) ?_
        refine rv (D.bool false) ?_
        refine rv (D.bool false) ?_
        refine rv (D.lptr (14 : Nat) (0 : Nat)) ?_
        refine rv (D.int IntKind.i64 (2 : Int)) ?_
        refine rv (D.bool true) ?_
        refine rv (D.bool true) ?_
        refine rv (D.lptr (14 : Nat) (0 : Nat)) ?_
        refine rv (D.int IntKind.i64 (2 : Int)) ?_
        refine rv (D.bool false) ?_
        refine rv (D.bool false) ?_
        refine rv (D.bool false) ?_
        refine k_done (k_skip_seq (kcf (k_skip_seq (k_seq ?_))))
        refine rv (D.lptr (15 : Nat) (0 : Nat)) ?_
        refine rv (D.int IntKind.i64 (2 : Int)) ?_
        refine rv (D.bool false) ?_
        refine rv (D.bool false) ?_
        refine rno (rno (rno (rno (rno (rno ?_)))))
        refine rv (D.bool false) ?_
        refine rv (D.bool false) ?_
        refine rv (D.lptr (15 : Nat) (0 : Nat)) ?_
        refine rv (D.int IntKind.i64 (2 : Int)) ?_
        refine rv (D.lptr (14 : Nat) (0 : Nat)) ?_
        refine rv (D.int IntKind.i64 (2 : Int)) ?_
        refine rv (D.bool true) ?_
        refine rv (D.bool true) ?_
        refine rv (D.lptr (15 : Nat) (3 : Nat)) ?_
        refine rv (D.int IntKind.i64 tB) ?_
        refine rv (D.lptr (14 : Nat) (3 : Nat)) ?_
        refine rv (D.int IntKind.i64 tA) ?_
        refine rv (D.bool (tB == tA)) ?_
        refine rv (D.bool (tB == tA)) ?_
        refine rv (D.bool (tB == tA)) ?_
        refine rkn 131 (tB == tA) true (decide_eq_true (by assumption)) ?_
        refine rv (D.lptr (15 : Nat) (3 : Nat)) ?_
        refine rv (D.int IntKind.i64 tB) ?_
        refine rv (D.int IntKind.i64 less) ?_
        refine rv (D.int IntKind.i64 (IntKind.wrap IntKind.i64 (↑(BitVec.toNat (BitVec.ofInt (IntKind.bits IntKind.i64) less &&& BitVec.ofInt (IntKind.bits IntKind.i64) (15 : Int))) : Int))) ?_
        refine rv (D.bool (decide (tB ≤ IntKind.wrap IntKind.i64 (↑(BitVec.toNat (BitVec.ofInt (IntKind.bits IntKind.i64) less &&& BitVec.ofInt (IntKind.bits IntKind.i64) (15 : Int))) : Int)))) ?_
        refine rv (D.bool (decide (tB ≤ IntKind.wrap IntKind.i64 (↑(BitVec.toNat (BitVec.ofInt (IntKind.bits IntKind.i64) less &&& BitVec.ofInt (IntKind.bits IntKind.i64) (15 : Int))) : Int)))) ?_
        refine rv (D.bool (decide (tB ≤ IntKind.wrap IntKind.i64 (↑(BitVec.toNat (BitVec.ofInt (IntKind.bits IntKind.i64) less &&& BitVec.ofInt (IntKind.bits IntKind.i64) (15 : Int))) : Int)))) ?_
        refine ra0 (D.bool (decide (tB ≤ IntKind.wrap IntKind.i64 (↑(BitVec.toNat (BitVec.ofInt (IntKind.bits IntKind.i64) less &&& BitVec.ofInt (IntKind.bits IntKind.i64) (15 : Int))) : Int)))) ?_
        refine k_done (k_skip_seq (k_ret ?_))
        refine ⟨.inr rfl, by kernel_rfl, σ0, ?_⟩
        exact Eq.trans (b := some (D.bool (decide (tB ≤ IntKind.i64.wrap (((BitVec.ofInt (IntKind.bits IntKind.i64) less &&& BitVec.ofInt (IntKind.bits IntKind.i64) 15).toNat : Nat) : Int))), σ0)) (by show _ = _; kernel_rfl) (by rw [decide_eq_true (by omega)])
end Go.Abs.B
