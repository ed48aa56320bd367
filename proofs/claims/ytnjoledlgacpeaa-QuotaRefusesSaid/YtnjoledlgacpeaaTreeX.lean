import Derived.Test.YtnjoledlgacpeaaKont2
import Derived.Test.YtnjoledlgacpeaaTreeV
set_option linter.unusedVariables false
set_option linter.unusedSimpArgs false
/-
  The sum of two numbers by digits.
-/
namespace Go.Abs.C
open Go Go.Abs
set_option maxRecDepth 8000
attribute [local irreducible] callN runC evalOp
theorem shr32 (x : Int) (h : 0 ≤ x) : Int.fdiv x ((2 : Int) ^ min (Int.toNat (32 : Int)) (IntKind.bits IntKind.u64)) = x / 4294967296 := by
  show Int.fdiv x 4294967296 = x / 4294967296
  exact Int.fdiv_eq_ediv_of_nonneg x (by decide)
theorem ofInt_toNat (x : Int) (h0 : 0 ≤ x) (h1 : x < 18446744073709551616) : (BitVec.ofInt (IntKind.bits IntKind.u64) x).toNat = x.toNat := by
  show (BitVec.ofInt 64 x).toNat = x.toNat
  rw [BitVec.toNat_ofInt]
  congr 1
  exact Int.emod_eq_of_lt h0 h1
theorem and32 (x : Int) (h0 : 0 ≤ x) (h1 : x < 18446744073709551616) : IntKind.wrap IntKind.u64 (↑(BitVec.toNat (BitVec.ofInt (IntKind.bits IntKind.u64) x &&& BitVec.ofInt (IntKind.bits IntKind.u64) (4294967295 : Int))) : Int) = x % 4294967296 := by
  have e : (BitVec.toNat (BitVec.ofInt (IntKind.bits IntKind.u64) x &&& BitVec.ofInt (IntKind.bits IntKind.u64) (4294967295 : Int))) = x.toNat % 4294967296 := by
    rw [BitVec.toNat_and, ofInt_toNat x h0 h1, ofInt_toNat 4294967295 (by decide) (by decide)]
    exact Nat.and_two_pow_sub_one_eq_mod x.toNat 32
  rw [e]
  exact wrap_equ (by omega) (by omega) (by omega)
theorem or32 (a b : Int) (h0 : 0 ≤ a) (h1 : a < 4294967296) (h2 : 0 ≤ b) (h3 : b < 4294967296) : IntKind.wrap IntKind.u64 (↑(BitVec.toNat (BitVec.ofInt (IntKind.bits IntKind.u64) (a * 4294967296) ||| BitVec.ofInt (IntKind.bits IntKind.u64) b)) : Int) = a * 4294967296 + b := by
  have e : (BitVec.toNat (BitVec.ofInt (IntKind.bits IntKind.u64) (a * 4294967296) ||| BitVec.ofInt (IntKind.bits IntKind.u64) b)) = a.toNat * 4294967296 + b.toNat := by
    rw [BitVec.toNat_or, ofInt_toNat _ (by omega) (by omega), ofInt_toNat b h2 (by omega)]
    have h4 : (a * 4294967296).toNat = a.toNat <<< 32 := by
      rw [Nat.shiftLeft_eq]
      show _ = a.toNat * 4294967296
      omega
    rw [h4, ← Nat.shiftLeft_add_eq_or_of_lt (by omega : b.toNat < 2 ^ 32), Nat.shiftLeft_eq]
  rw [e]
  exact wrap_equ (by omega) (by omega) (by omega)
theorem of_ok (n : Nat) (x : Int) (h0 : 0 ≤ x) (h1 : x ≤ 9223372036854775807) : callN T (n + 1) 49 [.int .i64 x] [] = some (.agg [.bool false, .int .u64 0, .int .u64 0, .int .u64 (x / 4294967296), .int .u64 (x % 4294967296)], []) := by
  refine call_of (m := m49) rfl rfl (by decide) (k_start ?_)
  unfold m49
  have hvs := shr32 x h0
  have hva := and32 x h0 (by omega)
  have hvb : decide (x < (0 : Int)) = false := decide_eq_false (by omega)
  refine k_seq ?_
  refine rgf (D.lptr (2 : Nat) (0 : Nat)) ([]) ?_
  refine k_done (k_skip_seq (k_seq ?_))
  refine rv (D.int IntKind.i64 x) ?_
  refine rve (D.int IntKind.u64 (IntKind.wrap IntKind.u64 x)) (.int IntKind.u64 (x)) (congrArg (D.int IntKind.u64) (show IntKind.wrap IntKind.u64 x = (x) from wrap_equ (by omega) (by omega) (by omega))) ?_
  refine ra0 (D.int IntKind.u64 x) ?_
  refine k_done (k_skip_seq (k_seq (k_seq ?_)))
  refine rv (D.int IntKind.i64 x) ?_
  refine rve (D.bool (decide (x < (0 : Int)))) (.bool (false)) (congrArg D.bool (hvb)) ?_
  refine k_done (k_skip_seq (kcf (k_skip_seq (k_seq ?_))))
  refine rv (D.int IntKind.i64 x) ?_
  refine rve (D.bool (decide (x < (0 : Int)))) (.bool (false)) (congrArg D.bool (hvb)) ?_
  refine rv (D.int IntKind.u64 x) ?_
  refine rve (D.int IntKind.u64 (Int.fdiv x ((2 : Int) ^ min (Int.toNat (32 : Int)) (IntKind.bits IntKind.u64)))) (.int IntKind.u64 (x / (4294967296 : Int))) (congrArg (D.int IntKind.u64) (hvs)) ?_
  refine rv (D.int IntKind.u64 x) ?_
  refine rve (D.int IntKind.u64 (IntKind.wrap IntKind.u64 (↑(BitVec.toNat (BitVec.ofInt (IntKind.bits IntKind.u64) x &&& BitVec.ofInt (IntKind.bits IntKind.u64) (4294967295 : Int))) : Int))) (.int IntKind.u64 (x % (4294967296 : Int))) (congrArg (D.int IntKind.u64) (hva)) ?_
  refine rv (D.agg [D.int IntKind.u64 (0 : Int), D.int IntKind.u64 (0 : Int), D.int IntKind.u64 (x / (4294967296 : Int)), D.int IntKind.u64 (x % (4294967296 : Int))]) ?_
  refine rv (D.agg [D.bool false, D.int IntKind.u64 (0 : Int), D.int IntKind.u64 (0 : Int), D.int IntKind.u64 (x / (4294967296 : Int)), D.int IntKind.u64 (x % (4294967296 : Int))]) ?_
  refine rgf (D.junk) ([]) ?_
  refine k_done (k_skip_seq (k_ret ?_))
  exact ⟨.inr rfl, by kernel_rfl, by kernel_rfl⟩
def h62 (a b c d : Int) (k : Int) (y w0 w1 w2 w3 : Int) : Fr := ⟨[.agg [.int .u64 0, .int .u64 0, .int .u64 a, .int .u64 b], .agg [.int .u64 0, .int .u64 0, .int .u64 c, .int .u64 d], .lptr 2 0, .lptr 3 0, .lptr 4 0, .int .u64 y, .int .i64 k] ++ List.replicate 20 .junk,
  [none, none, some [.int .u64 w0, .int .u64 w1, .int .u64 w2, .int .u64 w3], some [.int .u64 0, .int .u64 0, .int .u64 c, .int .u64 d], some [.int .u64 0, .int .u64 0, .int .u64 0, .int .u64 0]] ++ List.replicate 22 none, []⟩
structure XS where
  k : Nat
  y : Int
  w0 : Int
  w1 : Int
  w2 : Int
  w3 : Int
structure XI (a b c d : Int) (s : XS) : Prop where
  k : s.k ≤ 4
  i0 : s.k = 0 → s.y = 0 ∧ s.w0 = 0 ∧ s.w1 = 0 ∧ s.w2 = a ∧ s.w3 = b
  i1 : s.k = 1 → s.y = (b + d) / 4294967296 ∧ s.w0 = 0 ∧ s.w1 = 0 ∧ s.w2 = a ∧ s.w3 = (b + d) % 4294967296
  i2 : s.k = 2 → s.y = (a + c + (b + d) / 4294967296) / 4294967296 ∧ s.w0 = 0 ∧ s.w1 = 0 ∧ s.w2 = (a + c + (b + d) / 4294967296) % 4294967296 ∧ s.w3 = (b + d) % 4294967296
  i3 : s.k = 3 → s.y = 0 ∧ s.w0 = 0 ∧ s.w1 = (a + c + (b + d) / 4294967296) / 4294967296 ∧ s.w2 = (a + c + (b + d) / 4294967296) % 4294967296 ∧ s.w3 = (b + d) % 4294967296
  i4 : s.k = 4 → s.w0 = 0 ∧ s.w1 = (a + c + (b + d) / 4294967296) / 4294967296 ∧ s.w2 = (a + c + (b + d) / 4294967296) % 4294967296 ∧ s.w3 = (b + d) % 4294967296
theorem plus_ok (n : Nat) (a b c d : Int) (ha : 0 ≤ a ∧ a < 4294967296) (hb : 0 ≤ b ∧ b < 4294967296) (hc : 0 ≤ c ∧ c < 4294967296) (hd : 0 ≤ d ∧ d < 4294967296) : callN T (n + 7) 62 [.agg [.int .u64 0, .int .u64 0, .int .u64 a, .int .u64 b], .agg [.int .u64 0, .int .u64 0, .int .u64 c, .int .u64 d]] [] = some (.agg [.int .u64 0, .int .u64 ((a + c + (b + d) / 4294967296) / 4294967296), .int .u64 ((a + c + (b + d) / 4294967296) % 4294967296), .int .u64 ((b + d) % 4294967296)], []) := by
  refine call_of (m := m62) rfl rfl (by decide) (k_start ?_)
  unfold m62
  refine k_seq ?_
  refine rgf (D.lptr (2 : Nat) (0 : Nat)) ([]) ?_
  refine rgf (D.lptr (3 : Nat) (0 : Nat)) ([]) ?_
  refine rgf (D.lptr (4 : Nat) (0 : Nat)) ([]) ?_
  refine k_done (k_skip_seq (k_seq ?_))
  refine rv (D.int IntKind.u64 (0 : Int)) ?_
  refine k_done (k_skip_seq (k_seq (k_seq ?_)))
  refine rv (D.int IntKind.i64 (3 : Int)) ?_
  refine k_done (k_skip_seq (k_block ?_))
  refine k_loop (fun s : XS => h62 a b c d (3 - (s.k : Int)) s.y s.w0 s.w1 s.w2 s.w3) (fun _ => []) (fun s => XI a b c d s) (fun s => 4 - s.k) ⟨0, 0, 0, 0, a, b⟩ (by kernel_rfl) (by kernel_rfl) ⟨by simp, fun _ => ⟨rfl, rfl, rfl, rfl, rfl⟩, fun h => by simp at h, fun h => by simp at h, fun h => by simp at h, fun h => by simp at h⟩ (fun s hs => by omega) ?_
  rintro ⟨k, y, w0, w1, w2, w3⟩ ⟨hk, i0, i1, i2, i3, i4⟩
  simp only at hk i0 i1 i2 i3 i4
  show Runs (runC _ _ _ (h62 a b c d (3 - (k : Int)) y w0 w1 w2 w3) []) _
  unfold h62 l62_0
  have h5 : k = 0 ∨ k = 1 ∨ k = 2 ∨ k = 3 ∨ k = 4 := by omega
  rcases h5 with rfl | rfl | rfl | rfl | rfl
  · obtain ⟨e1, e2, e3, e4, e5⟩ := i0 rfl
    subst e1 e2 e3 e4 e5
    have hvs := shr32 (w3 + d) (by omega)
    have hva := and32 (w3 + d) (by omega) (by omega)
    have hvz : IntKind.wrap IntKind.u64 (0 + (w3 + d)) = w3 + d := wrap_equ (by omega) (by omega) (by omega)
    refine k_seq (k_seq ?_)
    refine rv (D.int IntKind.i64 (3 : Int)) ?_
    refine rv (D.bool true) ?_
    refine k_done (k_skip_seq (kct (k_skip_seq (k_seq (k_block (k_seq ?_))))))
    refine rv (D.int IntKind.u64 (0 : Int)) ?_
    refine rv (D.int IntKind.i64 (3 : Int)) ?_
    refine rv (D.lptr (2 : Nat) (3 : Nat)) ?_
    refine rv (D.int IntKind.u64 w3) ?_
    refine rv (D.int IntKind.i64 (3 : Int)) ?_
    refine rv (D.lptr (3 : Nat) (3 : Nat)) ?_
    refine rv (D.int IntKind.u64 d) ?_
    refine rve (D.int IntKind.u64 (IntKind.wrap IntKind.u64 (w3 + d))) (.int IntKind.u64 (w3 + d)) (congrArg (D.int IntKind.u64) (show IntKind.wrap IntKind.u64 (w3 + d) = (w3 + d) from wrap_equ (by omega) (by omega) (by omega))) ?_
    refine rve (D.int IntKind.u64 (IntKind.wrap IntKind.u64 ((0 : Int) + (w3 + d)))) (.int IntKind.u64 (w3 + d)) (congrArg (D.int IntKind.u64) (hvz)) ?_
    refine ra0 (D.int IntKind.u64 (w3 + d)) ?_
    refine k_done (k_skip_seq (k_seq ?_))
    refine rv (D.int IntKind.i64 (3 : Int)) ?_
    refine rv (D.int IntKind.u64 (w3 + d)) ?_
    refine rve (D.int IntKind.u64 (IntKind.wrap IntKind.u64 (↑(BitVec.toNat (BitVec.ofInt (IntKind.bits IntKind.u64) (w3 + d) &&& BitVec.ofInt (IntKind.bits IntKind.u64) (4294967295 : Int))) : Int))) (.int IntKind.u64 ((w3 + d) % (4294967296 : Int))) (congrArg (D.int IntKind.u64) (hva)) ?_
    refine rv (D.lptr (2 : Nat) (3 : Nat)) ?_
    refine rgf (D.junk) ([]) ?_
    refine k_done (k_skip_seq ?_)
    refine rv (D.int IntKind.u64 (w3 + d)) ?_
    refine rve (D.int IntKind.u64 (Int.fdiv (w3 + d) ((2 : Int) ^ min (Int.toNat (32 : Int)) (IntKind.bits IntKind.u64)))) (.int IntKind.u64 ((w3 + d) / (4294967296 : Int))) (congrArg (D.int IntKind.u64) (hvs)) ?_
    refine ra0 (D.int IntKind.u64 ((w3 + d) / (4294967296 : Int))) ?_
    refine k_done (k_skip_block (k_skip_seq ?_))
    refine rv (D.int IntKind.i64 (3 : Int)) ?_
    refine rv (D.int IntKind.i64 (2 : Int)) ?_
    refine ra0 (D.int IntKind.i64 (2 : Int)) ?_
    refine k_done (k_skip_back ?_)
    exact ⟨⟨1, (w3 + d) / 4294967296, 0, 0, w2, (w3 + d) % 4294967296⟩, ⟨by simp, fun h => by simp at h, fun _ => ⟨rfl, rfl, rfl, rfl, rfl⟩, fun h => by simp at h, fun h => by simp at h, fun h => by simp at h⟩, by simp, by kernel_rfl, rfl⟩
  · obtain ⟨e1, e2, e3, e4, e5⟩ := i1 rfl
    subst e2 e3 e4
    have hvs := shr32 (y + (w2 + c)) (by omega)
    have hva := and32 (y + (w2 + c)) (by omega) (by omega)
    refine k_seq (k_seq ?_)
    refine rv (D.int IntKind.i64 (2 : Int)) ?_
    refine rv (D.bool true) ?_
    refine k_done (k_skip_seq (kct (k_skip_seq (k_seq (k_block (k_seq ?_))))))
    refine rv (D.int IntKind.u64 y) ?_
    refine rv (D.int IntKind.i64 (2 : Int)) ?_
    refine rv (D.lptr (2 : Nat) (2 : Nat)) ?_
    refine rv (D.int IntKind.u64 w2) ?_
    refine rv (D.int IntKind.i64 (2 : Int)) ?_
    refine rv (D.lptr (3 : Nat) (2 : Nat)) ?_
    refine rv (D.int IntKind.u64 c) ?_
    refine rve (D.int IntKind.u64 (IntKind.wrap IntKind.u64 (w2 + c))) (.int IntKind.u64 (w2 + c)) (congrArg (D.int IntKind.u64) (show IntKind.wrap IntKind.u64 (w2 + c) = (w2 + c) from wrap_equ (by omega) (by omega) (by omega))) ?_
    refine rve (D.int IntKind.u64 (IntKind.wrap IntKind.u64 (y + (w2 + c)))) (.int IntKind.u64 (y + (w2 + c))) (congrArg (D.int IntKind.u64) (show IntKind.wrap IntKind.u64 (y + (w2 + c)) = (y + (w2 + c)) from wrap_equ (by omega) (by omega) (by omega))) ?_
    refine ra0 (D.int IntKind.u64 (y + (w2 + c))) ?_
    refine k_done (k_skip_seq (k_seq ?_))
    refine rv (D.int IntKind.i64 (2 : Int)) ?_
    refine rv (D.int IntKind.u64 (y + (w2 + c))) ?_
    refine rve (D.int IntKind.u64 (IntKind.wrap IntKind.u64 (↑(BitVec.toNat (BitVec.ofInt (IntKind.bits IntKind.u64) (y + (w2 + c)) &&& BitVec.ofInt (IntKind.bits IntKind.u64) (4294967295 : Int))) : Int))) (.int IntKind.u64 ((y + (w2 + c)) % (4294967296 : Int))) (congrArg (D.int IntKind.u64) (hva)) ?_
    refine rv (D.lptr (2 : Nat) (2 : Nat)) ?_
    refine rgf (D.junk) ([]) ?_
    refine k_done (k_skip_seq ?_)
    refine rv (D.int IntKind.u64 (y + (w2 + c))) ?_
    refine rve (D.int IntKind.u64 (Int.fdiv (y + (w2 + c)) ((2 : Int) ^ min (Int.toNat (32 : Int)) (IntKind.bits IntKind.u64)))) (.int IntKind.u64 ((y + (w2 + c)) / (4294967296 : Int))) (congrArg (D.int IntKind.u64) (hvs)) ?_
    refine ra0 (D.int IntKind.u64 ((y + (w2 + c)) / (4294967296 : Int))) ?_
    refine k_done (k_skip_block (k_skip_seq ?_))
    refine rv (D.int IntKind.i64 (2 : Int)) ?_
    refine rv (D.int IntKind.i64 (1 : Int)) ?_
    refine ra0 (D.int IntKind.i64 (1 : Int)) ?_
    refine k_done (k_skip_back ?_)
    exact ⟨⟨2, (y + (w2 + c)) / 4294967296, 0, 0, (y + (w2 + c)) % 4294967296, w3⟩, ⟨by simp, fun h => by simp at h, fun h => by simp at h, fun _ => ⟨by simp only []; omega, rfl, rfl, by simp only []; omega, e5⟩, fun h => by simp at h, fun h => by simp at h⟩, by simp, by kernel_rfl, rfl⟩
  · obtain ⟨e1, e2, e3, e4, e5⟩ := i2 rfl
    subst e2 e3
    have hvs := shr32 y (by omega)
    have hva := and32 y (by omega) (by omega)
    have hvz : IntKind.wrap IntKind.u64 (y + 0) = y := wrap_equ (by omega) (by omega) (by omega)
    refine k_seq (k_seq ?_)
    refine rv (D.int IntKind.i64 (1 : Int)) ?_
    refine rv (D.bool true) ?_
    refine k_done (k_skip_seq (kct (k_skip_seq (k_seq (k_block (k_seq ?_))))))
    refine rv (D.int IntKind.u64 y) ?_
    refine rv (D.int IntKind.i64 (1 : Int)) ?_
    refine rv (D.lptr (2 : Nat) (1 : Nat)) ?_
    refine rv (D.int IntKind.u64 (0 : Int)) ?_
    refine rv (D.int IntKind.i64 (1 : Int)) ?_
    refine rv (D.lptr (3 : Nat) (1 : Nat)) ?_
    refine rv (D.int IntKind.u64 (0 : Int)) ?_
    refine rv (D.int IntKind.u64 (0 : Int)) ?_
    refine rve (D.int IntKind.u64 (IntKind.wrap IntKind.u64 (y + (0 : Int)))) (.int IntKind.u64 (y)) (congrArg (D.int IntKind.u64) (hvz)) ?_
    refine ra0 (D.int IntKind.u64 y) ?_
    refine k_done (k_skip_seq (k_seq ?_))
    refine rv (D.int IntKind.i64 (1 : Int)) ?_
    refine rv (D.int IntKind.u64 y) ?_
    refine rve (D.int IntKind.u64 (IntKind.wrap IntKind.u64 (↑(BitVec.toNat (BitVec.ofInt (IntKind.bits IntKind.u64) y &&& BitVec.ofInt (IntKind.bits IntKind.u64) (4294967295 : Int))) : Int))) (.int IntKind.u64 (y % (4294967296 : Int))) (congrArg (D.int IntKind.u64) (hva)) ?_
    refine rv (D.lptr (2 : Nat) (1 : Nat)) ?_
    refine rgf (D.junk) ([]) ?_
    refine k_done (k_skip_seq ?_)
    refine rv (D.int IntKind.u64 y) ?_
    refine rve (D.int IntKind.u64 (Int.fdiv y ((2 : Int) ^ min (Int.toNat (32 : Int)) (IntKind.bits IntKind.u64)))) (.int IntKind.u64 (y / (4294967296 : Int))) (congrArg (D.int IntKind.u64) (hvs)) ?_
    refine ra0 (D.int IntKind.u64 (y / (4294967296 : Int))) ?_
    refine k_done (k_skip_block (k_skip_seq ?_))
    refine rv (D.int IntKind.i64 (1 : Int)) ?_
    refine rv (D.int IntKind.i64 (0 : Int)) ?_
    refine ra0 (D.int IntKind.i64 (0 : Int)) ?_
    refine k_done (k_skip_back ?_)
    exact ⟨⟨3, y / 4294967296, 0, y % 4294967296, w2, w3⟩, ⟨by simp, fun h => by simp at h, fun h => by simp at h, fun h => by simp at h, fun _ => ⟨by simp only []; omega, rfl, by simp only []; omega, e4, e5⟩, fun h => by simp at h⟩, by simp, by kernel_rfl, rfl⟩
  · obtain ⟨e1, e2, e3, e4, e5⟩ := i3 rfl
    subst e1 e2
    refine k_seq (k_seq ?_)
    refine rv (D.int IntKind.i64 (0 : Int)) ?_
    refine rv (D.bool true) ?_
    refine k_done (k_skip_seq (kct (k_skip_seq (k_seq (k_block (k_seq ?_))))))
    refine rv (D.int IntKind.u64 (0 : Int)) ?_
    refine rv (D.int IntKind.i64 (0 : Int)) ?_
    refine rv (D.lptr (2 : Nat) (0 : Nat)) ?_
    refine rv (D.int IntKind.u64 (0 : Int)) ?_
    refine rv (D.int IntKind.i64 (0 : Int)) ?_
    refine rv (D.lptr (3 : Nat) (0 : Nat)) ?_
    refine rv (D.int IntKind.u64 (0 : Int)) ?_
    refine rv (D.int IntKind.u64 (0 : Int)) ?_
    refine rv (D.int IntKind.u64 (0 : Int)) ?_
    refine ra0 (D.int IntKind.u64 (0 : Int)) ?_
    refine k_done (k_skip_seq (k_seq ?_))
    refine rv (D.int IntKind.i64 (0 : Int)) ?_
    refine rv (D.int IntKind.u64 (0 : Int)) ?_
    refine rv (D.int IntKind.u64 (0 : Int)) ?_
    refine rv (D.lptr (2 : Nat) (0 : Nat)) ?_
    refine rgf (D.junk) ([]) ?_
    refine k_done (k_skip_seq ?_)
    refine rv (D.int IntKind.u64 (0 : Int)) ?_
    refine rv (D.int IntKind.u64 (0 : Int)) ?_
    refine ra0 (D.int IntKind.u64 (0 : Int)) ?_
    refine k_done (k_skip_block (k_skip_seq ?_))
    refine rv (D.int IntKind.i64 (0 : Int)) ?_
    refine rv (D.int IntKind.i64 (-1 : Int)) ?_
    refine ra0 (D.int IntKind.i64 (-1 : Int)) ?_
    refine k_done (k_skip_back ?_)
    exact ⟨⟨4, 0, 0, w1, w2, w3⟩, ⟨by simp, fun h => by simp at h, fun h => by simp at h, fun h => by simp at h, fun h => by simp at h, fun _ => ⟨rfl, e3, e4, e5⟩⟩, by simp, by kernel_rfl, rfl⟩
  · obtain ⟨e2, e3, e4, e5⟩ := i4 rfl
    subst e2 e3 e4 e5
    refine k_seq (k_seq ?_)
    refine rv (D.int IntKind.i64 (-1 : Int)) ?_
    refine rv (D.bool false) ?_
    refine k_done (k_skip_seq (kcf (k_exit_seq (k_exit_back (k_exit_hit rfl (k_skip_seq (k_seq ?_)))))))
    refine rv (D.agg [D.int IntKind.u64 (0 : Int), D.int IntKind.u64 ((a + c + (b + d) / (4294967296 : Int)) / (4294967296 : Int)), D.int IntKind.u64 ((a + c + (b + d) / (4294967296 : Int)) % (4294967296 : Int)), D.int IntKind.u64 ((b + d) % (4294967296 : Int))]) ?_
    refine rgf (D.junk) ([]) ?_
    refine k_done (k_skip_seq (k_ret ?_))
    exact ⟨.inr rfl, by kernel_rfl, by kernel_rfl⟩
theorem sum_ok (n : Nat) (x y : Int) (h0 : 0 ≤ x) (h1 : x ≤ 9223372036854775807) (k0 : 0 ≤ y) (k1 : y ≤ 9223372036854775807) :
    callN T (n + 8) 48 [.agg [.bool false, .int .u64 0, .int .u64 0, .int .u64 (x / 4294967296), .int .u64 (x % 4294967296)], .agg [.bool false, .int .u64 0, .int .u64 0, .int .u64 (y / 4294967296), .int .u64 (y % 4294967296)]] [] = some (.agg [.bool false, .int .u64 0, .int .u64 0, .int .u64 ((x + y) / 4294967296), .int .u64 ((x + y) % 4294967296)], []) := by
  have hp := plus_ok n (x / 4294967296) (x % 4294967296) (y / 4294967296) (y % 4294967296) (by omega) (by omega) (by omega) (by omega)
  rw [show (x / 4294967296 + y / 4294967296 + (x % 4294967296 + y % 4294967296) / 4294967296) / 4294967296 = 0 by omega, show (x / 4294967296 + y / 4294967296 + (x % 4294967296 + y % 4294967296) / 4294967296) % 4294967296 = (x + y) / 4294967296 by omega, show (x % 4294967296 + y % 4294967296) % 4294967296 = (x + y) % 4294967296 by omega] at hp
  refine call_of (m := m48) rfl rfl (by decide) (k_start ?_)
  unfold m48
  refine k_seq ?_
  refine rgf (D.lptr (2 : Nat) (0 : Nat)) ([]) ?_
  refine rgf (D.lptr (3 : Nat) (0 : Nat)) ([]) ?_
  refine rgf (D.lptr (4 : Nat) (0 : Nat)) ([]) ?_
  refine k_done (k_skip_seq (k_seq (k_seq ?_)))
  refine rv (D.lptr (2 : Nat) (0 : Nat)) ?_
  refine rv (D.bool false) ?_
  refine rv (D.lptr (3 : Nat) (0 : Nat)) ?_
  refine rv (D.bool false) ?_
  refine rv (D.bool true) ?_
  refine k_done (k_skip_seq (kct (k_seq ?_)))
  refine rv (D.lptr (2 : Nat) (0 : Nat)) ?_
  refine rv (D.bool false) ?_
  refine rv (D.lptr (2 : Nat) (1 : Nat)) ?_
  refine rv (D.agg [D.int IntKind.u64 (0 : Int), D.int IntKind.u64 (0 : Int), D.int IntKind.u64 (x / (4294967296 : Int)), D.int IntKind.u64 (x % (4294967296 : Int))]) ?_
  refine rv (D.lptr (3 : Nat) (1 : Nat)) ?_
  refine rv (D.agg [D.int IntKind.u64 (0 : Int), D.int IntKind.u64 (0 : Int), D.int IntKind.u64 (y / (4294967296 : Int)), D.int IntKind.u64 (y % (4294967296 : Int))]) ?_
  refine runs_callQ ([D.agg [D.int IntKind.u64 (0 : Int), D.int IntKind.u64 (0 : Int), D.int IntKind.u64 (x / (4294967296 : Int)), D.int IntKind.u64 (x % (4294967296 : Int))], D.agg [D.int IntKind.u64 (0 : Int), D.int IntKind.u64 (0 : Int), D.int IntKind.u64 (y / (4294967296 : Int)), D.int IntKind.u64 (y % (4294967296 : Int))]]) (by kernel_rfl) (by kernel_rfl) (by kernel_rfl) (by kernel_rfl) (hp) (by kernel_rfl) ?_
  refine rv (D.agg [D.bool false, D.int IntKind.u64 (0 : Int), D.int IntKind.u64 (0 : Int), D.int IntKind.u64 ((x + y) / (4294967296 : Int)), D.int IntKind.u64 ((x + y) % (4294967296 : Int))]) ?_
  refine rgf (D.junk) ([]) ?_
  refine k_done (k_skip_seq (k_ret ?_))
  exact ⟨.inr rfl, by kernel_rfl, by kernel_rfl⟩
theorem fit_ok (n : Nat) (z : Int) (h0 : 0 ≤ z) (h1 : z < 18446744073709551616) :
    callN T (n + 1) 47 [.agg [.bool false, .int .u64 0, .int .u64 0, .int .u64 (z / 4294967296), .int .u64 (z % 4294967296)]] [] = some (if z ≤ 9223372036854775807 then .tup [.int .i64 z, .int .i64 0] else .tup [.int .i64 0, .int .i64 14], []) := by
  refine call_of (m := m47) rfl rfl (by decide) (k_start ?_)
  unfold m47
  have hvl : IntKind.wrap IntKind.u64 (z / 4294967296 * (2 : Int) ^ min (Int.toNat (32 : Int)) (IntKind.bits IntKind.u64)) = z / 4294967296 * 4294967296 := wrap_equ rfl (by omega) (by omega)
  have hvo : IntKind.wrap IntKind.u64 (↑(BitVec.toNat (BitVec.ofInt (IntKind.bits IntKind.u64) (z / 4294967296 * 4294967296) ||| BitVec.ofInt (IntKind.bits IntKind.u64) (z % 4294967296))) : Int) = z := by
    rw [or32 _ _ (by omega) (by omega) (by omega) (by omega)]
    omega
  by_cases c : z ≤ 9223372036854775807
  · rw [if_pos c]
    refine k_seq ?_
    refine rgf (D.lptr (1 : Nat) (0 : Nat)) ([]) ?_
    refine rv (D.int IntKind.i64 (0 : Int)) ?_
    refine rv (D.int IntKind.i64 (0 : Int)) ?_
    refine k_done (k_skip_seq (k_seq ?_))
    refine rv (D.lptr (1 : Nat) (1 : Nat)) ?_
    refine rv (D.lptr (1 : Nat) (3 : Nat)) ?_
    refine rv (D.int IntKind.u64 (z / (4294967296 : Int))) ?_
    refine rve (D.int IntKind.u64 (IntKind.wrap IntKind.u64 (z / (4294967296 : Int) * (2 : Int) ^ min (Int.toNat (32 : Int)) (IntKind.bits IntKind.u64)))) (.int IntKind.u64 (z / (4294967296 : Int) * (4294967296 : Int))) (congrArg (D.int IntKind.u64) (hvl)) ?_
    refine rv (D.lptr (1 : Nat) (1 : Nat)) ?_
    refine rv (D.lptr (1 : Nat) (4 : Nat)) ?_
    refine rv (D.int IntKind.u64 (z % (4294967296 : Int))) ?_
    refine rve (D.int IntKind.u64 (IntKind.wrap IntKind.u64 (↑(BitVec.toNat (BitVec.ofInt (IntKind.bits IntKind.u64) (z / (4294967296 : Int) * (4294967296 : Int)) ||| BitVec.ofInt (IntKind.bits IntKind.u64) (z % (4294967296 : Int)))) : Int))) (.int IntKind.u64 (z)) (congrArg (D.int IntKind.u64) (hvo)) ?_
    refine ra0 (D.int IntKind.u64 z) ?_
    refine k_done (k_skip_seq (k_seq (k_seq ?_)))
    refine rv (D.lptr (1 : Nat) (1 : Nat)) ?_
    refine rv (D.lptr (1 : Nat) (1 : Nat)) ?_
    refine rv (D.int IntKind.u64 (0 : Int)) ?_
    refine rv (D.bool false) ?_
    refine rv (D.bool false) ?_
    refine rv (D.lptr (1 : Nat) (1 : Nat)) ?_
    refine rv (D.lptr (1 : Nat) (2 : Nat)) ?_
    refine rv (D.int IntKind.u64 (0 : Int)) ?_
    refine rv (D.bool false) ?_
    refine rv (D.bool false) ?_
    refine k_done (k_skip_seq (kcf (k_skip_seq (k_seq (k_seq ?_)))))
    refine rv (D.lptr (1 : Nat) (0 : Nat)) ?_
    refine rv (D.bool false) ?_
    refine rv (D.bool false) ?_
    refine rno (rno ?_)
    refine rv (D.bool false) ?_
    refine k_done (k_skip_seq (kcf (k_skip_seq (k_seq (k_seq ?_)))))
    refine rv (D.lptr (1 : Nat) (0 : Nat)) ?_
    refine rv (D.bool false) ?_
    refine rv (D.bool false) ?_
    refine rv (D.int IntKind.u64 z) ?_
    refine rv (D.bool (decide (z ≥ (9223372036854775808 : Int)))) ?_
    refine rv (D.bool (decide (z ≥ (9223372036854775808 : Int)))) ?_
    refine k_done (k_skip_seq ?_)
    refine rkn 37 (decide (z ≥ (9223372036854775808 : Int))) false (decide_eq_false (by omega)) ?_
    refine kcf (k_skip_seq (k_seq ?_))
    refine rv (D.int IntKind.u64 z) ?_
    refine rve (D.int IntKind.i64 (IntKind.wrap IntKind.i64 z)) (.int IntKind.i64 (z)) (congrArg (D.int IntKind.i64) (show IntKind.wrap IntKind.i64 z = (z) from wrap_eq (by omega) (by omega) (by omega))) ?_
    refine ra0 (D.int IntKind.i64 z) ?_
    refine rv (D.int IntKind.i64 (0 : Int)) ?_
    refine k_done (k_skip_seq (k_ret ?_))
    exact ⟨.inr rfl, by kernel_rfl, by kernel_rfl⟩
  · rw [if_neg c]
    refine k_seq ?_
    refine rgf (D.lptr (1 : Nat) (0 : Nat)) ([]) ?_
    refine rv (D.int IntKind.i64 (0 : Int)) ?_
    refine rv (D.int IntKind.i64 (0 : Int)) ?_
    refine k_done (k_skip_seq (k_seq ?_))
    refine rv (D.lptr (1 : Nat) (1 : Nat)) ?_
    refine rv (D.lptr (1 : Nat) (3 : Nat)) ?_
    refine rv (D.int IntKind.u64 (z / (4294967296 : Int))) ?_
    refine rve (D.int IntKind.u64 (IntKind.wrap IntKind.u64 (z / (4294967296 : Int) * (2 : Int) ^ min (Int.toNat (32 : Int)) (IntKind.bits IntKind.u64)))) (.int IntKind.u64 (z / (4294967296 : Int) * (4294967296 : Int))) (congrArg (D.int IntKind.u64) (hvl)) ?_
    refine rv (D.lptr (1 : Nat) (1 : Nat)) ?_
    refine rv (D.lptr (1 : Nat) (4 : Nat)) ?_
    refine rv (D.int IntKind.u64 (z % (4294967296 : Int))) ?_
    refine rve (D.int IntKind.u64 (IntKind.wrap IntKind.u64 (↑(BitVec.toNat (BitVec.ofInt (IntKind.bits IntKind.u64) (z / (4294967296 : Int) * (4294967296 : Int)) ||| BitVec.ofInt (IntKind.bits IntKind.u64) (z % (4294967296 : Int)))) : Int))) (.int IntKind.u64 (z)) (congrArg (D.int IntKind.u64) (hvo)) ?_
    refine ra0 (D.int IntKind.u64 z) ?_
    refine k_done (k_skip_seq (k_seq (k_seq ?_)))
    refine rv (D.lptr (1 : Nat) (1 : Nat)) ?_
    refine rv (D.lptr (1 : Nat) (1 : Nat)) ?_
    refine rv (D.int IntKind.u64 (0 : Int)) ?_
    refine rv (D.bool false) ?_
    refine rv (D.bool false) ?_
    refine rv (D.lptr (1 : Nat) (1 : Nat)) ?_
    refine rv (D.lptr (1 : Nat) (2 : Nat)) ?_
    refine rv (D.int IntKind.u64 (0 : Int)) ?_
    refine rv (D.bool false) ?_
    refine rv (D.bool false) ?_
    refine k_done (k_skip_seq (kcf (k_skip_seq (k_seq (k_seq ?_)))))
    refine rv (D.lptr (1 : Nat) (0 : Nat)) ?_
    refine rv (D.bool false) ?_
    refine rv (D.bool false) ?_
    refine rno (rno ?_)
    refine rv (D.bool false) ?_
    refine k_done (k_skip_seq (kcf (k_skip_seq (k_seq (k_seq ?_)))))
    refine rv (D.lptr (1 : Nat) (0 : Nat)) ?_
    refine rv (D.bool false) ?_
    refine rv (D.bool false) ?_
    refine rv (D.int IntKind.u64 z) ?_
    refine rv (D.bool (decide (z ≥ (9223372036854775808 : Int)))) ?_
    refine rv (D.bool (decide (z ≥ (9223372036854775808 : Int)))) ?_
    refine k_done (k_skip_seq ?_)
    refine rkn 37 (decide (z ≥ (9223372036854775808 : Int))) true (decide_eq_true (by omega)) ?_
    refine kct (k_seq ?_)
    refine rv (D.int IntKind.i64 (0 : Int)) ?_
    refine rv (D.int IntKind.i64 (14 : Int)) ?_
    refine k_done (k_skip_seq (k_ret ?_))
    exact ⟨.inr rfl, by kernel_rfl, by kernel_rfl⟩
theorem add01_ok (n : Nat) (x y : Int) (h0 : 0 ≤ x) (h1 : x ≤ 9223372036854775807) (k0 : 0 ≤ y) (k1 : y ≤ 9223372036854775807) :
    callN T (n + 9) 37 [.int .i64 x, .int .i64 y] [] = some (if x + y ≤ 9223372036854775807 then .tup [.int .i64 (x + y), .int .i64 0] else .tup [.int .i64 0, .int .i64 14], []) := by
  have o1 := of_ok (n + 7) x h0 h1
  have o2 := of_ok (n + 7) y k0 k1
  have s1 := sum_ok n x y h0 h1 k0 k1
  have f1 := fit_ok (n + 7) (x + y) (by omega) (by omega)
  refine call_of (m := m37) rfl rfl (by decide) (k_start ?_)
  unfold m37
  by_cases c : x + y ≤ 9223372036854775807
  · rw [if_pos c] at f1 ⊢
    refine k_seq ?_
    refine rv (D.int IntKind.i64 (0 : Int)) ?_
    refine rv (D.int IntKind.i64 (0 : Int)) ?_
    refine k_done (k_skip_seq (k_seq ?_))
    refine rv (D.int IntKind.i64 x) ?_
    refine runs_call ([D.int IntKind.i64 x]) (by kernel_rfl) (by kernel_rfl) (by kernel_rfl) (by kernel_rfl) (o1) (by kernel_rfl) ?_
    refine rv (D.int IntKind.i64 y) ?_
    refine runs_call ([D.int IntKind.i64 y]) (by kernel_rfl) (by kernel_rfl) (by kernel_rfl) (by kernel_rfl) (o2) (by kernel_rfl) ?_
    refine runs_call ([D.agg [D.bool false, D.int IntKind.u64 (0 : Int), D.int IntKind.u64 (0 : Int), D.int IntKind.u64 (x / (4294967296 : Int)), D.int IntKind.u64 (x % (4294967296 : Int))], D.agg [D.bool false, D.int IntKind.u64 (0 : Int), D.int IntKind.u64 (0 : Int), D.int IntKind.u64 (y / (4294967296 : Int)), D.int IntKind.u64 (y % (4294967296 : Int))]]) (by kernel_rfl) (by kernel_rfl) (by kernel_rfl) (by kernel_rfl) (s1) (by kernel_rfl) ?_
    refine runs_call ([D.agg [D.bool false, D.int IntKind.u64 (0 : Int), D.int IntKind.u64 (0 : Int), D.int IntKind.u64 ((x + y) / (4294967296 : Int)), D.int IntKind.u64 ((x + y) % (4294967296 : Int))]]) (by kernel_rfl) (by kernel_rfl) (by kernel_rfl) (by kernel_rfl) (f1) (by kernel_rfl) ?_
    refine rv (D.int IntKind.i64 (x + y)) ?_
    refine rv (D.int IntKind.i64 (0 : Int)) ?_
    refine ra0 (D.int IntKind.i64 (x + y)) ?_
    refine ra0 (D.int IntKind.i64 (0 : Int)) ?_
    refine k_done (k_skip_seq (k_ret ?_))
    exact ⟨.inr rfl, by kernel_rfl, by kernel_rfl⟩
  · rw [if_neg c] at f1 ⊢
    refine k_seq ?_
    refine rv (D.int IntKind.i64 (0 : Int)) ?_
    refine rv (D.int IntKind.i64 (0 : Int)) ?_
    refine k_done (k_skip_seq (k_seq ?_))
    refine rv (D.int IntKind.i64 x) ?_
    refine runs_call ([D.int IntKind.i64 x]) (by kernel_rfl) (by kernel_rfl) (by kernel_rfl) (by kernel_rfl) (o1) (by kernel_rfl) ?_
    refine rv (D.int IntKind.i64 y) ?_
    refine runs_call ([D.int IntKind.i64 y]) (by kernel_rfl) (by kernel_rfl) (by kernel_rfl) (by kernel_rfl) (o2) (by kernel_rfl) ?_
    refine runs_call ([D.agg [D.bool false, D.int IntKind.u64 (0 : Int), D.int IntKind.u64 (0 : Int), D.int IntKind.u64 (x / (4294967296 : Int)), D.int IntKind.u64 (x % (4294967296 : Int))], D.agg [D.bool false, D.int IntKind.u64 (0 : Int), D.int IntKind.u64 (0 : Int), D.int IntKind.u64 (y / (4294967296 : Int)), D.int IntKind.u64 (y % (4294967296 : Int))]]) (by kernel_rfl) (by kernel_rfl) (by kernel_rfl) (by kernel_rfl) (s1) (by kernel_rfl) ?_
    refine runs_call ([D.agg [D.bool false, D.int IntKind.u64 (0 : Int), D.int IntKind.u64 (0 : Int), D.int IntKind.u64 ((x + y) / (4294967296 : Int)), D.int IntKind.u64 ((x + y) % (4294967296 : Int))]]) (by kernel_rfl) (by kernel_rfl) (by kernel_rfl) (by kernel_rfl) (f1) (by kernel_rfl) ?_
    refine rv (D.int IntKind.i64 (0 : Int)) ?_
    refine rv (D.int IntKind.i64 (14 : Int)) ?_
    refine ra0 (D.int IntKind.i64 (0 : Int)) ?_
    refine ra0 (D.int IntKind.i64 (14 : Int)) ?_
    refine k_done (k_skip_seq (k_ret ?_))
    exact ⟨.inr rfl, by kernel_rfl, by kernel_rfl⟩
end Go.Abs.C
