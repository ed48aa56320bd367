/-
  A part of AnalyzeFew's proof.
-/
import Derived.Test.YthbfgdbbnapjeaaGreatWhT
import Derived.Test.YthbfgdbbnapjeaaGreatWhL0
set_option linter.unusedVariables false
set_option linter.unusedSimpArgs false
namespace Go.Abs.W
open Go Go.Abs
set_option maxRecDepth 20000
attribute [local irreducible] callN runC evalOp
def f3 (p q : Nat) (X Y : List (List D)) (same clash : Bool) (i : Nat) : Fr := Fr.mk ([.int .u8 p, .int .u8 q, .junk, .junk, .bool false, .junk, .lptr 6 0, .sl X none, .sl Y none, .bool same, .bool clash, .int .i64 i] ++ List.replicate 86 .junk) ((List.replicate 98 none).set 6 (some [.sl sch1 none, .sl sch2 none])) []
theorem few_ok (p q : Nat) (hp : p < 256) (hq : q < 256) : ∃ σ, callN T 40000 3 [.int .u8 p, .int .u8 q] [] = some (.bool true, σ) := by
 obtain ⟨σ4, c4⟩ := awake_ok
 obtain ⟨σ5, c5⟩ := rows_ok hp
 obtain ⟨σ5', c5'⟩ := rows_ok hq
 obtain ⟨r7, σ7, c7, h7⟩ := equivF p q none none
 obtain ⟨r8, σ8, c8, h8⟩ := conflF p none
 generalize ePs ((bitsL p).map rowP) = X at *
 generalize ePs ((bitsL q).map rowP) = Y at *
 refine call_ofE (m := m3) rfl rfl (by decide) (k_start ?_)
 unfold m3
 refine kq <| rn 1 ?_
 refine kD (k_skip_seq (kq ?_))
 refine rca ([]) kr kr kr kr (c4) kr <| rn 1 ?_
 refine kD (k_skip_seq (kq (kq ?_)))
 refine rn 2 ?_
 refine kD (k_skip_seq (kcf (k_skip_seq (kq ?_))))
 refine rn 12 ?_
 refine kD (k_skip_seq (kq ?_))
 refine rn 1 <| rca ([.int .u8 (↑p : Int)]) kr kr kr kr (c5) kr <| rn 1 ?_
 refine kD (k_skip_seq (kq ?_))
 refine rn 1 <| rca ([.int .u8 (↑q : Int)]) kr kr kr kr (c5') kr <| rn 1 ?_
 refine kD (k_skip_seq (kq ?_))
 refine rn 1 ?_
 refine kD (k_skip_seq (kq ?_))
 refine rn 1 ?_
 refine kD (k_skip_seq (kq (kq ?_)))
 refine rn 1 ?_
 refine kD (k_skip_seq (kZ ?_))
 refine k_loop (fun i : Nat => f3 p q X Y (sameI p q i) (clashI p i) i) (fun _ => []) (fun i => i ≤ 4) (fun i => 4 - i) 0 kr rfl (by simp) (by intro s hs; omega) ?_
 intro i hi
 unfold l3_0
 by_cases hlt : i < 4
 ·have c6 := alw_ok hp hlt
  have c6' := alw_ok hq hlt
  have hA := raw_ok hp (show i < 8 by omega)
  unfold rawB at hA
  have hD := rawC_ok hp hlt
  unfold rawC at hD
  have hC := clash_bits hp hlt
  have hS := sameI_step p q i
  have hK := clashI_succ p i
  cases h1 : sameI p q i
  ·cases h2 : clashI p i
   ·cases hb : bitN p i
    ·rw [hb] at hA
     refine kq <| kq <| rn 2 <| kD <| k_skip_seq <| rkn 32 (decide ((↑i : Int) < 4)) true (decide_eq_true om) ?_
     refine kct (k_skip_seq (kq (kZ (kq ?_))))
     refine rn 2 ?_
     refine rno (rno (rno (rno (rno (rno (rno ?_))))))
     refine rn 2 <| kD <| k_skip_seq <| rn 4 <| rve (.int .u64 (IntKind.u64.wrap (↑i : Int))) (.int IntKind.u64 ((↑i : Int))) (congrArg (D.int IntKind.u64) (show IntKind.u64.wrap (↑i : Int) = ((↑i : Int)) from wrap_equ om om om)) <| rn 4 <| rkn 53 (IntKind.u8.wrap (↑(BitVec.toNat (BitVec.ofInt (IntKind.bits IntKind.u8) (Int.fdiv (↑p : Int) ((2 : Int) ^ min (Int.toNat (↑i : Int)) (IntKind.bits IntKind.u8))) &&& BitVec.ofInt (IntKind.bits IntKind.u8) (1 : Int))) : Int) == 1) false asm ?_
     refine rno (rno (rno (rno (rno (rno (rno ?_))))))
     refine rn 3 ?_
     refine kD (kY (k_skip_seq ?_))
     refine rn 1 <| rvW ((↑i : Int) + 1) ((i + 1 : Nat) : Int) wE <| rn 1 <| kD <| kR ?_
     exact ⟨i + 1, hlt, om, by rw [hS, hK, h1, h2, hC, hb, ← hD]; kernel_rfl, rfl⟩
    ·rw [hb] at hA
     refine kq <| kq <| rn 2 <| kD <| k_skip_seq <| rkn 32 (decide ((↑i : Int) < 4)) true (decide_eq_true om) ?_
     refine kct (k_skip_seq (kq (kZ (kq ?_))))
     refine rn 2 ?_
     refine rno (rno (rno (rno (rno (rno (rno ?_))))))
     refine rn 2 <| kD <| k_skip_seq <| rn 4 <| rve (.int .u64 (IntKind.u64.wrap (↑i : Int))) (.int IntKind.u64 ((↑i : Int))) (congrArg (D.int IntKind.u64) (show IntKind.u64.wrap (↑i : Int) = ((↑i : Int)) from wrap_equ om om om)) <| rn 4 <| rkn 53 (IntKind.u8.wrap (↑(BitVec.toNat (BitVec.ofInt (IntKind.bits IntKind.u8) (Int.fdiv (↑p : Int) ((2 : Int) ^ min (Int.toNat (↑i : Int)) (IntKind.bits IntKind.u8))) &&& BitVec.ofInt (IntKind.bits IntKind.u8) (1 : Int))) : Int) == 1) true asm <| rn 2 <| rvw ((4 : Int) + (↑i : Int)) wE <| rve (.int .u64 (IntKind.u64.wrap ((4 : Int) + (↑i : Int)))) (.int IntKind.u64 ((4 : Int) + (↑i : Int))) (congrArg (D.int IntKind.u64) (show IntKind.u64.wrap ((4 : Int) + (↑i : Int)) = ((4 : Int) + (↑i : Int)) from wrap_equ om om om)) <| rn 6 ?_
     refine kD (kY (k_skip_seq ?_))
     refine rn 1 <| rvW ((↑i : Int) + 1) ((i + 1 : Nat) : Int) wE <| rn 1 <| kD <| kR ?_
     exact ⟨i + 1, hlt, om, by rw [hS, hK, h1, h2, hC, hb, ← hD]; kernel_rfl, rfl⟩
   ·refine kq <| kq <| rn 2 <| kD <| k_skip_seq <| rkn 32 (decide ((↑i : Int) < 4)) true (decide_eq_true om) ?_
    refine kct (k_skip_seq (kq (kZ (kq ?_))))
    refine rn 2 ?_
    refine rno (rno (rno (rno (rno (rno (rno ?_))))))
    refine rn 2 <| kD <| k_skip_seq <| rn 2 ?_
    refine rno (rno (rno (rno (rno (rno (rno (rno (rno (rno (rno (rno ?_)))))))))))
    refine rno (rno (rno ?_))
    refine rn 2 ?_
    refine kD (kY (k_skip_seq ?_))
    refine rn 1 <| rvW ((↑i : Int) + 1) ((i + 1 : Nat) : Int) wE <| rn 1 <| kD <| kR ?_
    exact ⟨i + 1, hlt, om, by rw [hS, hK, h1, h2]; kernel_rfl, rfl⟩
  ·cases h2 : clashI p i
   ·cases hb : bitN p i
    ·rw [hb] at hA
     refine kq <| kq <| rn 2 <| kD <| k_skip_seq <| rkn 32 (decide ((↑i : Int) < 4)) true (decide_eq_true om) ?_
     refine kct (k_skip_seq (kq (kZ (kq ?_))))
     refine rn 4 <| rca ([.int .u8 (↑p : Int), .int .i64 (↑i : Int)]) kr kr kr kr (c6) kr <| rn 2 <| rca ([.int .u8 (↑q : Int), .int .i64 (↑i : Int)]) kr kr kr kr (c6') kr <| rn 3 <| kD <| k_skip_seq <| rn 4 <| rve (.int .u64 (IntKind.u64.wrap (↑i : Int))) (.int IntKind.u64 ((↑i : Int))) (congrArg (D.int IntKind.u64) (show IntKind.u64.wrap (↑i : Int) = ((↑i : Int)) from wrap_equ om om om)) <| rn 4 <| rkn 53 (IntKind.u8.wrap (↑(BitVec.toNat (BitVec.ofInt (IntKind.bits IntKind.u8) (Int.fdiv (↑p : Int) ((2 : Int) ^ min (Int.toNat (↑i : Int)) (IntKind.bits IntKind.u8))) &&& BitVec.ofInt (IntKind.bits IntKind.u8) (1 : Int))) : Int) == 1) false asm ?_
     refine rno (rno (rno (rno (rno (rno (rno ?_))))))
     refine rn 3 ?_
     refine kD (kY (k_skip_seq ?_))
     refine rn 1 <| rvW ((↑i : Int) + 1) ((i + 1 : Nat) : Int) wE <| rn 1 <| kD <| kR ?_
     exact ⟨i + 1, hlt, om, by rw [hS, hK, h1, h2, hC, hb, ← hD]; kernel_rfl, rfl⟩
    ·rw [hb] at hA
     refine kq <| kq <| rn 2 <| kD <| k_skip_seq <| rkn 32 (decide ((↑i : Int) < 4)) true (decide_eq_true om) ?_
     refine kct (k_skip_seq (kq (kZ (kq ?_))))
     refine rn 4 <| rca ([.int .u8 (↑p : Int), .int .i64 (↑i : Int)]) kr kr kr kr (c6) kr <| rn 2 <| rca ([.int .u8 (↑q : Int), .int .i64 (↑i : Int)]) kr kr kr kr (c6') kr <| rn 3 <| kD <| k_skip_seq <| rn 4 <| rve (.int .u64 (IntKind.u64.wrap (↑i : Int))) (.int IntKind.u64 ((↑i : Int))) (congrArg (D.int IntKind.u64) (show IntKind.u64.wrap (↑i : Int) = ((↑i : Int)) from wrap_equ om om om)) <| rn 4 <| rkn 53 (IntKind.u8.wrap (↑(BitVec.toNat (BitVec.ofInt (IntKind.bits IntKind.u8) (Int.fdiv (↑p : Int) ((2 : Int) ^ min (Int.toNat (↑i : Int)) (IntKind.bits IntKind.u8))) &&& BitVec.ofInt (IntKind.bits IntKind.u8) (1 : Int))) : Int) == 1) true asm <| rn 2 <| rvw ((4 : Int) + (↑i : Int)) wE <| rve (.int .u64 (IntKind.u64.wrap ((4 : Int) + (↑i : Int)))) (.int IntKind.u64 ((4 : Int) + (↑i : Int))) (congrArg (D.int IntKind.u64) (show IntKind.u64.wrap ((4 : Int) + (↑i : Int)) = ((4 : Int) + (↑i : Int)) from wrap_equ om om om)) <| rn 6 ?_
     refine kD (kY (k_skip_seq ?_))
     refine rn 1 <| rvW ((↑i : Int) + 1) ((i + 1 : Nat) : Int) wE <| rn 1 <| kD <| kR ?_
     exact ⟨i + 1, hlt, om, by rw [hS, hK, h1, h2, hC, hb, ← hD]; kernel_rfl, rfl⟩
   ·refine kq <| kq <| rn 2 <| kD <| k_skip_seq <| rkn 32 (decide ((↑i : Int) < 4)) true (decide_eq_true om) ?_
    refine kct (k_skip_seq (kq (kZ (kq ?_))))
    refine rn 4 <| rca ([.int .u8 (↑p : Int), .int .i64 (↑i : Int)]) kr kr kr kr (c6) kr <| rn 2 <| rca ([.int .u8 (↑q : Int), .int .i64 (↑i : Int)]) kr kr kr kr (c6') kr <| rn 3 <| kD <| k_skip_seq <| rn 2 ?_
    refine rno (rno (rno (rno (rno (rno (rno (rno (rno (rno (rno (rno ?_)))))))))))
    refine rno (rno (rno ?_))
    refine rn 2 ?_
    refine kD (kY (k_skip_seq ?_))
    refine rn 1 <| rvW ((↑i : Int) + 1) ((i + 1 : Nat) : Int) wE <| rn 1 <| kD <| kR ?_
    exact ⟨i + 1, hlt, om, by rw [hS, hK, h1, h2]; kernel_rfl, rfl⟩
 ·obtain rfl : i = 4 := by omega
  rcases h7 with ⟨⟨r1, r2, r3, r4, r5, r6, i1, i2, bb, r7, r8, r9, it, nm, so, rfl⟩, hs⟩ | ⟨rfl, hs⟩
  ·rw [show sameI p q 4 = false from hs]
   rcases h8 with ⟨⟨t1, t2, t3, t4, t5, t6, j1, j2, cc, t7, t8, t9, jt, jm, jo, rfl⟩, hc⟩ | ⟨rfl, hc⟩
   ·rw [show clashI p 4 = true from hc]
    refine kq <| kq <| rn 2 ?_
    refine kD (k_skip_seq (kcf (k_exit_seq (k_exit_back (k_exit_hit rfl (k_skip_seq (kq ?_)))))))
    refine rn 3 <| rca ([.agg [.sl [[.str [85], .sl [] none, .sl [] none]] none, .sl [[.str [118], .sl [] none, .sl [[.str [85]]] none, .sl [[.str [85]]] none, .sl [[.str [97], .int .i64 3, .str [], .sl [] none, .sl [] none, .bool false]] none]] none], .sl X none, .sl Y none, .int .i64 7]) kr kr kr kr (c7) kr <| rn 2 ?_
    refine kD (k_skip_seq (kq ?_))
    refine rn 2 <| rca ([.agg [.sl [[.str [85], .sl [] none, .sl [] none]] none, .sl [[.str [118], .sl [] none, .sl [[.str [85]]] none, .sl [[.str [85]]] none, .sl [[.str [97], .int .i64 3, .str [], .sl [] none, .sl [] none, .bool false]] none]] none], .sl X none, .int .i64 7]) kr kr kr kr (c8) kr <| rn 2 ?_
    refine kD (k_skip_seq (kq ?_))
    refine rn 29 ?_
    refine kD (k_skip_seq (k_ret ?_))
    exact ⟨.inr rfl, kr, [], kr⟩
   ·rw [show clashI p 4 = false from hc]
    refine kq <| kq <| rn 2 ?_
    refine kD (k_skip_seq (kcf (k_exit_seq (k_exit_back (k_exit_hit rfl (k_skip_seq (kq ?_)))))))
    refine rn 3 <| rca ([.agg [.sl [[.str [85], .sl [] none, .sl [] none]] none, .sl [[.str [118], .sl [] none, .sl [[.str [85]]] none, .sl [[.str [85]]] none, .sl [[.str [97], .int .i64 3, .str [], .sl [] none, .sl [] none, .bool false]] none]] none], .sl X none, .sl Y none, .int .i64 7]) kr kr kr kr (c7) kr <| rn 2 ?_
    refine kD (k_skip_seq (kq ?_))
    refine rn 2 <| rca ([.agg [.sl [[.str [85], .sl [] none, .sl [] none]] none, .sl [[.str [118], .sl [] none, .sl [[.str [85]]] none, .sl [[.str [85]]] none, .sl [[.str [97], .int .i64 3, .str [], .sl [] none, .sl [] none, .bool false]] none]] none], .sl X none, .int .i64 7]) kr kr kr kr (c8) kr <| rn 2 ?_
    refine kD (k_skip_seq (kq ?_))
    refine rn 29 ?_
    refine kD (k_skip_seq (k_ret ?_))
    exact ⟨.inr rfl, kr, [], kr⟩
  ·rw [show sameI p q 4 = true from hs]
   rcases h8 with ⟨⟨t1, t2, t3, t4, t5, t6, j1, j2, cc, t7, t8, t9, jt, jm, jo, rfl⟩, hc⟩ | ⟨rfl, hc⟩
   ·rw [show clashI p 4 = true from hc]
    refine kq <| kq <| rn 2 ?_
    refine kD (k_skip_seq (kcf (k_exit_seq (k_exit_back (k_exit_hit rfl (k_skip_seq (kq ?_)))))))
    refine rn 3 <| rca ([.agg [.sl [[.str [85], .sl [] none, .sl [] none]] none, .sl [[.str [118], .sl [] none, .sl [[.str [85]]] none, .sl [[.str [85]]] none, .sl [[.str [97], .int .i64 3, .str [], .sl [] none, .sl [] none, .bool false]] none]] none], .sl X none, .sl Y none, .int .i64 7]) kr kr kr kr (c7) kr <| rn 2 ?_
    refine kD (k_skip_seq (kq ?_))
    refine rn 2 <| rca ([.agg [.sl [[.str [85], .sl [] none, .sl [] none]] none, .sl [[.str [118], .sl [] none, .sl [[.str [85]]] none, .sl [[.str [85]]] none, .sl [[.str [97], .int .i64 3, .str [], .sl [] none, .sl [] none, .bool false]] none]] none], .sl X none, .int .i64 7]) kr kr kr kr (c8) kr <| rn 2 ?_
    refine kD (k_skip_seq (kq ?_))
    refine rn 29 ?_
    refine kD (k_skip_seq (k_ret ?_))
    exact ⟨.inr rfl, kr, [], kr⟩
   ·rw [show clashI p 4 = false from hc]
    refine kq <| kq <| rn 2 ?_
    refine kD (k_skip_seq (kcf (k_exit_seq (k_exit_back (k_exit_hit rfl (k_skip_seq (kq ?_)))))))
    refine rn 3 <| rca ([.agg [.sl [[.str [85], .sl [] none, .sl [] none]] none, .sl [[.str [118], .sl [] none, .sl [[.str [85]]] none, .sl [[.str [85]]] none, .sl [[.str [97], .int .i64 3, .str [], .sl [] none, .sl [] none, .bool false]] none]] none], .sl X none, .sl Y none, .int .i64 7]) kr kr kr kr (c7) kr <| rn 2 ?_
    refine kD (k_skip_seq (kq ?_))
    refine rn 2 <| rca ([.agg [.sl [[.str [85], .sl [] none, .sl [] none]] none, .sl [[.str [118], .sl [] none, .sl [[.str [85]]] none, .sl [[.str [85]]] none, .sl [[.str [97], .int .i64 3, .str [], .sl [] none, .sl [] none, .bool false]] none]] none], .sl X none, .int .i64 7]) kr kr kr kr (c8) kr <| rn 2 ?_
    refine kD (k_skip_seq (kq ?_))
    refine rn 29 ?_
    refine kD (k_skip_seq (k_ret ?_))
    exact ⟨.inr rfl, kr, [], kr⟩
end Go.Abs.W
