import Derived.Test.YtnjoledlgacpeaaKont2
import Derived.Test.YtnjoledlgacpeaaTreeC
set_option linter.unusedVariables false
set_option linter.unusedSimpArgs false
/-
  QuotaBack as the machine code sees it.
-/
namespace Go.Abs.C
open Go Go.Abs
set_option maxRecDepth 8000
attribute [local irreducible] callN runC evalOp

theorem awake_ok : ∃ σ, callN T 99 9 [] [] = some (.bool true, σ) := by
  have h : (callN T 99 9 [] []).map (·.1) = some (.bool true) := by kernel_rfl
  cases hc : callN T 99 9 [] [] with
  | none => rw [hc] at h; cases h
  | some p =>
    rw [hc] at h
    obtain ⟨d, σ⟩ := p
    simp only [Option.map_some, Option.some.injEq] at h
    subst h
    exact ⟨σ, rfl⟩
abbrev mk24 (x : Int) : Nat := BitVec.toNat (BitVec.ofInt (IntKind.bits IntKind.i64) x &&& BitVec.ofInt (IntKind.bits IntKind.i64) 16777215)
theorem mask_le (x : Int) : mk24 x ≤ 16777215 := by
  have h1 : mk24 x ≤ (BitVec.ofInt (IntKind.bits IntKind.i64) 16777215).toNat := by
    unfold mk24
    rw [BitVec.toNat_and]
    exact Nat.and_le_right
  have h2 : (BitVec.ofInt (IntKind.bits IntKind.i64) 16777215).toNat = 16777215 := by decide
  omega
def recsQ (A B C : Int) (i : Nat) : List NodeR := [⟨[97], [], A, 0⟩, ⟨[98], [97], B, 0⟩, ⟨[99], [98], C, 0⟩].take i
theorem findN_map (ns : List NodeX) (s : Nm) : (findN ns s).map (·.r) = (ns.map (·.r)).find? (·.name == s) := by
  induction ns with
  | nil => rfl
  | cons x ns ih =>
    simp only [findN, List.find?_cons, List.map_cons] at ih ⊢
    cases x.r.name == s with
    | true => rfl
    | false => exact ih
theorem find_recs {ns : List NodeX} {rs : List NodeR} (h : ns.map (·.r) = rs) {s : Nm} {r : NodeR} (hr : rs.find? (·.name == s) = some r) : ∃ x, findN ns s = some x ∧ x.r = r := by
  have := findN_map ns s
  rw [h, hr] at this
  cases hf : findN ns s with
  | none => rw [hf] at this; cases this
  | some x => rw [hf] at this; simp only [Option.map_some, Option.some.injEq] at this; exact ⟨x, rfl, this⟩
theorem find_some {ns : List NodeX} {rs : List NodeR} (h : ns.map (·.r) = rs) {s : Nm} {r : NodeR} (hr : rs.find? (·.name == s) = some r) : (findN ns s).isSome = true := by
  obtain ⟨x, hx, _⟩ := find_recs h hr
  rw [hx]
  rfl
theorem find_none {ns : List NodeX} {rs : List NodeR} (h : ns.map (·.r) = rs) {s : Nm} (hr : rs.find? (·.name == s) = none) : findN ns s = none := by
  have := findN_map ns s
  rw [h, hr] at this
  cases hf : findN ns s with
  | none => rfl
  | some x => rw [hf] at this; cases this
def npR (rs : List NodeR) : List (Nm × Nm) := rs.map fun r => (r.name, r.parent)
theorem np_recs {ns : List NodeX} {rs : List NodeR} (h : ns.map (·.r) = rs) : npOf ns = npR rs := by
  subst h
  simp [npOf, npR, List.map_map, Function.comp]
def anyR (rs : List NodeR) (bad : NodeR → Bool) (names : List Nm) : Bool := names.any fun s => ((rs.find? (·.name == s)).map bad).getD false
theorem any_recs {ns : List NodeX} {rs : List NodeR} (h : ns.map (·.r) = rs) (bad : NodeR → Bool) (names : List Nm) : anyN ns bad names = anyR rs bad names := by
  subst h
  unfold anyN anyR
  congr 1
  funext s
  have := findN_map ns s
  rw [← this, Option.map_map]
  rfl
def bumpR (rs : List NodeR) (names : List Nm) (f : NodeR → NodeR) : List NodeR := rs.map fun r => if r.name ∈ names then f r else r
theorem bump_recs {ns : List NodeX} {rs : List NodeR} (h : ns.map (·.r) = rs) (names : List Nm) (f : NodeR → NodeR) : (bumpN ns names f).map (·.r) = bumpR rs names f := by
  subst h
  simp only [bumpN, bumpR, List.map_map]
  refine List.map_congr_left fun x _ => ?_
  simp only [Function.comp]
  split <;> rfl
def setR (rs : List NodeR) (name : Nm) (f : NodeR → NodeR) : List NodeR := rs.map fun r => if r.name = name then f r else r
theorem set_recs {ns : List NodeX} {rs : List NodeR} (h : ns.map (·.r) = rs) (name : Nm) (f : NodeR → NodeR) : (setN ns name f).map (·.r) = setR rs name f := by
  subst h
  simp only [setN, setR, List.map_map]
  refine List.map_congr_left fun x _ => ?_
  simp only [Function.comp]
  split <;> rfl
theorem grown_q (A B C : Int) : Grown (npR (recsQ A B C 3)) := by
  have h0 : Grown [] := .nil
  have h1 : Grown [(([97] : Nm), ([] : Nm))] := Grown.snoc h0 (by decide) rfl (.inl rfl)
  have h2 : Grown [(([97] : Nm), ([] : Nm)), ([98], [97])] := Grown.snoc h1 (by decide) rfl (.inr rfl)
  exact Grown.snoc h2 (fun e => by cases e) rfl (.inr rfl)
theorem wrap_small (x : Int) (h1 : -9223372036854775808 ≤ x) (h2 : x ≤ 9223372036854775807) : IntKind.i64.wrap x = x := by
  simp only [IntKind.wrap, IntKind.bits, IntKind.signed]
  simp
  omega
theorem badR_small {m : Int} {r : NodeR} (h1 : -9223372036854775808 ≤ r.limit - r.used) (h2 : r.limit - r.used ≤ 9223372036854775807) : badR m r = decide (r.limit - r.used < m) := by
  unfold badR
  rw [wrap_small _ h1 h2]
theorem any_q1 {A B C M v : Int} (h1 : 0 ≤ A) (h2 : A ≤ 16777215) (h3 : 0 ≤ B) (h4 : B ≤ 16777215) (h5 : 0 ≤ C) (h6 : C ≤ 16777215) (hv : v = A) : anyR (recsQ A B C 3) (badR M) [[97]] = decide (v < M) := by
  rw [Bool.eq_iff_iff]
  simp [anyR, recsQ, badR, wrap_small]
  rw [wrap_small _ (by omega) (by omega)]
  omega
theorem any_q2 {A B C M v : Int} (h1 : 0 ≤ A) (h2 : A ≤ 16777215) (h3 : 0 ≤ B) (h4 : B ≤ 16777215) (h5 : 0 ≤ C) (h6 : C ≤ 16777215) (hv : v = min A B) : anyR (recsQ A B C 3) (badR M) [[98], [97]] = decide (v < M) := by
  rw [Bool.eq_iff_iff]
  simp [anyR, recsQ, badR]
  rw [wrap_small _ (by omega) (by omega), wrap_small _ (by omega) (by omega)]
  omega
theorem any_q3 {A B C M v : Int} (h1 : 0 ≤ A) (h2 : A ≤ 16777215) (h3 : 0 ≤ B) (h4 : B ≤ 16777215) (h5 : 0 ≤ C) (h6 : C ≤ 16777215) (hv : v = min (min A B) C) : anyR (recsQ A B C 3) (badR M) [[99], [98], [97]] = decide (v < M) := by
  rw [Bool.eq_iff_iff]
  simp [anyR, recsQ, badR]
  rw [wrap_small _ (by omega) (by omega), wrap_small _ (by omega) (by omega), wrap_small _ (by omega) (by omega)]
  omega
def recsL (A B C : Int) (i : Nat) : List NodeR := [⟨[97], [], if 0 < i then 1073741824 else A, 0⟩, ⟨[98], [97], if 1 < i then 1073741824 else B, 0⟩, ⟨[99], [98], if 2 < i then 1073741824 else C, 0⟩]
theorem any_l1 {A B C M : Int} (h : M ≤ 16777216) : anyR (recsL A B C 1) (badR M) [[97]] = false := by
  simp [anyR, recsL, badR]
  rw [wrap_small _ (by omega) (by omega)]
  omega
theorem any_l2 {A B C M : Int} (h : M ≤ 16777216) : anyR (recsL A B C 2) (badR M) [[98], [97]] = false := by
  simp [anyR, recsL, badR]
  rw [wrap_small _ (by omega) (by omega)]
  omega
theorem any_l3 {A B C M : Int} (h : M ≤ 16777216) : anyR (recsL A B C 3) (badR M) [[99], [98], [97]] = false := by
  simp [anyR, recsL, badR]
  rw [wrap_small _ (by omega) (by omega)]
  omega
theorem more_less {M : Int} (h1 : 0 ≤ M) (h2 : M ≤ 16777216) {r : NodeR} (h : r.used = 0) : lessR M (moreR M r) = r := by
  obtain ⟨a, b, c, d⟩ := r
  simp only at h
  subst h
  simp only [lessR, moreR]
  rw [wrap_small (0 + M) (by omega) (by omega), wrap_small (0 + M - M) (by omega) (by omega)]
  congr 1
  omega
theorem bump_back {M : Int} (h1 : 0 ≤ M) (h2 : M ≤ 16777216) (names : List Nm) (rs : List NodeR) (h : ∀ r ∈ rs, r.used = 0) : bumpR (bumpR rs names (moreR M)) names (lessR M) = rs := by
  simp only [bumpR, List.map_map]
  conv => rhs; rw [← List.map_id rs]
  refine List.map_congr_left fun r hr => ?_
  simp only [Function.comp, id]
  by_cases hm : r.name ∈ names
  · rw [if_pos hm, if_pos (by exact hm)]
    exact more_less h1 h2 (h r hr)
  · rw [if_neg hm, if_neg hm]
theorem freed_recs {ns : List NodeX} {A B C M : Int} (hr : ns.map (·.r) = recsQ A B C 3) (h1 : 0 ≤ M) (h2 : M ≤ 16777216) (name : Nm) : (freedAt (usedAt ns name M) name M).map (·.r) = recsQ A B C 3 := by
  unfold freedAt usedAt
  rw [npOf_bump (f := moreR M) ns _ (fun _ => rfl) (fun _ => rfl), bump_recs (bump_recs hr _ _), bump_back h1 h2]
  intro r hm
  simp [recsQ] at hm
  rcases hm with rfl | rfl | rfl <;> rfl
def qB (a b c : Int) : List (Option (List D)) := [none, none, none, some [.int .i64 a, .int .i64 b, .int .i64 c]] ++ List.replicate 141 none
def qN : D := .sl [[.str [97]], [.str [98]], [.str [99]]] (some 9)
def q1 (a b c m k : Int) (i : Nat) : Fr := ⟨[.agg [.int .i64 a, .int .i64 b, .int .i64 c], .int .i64 m, .int .u8 k, .lptr 3 0, .junk, .junk, .bool false, .junk, .ptr 2 0, qN, .int .i64 i] ++ List.replicate 134 .junk, qB a b c, []⟩
def q3 (a b c m k : Int) (M : Nat) (K l j : Int) (i : Nat) : Fr := ⟨[.agg [.int .i64 a, .int .i64 b, .int .i64 c], .int .i64 m, .int .u8 k, .lptr 3 0, .junk, .junk, .bool false, .junk, .ptr 2 0, qN, .int .i64 3, .junk, .int .i64 M, .int .i64 K, .int .i64 l, .int .i64 j, .junk, .int .i64 i] ++ List.replicate 127 .junk, qB a b c, []⟩
def q4 (a b c m k : Int) (M : Nat) (K l j A B C : Int) (i : Nat) : Fr := ⟨[.agg [.int .i64 a, .int .i64 b, .int .i64 c], .int .i64 m, .int .u8 k, .lptr 3 0, .junk, .junk, .bool false, .junk, .ptr 2 0, qN, .int .i64 3, .junk, .int .i64 M, .int .i64 K, .int .i64 l, .int .i64 j, .junk, .junk, .int .i64 0, .sl [[.str [97], .str [], .int .i64 A, .int .i64 0], [.str [98], .str [97], .int .i64 B, .int .i64 0], [.str [99], .str [98], .int .i64 C, .int .i64 0]] none, .int .i64 i] ++ List.replicate 124 .junk, qB a b c, []⟩
def q2 (a b c m k : Int) (M : Nat) (K l : Int) (i : Nat) : Fr := ⟨[.agg [.int .i64 a, .int .i64 b, .int .i64 c], .int .i64 m, .int .u8 k, .lptr 3 0, .junk, .junk, .bool false, .junk, .ptr 2 0, qN, .int .i64 3, .junk, .int .i64 M, .int .i64 K, .int .i64 l, .int .i64 i] ++ List.replicate 129 .junk, qB a b c, []⟩
theorem lawBack_ok (a b c amount : Int) (k : Int) (hk0 : 0 ≤ k) (hk1 : k ≤ 255) : ∃ σ, callN T 100 5 [.agg [.int .i64 a, .int .i64 b, .int .i64 c], .int .i64 amount, .int .u8 k] [] = some (.bool true, σ) := by
  refine call_ofE (m := m5) rfl rfl (by decide) (k_start ?_)
  unfold m5
  have hnew : callN T 99 11 [] [] = some (.ptr 2 0, [Go.Abs.Obj.map [], Go.Abs.Obj.map [], Go.Abs.Obj.cells [.map 0, .map 1]]) := new_ok 98 []
  have hl0 : Lay [Go.Abs.Obj.map [], Go.Abs.Obj.map [], Go.Abs.Obj.cells [.map 0, .map 1]] 2 0 1 [] [] := new_lay []
  obtain ⟨σw, haw⟩ := awake_ok
  have ma := mask_le a
  have mb := mask_le b
  have mc := mask_le c
  have mm := mask_le amount
  unfold mk24 at ma mb mc mm
  refine k_seq ?_
  refine rgf (D.lptr (3 : Nat) (0 : Nat)) ([]) ?_
  refine rv (D.bool false) ?_
  refine k_done (k_skip_seq (k_seq ?_))
  refine runs_call ([]) (by kernel_rfl) (by kernel_rfl) (by kernel_rfl) (by kernel_rfl) (haw) (by kernel_rfl) ?_
  refine ra0 (D.bool true) ?_
  refine k_done (k_skip_seq (k_seq (k_seq ?_)))
  refine rv (D.bool true) ?_
  refine rv (D.bool false) ?_
  refine k_done (k_skip_seq (kcf (k_skip_seq (k_seq ?_))))
  refine runs_call_fr ([]) (by kernel_rfl) (by kernel_rfl) (by kernel_rfl) (by kernel_rfl) (hnew) (by kernel_rfl) (by kernel_rfl) (hnew) ?_
  refine ra0 (D.ptr (2 : Nat) (0 : Nat)) ?_
  refine k_done (k_skip_seq (k_seq ?_))
  refine rv (D.sl [[D.str [(97 : UInt8)]], [D.str [(98 : UInt8)]], [D.str [(99 : UInt8)]]] (some (9 : Nat))) ?_
  refine runs_assign (D.sl [[D.str [(97 : UInt8)]], [D.str [(98 : UInt8)]], [D.str [(99 : UInt8)]]] (some (9 : Nat))) (by kernel_rfl) (by kernel_rfl) ?_
  refine k_done (k_skip_seq (k_seq (k_seq ?_)))
  refine rv (D.int IntKind.i64 (0 : Int)) ?_
  refine k_done (k_skip_seq (k_block ?_))
  refine k_loop (fun s : Nat × St × List NodeX => q1 a b c amount k s.1) (fun s => s.2.1) (fun s => s.1 ≤ 3 ∧ Lay s.2.1 2 0 1 s.2.2 [] ∧ s.2.2.map (·.r) = recsQ (mk24 a) (mk24 b) (mk24 c) s.1) (fun s => 3 - s.1) (0, _, []) (by kernel_rfl) (by kernel_rfl) ⟨by simp, hl0, rfl⟩ (fun s hs => by omega) ?_
  rintro ⟨i, σ, ns⟩ ⟨hi, L, hr⟩
  simp only at hi L hr
  have h4 : i = 0 ∨ i = 1 ∨ i = 2 ∨ i = 3 := by omega
  unfold q1 qB qN l5_0
  rcases h4 with rfl | rfl | rfl | rfl
  · have hadd := add_good L 98 [97] [] (mk24 a) (by decide) (by omega) (find_none hr rfl) (.inl rfl)
    have La := L.add [97] [] (mk24 a) (find_none hr rfl)
    refine k_seq (k_seq ?_)
    refine rv (D.int IntKind.i64 (0 : Int)) ?_
    refine rv (D.bool true) ?_
    refine k_done (k_skip_seq (kct (k_skip_seq (k_seq (k_block (k_seq ?_))))))
    refine rv (D.str []) ?_
    refine k_done (k_skip_seq (k_seq (k_seq ?_)))
    refine rv (D.int IntKind.i64 (0 : Int)) ?_
    refine rv (D.bool false) ?_
    refine k_done (k_skip_seq (kcf (k_skip_seq (k_seq ?_))))
    refine rv (D.ptr (2 : Nat) (0 : Nat)) ?_
    refine rv (D.sl [[D.str [(97 : UInt8)]], [D.str [(98 : UInt8)]], [D.str [(99 : UInt8)]]] none) ?_
    refine rv (D.int IntKind.i64 (0 : Int)) ?_
    refine rv (D.ref [D.str [(97 : UInt8)]]) ?_
    refine rv (D.str [(97 : UInt8)]) ?_
    refine rv (D.str []) ?_
    refine rv (D.int IntKind.i64 (0 : Int)) ?_
    refine rv (D.lptr (3 : Nat) (0 : Nat)) ?_
    refine rv (D.int IntKind.i64 a) ?_
    refine rve (D.int IntKind.i64 (IntKind.wrap IntKind.i64 (↑(BitVec.toNat (BitVec.ofInt (IntKind.bits IntKind.i64) a &&& BitVec.ofInt (IntKind.bits IntKind.i64) (16777215 : Int))) : Int))) (.int IntKind.i64 ((↑(BitVec.toNat (BitVec.ofInt (IntKind.bits IntKind.i64) a &&& BitVec.ofInt (IntKind.bits IntKind.i64) (16777215 : Int))) : Int))) (congrArg (D.int IntKind.i64) (show IntKind.wrap IntKind.i64 (↑(BitVec.toNat (BitVec.ofInt (IntKind.bits IntKind.i64) a &&& BitVec.ofInt (IntKind.bits IntKind.i64) (16777215 : Int))) : Int) = ((↑(BitVec.toNat (BitVec.ofInt (IntKind.bits IntKind.i64) a &&& BitVec.ofInt (IntKind.bits IntKind.i64) (16777215 : Int))) : Int)) from wrap_eq (by omega) (by omega) (by omega))) ?_
    refine runs_call_st ([D.ptr (2 : Nat) (0 : Nat), D.str [(97 : UInt8)], D.str [], D.int IntKind.i64 (↑(BitVec.toNat (BitVec.ofInt (IntKind.bits IntKind.i64) a &&& BitVec.ofInt (IntKind.bits IntKind.i64) (16777215 : Int))) : Int)]) (by kernel_rfl) (by kernel_rfl) (by kernel_rfl) (by kernel_rfl) (hadd) ?_
    refine rv (D.bool false) ?_
    refine k_done (k_skip_seq (kcf (k_skip_block (k_skip_seq ?_))))
    refine rv (D.int IntKind.i64 (0 : Int)) ?_
    refine rv (D.int IntKind.i64 (1 : Int)) ?_
    refine ra0 (D.int IntKind.i64 (1 : Int)) ?_
    refine k_done (k_skip_back ?_)
    exact ⟨(1, addS σ 0 ns [97] [] (mk24 a), ns ++ [⟨σ.length, ⟨[97], [], mk24 a, 0⟩⟩]), ⟨by simp, La, by rw [List.map_append, hr]; rfl⟩, by simp, by kernel_rfl, rfl⟩
  · have hadd := add_good L 98 [98] [97] (mk24 b) (by decide) (by omega) (find_none hr rfl) (.inr (find_some (s := [97]) hr rfl))
    have La := L.add [98] [97] (mk24 b) (find_none hr rfl)
    refine k_seq (k_seq ?_)
    refine rv (D.int IntKind.i64 (1 : Int)) ?_
    refine rv (D.bool true) ?_
    refine k_done (k_skip_seq (kct (k_skip_seq (k_seq (k_block (k_seq ?_))))))
    refine rv (D.str []) ?_
    refine k_done (k_skip_seq (k_seq (k_seq ?_)))
    refine rv (D.int IntKind.i64 (1 : Int)) ?_
    refine rv (D.bool true) ?_
    refine k_done (k_skip_seq (kct ?_))
    refine rv (D.sl [[D.str [(97 : UInt8)]], [D.str [(98 : UInt8)]], [D.str [(99 : UInt8)]]] none) ?_
    refine rv (D.int IntKind.i64 (1 : Int)) ?_
    refine rv (D.int IntKind.i64 (0 : Int)) ?_
    refine rv (D.ref [D.str [(97 : UInt8)]]) ?_
    refine rv (D.str [(97 : UInt8)]) ?_
    refine ra0 (D.str [(97 : UInt8)]) ?_
    refine k_done (k_skip_seq (k_seq ?_))
    refine rv (D.ptr (2 : Nat) (0 : Nat)) ?_
    refine rv (D.sl [[D.str [(97 : UInt8)]], [D.str [(98 : UInt8)]], [D.str [(99 : UInt8)]]] none) ?_
    refine rv (D.int IntKind.i64 (1 : Int)) ?_
    refine rv (D.ref [D.str [(98 : UInt8)]]) ?_
    refine rv (D.str [(98 : UInt8)]) ?_
    refine rv (D.str [(97 : UInt8)]) ?_
    refine rv (D.int IntKind.i64 (1 : Int)) ?_
    refine rv (D.lptr (3 : Nat) (1 : Nat)) ?_
    refine rv (D.int IntKind.i64 b) ?_
    refine rve (D.int IntKind.i64 (IntKind.wrap IntKind.i64 (↑(BitVec.toNat (BitVec.ofInt (IntKind.bits IntKind.i64) b &&& BitVec.ofInt (IntKind.bits IntKind.i64) (16777215 : Int))) : Int))) (.int IntKind.i64 ((↑(BitVec.toNat (BitVec.ofInt (IntKind.bits IntKind.i64) b &&& BitVec.ofInt (IntKind.bits IntKind.i64) (16777215 : Int))) : Int))) (congrArg (D.int IntKind.i64) (show IntKind.wrap IntKind.i64 (↑(BitVec.toNat (BitVec.ofInt (IntKind.bits IntKind.i64) b &&& BitVec.ofInt (IntKind.bits IntKind.i64) (16777215 : Int))) : Int) = ((↑(BitVec.toNat (BitVec.ofInt (IntKind.bits IntKind.i64) b &&& BitVec.ofInt (IntKind.bits IntKind.i64) (16777215 : Int))) : Int)) from wrap_eq (by omega) (by omega) (by omega))) ?_
    refine runs_call_st ([D.ptr (2 : Nat) (0 : Nat), D.str [(98 : UInt8)], D.str [(97 : UInt8)], D.int IntKind.i64 (↑(BitVec.toNat (BitVec.ofInt (IntKind.bits IntKind.i64) b &&& BitVec.ofInt (IntKind.bits IntKind.i64) (16777215 : Int))) : Int)]) (by kernel_rfl) (by kernel_rfl) (by kernel_rfl) (by kernel_rfl) (hadd) ?_
    refine rv (D.bool false) ?_
    refine k_done (k_skip_seq (kcf (k_skip_block (k_skip_seq ?_))))
    refine rv (D.int IntKind.i64 (1 : Int)) ?_
    refine rv (D.int IntKind.i64 (2 : Int)) ?_
    refine ra0 (D.int IntKind.i64 (2 : Int)) ?_
    refine k_done (k_skip_back ?_)
    exact ⟨(2, addS σ 0 ns [98] [97] (mk24 b), ns ++ [⟨σ.length, ⟨[98], [97], mk24 b, 0⟩⟩]), ⟨by simp, La, by rw [List.map_append, hr]; rfl⟩, by simp, by kernel_rfl, rfl⟩
  · have hadd := add_good L 98 [99] [98] (mk24 c) (by decide) (by omega) (find_none hr rfl) (.inr (find_some (s := [98]) hr rfl))
    have La := L.add [99] [98] (mk24 c) (find_none hr rfl)
    refine k_seq (k_seq ?_)
    refine rv (D.int IntKind.i64 (2 : Int)) ?_
    refine rv (D.bool true) ?_
    refine k_done (k_skip_seq (kct (k_skip_seq (k_seq (k_block (k_seq ?_))))))
    refine rv (D.str []) ?_
    refine k_done (k_skip_seq (k_seq (k_seq ?_)))
    refine rv (D.int IntKind.i64 (2 : Int)) ?_
    refine rv (D.bool true) ?_
    refine k_done (k_skip_seq (kct ?_))
    refine rv (D.sl [[D.str [(97 : UInt8)]], [D.str [(98 : UInt8)]], [D.str [(99 : UInt8)]]] none) ?_
    refine rv (D.int IntKind.i64 (2 : Int)) ?_
    refine rv (D.int IntKind.i64 (1 : Int)) ?_
    refine rv (D.ref [D.str [(98 : UInt8)]]) ?_
    refine rv (D.str [(98 : UInt8)]) ?_
    refine ra0 (D.str [(98 : UInt8)]) ?_
    refine k_done (k_skip_seq (k_seq ?_))
    refine rv (D.ptr (2 : Nat) (0 : Nat)) ?_
    refine rv (D.sl [[D.str [(97 : UInt8)]], [D.str [(98 : UInt8)]], [D.str [(99 : UInt8)]]] none) ?_
    refine rv (D.int IntKind.i64 (2 : Int)) ?_
    refine rv (D.ref [D.str [(99 : UInt8)]]) ?_
    refine rv (D.str [(99 : UInt8)]) ?_
    refine rv (D.str [(98 : UInt8)]) ?_
    refine rv (D.int IntKind.i64 (2 : Int)) ?_
    refine rv (D.lptr (3 : Nat) (2 : Nat)) ?_
    refine rv (D.int IntKind.i64 c) ?_
    refine rve (D.int IntKind.i64 (IntKind.wrap IntKind.i64 (↑(BitVec.toNat (BitVec.ofInt (IntKind.bits IntKind.i64) c &&& BitVec.ofInt (IntKind.bits IntKind.i64) (16777215 : Int))) : Int))) (.int IntKind.i64 ((↑(BitVec.toNat (BitVec.ofInt (IntKind.bits IntKind.i64) c &&& BitVec.ofInt (IntKind.bits IntKind.i64) (16777215 : Int))) : Int))) (congrArg (D.int IntKind.i64) (show IntKind.wrap IntKind.i64 (↑(BitVec.toNat (BitVec.ofInt (IntKind.bits IntKind.i64) c &&& BitVec.ofInt (IntKind.bits IntKind.i64) (16777215 : Int))) : Int) = ((↑(BitVec.toNat (BitVec.ofInt (IntKind.bits IntKind.i64) c &&& BitVec.ofInt (IntKind.bits IntKind.i64) (16777215 : Int))) : Int)) from wrap_eq (by omega) (by omega) (by omega))) ?_
    refine runs_call_st ([D.ptr (2 : Nat) (0 : Nat), D.str [(99 : UInt8)], D.str [(98 : UInt8)], D.int IntKind.i64 (↑(BitVec.toNat (BitVec.ofInt (IntKind.bits IntKind.i64) c &&& BitVec.ofInt (IntKind.bits IntKind.i64) (16777215 : Int))) : Int)]) (by kernel_rfl) (by kernel_rfl) (by kernel_rfl) (by kernel_rfl) (hadd) ?_
    refine rv (D.bool false) ?_
    refine k_done (k_skip_seq (kcf (k_skip_block (k_skip_seq ?_))))
    refine rv (D.int IntKind.i64 (2 : Int)) ?_
    refine rv (D.int IntKind.i64 (3 : Int)) ?_
    refine ra0 (D.int IntKind.i64 (3 : Int)) ?_
    refine k_done (k_skip_back ?_)
    exact ⟨(3, addS σ 0 ns [99] [98] (mk24 c), ns ++ [⟨σ.length, ⟨[99], [98], mk24 c, 0⟩⟩]), ⟨by simp, La, by rw [List.map_append, hr]; rfl⟩, by simp, by kernel_rfl, rfl⟩
  · have hK2 : 0 ≤ Int.tmod k 3 ∧ Int.tmod k 3 ≤ 2 := by
      rw [Int.tmod_eq_emod_of_nonneg hk0]
      omega
    refine k_seq (k_seq ?_)
    refine rv (D.int IntKind.i64 (3 : Int)) ?_
    refine rv (D.bool false) ?_
    refine k_done (k_skip_seq (kcf (k_exit_seq (k_exit_back (k_exit_hit rfl (k_skip_seq (k_seq ?_)))))))
    refine rv (D.int IntKind.i64 amount) ?_
    refine rve (D.int IntKind.i64 (IntKind.wrap IntKind.i64 (↑(BitVec.toNat (BitVec.ofInt (IntKind.bits IntKind.i64) amount &&& BitVec.ofInt (IntKind.bits IntKind.i64) (16777215 : Int))) : Int))) (.int IntKind.i64 ((↑(BitVec.toNat (BitVec.ofInt (IntKind.bits IntKind.i64) amount &&& BitVec.ofInt (IntKind.bits IntKind.i64) (16777215 : Int))) : Int))) (congrArg (D.int IntKind.i64) (show IntKind.wrap IntKind.i64 (↑(BitVec.toNat (BitVec.ofInt (IntKind.bits IntKind.i64) amount &&& BitVec.ofInt (IntKind.bits IntKind.i64) (16777215 : Int))) : Int) = ((↑(BitVec.toNat (BitVec.ofInt (IntKind.bits IntKind.i64) amount &&& BitVec.ofInt (IntKind.bits IntKind.i64) (16777215 : Int))) : Int)) from wrap_eq (by omega) (by omega) (by omega))) ?_
    refine rve (D.int IntKind.i64 (IntKind.wrap IntKind.i64 ((↑(BitVec.toNat (BitVec.ofInt (IntKind.bits IntKind.i64) amount &&& BitVec.ofInt (IntKind.bits IntKind.i64) (16777215 : Int))) : Int) + (1 : Int)))) (.int IntKind.i64 ((BitVec.toNat (BitVec.ofInt (IntKind.bits IntKind.i64) amount &&& BitVec.ofInt (IntKind.bits IntKind.i64) (16777215 : Int)) + 1 : Nat) : Int)) (congrArg (D.int IntKind.i64) (show IntKind.wrap IntKind.i64 ((↑(BitVec.toNat (BitVec.ofInt (IntKind.bits IntKind.i64) amount &&& BitVec.ofInt (IntKind.bits IntKind.i64) (16777215 : Int))) : Int) + (1 : Int)) = ((BitVec.toNat (BitVec.ofInt (IntKind.bits IntKind.i64) amount &&& BitVec.ofInt (IntKind.bits IntKind.i64) (16777215 : Int)) + 1 : Nat) : Int) from wrap_eq (by omega) (by omega) (by omega))) ?_
    refine ra0 (D.int IntKind.i64 (↑(BitVec.toNat (BitVec.ofInt (IntKind.bits IntKind.i64) amount &&& BitVec.ofInt (IntKind.bits IntKind.i64) (16777215 : Int)) + (1 : Nat)) : Int)) ?_
    refine k_done (k_skip_seq (k_seq ?_))
    refine rv (D.int IntKind.u8 k) ?_
    refine rv (D.int IntKind.u8 (Int.tmod k (3 : Int))) ?_
    refine rve (D.int IntKind.i64 (IntKind.wrap IntKind.i64 (Int.tmod k (3 : Int)))) (.int IntKind.i64 (Int.tmod k (3 : Int))) (congrArg (D.int IntKind.i64) (show IntKind.wrap IntKind.i64 (Int.tmod k (3 : Int)) = (Int.tmod k (3 : Int)) from wrap_eq (by omega) (by omega) (by omega))) ?_
    refine ra0 (D.int IntKind.i64 (Int.tmod k (3 : Int))) ?_
    refine k_done (k_skip_seq (k_seq ?_))
    refine rv (D.lptr (3 : Nat) (0 : Nat)) ?_
    refine rv (D.int IntKind.i64 a) ?_
    refine rve (D.int IntKind.i64 (IntKind.wrap IntKind.i64 (↑(BitVec.toNat (BitVec.ofInt (IntKind.bits IntKind.i64) a &&& BitVec.ofInt (IntKind.bits IntKind.i64) (16777215 : Int))) : Int))) (.int IntKind.i64 ((↑(BitVec.toNat (BitVec.ofInt (IntKind.bits IntKind.i64) a &&& BitVec.ofInt (IntKind.bits IntKind.i64) (16777215 : Int))) : Int))) (congrArg (D.int IntKind.i64) (show IntKind.wrap IntKind.i64 (↑(BitVec.toNat (BitVec.ofInt (IntKind.bits IntKind.i64) a &&& BitVec.ofInt (IntKind.bits IntKind.i64) (16777215 : Int))) : Int) = ((↑(BitVec.toNat (BitVec.ofInt (IntKind.bits IntKind.i64) a &&& BitVec.ofInt (IntKind.bits IntKind.i64) (16777215 : Int))) : Int)) from wrap_eq (by omega) (by omega) (by omega))) ?_
    refine ra0 (D.int IntKind.i64 (↑(BitVec.toNat (BitVec.ofInt (IntKind.bits IntKind.i64) a &&& BitVec.ofInt (IntKind.bits IntKind.i64) (16777215 : Int))) : Int)) ?_
    refine k_done (k_skip_seq (k_seq (k_seq ?_)))
    refine rv (D.int IntKind.i64 (0 : Int)) ?_
    refine k_done (k_skip_seq (k_block ?_))
    generalize Int.tmod k 3 = K at hK2
    refine k_loop (fun s : Nat × Int => q2 a b c amount k (mk24 amount + 1) K s.2 s.1) (fun _ => σ) (fun s => s.1 ≤ 3 ∧ 0 ≤ s.2 ∧ (s.1 : Int) ≤ K + 1 ∧ (s.1 = 0 → s.2 = mk24 a) ∧ (s.1 = 1 → s.2 = mk24 a) ∧ (s.1 = 2 → s.2 = min (mk24 a : Int) (mk24 b)) ∧ (s.1 = 3 → s.2 = min (min (mk24 a : Int) (mk24 b)) (mk24 c))) (fun s => 3 - s.1) (0, mk24 a) (by kernel_rfl) (by kernel_rfl) ⟨by simp, by simp, by simp; omega, fun _ => rfl, fun h => by simp at h, fun h => by simp at h, fun h => by simp at h⟩ (fun s hs => by omega) ?_
    rintro ⟨i, v⟩ ⟨hi, v0, vK, v1, v2, v3, v4⟩
    simp only at hi v0 vK v1 v2 v3 v4
    unfold q2 qB qN l5_1
    have h5 : i = 0 ∨ i = 1 ∨ i = 2 ∨ i = 3 := by omega
    unfold mk24 at v1 v2 v3 v4
    rcases h5 with rfl | rfl | rfl | rfl
    · have v1' := v1 rfl
      refine k_seq (k_seq ?_)
      refine rv (D.int IntKind.i64 (0 : Int)) ?_
      refine rv (D.int IntKind.i64 K) ?_
      refine rv (D.bool (decide ((0 : Int) ≤ K))) ?_
      refine k_done (k_skip_seq ?_)
      refine rkn 60 (decide ((0 : Int) ≤ K)) true (decide_eq_true (by omega)) ?_
      refine kct (k_skip_seq (k_seq (k_block (k_seq ?_))))
      refine rv (D.int IntKind.i64 (0 : Int)) ?_
      refine rv (D.lptr (3 : Nat) (0 : Nat)) ?_
      refine rv (D.int IntKind.i64 a) ?_
      refine rve (D.int IntKind.i64 (IntKind.wrap IntKind.i64 (↑(BitVec.toNat (BitVec.ofInt (IntKind.bits IntKind.i64) a &&& BitVec.ofInt (IntKind.bits IntKind.i64) (16777215 : Int))) : Int))) (.int IntKind.i64 ((↑(BitVec.toNat (BitVec.ofInt (IntKind.bits IntKind.i64) a &&& BitVec.ofInt (IntKind.bits IntKind.i64) (16777215 : Int))) : Int))) (congrArg (D.int IntKind.i64) (show IntKind.wrap IntKind.i64 (↑(BitVec.toNat (BitVec.ofInt (IntKind.bits IntKind.i64) a &&& BitVec.ofInt (IntKind.bits IntKind.i64) (16777215 : Int))) : Int) = ((↑(BitVec.toNat (BitVec.ofInt (IntKind.bits IntKind.i64) a &&& BitVec.ofInt (IntKind.bits IntKind.i64) (16777215 : Int))) : Int)) from wrap_eq (by omega) (by omega) (by omega))) ?_
      refine rv (D.int IntKind.i64 v) ?_
      refine rv (D.bool (decide ((↑(BitVec.toNat (BitVec.ofInt (IntKind.bits IntKind.i64) a &&& BitVec.ofInt (IntKind.bits IntKind.i64) (16777215 : Int))) : Int) < v))) ?_
      refine k_done (k_skip_seq ?_)
      refine rkn 68 (decide ((↑(BitVec.toNat (BitVec.ofInt (IntKind.bits IntKind.i64) a &&& BitVec.ofInt (IntKind.bits IntKind.i64) (16777215 : Int))) : Int) < v)) false (decide_eq_false (by omega)) ?_
      refine kcf (k_skip_block (k_skip_seq ?_))
      refine rv (D.int IntKind.i64 (0 : Int)) ?_
      refine rv (D.int IntKind.i64 (1 : Int)) ?_
      refine ra0 (D.int IntKind.i64 (1 : Int)) ?_
      refine k_done (k_skip_back ?_)
      exact ⟨(1, v), ⟨by simp, v0, by simp; omega, fun h => by simp at h, fun _ => v1', fun h => by simp at h, fun h => by simp at h⟩, by simp, by kernel_rfl, rfl⟩
    · have v1' := v2 rfl
      by_cases hK : (1 : Int) ≤ K
      · by_cases hlt : ((BitVec.toNat (BitVec.ofInt (IntKind.bits IntKind.i64) b &&& BitVec.ofInt (IntKind.bits IntKind.i64) 16777215) : Nat) : Int) < v
        · refine k_seq (k_seq ?_)
          refine rv (D.int IntKind.i64 (1 : Int)) ?_
          refine rv (D.int IntKind.i64 K) ?_
          refine rv (D.bool (decide ((1 : Int) ≤ K))) ?_
          refine k_done (k_skip_seq ?_)
          refine rkn 60 (decide ((1 : Int) ≤ K)) true (decide_eq_true (by assumption)) ?_
          refine kct (k_skip_seq (k_seq (k_block (k_seq ?_))))
          refine rv (D.int IntKind.i64 (1 : Int)) ?_
          refine rv (D.lptr (3 : Nat) (1 : Nat)) ?_
          refine rv (D.int IntKind.i64 b) ?_
          refine rve (D.int IntKind.i64 (IntKind.wrap IntKind.i64 (↑(BitVec.toNat (BitVec.ofInt (IntKind.bits IntKind.i64) b &&& BitVec.ofInt (IntKind.bits IntKind.i64) (16777215 : Int))) : Int))) (.int IntKind.i64 ((↑(BitVec.toNat (BitVec.ofInt (IntKind.bits IntKind.i64) b &&& BitVec.ofInt (IntKind.bits IntKind.i64) (16777215 : Int))) : Int))) (congrArg (D.int IntKind.i64) (show IntKind.wrap IntKind.i64 (↑(BitVec.toNat (BitVec.ofInt (IntKind.bits IntKind.i64) b &&& BitVec.ofInt (IntKind.bits IntKind.i64) (16777215 : Int))) : Int) = ((↑(BitVec.toNat (BitVec.ofInt (IntKind.bits IntKind.i64) b &&& BitVec.ofInt (IntKind.bits IntKind.i64) (16777215 : Int))) : Int)) from wrap_eq (by omega) (by omega) (by omega))) ?_
          refine rv (D.int IntKind.i64 v) ?_
          refine rv (D.bool (decide ((↑(BitVec.toNat (BitVec.ofInt (IntKind.bits IntKind.i64) b &&& BitVec.ofInt (IntKind.bits IntKind.i64) (16777215 : Int))) : Int) < v))) ?_
          refine k_done (k_skip_seq ?_)
          refine rkn 68 (decide ((↑(BitVec.toNat (BitVec.ofInt (IntKind.bits IntKind.i64) b &&& BitVec.ofInt (IntKind.bits IntKind.i64) (16777215 : Int))) : Int) < v)) true (decide_eq_true (by assumption)) ?_
          refine kct ?_
          refine rv (D.int IntKind.i64 (1 : Int)) ?_
          refine rv (D.lptr (3 : Nat) (1 : Nat)) ?_
          refine rv (D.int IntKind.i64 b) ?_
          refine rve (D.int IntKind.i64 (IntKind.wrap IntKind.i64 (↑(BitVec.toNat (BitVec.ofInt (IntKind.bits IntKind.i64) b &&& BitVec.ofInt (IntKind.bits IntKind.i64) (16777215 : Int))) : Int))) (.int IntKind.i64 ((↑(BitVec.toNat (BitVec.ofInt (IntKind.bits IntKind.i64) b &&& BitVec.ofInt (IntKind.bits IntKind.i64) (16777215 : Int))) : Int))) (congrArg (D.int IntKind.i64) (show IntKind.wrap IntKind.i64 (↑(BitVec.toNat (BitVec.ofInt (IntKind.bits IntKind.i64) b &&& BitVec.ofInt (IntKind.bits IntKind.i64) (16777215 : Int))) : Int) = ((↑(BitVec.toNat (BitVec.ofInt (IntKind.bits IntKind.i64) b &&& BitVec.ofInt (IntKind.bits IntKind.i64) (16777215 : Int))) : Int)) from wrap_eq (by omega) (by omega) (by omega))) ?_
          refine ra0 (D.int IntKind.i64 (↑(BitVec.toNat (BitVec.ofInt (IntKind.bits IntKind.i64) b &&& BitVec.ofInt (IntKind.bits IntKind.i64) (16777215 : Int))) : Int)) ?_
          refine k_done (k_skip_block (k_skip_seq ?_))
          refine rv (D.int IntKind.i64 (1 : Int)) ?_
          refine rv (D.int IntKind.i64 (2 : Int)) ?_
          refine ra0 (D.int IntKind.i64 (2 : Int)) ?_
          refine k_done (k_skip_back ?_)
          exact ⟨(2, (mk24 b : Int)), ⟨by simp, by simp, by simp; omega, fun h => by simp at h, fun h => by simp at h, fun _ => by unfold mk24; omega, fun h => by simp at h⟩, by simp, by kernel_rfl, rfl⟩
        · refine k_seq (k_seq ?_)
          refine rv (D.int IntKind.i64 (1 : Int)) ?_
          refine rv (D.int IntKind.i64 K) ?_
          refine rv (D.bool (decide ((1 : Int) ≤ K))) ?_
          refine k_done (k_skip_seq ?_)
          refine rkn 60 (decide ((1 : Int) ≤ K)) true (decide_eq_true (by assumption)) ?_
          refine kct (k_skip_seq (k_seq (k_block (k_seq ?_))))
          refine rv (D.int IntKind.i64 (1 : Int)) ?_
          refine rv (D.lptr (3 : Nat) (1 : Nat)) ?_
          refine rv (D.int IntKind.i64 b) ?_
          refine rve (D.int IntKind.i64 (IntKind.wrap IntKind.i64 (↑(BitVec.toNat (BitVec.ofInt (IntKind.bits IntKind.i64) b &&& BitVec.ofInt (IntKind.bits IntKind.i64) (16777215 : Int))) : Int))) (.int IntKind.i64 ((↑(BitVec.toNat (BitVec.ofInt (IntKind.bits IntKind.i64) b &&& BitVec.ofInt (IntKind.bits IntKind.i64) (16777215 : Int))) : Int))) (congrArg (D.int IntKind.i64) (show IntKind.wrap IntKind.i64 (↑(BitVec.toNat (BitVec.ofInt (IntKind.bits IntKind.i64) b &&& BitVec.ofInt (IntKind.bits IntKind.i64) (16777215 : Int))) : Int) = ((↑(BitVec.toNat (BitVec.ofInt (IntKind.bits IntKind.i64) b &&& BitVec.ofInt (IntKind.bits IntKind.i64) (16777215 : Int))) : Int)) from wrap_eq (by omega) (by omega) (by omega))) ?_
          refine rv (D.int IntKind.i64 v) ?_
          refine rv (D.bool (decide ((↑(BitVec.toNat (BitVec.ofInt (IntKind.bits IntKind.i64) b &&& BitVec.ofInt (IntKind.bits IntKind.i64) (16777215 : Int))) : Int) < v))) ?_
          refine k_done (k_skip_seq ?_)
          refine rkn 68 (decide ((↑(BitVec.toNat (BitVec.ofInt (IntKind.bits IntKind.i64) b &&& BitVec.ofInt (IntKind.bits IntKind.i64) (16777215 : Int))) : Int) < v)) false (decide_eq_false (by assumption)) ?_
          refine kcf (k_skip_block (k_skip_seq ?_))
          refine rv (D.int IntKind.i64 (1 : Int)) ?_
          refine rv (D.int IntKind.i64 (2 : Int)) ?_
          refine ra0 (D.int IntKind.i64 (2 : Int)) ?_
          refine k_done (k_skip_back ?_)
          exact ⟨(2, v), ⟨by simp, v0, by simp; omega, fun h => by simp at h, fun h => by simp at h, fun _ => by unfold mk24; omega, fun h => by simp at h⟩, by simp, by kernel_rfl, rfl⟩
      · obtain rfl : K = 0 := by omega
        have hpath : lineP (npOf ns) [97] = [[97]] := by rw [np_recs hr]; rfl
        have hgr : Grown (npOf ns) := by rw [np_recs hr]; exact grown_q _ _ _
        have hln : ns.length < 900 := by have := congrArg List.length hr; simp [recsQ] at this; omega
        obtain ⟨x, hx, hxr⟩ := find_recs (s := [97]) hr rfl
        have hany : anyN ns (badR (mk24 amount + 1 : Nat)) (lineP (npOf ns) [97]) = decide (v < (mk24 amount + 1 : Nat)) := by
          rw [hpath, any_recs hr]
          exact any_q1 (Int.natCast_nonneg _) (Int.ofNat_le.2 (mask_le a)) (Int.natCast_nonneg _) (Int.ofNat_le.2 (mask_le b)) (Int.natCast_nonneg _) (Int.ofNat_le.2 (mask_le c)) v1'
        by_cases hb : v < (mk24 amount + 1 : Nat)
        · obtain ⟨σ1, hR, L1, _⟩ := res_full L hgr hln 97 [97] [120] (mk24 amount + 1 : Nat) (by decide) (Int.ofNat_le.2 (Nat.le_add_left 1 _)) hx rfl (by rw [hany]; exact decide_eq_true hb)
          have hd : decide (((mk24 amount + 1 : Nat) : Int) ≤ v) = false := decide_eq_false (Int.not_le.2 hb)
          have hg : ((false == decide (((mk24 amount + 1 : Nat) : Int) ≤ v)) != true) = false := by rw [hd]; rfl
          refine k_seq (k_seq ?_)
          refine rv (D.int IntKind.i64 (1 : Int)) ?_
          refine rv (D.int IntKind.i64 (0 : Int)) ?_
          refine rv (D.bool false) ?_
          refine k_done (k_skip_seq (kcf (k_exit_seq (k_exit_back (k_exit_hit rfl (k_skip_seq (k_seq ?_)))))))
          refine rv (D.ptr (2 : Nat) (0 : Nat)) ?_
          refine rv (D.sl [[D.str [(97 : UInt8)]], [D.str [(98 : UInt8)]], [D.str [(99 : UInt8)]]] none) ?_
          refine rv (D.int IntKind.i64 (0 : Int)) ?_
          refine rv (D.ref [D.str [(97 : UInt8)]]) ?_
          refine rv (D.str [(97 : UInt8)]) ?_
          refine rv (D.int IntKind.i64 (↑(mk24 amount + (1 : Nat)) : Int)) ?_
          refine runs_call_st ([D.ptr (2 : Nat) (0 : Nat), D.str [(97 : UInt8)], D.str [(120 : UInt8)], D.int IntKind.i64 (↑(mk24 amount + (1 : Nat)) : Int)]) (by kernel_rfl) (by kernel_rfl) (by kernel_rfl) (by kernel_rfl) (hR) ?_
          refine ra0 (D.int IntKind.i64 (61 : Int)) ?_
          refine k_done (k_skip_seq (k_seq (k_seq ?_)))
          refine rv (D.int IntKind.i64 (61 : Int)) ?_
          refine rv (D.bool false) ?_
          refine rv (D.int IntKind.i64 (↑(mk24 amount + (1 : Nat)) : Int)) ?_
          refine rv (D.int IntKind.i64 v) ?_
          refine rv (D.bool (decide ((↑(mk24 amount + (1 : Nat)) : Int) ≤ v))) ?_
          refine rv (D.bool ((false == decide ((↑(mk24 amount + (1 : Nat)) : Int) ≤ v)) != true)) ?_
          refine rv (D.bool ((false == decide ((↑(mk24 amount + (1 : Nat)) : Int) ≤ v)) != true)) ?_
          refine rkn 86 ((false == decide ((↑(mk24 amount + (1 : Nat)) : Int) ≤ v)) != true) false (by assumption) ?_
          refine rv (D.int IntKind.i64 (61 : Int)) ?_
          refine rv (D.bool true) ?_
          refine rv (D.bool true) ?_
          refine rv (D.int IntKind.i64 (61 : Int)) ?_
          refine rv (D.bool false) ?_
          refine rv (D.bool false) ?_
          refine rv (D.bool false) ?_
          refine k_done (k_skip_seq (kcf (k_skip_seq (k_seq (k_seq ?_)))))
          refine rv (D.int IntKind.i64 (61 : Int)) ?_
          refine rv (D.bool true) ?_
          refine k_done (k_skip_seq (kct (k_seq (k_seq ?_))))
          refine rv (D.int IntKind.i64 (0 : Int)) ?_
          refine k_done (k_skip_seq (k_block ?_))
          refine k_loop (fun s : Nat × St × List NodeX => q3 a b c amount k (mk24 amount + 1) 0 v (0 + 1) s.1) (fun s => s.2.1) (fun s => s.1 ≤ 0 + 1 ∧ Lay s.2.1 2 0 1 s.2.2 [] ∧ s.2.2.map (·.r) = recsL (mk24 a) (mk24 b) (mk24 c) s.1) (fun s => 3 - s.1) (0, σ1, ns) (by kernel_rfl) (by kernel_rfl) ⟨by simp, L1, by rw [hr]; rfl⟩ (fun s hs => by omega) ?_
          rintro ⟨i2, σ2, ns2⟩ ⟨hi2, L2, r2⟩
          simp only at hi2 L2 r2
          unfold q3 qB qN l5_2
          have h6 : i2 = 0 ∨ i2 = 1 ∨ i2 = 2 ∨ i2 = 3 := by omega
          rcases h6 with rfl | rfl | rfl | rfl
          · obtain ⟨y, hy, hyr⟩ := find_recs (s := [97]) r2 rfl
            have hlim := lim_good L2 98 [97] 1073741824 (by decide) hy (by rw [hyr]; exact (by decide : (0 : Int) ≤ 1073741824))
            have L3 := L2.turn hy (fun r => { r with limit := 1073741824 }) (fun _ => rfl)
            refine k_seq (k_seq ?_)
            refine rv (D.int IntKind.i64 (0 : Int)) ?_
            refine rv (D.int IntKind.i64 (0 : Int)) ?_
            refine rv (D.bool true) ?_
            refine k_done (k_skip_seq (kct (k_skip_seq (k_seq (k_block (k_seq ?_))))))
            refine rv (D.ptr (2 : Nat) (0 : Nat)) ?_
            refine rv (D.sl [[D.str [(97 : UInt8)]], [D.str [(98 : UInt8)]], [D.str [(99 : UInt8)]]] none) ?_
            refine rv (D.int IntKind.i64 (0 : Int)) ?_
            refine rv (D.ref [D.str [(97 : UInt8)]]) ?_
            refine rv (D.str [(97 : UInt8)]) ?_
            refine runs_call_st ([D.ptr (2 : Nat) (0 : Nat), D.str [(97 : UInt8)], D.int IntKind.i64 (1073741824 : Int)]) (by kernel_rfl) (by kernel_rfl) (by kernel_rfl) (by kernel_rfl) (hlim) ?_
            refine rv (D.bool false) ?_
            refine k_done (k_skip_seq (kcf (k_skip_block (k_skip_seq ?_))))
            refine rv (D.int IntKind.i64 (0 : Int)) ?_
            refine rv (D.int IntKind.i64 (1 : Int)) ?_
            refine ra0 (D.int IntKind.i64 (1 : Int)) ?_
            refine k_done (k_skip_back ?_)
            exact ⟨(1, _, setN ns2 [97] fun r => { r with limit := 1073741824 }), ⟨by simp, L3, by rw [set_recs r2]; rfl⟩, by simp, by kernel_rfl, rfl⟩
          · have hp2 : lineP (npOf ns2) [97] = [[97]] := by rw [np_recs r2]; rfl
            have hg2 : Grown (npOf ns2) := by rw [np_recs r2]; exact grown_q 0 0 0
            have hn2 : ns2.length < 900 := by have := congrArg List.length r2; simp [recsL] at this; omega
            obtain ⟨x2, hx2, _⟩ := find_recs (s := [97]) r2 rfl
            obtain ⟨σ3, hR3, _, _⟩ := res_good L2 hg2 hn2 97 [97] [120] (mk24 amount + 1 : Nat) (by decide) (Int.ofNat_le.2 (Nat.le_add_left 1 _)) hx2 rfl (by rw [hp2, any_recs r2]; exact any_l1 (Int.ofNat_le.2 (Nat.add_le_add_right (mask_le amount) 1)))
            refine k_seq (k_seq ?_)
            refine rv (D.int IntKind.i64 (1 : Int)) ?_
            refine rv (D.int IntKind.i64 (0 : Int)) ?_
            refine rv (D.bool false) ?_
            refine k_done (k_skip_seq (kcf (k_exit_seq (k_exit_back (k_exit_hit rfl (k_skip_seq (k_seq ?_)))))))
            refine rv (D.ptr (2 : Nat) (0 : Nat)) ?_
            refine rv (D.sl [[D.str [(97 : UInt8)]], [D.str [(98 : UInt8)]], [D.str [(99 : UInt8)]]] none) ?_
            refine rv (D.int IntKind.i64 (0 : Int)) ?_
            refine rv (D.ref [D.str [(97 : UInt8)]]) ?_
            refine rv (D.str [(97 : UInt8)]) ?_
            refine rv (D.int IntKind.i64 (↑(mk24 amount + (1 : Nat)) : Int)) ?_
            refine runs_call_st ([D.ptr (2 : Nat) (0 : Nat), D.str [(97 : UInt8)], D.str [(120 : UInt8)], D.int IntKind.i64 (↑(mk24 amount + (1 : Nat)) : Int)]) (by kernel_rfl) (by kernel_rfl) (by kernel_rfl) (by kernel_rfl) (hR3) ?_
            refine rv (D.bool true) ?_
            refine ra0 (D.bool true) ?_
            refine k_done (k_skip_seq (k_ret ?_))
            exact ⟨.inr rfl, by kernel_rfl, σ3, by kernel_rfl⟩
          · exfalso; omega
          · exfalso; omega
        · obtain ⟨σ1, hR, L1, _⟩ := res_good L hgr hln 97 [97] [120] (mk24 amount + 1 : Nat) (by decide) (Int.ofNat_le.2 (Nat.le_add_left 1 _)) hx rfl (by rw [hany]; exact decide_eq_false hb)
          have hd : decide (((mk24 amount + 1 : Nat) : Int) ≤ v) = true := decide_eq_true (Int.not_lt.1 hb)
          have hg : ((true == decide (((mk24 amount + 1 : Nat) : Int) ≤ v)) != true) = false := by rw [hd]; rfl
          have hg1 : Grown (npOf (usedAt ns [97] (mk24 amount + 1 : Nat))) := by unfold usedAt; rw [npOf_bump (f := moreR (mk24 amount + 1 : Nat)) ns _ (fun _ => rfl) (fun _ => rfl)]; exact hgr
          have hn1 : (usedAt ns [97] (mk24 amount + 1 : Nat)).length < 900 := by simpa [usedAt, bumpN] using hln
          obtain ⟨σ2, hL, L2, _⟩ := rel_good L1 hg1 hn1 97 [120] (y := ⟨[120], [97], (mk24 amount + 1 : Nat)⟩) (by simp [findH])
          have r2 := freed_recs hr (Int.natCast_nonneg (mk24 amount + 1)) (Int.ofNat_le.2 (Nat.add_le_add_right (mask_le amount) 1)) [97]
          simp only at L2
          have hn2 : (freedAt (usedAt ns [97] (mk24 amount + 1 : Nat)) [97] (mk24 amount + 1 : Nat)).length < 900 := by have := congrArg List.length r2; rw [List.length_map] at this; rw [this]; exact (by decide : 3 < 900)
          have hN := nodes_ok L2 hn2 98
          have hV : (nodesV (freedAt (usedAt ns [97] (mk24 amount + 1 : Nat)) [97] (mk24 amount + 1 : Nat))).map NodeR.cells = [[.str [97], .str [], .int .i64 (mk24 a), .int .i64 0], [.str [98], .str [97], .int .i64 (mk24 b), .int .i64 0], [.str [99], .str [98], .int .i64 (mk24 c), .int .i64 0]] := by unfold nodesV; rw [r2]; rfl
          rw [hV] at hN
          have hH : delH ([] ++ [⟨[120], [97], (mk24 amount + 1 : Nat)⟩]) [120] = [] := by simp [delH]
          rw [hH] at L2
          have hL2 := rel_node L2 98 [120] rfl
          have hLv := live_ok L2 (by decide) 97
          refine k_seq (k_seq ?_)
          refine rv (D.int IntKind.i64 (1 : Int)) ?_
          refine rv (D.int IntKind.i64 (0 : Int)) ?_
          refine rv (D.bool false) ?_
          refine k_done (k_skip_seq (kcf (k_exit_seq (k_exit_back (k_exit_hit rfl (k_skip_seq (k_seq ?_)))))))
          refine rv (D.ptr (2 : Nat) (0 : Nat)) ?_
          refine rv (D.sl [[D.str [(97 : UInt8)]], [D.str [(98 : UInt8)]], [D.str [(99 : UInt8)]]] none) ?_
          refine rv (D.int IntKind.i64 (0 : Int)) ?_
          refine rv (D.ref [D.str [(97 : UInt8)]]) ?_
          refine rv (D.str [(97 : UInt8)]) ?_
          refine rv (D.int IntKind.i64 (↑(mk24 amount + (1 : Nat)) : Int)) ?_
          refine runs_call_st ([D.ptr (2 : Nat) (0 : Nat), D.str [(97 : UInt8)], D.str [(120 : UInt8)], D.int IntKind.i64 (↑(mk24 amount + (1 : Nat)) : Int)]) (by kernel_rfl) (by kernel_rfl) (by kernel_rfl) (by kernel_rfl) (hR) ?_
          refine ra0 (D.int IntKind.i64 (0 : Int)) ?_
          refine k_done (k_skip_seq (k_seq (k_seq ?_)))
          refine rv (D.int IntKind.i64 (0 : Int)) ?_
          refine rv (D.bool true) ?_
          refine rv (D.int IntKind.i64 (↑(mk24 amount + (1 : Nat)) : Int)) ?_
          refine rv (D.int IntKind.i64 v) ?_
          refine rv (D.bool (decide ((↑(mk24 amount + (1 : Nat)) : Int) ≤ v))) ?_
          refine rv (D.bool ((true == decide ((↑(mk24 amount + (1 : Nat)) : Int) ≤ v)) != true)) ?_
          refine rv (D.bool ((true == decide ((↑(mk24 amount + (1 : Nat)) : Int) ≤ v)) != true)) ?_
          refine rkn 86 ((true == decide ((↑(mk24 amount + (1 : Nat)) : Int) ≤ v)) != true) false (by assumption) ?_
          refine rv (D.int IntKind.i64 (0 : Int)) ?_
          refine rv (D.bool false) ?_
          refine rv (D.bool false) ?_
          refine rno (rno ?_)
          refine rv (D.bool false) ?_
          refine rv (D.bool false) ?_
          refine k_done (k_skip_seq (kcf (k_skip_seq (k_seq (k_seq ?_)))))
          refine rv (D.int IntKind.i64 (0 : Int)) ?_
          refine rv (D.bool false) ?_
          refine k_done (k_skip_seq (kcf (k_skip_seq (k_seq ?_))))
          refine rv (D.ptr (2 : Nat) (0 : Nat)) ?_
          refine runs_call_st ([D.ptr (2 : Nat) (0 : Nat), D.str [(120 : UInt8)]]) (by kernel_rfl) (by kernel_rfl) (by kernel_rfl) (by kernel_rfl) (hL) ?_
          refine ra0 (D.int IntKind.i64 (0 : Int)) ?_
          refine k_done (k_skip_seq (k_seq ?_))
          refine rv (D.ptr (2 : Nat) (0 : Nat)) ?_
          refine runs_call_st ([D.ptr (2 : Nat) (0 : Nat)]) (by kernel_rfl) (by kernel_rfl) (by kernel_rfl) (by kernel_rfl) (hN) ?_
          refine ra0 (D.sl [[D.str [(97 : UInt8)], D.str [], D.int IntKind.i64 (↑(mk24 a) : Int), D.int IntKind.i64 (0 : Int)], [D.str [(98 : UInt8)], D.str [(97 : UInt8)], D.int IntKind.i64 (↑(mk24 b) : Int), D.int IntKind.i64 (0 : Int)], [D.str [(99 : UInt8)], D.str [(98 : UInt8)], D.int IntKind.i64 (↑(mk24 c) : Int), D.int IntKind.i64 (0 : Int)]] none) ?_
          refine k_done (k_skip_seq (k_seq (k_seq ?_)))
          refine rv (D.int IntKind.i64 (0 : Int)) ?_
          refine k_done (k_skip_seq (k_block ?_))
          refine k_loop (fun i => q4 a b c amount k (mk24 amount + 1) 0 v (0 + 1) (mk24 a) (mk24 b) (mk24 c) i) (fun _ => σ2) (fun i => i ≤ 3) (fun i => 3 - i) 0 (by kernel_rfl) (by kernel_rfl) (by simp) (fun s hs => by omega) ?_
          intro i2 hi2
          unfold q4 qB qN l5_3
          have h6 : i2 = 0 ∨ i2 = 1 ∨ i2 = 2 ∨ i2 = 3 := by omega
          rcases h6 with rfl | rfl | rfl | rfl
          · refine k_seq (k_seq ?_)
            refine rv (D.int IntKind.i64 (0 : Int)) ?_
            refine rv (D.sl [[D.str [(97 : UInt8)], D.str [], D.int IntKind.i64 (↑(mk24 a) : Int), D.int IntKind.i64 (0 : Int)], [D.str [(98 : UInt8)], D.str [(97 : UInt8)], D.int IntKind.i64 (↑(mk24 b) : Int), D.int IntKind.i64 (0 : Int)], [D.str [(99 : UInt8)], D.str [(98 : UInt8)], D.int IntKind.i64 (↑(mk24 c) : Int), D.int IntKind.i64 (0 : Int)]] none) ?_
            refine rv (D.int IntKind.i64 (↑(List.length [[D.str [(97 : UInt8)], D.str [], D.int IntKind.i64 (↑(mk24 a) : Int), D.int IntKind.i64 (0 : Int)], [D.str [(98 : UInt8)], D.str [(97 : UInt8)], D.int IntKind.i64 (↑(mk24 b) : Int), D.int IntKind.i64 (0 : Int)], [D.str [(99 : UInt8)], D.str [(98 : UInt8)], D.int IntKind.i64 (↑(mk24 c) : Int), D.int IntKind.i64 (0 : Int)]]) : Int)) ?_
            refine rv (D.bool true) ?_
            refine k_done (k_skip_seq (kct (k_skip_seq (k_seq (k_block (k_seq ?_))))))
            refine rv (D.sl [[D.str [(97 : UInt8)], D.str [], D.int IntKind.i64 (↑(mk24 a) : Int), D.int IntKind.i64 (0 : Int)], [D.str [(98 : UInt8)], D.str [(97 : UInt8)], D.int IntKind.i64 (↑(mk24 b) : Int), D.int IntKind.i64 (0 : Int)], [D.str [(99 : UInt8)], D.str [(98 : UInt8)], D.int IntKind.i64 (↑(mk24 c) : Int), D.int IntKind.i64 (0 : Int)]] none) ?_
            refine rv (D.int IntKind.i64 (0 : Int)) ?_
            refine rv (D.ref [D.str [(97 : UInt8)], D.str [], D.int IntKind.i64 (↑(mk24 a) : Int), D.int IntKind.i64 (0 : Int)]) ?_
            refine rv (D.ref [D.int IntKind.i64 (0 : Int)]) ?_
            refine rv (D.int IntKind.i64 (0 : Int)) ?_
            refine rv (D.bool false) ?_
            refine k_done (k_skip_seq (kcf (k_skip_block (k_skip_seq ?_))))
            refine rv (D.int IntKind.i64 (0 : Int)) ?_
            refine rv (D.int IntKind.i64 (1 : Int)) ?_
            refine ra0 (D.int IntKind.i64 (1 : Int)) ?_
            refine k_done (k_skip_back ?_)
            exact ⟨1, by simp, by simp, by kernel_rfl, rfl⟩
          · refine k_seq (k_seq ?_)
            refine rv (D.int IntKind.i64 (1 : Int)) ?_
            refine rv (D.sl [[D.str [(97 : UInt8)], D.str [], D.int IntKind.i64 (↑(mk24 a) : Int), D.int IntKind.i64 (0 : Int)], [D.str [(98 : UInt8)], D.str [(97 : UInt8)], D.int IntKind.i64 (↑(mk24 b) : Int), D.int IntKind.i64 (0 : Int)], [D.str [(99 : UInt8)], D.str [(98 : UInt8)], D.int IntKind.i64 (↑(mk24 c) : Int), D.int IntKind.i64 (0 : Int)]] none) ?_
            refine rv (D.int IntKind.i64 (↑(List.length [[D.str [(97 : UInt8)], D.str [], D.int IntKind.i64 (↑(mk24 a) : Int), D.int IntKind.i64 (0 : Int)], [D.str [(98 : UInt8)], D.str [(97 : UInt8)], D.int IntKind.i64 (↑(mk24 b) : Int), D.int IntKind.i64 (0 : Int)], [D.str [(99 : UInt8)], D.str [(98 : UInt8)], D.int IntKind.i64 (↑(mk24 c) : Int), D.int IntKind.i64 (0 : Int)]]) : Int)) ?_
            refine rv (D.bool true) ?_
            refine k_done (k_skip_seq (kct (k_skip_seq (k_seq (k_block (k_seq ?_))))))
            refine rv (D.sl [[D.str [(97 : UInt8)], D.str [], D.int IntKind.i64 (↑(mk24 a) : Int), D.int IntKind.i64 (0 : Int)], [D.str [(98 : UInt8)], D.str [(97 : UInt8)], D.int IntKind.i64 (↑(mk24 b) : Int), D.int IntKind.i64 (0 : Int)], [D.str [(99 : UInt8)], D.str [(98 : UInt8)], D.int IntKind.i64 (↑(mk24 c) : Int), D.int IntKind.i64 (0 : Int)]] none) ?_
            refine rv (D.int IntKind.i64 (1 : Int)) ?_
            refine rv (D.ref [D.str [(98 : UInt8)], D.str [(97 : UInt8)], D.int IntKind.i64 (↑(mk24 b) : Int), D.int IntKind.i64 (0 : Int)]) ?_
            refine rv (D.ref [D.int IntKind.i64 (0 : Int)]) ?_
            refine rv (D.int IntKind.i64 (0 : Int)) ?_
            refine rv (D.bool false) ?_
            refine k_done (k_skip_seq (kcf (k_skip_block (k_skip_seq ?_))))
            refine rv (D.int IntKind.i64 (1 : Int)) ?_
            refine rv (D.int IntKind.i64 (2 : Int)) ?_
            refine ra0 (D.int IntKind.i64 (2 : Int)) ?_
            refine k_done (k_skip_back ?_)
            exact ⟨2, by simp, by simp, by kernel_rfl, rfl⟩
          · refine k_seq (k_seq ?_)
            refine rv (D.int IntKind.i64 (2 : Int)) ?_
            refine rv (D.sl [[D.str [(97 : UInt8)], D.str [], D.int IntKind.i64 (↑(mk24 a) : Int), D.int IntKind.i64 (0 : Int)], [D.str [(98 : UInt8)], D.str [(97 : UInt8)], D.int IntKind.i64 (↑(mk24 b) : Int), D.int IntKind.i64 (0 : Int)], [D.str [(99 : UInt8)], D.str [(98 : UInt8)], D.int IntKind.i64 (↑(mk24 c) : Int), D.int IntKind.i64 (0 : Int)]] none) ?_
            refine rv (D.int IntKind.i64 (↑(List.length [[D.str [(97 : UInt8)], D.str [], D.int IntKind.i64 (↑(mk24 a) : Int), D.int IntKind.i64 (0 : Int)], [D.str [(98 : UInt8)], D.str [(97 : UInt8)], D.int IntKind.i64 (↑(mk24 b) : Int), D.int IntKind.i64 (0 : Int)], [D.str [(99 : UInt8)], D.str [(98 : UInt8)], D.int IntKind.i64 (↑(mk24 c) : Int), D.int IntKind.i64 (0 : Int)]]) : Int)) ?_
            refine rv (D.bool true) ?_
            refine k_done (k_skip_seq (kct (k_skip_seq (k_seq (k_block (k_seq ?_))))))
            refine rv (D.sl [[D.str [(97 : UInt8)], D.str [], D.int IntKind.i64 (↑(mk24 a) : Int), D.int IntKind.i64 (0 : Int)], [D.str [(98 : UInt8)], D.str [(97 : UInt8)], D.int IntKind.i64 (↑(mk24 b) : Int), D.int IntKind.i64 (0 : Int)], [D.str [(99 : UInt8)], D.str [(98 : UInt8)], D.int IntKind.i64 (↑(mk24 c) : Int), D.int IntKind.i64 (0 : Int)]] none) ?_
            refine rv (D.int IntKind.i64 (2 : Int)) ?_
            refine rv (D.ref [D.str [(99 : UInt8)], D.str [(98 : UInt8)], D.int IntKind.i64 (↑(mk24 c) : Int), D.int IntKind.i64 (0 : Int)]) ?_
            refine rv (D.ref [D.int IntKind.i64 (0 : Int)]) ?_
            refine rv (D.int IntKind.i64 (0 : Int)) ?_
            refine rv (D.bool false) ?_
            refine k_done (k_skip_seq (kcf (k_skip_block (k_skip_seq ?_))))
            refine rv (D.int IntKind.i64 (2 : Int)) ?_
            refine rv (D.int IntKind.i64 (3 : Int)) ?_
            refine ra0 (D.int IntKind.i64 (3 : Int)) ?_
            refine k_done (k_skip_back ?_)
            exact ⟨3, by simp, by simp, by kernel_rfl, rfl⟩
          · refine k_seq (k_seq ?_)
            refine rv (D.int IntKind.i64 (3 : Int)) ?_
            refine rv (D.sl [[D.str [(97 : UInt8)], D.str [], D.int IntKind.i64 (↑(mk24 a) : Int), D.int IntKind.i64 (0 : Int)], [D.str [(98 : UInt8)], D.str [(97 : UInt8)], D.int IntKind.i64 (↑(mk24 b) : Int), D.int IntKind.i64 (0 : Int)], [D.str [(99 : UInt8)], D.str [(98 : UInt8)], D.int IntKind.i64 (↑(mk24 c) : Int), D.int IntKind.i64 (0 : Int)]] none) ?_
            refine rv (D.int IntKind.i64 (↑(List.length [[D.str [(97 : UInt8)], D.str [], D.int IntKind.i64 (↑(mk24 a) : Int), D.int IntKind.i64 (0 : Int)], [D.str [(98 : UInt8)], D.str [(97 : UInt8)], D.int IntKind.i64 (↑(mk24 b) : Int), D.int IntKind.i64 (0 : Int)], [D.str [(99 : UInt8)], D.str [(98 : UInt8)], D.int IntKind.i64 (↑(mk24 c) : Int), D.int IntKind.i64 (0 : Int)]]) : Int)) ?_
            refine rv (D.bool false) ?_
            refine k_done (k_skip_seq (kcf (k_exit_seq (k_exit_back (k_exit_hit rfl (k_skip_seq (k_seq ?_)))))))
            refine rv (D.int IntKind.i64 (0 : Int)) ?_
            refine rv (D.bool true) ?_
            refine rv (D.bool true) ?_
            refine rv (D.ptr (2 : Nat) (0 : Nat)) ?_
            refine runs_call_st ([D.ptr (2 : Nat) (0 : Nat), D.str [(120 : UInt8)]]) (by kernel_rfl) (by kernel_rfl) (by kernel_rfl) (by kernel_rfl) (hL2) ?_
            refine rv (D.bool true) ?_
            refine rv (D.bool true) ?_
            refine rv (D.bool true) ?_
            refine rv (D.ptr (2 : Nat) (0 : Nat)) ?_
            refine runs_call_st ([D.ptr (2 : Nat) (0 : Nat)]) (by kernel_rfl) (by kernel_rfl) (by kernel_rfl) (by kernel_rfl) (hLv) ?_
            refine rv (D.int IntKind.i64 (0 : Int)) ?_
            refine rv (D.bool true) ?_
            refine rv (D.bool true) ?_
            refine ra0 (D.bool true) ?_
            refine k_done (k_skip_seq (k_ret ?_))
            exact ⟨.inr rfl, by kernel_rfl, σ2 ++ [Go.Abs.Obj.cells [.map 1]], by kernel_rfl⟩
    · have v1' := v3 rfl
      by_cases hK : (2 : Int) ≤ K
      · by_cases hlt : ((BitVec.toNat (BitVec.ofInt (IntKind.bits IntKind.i64) c &&& BitVec.ofInt (IntKind.bits IntKind.i64) 16777215) : Nat) : Int) < v
        · refine k_seq (k_seq ?_)
          refine rv (D.int IntKind.i64 (2 : Int)) ?_
          refine rv (D.int IntKind.i64 K) ?_
          refine rv (D.bool (decide ((2 : Int) ≤ K))) ?_
          refine k_done (k_skip_seq ?_)
          refine rkn 60 (decide ((2 : Int) ≤ K)) true (decide_eq_true (by assumption)) ?_
          refine kct (k_skip_seq (k_seq (k_block (k_seq ?_))))
          refine rv (D.int IntKind.i64 (2 : Int)) ?_
          refine rv (D.lptr (3 : Nat) (2 : Nat)) ?_
          refine rv (D.int IntKind.i64 c) ?_
          refine rve (D.int IntKind.i64 (IntKind.wrap IntKind.i64 (↑(BitVec.toNat (BitVec.ofInt (IntKind.bits IntKind.i64) c &&& BitVec.ofInt (IntKind.bits IntKind.i64) (16777215 : Int))) : Int))) (.int IntKind.i64 ((↑(BitVec.toNat (BitVec.ofInt (IntKind.bits IntKind.i64) c &&& BitVec.ofInt (IntKind.bits IntKind.i64) (16777215 : Int))) : Int))) (congrArg (D.int IntKind.i64) (show IntKind.wrap IntKind.i64 (↑(BitVec.toNat (BitVec.ofInt (IntKind.bits IntKind.i64) c &&& BitVec.ofInt (IntKind.bits IntKind.i64) (16777215 : Int))) : Int) = ((↑(BitVec.toNat (BitVec.ofInt (IntKind.bits IntKind.i64) c &&& BitVec.ofInt (IntKind.bits IntKind.i64) (16777215 : Int))) : Int)) from wrap_eq (by omega) (by omega) (by omega))) ?_
          refine rv (D.int IntKind.i64 v) ?_
          refine rv (D.bool (decide ((↑(BitVec.toNat (BitVec.ofInt (IntKind.bits IntKind.i64) c &&& BitVec.ofInt (IntKind.bits IntKind.i64) (16777215 : Int))) : Int) < v))) ?_
          refine k_done (k_skip_seq ?_)
          refine rkn 68 (decide ((↑(BitVec.toNat (BitVec.ofInt (IntKind.bits IntKind.i64) c &&& BitVec.ofInt (IntKind.bits IntKind.i64) (16777215 : Int))) : Int) < v)) true (decide_eq_true (by assumption)) ?_
          refine kct ?_
          refine rv (D.int IntKind.i64 (2 : Int)) ?_
          refine rv (D.lptr (3 : Nat) (2 : Nat)) ?_
          refine rv (D.int IntKind.i64 c) ?_
          refine rve (D.int IntKind.i64 (IntKind.wrap IntKind.i64 (↑(BitVec.toNat (BitVec.ofInt (IntKind.bits IntKind.i64) c &&& BitVec.ofInt (IntKind.bits IntKind.i64) (16777215 : Int))) : Int))) (.int IntKind.i64 ((↑(BitVec.toNat (BitVec.ofInt (IntKind.bits IntKind.i64) c &&& BitVec.ofInt (IntKind.bits IntKind.i64) (16777215 : Int))) : Int))) (congrArg (D.int IntKind.i64) (show IntKind.wrap IntKind.i64 (↑(BitVec.toNat (BitVec.ofInt (IntKind.bits IntKind.i64) c &&& BitVec.ofInt (IntKind.bits IntKind.i64) (16777215 : Int))) : Int) = ((↑(BitVec.toNat (BitVec.ofInt (IntKind.bits IntKind.i64) c &&& BitVec.ofInt (IntKind.bits IntKind.i64) (16777215 : Int))) : Int)) from wrap_eq (by omega) (by omega) (by omega))) ?_
          refine ra0 (D.int IntKind.i64 (↑(BitVec.toNat (BitVec.ofInt (IntKind.bits IntKind.i64) c &&& BitVec.ofInt (IntKind.bits IntKind.i64) (16777215 : Int))) : Int)) ?_
          refine k_done (k_skip_block (k_skip_seq ?_))
          refine rv (D.int IntKind.i64 (2 : Int)) ?_
          refine rv (D.int IntKind.i64 (3 : Int)) ?_
          refine ra0 (D.int IntKind.i64 (3 : Int)) ?_
          refine k_done (k_skip_back ?_)
          exact ⟨(3, (mk24 c : Int)), ⟨by simp, by simp, by simp; omega, fun h => by simp at h, fun h => by simp at h, fun h => by simp at h, fun _ => by unfold mk24; omega⟩, by simp, by kernel_rfl, rfl⟩
        · refine k_seq (k_seq ?_)
          refine rv (D.int IntKind.i64 (2 : Int)) ?_
          refine rv (D.int IntKind.i64 K) ?_
          refine rv (D.bool (decide ((2 : Int) ≤ K))) ?_
          refine k_done (k_skip_seq ?_)
          refine rkn 60 (decide ((2 : Int) ≤ K)) true (decide_eq_true (by assumption)) ?_
          refine kct (k_skip_seq (k_seq (k_block (k_seq ?_))))
          refine rv (D.int IntKind.i64 (2 : Int)) ?_
          refine rv (D.lptr (3 : Nat) (2 : Nat)) ?_
          refine rv (D.int IntKind.i64 c) ?_
          refine rve (D.int IntKind.i64 (IntKind.wrap IntKind.i64 (↑(BitVec.toNat (BitVec.ofInt (IntKind.bits IntKind.i64) c &&& BitVec.ofInt (IntKind.bits IntKind.i64) (16777215 : Int))) : Int))) (.int IntKind.i64 ((↑(BitVec.toNat (BitVec.ofInt (IntKind.bits IntKind.i64) c &&& BitVec.ofInt (IntKind.bits IntKind.i64) (16777215 : Int))) : Int))) (congrArg (D.int IntKind.i64) (show IntKind.wrap IntKind.i64 (↑(BitVec.toNat (BitVec.ofInt (IntKind.bits IntKind.i64) c &&& BitVec.ofInt (IntKind.bits IntKind.i64) (16777215 : Int))) : Int) = ((↑(BitVec.toNat (BitVec.ofInt (IntKind.bits IntKind.i64) c &&& BitVec.ofInt (IntKind.bits IntKind.i64) (16777215 : Int))) : Int)) from wrap_eq (by omega) (by omega) (by omega))) ?_
          refine rv (D.int IntKind.i64 v) ?_
          refine rv (D.bool (decide ((↑(BitVec.toNat (BitVec.ofInt (IntKind.bits IntKind.i64) c &&& BitVec.ofInt (IntKind.bits IntKind.i64) (16777215 : Int))) : Int) < v))) ?_
          refine k_done (k_skip_seq ?_)
          refine rkn 68 (decide ((↑(BitVec.toNat (BitVec.ofInt (IntKind.bits IntKind.i64) c &&& BitVec.ofInt (IntKind.bits IntKind.i64) (16777215 : Int))) : Int) < v)) false (decide_eq_false (by assumption)) ?_
          refine kcf (k_skip_block (k_skip_seq ?_))
          refine rv (D.int IntKind.i64 (2 : Int)) ?_
          refine rv (D.int IntKind.i64 (3 : Int)) ?_
          refine ra0 (D.int IntKind.i64 (3 : Int)) ?_
          refine k_done (k_skip_back ?_)
          exact ⟨(3, v), ⟨by simp, v0, by simp; omega, fun h => by simp at h, fun h => by simp at h, fun h => by simp at h, fun _ => by unfold mk24; omega⟩, by simp, by kernel_rfl, rfl⟩
      · obtain rfl : K = 1 := by omega
        have hpath : lineP (npOf ns) [98] = [[98], [97]] := by rw [np_recs hr]; rfl
        have hgr : Grown (npOf ns) := by rw [np_recs hr]; exact grown_q _ _ _
        have hln : ns.length < 900 := by have := congrArg List.length hr; simp [recsQ] at this; omega
        obtain ⟨x, hx, hxr⟩ := find_recs (s := [98]) hr rfl
        have hany : anyN ns (badR (mk24 amount + 1 : Nat)) (lineP (npOf ns) [98]) = decide (v < (mk24 amount + 1 : Nat)) := by
          rw [hpath, any_recs hr]
          exact any_q2 (Int.natCast_nonneg _) (Int.ofNat_le.2 (mask_le a)) (Int.natCast_nonneg _) (Int.ofNat_le.2 (mask_le b)) (Int.natCast_nonneg _) (Int.ofNat_le.2 (mask_le c)) v1'
        by_cases hb : v < (mk24 amount + 1 : Nat)
        · obtain ⟨σ1, hR, L1, _⟩ := res_full L hgr hln 97 [98] [120] (mk24 amount + 1 : Nat) (by decide) (Int.ofNat_le.2 (Nat.le_add_left 1 _)) hx rfl (by rw [hany]; exact decide_eq_true hb)
          have hd : decide (((mk24 amount + 1 : Nat) : Int) ≤ v) = false := decide_eq_false (Int.not_le.2 hb)
          have hg : ((false == decide (((mk24 amount + 1 : Nat) : Int) ≤ v)) != true) = false := by rw [hd]; rfl
          refine k_seq (k_seq ?_)
          refine rv (D.int IntKind.i64 (2 : Int)) ?_
          refine rv (D.int IntKind.i64 (1 : Int)) ?_
          refine rv (D.bool false) ?_
          refine k_done (k_skip_seq (kcf (k_exit_seq (k_exit_back (k_exit_hit rfl (k_skip_seq (k_seq ?_)))))))
          refine rv (D.ptr (2 : Nat) (0 : Nat)) ?_
          refine rv (D.sl [[D.str [(97 : UInt8)]], [D.str [(98 : UInt8)]], [D.str [(99 : UInt8)]]] none) ?_
          refine rv (D.int IntKind.i64 (1 : Int)) ?_
          refine rv (D.ref [D.str [(98 : UInt8)]]) ?_
          refine rv (D.str [(98 : UInt8)]) ?_
          refine rv (D.int IntKind.i64 (↑(mk24 amount + (1 : Nat)) : Int)) ?_
          refine runs_call_st ([D.ptr (2 : Nat) (0 : Nat), D.str [(98 : UInt8)], D.str [(120 : UInt8)], D.int IntKind.i64 (↑(mk24 amount + (1 : Nat)) : Int)]) (by kernel_rfl) (by kernel_rfl) (by kernel_rfl) (by kernel_rfl) (hR) ?_
          refine ra0 (D.int IntKind.i64 (61 : Int)) ?_
          refine k_done (k_skip_seq (k_seq (k_seq ?_)))
          refine rv (D.int IntKind.i64 (61 : Int)) ?_
          refine rv (D.bool false) ?_
          refine rv (D.int IntKind.i64 (↑(mk24 amount + (1 : Nat)) : Int)) ?_
          refine rv (D.int IntKind.i64 v) ?_
          refine rv (D.bool (decide ((↑(mk24 amount + (1 : Nat)) : Int) ≤ v))) ?_
          refine rv (D.bool ((false == decide ((↑(mk24 amount + (1 : Nat)) : Int) ≤ v)) != true)) ?_
          refine rv (D.bool ((false == decide ((↑(mk24 amount + (1 : Nat)) : Int) ≤ v)) != true)) ?_
          refine rkn 86 ((false == decide ((↑(mk24 amount + (1 : Nat)) : Int) ≤ v)) != true) false (by assumption) ?_
          refine rv (D.int IntKind.i64 (61 : Int)) ?_
          refine rv (D.bool true) ?_
          refine rv (D.bool true) ?_
          refine rv (D.int IntKind.i64 (61 : Int)) ?_
          refine rv (D.bool false) ?_
          refine rv (D.bool false) ?_
          refine rv (D.bool false) ?_
          refine k_done (k_skip_seq (kcf (k_skip_seq (k_seq (k_seq ?_)))))
          refine rv (D.int IntKind.i64 (61 : Int)) ?_
          refine rv (D.bool true) ?_
          refine k_done (k_skip_seq (kct (k_seq (k_seq ?_))))
          refine rv (D.int IntKind.i64 (0 : Int)) ?_
          refine k_done (k_skip_seq (k_block ?_))
          refine k_loop (fun s : Nat × St × List NodeX => q3 a b c amount k (mk24 amount + 1) 1 v (1 + 1) s.1) (fun s => s.2.1) (fun s => s.1 ≤ 1 + 1 ∧ Lay s.2.1 2 0 1 s.2.2 [] ∧ s.2.2.map (·.r) = recsL (mk24 a) (mk24 b) (mk24 c) s.1) (fun s => 3 - s.1) (0, σ1, ns) (by kernel_rfl) (by kernel_rfl) ⟨by simp, L1, by rw [hr]; rfl⟩ (fun s hs => by omega) ?_
          rintro ⟨i2, σ2, ns2⟩ ⟨hi2, L2, r2⟩
          simp only at hi2 L2 r2
          unfold q3 qB qN l5_2
          have h6 : i2 = 0 ∨ i2 = 1 ∨ i2 = 2 ∨ i2 = 3 := by omega
          rcases h6 with rfl | rfl | rfl | rfl
          · obtain ⟨y, hy, hyr⟩ := find_recs (s := [97]) r2 rfl
            have hlim := lim_good L2 98 [97] 1073741824 (by decide) hy (by rw [hyr]; exact (by decide : (0 : Int) ≤ 1073741824))
            have L3 := L2.turn hy (fun r => { r with limit := 1073741824 }) (fun _ => rfl)
            refine k_seq (k_seq ?_)
            refine rv (D.int IntKind.i64 (0 : Int)) ?_
            refine rv (D.int IntKind.i64 (1 : Int)) ?_
            refine rv (D.bool true) ?_
            refine k_done (k_skip_seq (kct (k_skip_seq (k_seq (k_block (k_seq ?_))))))
            refine rv (D.ptr (2 : Nat) (0 : Nat)) ?_
            refine rv (D.sl [[D.str [(97 : UInt8)]], [D.str [(98 : UInt8)]], [D.str [(99 : UInt8)]]] none) ?_
            refine rv (D.int IntKind.i64 (0 : Int)) ?_
            refine rv (D.ref [D.str [(97 : UInt8)]]) ?_
            refine rv (D.str [(97 : UInt8)]) ?_
            refine runs_call_st ([D.ptr (2 : Nat) (0 : Nat), D.str [(97 : UInt8)], D.int IntKind.i64 (1073741824 : Int)]) (by kernel_rfl) (by kernel_rfl) (by kernel_rfl) (by kernel_rfl) (hlim) ?_
            refine rv (D.bool false) ?_
            refine k_done (k_skip_seq (kcf (k_skip_block (k_skip_seq ?_))))
            refine rv (D.int IntKind.i64 (0 : Int)) ?_
            refine rv (D.int IntKind.i64 (1 : Int)) ?_
            refine ra0 (D.int IntKind.i64 (1 : Int)) ?_
            refine k_done (k_skip_back ?_)
            exact ⟨(1, _, setN ns2 [97] fun r => { r with limit := 1073741824 }), ⟨by simp, L3, by rw [set_recs r2]; rfl⟩, by simp, by kernel_rfl, rfl⟩
          · obtain ⟨y, hy, hyr⟩ := find_recs (s := [98]) r2 rfl
            have hlim := lim_good L2 98 [98] 1073741824 (by decide) hy (by rw [hyr]; exact (by decide : (0 : Int) ≤ 1073741824))
            have L3 := L2.turn hy (fun r => { r with limit := 1073741824 }) (fun _ => rfl)
            refine k_seq (k_seq ?_)
            refine rv (D.int IntKind.i64 (1 : Int)) ?_
            refine rv (D.int IntKind.i64 (1 : Int)) ?_
            refine rv (D.bool true) ?_
            refine k_done (k_skip_seq (kct (k_skip_seq (k_seq (k_block (k_seq ?_))))))
            refine rv (D.ptr (2 : Nat) (0 : Nat)) ?_
            refine rv (D.sl [[D.str [(97 : UInt8)]], [D.str [(98 : UInt8)]], [D.str [(99 : UInt8)]]] none) ?_
            refine rv (D.int IntKind.i64 (1 : Int)) ?_
            refine rv (D.ref [D.str [(98 : UInt8)]]) ?_
            refine rv (D.str [(98 : UInt8)]) ?_
            refine runs_call_st ([D.ptr (2 : Nat) (0 : Nat), D.str [(98 : UInt8)], D.int IntKind.i64 (1073741824 : Int)]) (by kernel_rfl) (by kernel_rfl) (by kernel_rfl) (by kernel_rfl) (hlim) ?_
            refine rv (D.bool false) ?_
            refine k_done (k_skip_seq (kcf (k_skip_block (k_skip_seq ?_))))
            refine rv (D.int IntKind.i64 (1 : Int)) ?_
            refine rv (D.int IntKind.i64 (2 : Int)) ?_
            refine ra0 (D.int IntKind.i64 (2 : Int)) ?_
            refine k_done (k_skip_back ?_)
            exact ⟨(2, _, setN ns2 [98] fun r => { r with limit := 1073741824 }), ⟨by simp, L3, by rw [set_recs r2]; rfl⟩, by simp, by kernel_rfl, rfl⟩
          · have hp2 : lineP (npOf ns2) [98] = [[98], [97]] := by rw [np_recs r2]; rfl
            have hg2 : Grown (npOf ns2) := by rw [np_recs r2]; exact grown_q 0 0 0
            have hn2 : ns2.length < 900 := by have := congrArg List.length r2; simp [recsL] at this; omega
            obtain ⟨x2, hx2, _⟩ := find_recs (s := [98]) r2 rfl
            obtain ⟨σ3, hR3, _, _⟩ := res_good L2 hg2 hn2 97 [98] [120] (mk24 amount + 1 : Nat) (by decide) (Int.ofNat_le.2 (Nat.le_add_left 1 _)) hx2 rfl (by rw [hp2, any_recs r2]; exact any_l2 (Int.ofNat_le.2 (Nat.add_le_add_right (mask_le amount) 1)))
            refine k_seq (k_seq ?_)
            refine rv (D.int IntKind.i64 (2 : Int)) ?_
            refine rv (D.int IntKind.i64 (1 : Int)) ?_
            refine rv (D.bool false) ?_
            refine k_done (k_skip_seq (kcf (k_exit_seq (k_exit_back (k_exit_hit rfl (k_skip_seq (k_seq ?_)))))))
            refine rv (D.ptr (2 : Nat) (0 : Nat)) ?_
            refine rv (D.sl [[D.str [(97 : UInt8)]], [D.str [(98 : UInt8)]], [D.str [(99 : UInt8)]]] none) ?_
            refine rv (D.int IntKind.i64 (1 : Int)) ?_
            refine rv (D.ref [D.str [(98 : UInt8)]]) ?_
            refine rv (D.str [(98 : UInt8)]) ?_
            refine rv (D.int IntKind.i64 (↑(mk24 amount + (1 : Nat)) : Int)) ?_
            refine runs_call_st ([D.ptr (2 : Nat) (0 : Nat), D.str [(98 : UInt8)], D.str [(120 : UInt8)], D.int IntKind.i64 (↑(mk24 amount + (1 : Nat)) : Int)]) (by kernel_rfl) (by kernel_rfl) (by kernel_rfl) (by kernel_rfl) (hR3) ?_
            refine rv (D.bool true) ?_
            refine ra0 (D.bool true) ?_
            refine k_done (k_skip_seq (k_ret ?_))
            exact ⟨.inr rfl, by kernel_rfl, σ3, by kernel_rfl⟩
          · exfalso; omega
        · obtain ⟨σ1, hR, L1, _⟩ := res_good L hgr hln 97 [98] [120] (mk24 amount + 1 : Nat) (by decide) (Int.ofNat_le.2 (Nat.le_add_left 1 _)) hx rfl (by rw [hany]; exact decide_eq_false hb)
          have hd : decide (((mk24 amount + 1 : Nat) : Int) ≤ v) = true := decide_eq_true (Int.not_lt.1 hb)
          have hg : ((true == decide (((mk24 amount + 1 : Nat) : Int) ≤ v)) != true) = false := by rw [hd]; rfl
          have hg1 : Grown (npOf (usedAt ns [98] (mk24 amount + 1 : Nat))) := by unfold usedAt; rw [npOf_bump (f := moreR (mk24 amount + 1 : Nat)) ns _ (fun _ => rfl) (fun _ => rfl)]; exact hgr
          have hn1 : (usedAt ns [98] (mk24 amount + 1 : Nat)).length < 900 := by simpa [usedAt, bumpN] using hln
          obtain ⟨σ2, hL, L2, _⟩ := rel_good L1 hg1 hn1 97 [120] (y := ⟨[120], [98], (mk24 amount + 1 : Nat)⟩) (by simp [findH])
          have r2 := freed_recs hr (Int.natCast_nonneg (mk24 amount + 1)) (Int.ofNat_le.2 (Nat.add_le_add_right (mask_le amount) 1)) [98]
          simp only at L2
          have hn2 : (freedAt (usedAt ns [98] (mk24 amount + 1 : Nat)) [98] (mk24 amount + 1 : Nat)).length < 900 := by have := congrArg List.length r2; rw [List.length_map] at this; rw [this]; exact (by decide : 3 < 900)
          have hN := nodes_ok L2 hn2 98
          have hV : (nodesV (freedAt (usedAt ns [98] (mk24 amount + 1 : Nat)) [98] (mk24 amount + 1 : Nat))).map NodeR.cells = [[.str [97], .str [], .int .i64 (mk24 a), .int .i64 0], [.str [98], .str [97], .int .i64 (mk24 b), .int .i64 0], [.str [99], .str [98], .int .i64 (mk24 c), .int .i64 0]] := by unfold nodesV; rw [r2]; rfl
          rw [hV] at hN
          have hH : delH ([] ++ [⟨[120], [98], (mk24 amount + 1 : Nat)⟩]) [120] = [] := by simp [delH]
          rw [hH] at L2
          have hL2 := rel_node L2 98 [120] rfl
          have hLv := live_ok L2 (by decide) 97
          refine k_seq (k_seq ?_)
          refine rv (D.int IntKind.i64 (2 : Int)) ?_
          refine rv (D.int IntKind.i64 (1 : Int)) ?_
          refine rv (D.bool false) ?_
          refine k_done (k_skip_seq (kcf (k_exit_seq (k_exit_back (k_exit_hit rfl (k_skip_seq (k_seq ?_)))))))
          refine rv (D.ptr (2 : Nat) (0 : Nat)) ?_
          refine rv (D.sl [[D.str [(97 : UInt8)]], [D.str [(98 : UInt8)]], [D.str [(99 : UInt8)]]] none) ?_
          refine rv (D.int IntKind.i64 (1 : Int)) ?_
          refine rv (D.ref [D.str [(98 : UInt8)]]) ?_
          refine rv (D.str [(98 : UInt8)]) ?_
          refine rv (D.int IntKind.i64 (↑(mk24 amount + (1 : Nat)) : Int)) ?_
          refine runs_call_st ([D.ptr (2 : Nat) (0 : Nat), D.str [(98 : UInt8)], D.str [(120 : UInt8)], D.int IntKind.i64 (↑(mk24 amount + (1 : Nat)) : Int)]) (by kernel_rfl) (by kernel_rfl) (by kernel_rfl) (by kernel_rfl) (hR) ?_
          refine ra0 (D.int IntKind.i64 (0 : Int)) ?_
          refine k_done (k_skip_seq (k_seq (k_seq ?_)))
          refine rv (D.int IntKind.i64 (0 : Int)) ?_
          refine rv (D.bool true) ?_
          refine rv (D.int IntKind.i64 (↑(mk24 amount + (1 : Nat)) : Int)) ?_
          refine rv (D.int IntKind.i64 v) ?_
          refine rv (D.bool (decide ((↑(mk24 amount + (1 : Nat)) : Int) ≤ v))) ?_
          refine rv (D.bool ((true == decide ((↑(mk24 amount + (1 : Nat)) : Int) ≤ v)) != true)) ?_
          refine rv (D.bool ((true == decide ((↑(mk24 amount + (1 : Nat)) : Int) ≤ v)) != true)) ?_
          refine rkn 86 ((true == decide ((↑(mk24 amount + (1 : Nat)) : Int) ≤ v)) != true) false (by assumption) ?_
          refine rv (D.int IntKind.i64 (0 : Int)) ?_
          refine rv (D.bool false) ?_
          refine rv (D.bool false) ?_
          refine rno (rno ?_)
          refine rv (D.bool false) ?_
          refine rv (D.bool false) ?_
          refine k_done (k_skip_seq (kcf (k_skip_seq (k_seq (k_seq ?_)))))
          refine rv (D.int IntKind.i64 (0 : Int)) ?_
          refine rv (D.bool false) ?_
          refine k_done (k_skip_seq (kcf (k_skip_seq (k_seq ?_))))
          refine rv (D.ptr (2 : Nat) (0 : Nat)) ?_
          refine runs_call_st ([D.ptr (2 : Nat) (0 : Nat), D.str [(120 : UInt8)]]) (by kernel_rfl) (by kernel_rfl) (by kernel_rfl) (by kernel_rfl) (hL) ?_
          refine ra0 (D.int IntKind.i64 (0 : Int)) ?_
          refine k_done (k_skip_seq (k_seq ?_))
          refine rv (D.ptr (2 : Nat) (0 : Nat)) ?_
          refine runs_call_st ([D.ptr (2 : Nat) (0 : Nat)]) (by kernel_rfl) (by kernel_rfl) (by kernel_rfl) (by kernel_rfl) (hN) ?_
          refine ra0 (D.sl [[D.str [(97 : UInt8)], D.str [], D.int IntKind.i64 (↑(mk24 a) : Int), D.int IntKind.i64 (0 : Int)], [D.str [(98 : UInt8)], D.str [(97 : UInt8)], D.int IntKind.i64 (↑(mk24 b) : Int), D.int IntKind.i64 (0 : Int)], [D.str [(99 : UInt8)], D.str [(98 : UInt8)], D.int IntKind.i64 (↑(mk24 c) : Int), D.int IntKind.i64 (0 : Int)]] none) ?_
          refine k_done (k_skip_seq (k_seq (k_seq ?_)))
          refine rv (D.int IntKind.i64 (0 : Int)) ?_
          refine k_done (k_skip_seq (k_block ?_))
          refine k_loop (fun i => q4 a b c amount k (mk24 amount + 1) 1 v (1 + 1) (mk24 a) (mk24 b) (mk24 c) i) (fun _ => σ2) (fun i => i ≤ 3) (fun i => 3 - i) 0 (by kernel_rfl) (by kernel_rfl) (by simp) (fun s hs => by omega) ?_
          intro i2 hi2
          unfold q4 qB qN l5_3
          have h6 : i2 = 0 ∨ i2 = 1 ∨ i2 = 2 ∨ i2 = 3 := by omega
          rcases h6 with rfl | rfl | rfl | rfl
          · refine k_seq (k_seq ?_)
            refine rv (D.int IntKind.i64 (0 : Int)) ?_
            refine rv (D.sl [[D.str [(97 : UInt8)], D.str [], D.int IntKind.i64 (↑(mk24 a) : Int), D.int IntKind.i64 (0 : Int)], [D.str [(98 : UInt8)], D.str [(97 : UInt8)], D.int IntKind.i64 (↑(mk24 b) : Int), D.int IntKind.i64 (0 : Int)], [D.str [(99 : UInt8)], D.str [(98 : UInt8)], D.int IntKind.i64 (↑(mk24 c) : Int), D.int IntKind.i64 (0 : Int)]] none) ?_
            refine rv (D.int IntKind.i64 (↑(List.length [[D.str [(97 : UInt8)], D.str [], D.int IntKind.i64 (↑(mk24 a) : Int), D.int IntKind.i64 (0 : Int)], [D.str [(98 : UInt8)], D.str [(97 : UInt8)], D.int IntKind.i64 (↑(mk24 b) : Int), D.int IntKind.i64 (0 : Int)], [D.str [(99 : UInt8)], D.str [(98 : UInt8)], D.int IntKind.i64 (↑(mk24 c) : Int), D.int IntKind.i64 (0 : Int)]]) : Int)) ?_
            refine rv (D.bool true) ?_
            refine k_done (k_skip_seq (kct (k_skip_seq (k_seq (k_block (k_seq ?_))))))
            refine rv (D.sl [[D.str [(97 : UInt8)], D.str [], D.int IntKind.i64 (↑(mk24 a) : Int), D.int IntKind.i64 (0 : Int)], [D.str [(98 : UInt8)], D.str [(97 : UInt8)], D.int IntKind.i64 (↑(mk24 b) : Int), D.int IntKind.i64 (0 : Int)], [D.str [(99 : UInt8)], D.str [(98 : UInt8)], D.int IntKind.i64 (↑(mk24 c) : Int), D.int IntKind.i64 (0 : Int)]] none) ?_
            refine rv (D.int IntKind.i64 (0 : Int)) ?_
            refine rv (D.ref [D.str [(97 : UInt8)], D.str [], D.int IntKind.i64 (↑(mk24 a) : Int), D.int IntKind.i64 (0 : Int)]) ?_
            refine rv (D.ref [D.int IntKind.i64 (0 : Int)]) ?_
            refine rv (D.int IntKind.i64 (0 : Int)) ?_
            refine rv (D.bool false) ?_
            refine k_done (k_skip_seq (kcf (k_skip_block (k_skip_seq ?_))))
            refine rv (D.int IntKind.i64 (0 : Int)) ?_
            refine rv (D.int IntKind.i64 (1 : Int)) ?_
            refine ra0 (D.int IntKind.i64 (1 : Int)) ?_
            refine k_done (k_skip_back ?_)
            exact ⟨1, by simp, by simp, by kernel_rfl, rfl⟩
          · refine k_seq (k_seq ?_)
            refine rv (D.int IntKind.i64 (1 : Int)) ?_
            refine rv (D.sl [[D.str [(97 : UInt8)], D.str [], D.int IntKind.i64 (↑(mk24 a) : Int), D.int IntKind.i64 (0 : Int)], [D.str [(98 : UInt8)], D.str [(97 : UInt8)], D.int IntKind.i64 (↑(mk24 b) : Int), D.int IntKind.i64 (0 : Int)], [D.str [(99 : UInt8)], D.str [(98 : UInt8)], D.int IntKind.i64 (↑(mk24 c) : Int), D.int IntKind.i64 (0 : Int)]] none) ?_
            refine rv (D.int IntKind.i64 (↑(List.length [[D.str [(97 : UInt8)], D.str [], D.int IntKind.i64 (↑(mk24 a) : Int), D.int IntKind.i64 (0 : Int)], [D.str [(98 : UInt8)], D.str [(97 : UInt8)], D.int IntKind.i64 (↑(mk24 b) : Int), D.int IntKind.i64 (0 : Int)], [D.str [(99 : UInt8)], D.str [(98 : UInt8)], D.int IntKind.i64 (↑(mk24 c) : Int), D.int IntKind.i64 (0 : Int)]]) : Int)) ?_
            refine rv (D.bool true) ?_
            refine k_done (k_skip_seq (kct (k_skip_seq (k_seq (k_block (k_seq ?_))))))
            refine rv (D.sl [[D.str [(97 : UInt8)], D.str [], D.int IntKind.i64 (↑(mk24 a) : Int), D.int IntKind.i64 (0 : Int)], [D.str [(98 : UInt8)], D.str [(97 : UInt8)], D.int IntKind.i64 (↑(mk24 b) : Int), D.int IntKind.i64 (0 : Int)], [D.str [(99 : UInt8)], D.str [(98 : UInt8)], D.int IntKind.i64 (↑(mk24 c) : Int), D.int IntKind.i64 (0 : Int)]] none) ?_
            refine rv (D.int IntKind.i64 (1 : Int)) ?_
            refine rv (D.ref [D.str [(98 : UInt8)], D.str [(97 : UInt8)], D.int IntKind.i64 (↑(mk24 b) : Int), D.int IntKind.i64 (0 : Int)]) ?_
            refine rv (D.ref [D.int IntKind.i64 (0 : Int)]) ?_
            refine rv (D.int IntKind.i64 (0 : Int)) ?_
            refine rv (D.bool false) ?_
            refine k_done (k_skip_seq (kcf (k_skip_block (k_skip_seq ?_))))
            refine rv (D.int IntKind.i64 (1 : Int)) ?_
            refine rv (D.int IntKind.i64 (2 : Int)) ?_
            refine ra0 (D.int IntKind.i64 (2 : Int)) ?_
            refine k_done (k_skip_back ?_)
            exact ⟨2, by simp, by simp, by kernel_rfl, rfl⟩
          · refine k_seq (k_seq ?_)
            refine rv (D.int IntKind.i64 (2 : Int)) ?_
            refine rv (D.sl [[D.str [(97 : UInt8)], D.str [], D.int IntKind.i64 (↑(mk24 a) : Int), D.int IntKind.i64 (0 : Int)], [D.str [(98 : UInt8)], D.str [(97 : UInt8)], D.int IntKind.i64 (↑(mk24 b) : Int), D.int IntKind.i64 (0 : Int)], [D.str [(99 : UInt8)], D.str [(98 : UInt8)], D.int IntKind.i64 (↑(mk24 c) : Int), D.int IntKind.i64 (0 : Int)]] none) ?_
            refine rv (D.int IntKind.i64 (↑(List.length [[D.str [(97 : UInt8)], D.str [], D.int IntKind.i64 (↑(mk24 a) : Int), D.int IntKind.i64 (0 : Int)], [D.str [(98 : UInt8)], D.str [(97 : UInt8)], D.int IntKind.i64 (↑(mk24 b) : Int), D.int IntKind.i64 (0 : Int)], [D.str [(99 : UInt8)], D.str [(98 : UInt8)], D.int IntKind.i64 (↑(mk24 c) : Int), D.int IntKind.i64 (0 : Int)]]) : Int)) ?_
            refine rv (D.bool true) ?_
            refine k_done (k_skip_seq (kct (k_skip_seq (k_seq (k_block (k_seq ?_))))))
            refine rv (D.sl [[D.str [(97 : UInt8)], D.str [], D.int IntKind.i64 (↑(mk24 a) : Int), D.int IntKind.i64 (0 : Int)], [D.str [(98 : UInt8)], D.str [(97 : UInt8)], D.int IntKind.i64 (↑(mk24 b) : Int), D.int IntKind.i64 (0 : Int)], [D.str [(99 : UInt8)], D.str [(98 : UInt8)], D.int IntKind.i64 (↑(mk24 c) : Int), D.int IntKind.i64 (0 : Int)]] none) ?_
            refine rv (D.int IntKind.i64 (2 : Int)) ?_
            refine rv (D.ref [D.str [(99 : UInt8)], D.str [(98 : UInt8)], D.int IntKind.i64 (↑(mk24 c) : Int), D.int IntKind.i64 (0 : Int)]) ?_
            refine rv (D.ref [D.int IntKind.i64 (0 : Int)]) ?_
            refine rv (D.int IntKind.i64 (0 : Int)) ?_
            refine rv (D.bool false) ?_
            refine k_done (k_skip_seq (kcf (k_skip_block (k_skip_seq ?_))))
            refine rv (D.int IntKind.i64 (2 : Int)) ?_
            refine rv (D.int IntKind.i64 (3 : Int)) ?_
            refine ra0 (D.int IntKind.i64 (3 : Int)) ?_
            refine k_done (k_skip_back ?_)
            exact ⟨3, by simp, by simp, by kernel_rfl, rfl⟩
          · refine k_seq (k_seq ?_)
            refine rv (D.int IntKind.i64 (3 : Int)) ?_
            refine rv (D.sl [[D.str [(97 : UInt8)], D.str [], D.int IntKind.i64 (↑(mk24 a) : Int), D.int IntKind.i64 (0 : Int)], [D.str [(98 : UInt8)], D.str [(97 : UInt8)], D.int IntKind.i64 (↑(mk24 b) : Int), D.int IntKind.i64 (0 : Int)], [D.str [(99 : UInt8)], D.str [(98 : UInt8)], D.int IntKind.i64 (↑(mk24 c) : Int), D.int IntKind.i64 (0 : Int)]] none) ?_
            refine rv (D.int IntKind.i64 (↑(List.length [[D.str [(97 : UInt8)], D.str [], D.int IntKind.i64 (↑(mk24 a) : Int), D.int IntKind.i64 (0 : Int)], [D.str [(98 : UInt8)], D.str [(97 : UInt8)], D.int IntKind.i64 (↑(mk24 b) : Int), D.int IntKind.i64 (0 : Int)], [D.str [(99 : UInt8)], D.str [(98 : UInt8)], D.int IntKind.i64 (↑(mk24 c) : Int), D.int IntKind.i64 (0 : Int)]]) : Int)) ?_
            refine rv (D.bool false) ?_
            refine k_done (k_skip_seq (kcf (k_exit_seq (k_exit_back (k_exit_hit rfl (k_skip_seq (k_seq ?_)))))))
            refine rv (D.int IntKind.i64 (0 : Int)) ?_
            refine rv (D.bool true) ?_
            refine rv (D.bool true) ?_
            refine rv (D.ptr (2 : Nat) (0 : Nat)) ?_
            refine runs_call_st ([D.ptr (2 : Nat) (0 : Nat), D.str [(120 : UInt8)]]) (by kernel_rfl) (by kernel_rfl) (by kernel_rfl) (by kernel_rfl) (hL2) ?_
            refine rv (D.bool true) ?_
            refine rv (D.bool true) ?_
            refine rv (D.bool true) ?_
            refine rv (D.ptr (2 : Nat) (0 : Nat)) ?_
            refine runs_call_st ([D.ptr (2 : Nat) (0 : Nat)]) (by kernel_rfl) (by kernel_rfl) (by kernel_rfl) (by kernel_rfl) (hLv) ?_
            refine rv (D.int IntKind.i64 (0 : Int)) ?_
            refine rv (D.bool true) ?_
            refine rv (D.bool true) ?_
            refine ra0 (D.bool true) ?_
            refine k_done (k_skip_seq (k_ret ?_))
            exact ⟨.inr rfl, by kernel_rfl, σ2 ++ [Go.Abs.Obj.cells [.map 1]], by kernel_rfl⟩
    · have v1' := v4 rfl
      obtain rfl : K = 2 := by omega
      have hpath : lineP (npOf ns) [99] = [[99], [98], [97]] := by rw [np_recs hr]; rfl
      have hgr : Grown (npOf ns) := by rw [np_recs hr]; exact grown_q _ _ _
      have hln : ns.length < 900 := by have := congrArg List.length hr; simp [recsQ] at this; omega
      obtain ⟨x, hx, hxr⟩ := find_recs (s := [99]) hr rfl
      have hany : anyN ns (badR (mk24 amount + 1 : Nat)) (lineP (npOf ns) [99]) = decide (v < (mk24 amount + 1 : Nat)) := by
        rw [hpath, any_recs hr]
        exact any_q3 (Int.natCast_nonneg _) (Int.ofNat_le.2 (mask_le a)) (Int.natCast_nonneg _) (Int.ofNat_le.2 (mask_le b)) (Int.natCast_nonneg _) (Int.ofNat_le.2 (mask_le c)) v1'
      by_cases hb : v < (mk24 amount + 1 : Nat)
      · obtain ⟨σ1, hR, L1, _⟩ := res_full L hgr hln 97 [99] [120] (mk24 amount + 1 : Nat) (by decide) (Int.ofNat_le.2 (Nat.le_add_left 1 _)) hx rfl (by rw [hany]; exact decide_eq_true hb)
        have hd : decide (((mk24 amount + 1 : Nat) : Int) ≤ v) = false := decide_eq_false (Int.not_le.2 hb)
        have hg : ((false == decide (((mk24 amount + 1 : Nat) : Int) ≤ v)) != true) = false := by rw [hd]; rfl
        refine k_seq (k_seq ?_)
        refine rv (D.int IntKind.i64 (3 : Int)) ?_
        refine rv (D.int IntKind.i64 (2 : Int)) ?_
        refine rv (D.bool false) ?_
        refine k_done (k_skip_seq (kcf (k_exit_seq (k_exit_back (k_exit_hit rfl (k_skip_seq (k_seq ?_)))))))
        refine rv (D.ptr (2 : Nat) (0 : Nat)) ?_
        refine rv (D.sl [[D.str [(97 : UInt8)]], [D.str [(98 : UInt8)]], [D.str [(99 : UInt8)]]] none) ?_
        refine rv (D.int IntKind.i64 (2 : Int)) ?_
        refine rv (D.ref [D.str [(99 : UInt8)]]) ?_
        refine rv (D.str [(99 : UInt8)]) ?_
        refine rv (D.int IntKind.i64 (↑(mk24 amount + (1 : Nat)) : Int)) ?_
        refine runs_call_st ([D.ptr (2 : Nat) (0 : Nat), D.str [(99 : UInt8)], D.str [(120 : UInt8)], D.int IntKind.i64 (↑(mk24 amount + (1 : Nat)) : Int)]) (by kernel_rfl) (by kernel_rfl) (by kernel_rfl) (by kernel_rfl) (hR) ?_
        refine ra0 (D.int IntKind.i64 (61 : Int)) ?_
        refine k_done (k_skip_seq (k_seq (k_seq ?_)))
        refine rv (D.int IntKind.i64 (61 : Int)) ?_
        refine rv (D.bool false) ?_
        refine rv (D.int IntKind.i64 (↑(mk24 amount + (1 : Nat)) : Int)) ?_
        refine rv (D.int IntKind.i64 v) ?_
        refine rv (D.bool (decide ((↑(mk24 amount + (1 : Nat)) : Int) ≤ v))) ?_
        refine rv (D.bool ((false == decide ((↑(mk24 amount + (1 : Nat)) : Int) ≤ v)) != true)) ?_
        refine rv (D.bool ((false == decide ((↑(mk24 amount + (1 : Nat)) : Int) ≤ v)) != true)) ?_
        refine rkn 86 ((false == decide ((↑(mk24 amount + (1 : Nat)) : Int) ≤ v)) != true) false (by assumption) ?_
        refine rv (D.int IntKind.i64 (61 : Int)) ?_
        refine rv (D.bool true) ?_
        refine rv (D.bool true) ?_
        refine rv (D.int IntKind.i64 (61 : Int)) ?_
        refine rv (D.bool false) ?_
        refine rv (D.bool false) ?_
        refine rv (D.bool false) ?_
        refine k_done (k_skip_seq (kcf (k_skip_seq (k_seq (k_seq ?_)))))
        refine rv (D.int IntKind.i64 (61 : Int)) ?_
        refine rv (D.bool true) ?_
        refine k_done (k_skip_seq (kct (k_seq (k_seq ?_))))
        refine rv (D.int IntKind.i64 (0 : Int)) ?_
        refine k_done (k_skip_seq (k_block ?_))
        refine k_loop (fun s : Nat × St × List NodeX => q3 a b c amount k (mk24 amount + 1) 2 v (2 + 1) s.1) (fun s => s.2.1) (fun s => s.1 ≤ 2 + 1 ∧ Lay s.2.1 2 0 1 s.2.2 [] ∧ s.2.2.map (·.r) = recsL (mk24 a) (mk24 b) (mk24 c) s.1) (fun s => 3 - s.1) (0, σ1, ns) (by kernel_rfl) (by kernel_rfl) ⟨by simp, L1, by rw [hr]; rfl⟩ (fun s hs => by omega) ?_
        rintro ⟨i2, σ2, ns2⟩ ⟨hi2, L2, r2⟩
        simp only at hi2 L2 r2
        unfold q3 qB qN l5_2
        have h6 : i2 = 0 ∨ i2 = 1 ∨ i2 = 2 ∨ i2 = 3 := by omega
        rcases h6 with rfl | rfl | rfl | rfl
        · obtain ⟨y, hy, hyr⟩ := find_recs (s := [97]) r2 rfl
          have hlim := lim_good L2 98 [97] 1073741824 (by decide) hy (by rw [hyr]; exact (by decide : (0 : Int) ≤ 1073741824))
          have L3 := L2.turn hy (fun r => { r with limit := 1073741824 }) (fun _ => rfl)
          refine k_seq (k_seq ?_)
          refine rv (D.int IntKind.i64 (0 : Int)) ?_
          refine rv (D.int IntKind.i64 (2 : Int)) ?_
          refine rv (D.bool true) ?_
          refine k_done (k_skip_seq (kct (k_skip_seq (k_seq (k_block (k_seq ?_))))))
          refine rv (D.ptr (2 : Nat) (0 : Nat)) ?_
          refine rv (D.sl [[D.str [(97 : UInt8)]], [D.str [(98 : UInt8)]], [D.str [(99 : UInt8)]]] none) ?_
          refine rv (D.int IntKind.i64 (0 : Int)) ?_
          refine rv (D.ref [D.str [(97 : UInt8)]]) ?_
          refine rv (D.str [(97 : UInt8)]) ?_
          refine runs_call_st ([D.ptr (2 : Nat) (0 : Nat), D.str [(97 : UInt8)], D.int IntKind.i64 (1073741824 : Int)]) (by kernel_rfl) (by kernel_rfl) (by kernel_rfl) (by kernel_rfl) (hlim) ?_
          refine rv (D.bool false) ?_
          refine k_done (k_skip_seq (kcf (k_skip_block (k_skip_seq ?_))))
          refine rv (D.int IntKind.i64 (0 : Int)) ?_
          refine rv (D.int IntKind.i64 (1 : Int)) ?_
          refine ra0 (D.int IntKind.i64 (1 : Int)) ?_
          refine k_done (k_skip_back ?_)
          exact ⟨(1, _, setN ns2 [97] fun r => { r with limit := 1073741824 }), ⟨by simp, L3, by rw [set_recs r2]; rfl⟩, by simp, by kernel_rfl, rfl⟩
        · obtain ⟨y, hy, hyr⟩ := find_recs (s := [98]) r2 rfl
          have hlim := lim_good L2 98 [98] 1073741824 (by decide) hy (by rw [hyr]; exact (by decide : (0 : Int) ≤ 1073741824))
          have L3 := L2.turn hy (fun r => { r with limit := 1073741824 }) (fun _ => rfl)
          refine k_seq (k_seq ?_)
          refine rv (D.int IntKind.i64 (1 : Int)) ?_
          refine rv (D.int IntKind.i64 (2 : Int)) ?_
          refine rv (D.bool true) ?_
          refine k_done (k_skip_seq (kct (k_skip_seq (k_seq (k_block (k_seq ?_))))))
          refine rv (D.ptr (2 : Nat) (0 : Nat)) ?_
          refine rv (D.sl [[D.str [(97 : UInt8)]], [D.str [(98 : UInt8)]], [D.str [(99 : UInt8)]]] none) ?_
          refine rv (D.int IntKind.i64 (1 : Int)) ?_
          refine rv (D.ref [D.str [(98 : UInt8)]]) ?_
          refine rv (D.str [(98 : UInt8)]) ?_
          refine runs_call_st ([D.ptr (2 : Nat) (0 : Nat), D.str [(98 : UInt8)], D.int IntKind.i64 (1073741824 : Int)]) (by kernel_rfl) (by kernel_rfl) (by kernel_rfl) (by kernel_rfl) (hlim) ?_
          refine rv (D.bool false) ?_
          refine k_done (k_skip_seq (kcf (k_skip_block (k_skip_seq ?_))))
          refine rv (D.int IntKind.i64 (1 : Int)) ?_
          refine rv (D.int IntKind.i64 (2 : Int)) ?_
          refine ra0 (D.int IntKind.i64 (2 : Int)) ?_
          refine k_done (k_skip_back ?_)
          exact ⟨(2, _, setN ns2 [98] fun r => { r with limit := 1073741824 }), ⟨by simp, L3, by rw [set_recs r2]; rfl⟩, by simp, by kernel_rfl, rfl⟩
        · obtain ⟨y, hy, hyr⟩ := find_recs (s := [99]) r2 rfl
          have hlim := lim_good L2 98 [99] 1073741824 (by decide) hy (by rw [hyr]; exact (by decide : (0 : Int) ≤ 1073741824))
          have L3 := L2.turn hy (fun r => { r with limit := 1073741824 }) (fun _ => rfl)
          refine k_seq (k_seq ?_)
          refine rv (D.int IntKind.i64 (2 : Int)) ?_
          refine rv (D.int IntKind.i64 (2 : Int)) ?_
          refine rv (D.bool true) ?_
          refine k_done (k_skip_seq (kct (k_skip_seq (k_seq (k_block (k_seq ?_))))))
          refine rv (D.ptr (2 : Nat) (0 : Nat)) ?_
          refine rv (D.sl [[D.str [(97 : UInt8)]], [D.str [(98 : UInt8)]], [D.str [(99 : UInt8)]]] none) ?_
          refine rv (D.int IntKind.i64 (2 : Int)) ?_
          refine rv (D.ref [D.str [(99 : UInt8)]]) ?_
          refine rv (D.str [(99 : UInt8)]) ?_
          refine runs_call_st ([D.ptr (2 : Nat) (0 : Nat), D.str [(99 : UInt8)], D.int IntKind.i64 (1073741824 : Int)]) (by kernel_rfl) (by kernel_rfl) (by kernel_rfl) (by kernel_rfl) (hlim) ?_
          refine rv (D.bool false) ?_
          refine k_done (k_skip_seq (kcf (k_skip_block (k_skip_seq ?_))))
          refine rv (D.int IntKind.i64 (2 : Int)) ?_
          refine rv (D.int IntKind.i64 (3 : Int)) ?_
          refine ra0 (D.int IntKind.i64 (3 : Int)) ?_
          refine k_done (k_skip_back ?_)
          exact ⟨(3, _, setN ns2 [99] fun r => { r with limit := 1073741824 }), ⟨by simp, L3, by rw [set_recs r2]; rfl⟩, by simp, by kernel_rfl, rfl⟩
        · have hp2 : lineP (npOf ns2) [99] = [[99], [98], [97]] := by rw [np_recs r2]; rfl
          have hg2 : Grown (npOf ns2) := by rw [np_recs r2]; exact grown_q 0 0 0
          have hn2 : ns2.length < 900 := by have := congrArg List.length r2; simp [recsL] at this; omega
          obtain ⟨x2, hx2, _⟩ := find_recs (s := [99]) r2 rfl
          obtain ⟨σ3, hR3, _, _⟩ := res_good L2 hg2 hn2 97 [99] [120] (mk24 amount + 1 : Nat) (by decide) (Int.ofNat_le.2 (Nat.le_add_left 1 _)) hx2 rfl (by rw [hp2, any_recs r2]; exact any_l3 (Int.ofNat_le.2 (Nat.add_le_add_right (mask_le amount) 1)))
          refine k_seq (k_seq ?_)
          refine rv (D.int IntKind.i64 (3 : Int)) ?_
          refine rv (D.int IntKind.i64 (2 : Int)) ?_
          refine rv (D.bool false) ?_
          refine k_done (k_skip_seq (kcf (k_exit_seq (k_exit_back (k_exit_hit rfl (k_skip_seq (k_seq ?_)))))))
          refine rv (D.ptr (2 : Nat) (0 : Nat)) ?_
          refine rv (D.sl [[D.str [(97 : UInt8)]], [D.str [(98 : UInt8)]], [D.str [(99 : UInt8)]]] none) ?_
          refine rv (D.int IntKind.i64 (2 : Int)) ?_
          refine rv (D.ref [D.str [(99 : UInt8)]]) ?_
          refine rv (D.str [(99 : UInt8)]) ?_
          refine rv (D.int IntKind.i64 (↑(mk24 amount + (1 : Nat)) : Int)) ?_
          refine runs_call_st ([D.ptr (2 : Nat) (0 : Nat), D.str [(99 : UInt8)], D.str [(120 : UInt8)], D.int IntKind.i64 (↑(mk24 amount + (1 : Nat)) : Int)]) (by kernel_rfl) (by kernel_rfl) (by kernel_rfl) (by kernel_rfl) (hR3) ?_
          refine rv (D.bool true) ?_
          refine ra0 (D.bool true) ?_
          refine k_done (k_skip_seq (k_ret ?_))
          exact ⟨.inr rfl, by kernel_rfl, σ3, by kernel_rfl⟩
      · obtain ⟨σ1, hR, L1, _⟩ := res_good L hgr hln 97 [99] [120] (mk24 amount + 1 : Nat) (by decide) (Int.ofNat_le.2 (Nat.le_add_left 1 _)) hx rfl (by rw [hany]; exact decide_eq_false hb)
        have hd : decide (((mk24 amount + 1 : Nat) : Int) ≤ v) = true := decide_eq_true (Int.not_lt.1 hb)
        have hg : ((true == decide (((mk24 amount + 1 : Nat) : Int) ≤ v)) != true) = false := by rw [hd]; rfl
        have hg1 : Grown (npOf (usedAt ns [99] (mk24 amount + 1 : Nat))) := by unfold usedAt; rw [npOf_bump (f := moreR (mk24 amount + 1 : Nat)) ns _ (fun _ => rfl) (fun _ => rfl)]; exact hgr
        have hn1 : (usedAt ns [99] (mk24 amount + 1 : Nat)).length < 900 := by simpa [usedAt, bumpN] using hln
        obtain ⟨σ2, hL, L2, _⟩ := rel_good L1 hg1 hn1 97 [120] (y := ⟨[120], [99], (mk24 amount + 1 : Nat)⟩) (by simp [findH])
        have r2 := freed_recs hr (Int.natCast_nonneg (mk24 amount + 1)) (Int.ofNat_le.2 (Nat.add_le_add_right (mask_le amount) 1)) [99]
        simp only at L2
        have hn2 : (freedAt (usedAt ns [99] (mk24 amount + 1 : Nat)) [99] (mk24 amount + 1 : Nat)).length < 900 := by have := congrArg List.length r2; rw [List.length_map] at this; rw [this]; exact (by decide : 3 < 900)
        have hN := nodes_ok L2 hn2 98
        have hV : (nodesV (freedAt (usedAt ns [99] (mk24 amount + 1 : Nat)) [99] (mk24 amount + 1 : Nat))).map NodeR.cells = [[.str [97], .str [], .int .i64 (mk24 a), .int .i64 0], [.str [98], .str [97], .int .i64 (mk24 b), .int .i64 0], [.str [99], .str [98], .int .i64 (mk24 c), .int .i64 0]] := by unfold nodesV; rw [r2]; rfl
        rw [hV] at hN
        have hH : delH ([] ++ [⟨[120], [99], (mk24 amount + 1 : Nat)⟩]) [120] = [] := by simp [delH]
        rw [hH] at L2
        have hL2 := rel_node L2 98 [120] rfl
        have hLv := live_ok L2 (by decide) 97
        refine k_seq (k_seq ?_)
        refine rv (D.int IntKind.i64 (3 : Int)) ?_
        refine rv (D.int IntKind.i64 (2 : Int)) ?_
        refine rv (D.bool false) ?_
        refine k_done (k_skip_seq (kcf (k_exit_seq (k_exit_back (k_exit_hit rfl (k_skip_seq (k_seq ?_)))))))
        refine rv (D.ptr (2 : Nat) (0 : Nat)) ?_
        refine rv (D.sl [[D.str [(97 : UInt8)]], [D.str [(98 : UInt8)]], [D.str [(99 : UInt8)]]] none) ?_
        refine rv (D.int IntKind.i64 (2 : Int)) ?_
        refine rv (D.ref [D.str [(99 : UInt8)]]) ?_
        refine rv (D.str [(99 : UInt8)]) ?_
        refine rv (D.int IntKind.i64 (↑(mk24 amount + (1 : Nat)) : Int)) ?_
        refine runs_call_st ([D.ptr (2 : Nat) (0 : Nat), D.str [(99 : UInt8)], D.str [(120 : UInt8)], D.int IntKind.i64 (↑(mk24 amount + (1 : Nat)) : Int)]) (by kernel_rfl) (by kernel_rfl) (by kernel_rfl) (by kernel_rfl) (hR) ?_
        refine ra0 (D.int IntKind.i64 (0 : Int)) ?_
        refine k_done (k_skip_seq (k_seq (k_seq ?_)))
        refine rv (D.int IntKind.i64 (0 : Int)) ?_
        refine rv (D.bool true) ?_
        refine rv (D.int IntKind.i64 (↑(mk24 amount + (1 : Nat)) : Int)) ?_
        refine rv (D.int IntKind.i64 v) ?_
        refine rv (D.bool (decide ((↑(mk24 amount + (1 : Nat)) : Int) ≤ v))) ?_
        refine rv (D.bool ((true == decide ((↑(mk24 amount + (1 : Nat)) : Int) ≤ v)) != true)) ?_
        refine rv (D.bool ((true == decide ((↑(mk24 amount + (1 : Nat)) : Int) ≤ v)) != true)) ?_
        refine rkn 86 ((true == decide ((↑(mk24 amount + (1 : Nat)) : Int) ≤ v)) != true) false (by assumption) ?_
        refine rv (D.int IntKind.i64 (0 : Int)) ?_
        refine rv (D.bool false) ?_
        refine rv (D.bool false) ?_
        refine rno (rno ?_)
        refine rv (D.bool false) ?_
        refine rv (D.bool false) ?_
        refine k_done (k_skip_seq (kcf (k_skip_seq (k_seq (k_seq ?_)))))
        refine rv (D.int IntKind.i64 (0 : Int)) ?_
        refine rv (D.bool false) ?_
        refine k_done (k_skip_seq (kcf (k_skip_seq (k_seq ?_))))
        refine rv (D.ptr (2 : Nat) (0 : Nat)) ?_
        refine runs_call_st ([D.ptr (2 : Nat) (0 : Nat), D.str [(120 : UInt8)]]) (by kernel_rfl) (by kernel_rfl) (by kernel_rfl) (by kernel_rfl) (hL) ?_
        refine ra0 (D.int IntKind.i64 (0 : Int)) ?_
        refine k_done (k_skip_seq (k_seq ?_))
        refine rv (D.ptr (2 : Nat) (0 : Nat)) ?_
        refine runs_call_st ([D.ptr (2 : Nat) (0 : Nat)]) (by kernel_rfl) (by kernel_rfl) (by kernel_rfl) (by kernel_rfl) (hN) ?_
        refine ra0 (D.sl [[D.str [(97 : UInt8)], D.str [], D.int IntKind.i64 (↑(mk24 a) : Int), D.int IntKind.i64 (0 : Int)], [D.str [(98 : UInt8)], D.str [(97 : UInt8)], D.int IntKind.i64 (↑(mk24 b) : Int), D.int IntKind.i64 (0 : Int)], [D.str [(99 : UInt8)], D.str [(98 : UInt8)], D.int IntKind.i64 (↑(mk24 c) : Int), D.int IntKind.i64 (0 : Int)]] none) ?_
        refine k_done (k_skip_seq (k_seq (k_seq ?_)))
        refine rv (D.int IntKind.i64 (0 : Int)) ?_
        refine k_done (k_skip_seq (k_block ?_))
        refine k_loop (fun i => q4 a b c amount k (mk24 amount + 1) 2 v (2 + 1) (mk24 a) (mk24 b) (mk24 c) i) (fun _ => σ2) (fun i => i ≤ 3) (fun i => 3 - i) 0 (by kernel_rfl) (by kernel_rfl) (by simp) (fun s hs => by omega) ?_
        intro i2 hi2
        unfold q4 qB qN l5_3
        have h6 : i2 = 0 ∨ i2 = 1 ∨ i2 = 2 ∨ i2 = 3 := by omega
        rcases h6 with rfl | rfl | rfl | rfl
        · refine k_seq (k_seq ?_)
          refine rv (D.int IntKind.i64 (0 : Int)) ?_
          refine rv (D.sl [[D.str [(97 : UInt8)], D.str [], D.int IntKind.i64 (↑(mk24 a) : Int), D.int IntKind.i64 (0 : Int)], [D.str [(98 : UInt8)], D.str [(97 : UInt8)], D.int IntKind.i64 (↑(mk24 b) : Int), D.int IntKind.i64 (0 : Int)], [D.str [(99 : UInt8)], D.str [(98 : UInt8)], D.int IntKind.i64 (↑(mk24 c) : Int), D.int IntKind.i64 (0 : Int)]] none) ?_
          refine rv (D.int IntKind.i64 (↑(List.length [[D.str [(97 : UInt8)], D.str [], D.int IntKind.i64 (↑(mk24 a) : Int), D.int IntKind.i64 (0 : Int)], [D.str [(98 : UInt8)], D.str [(97 : UInt8)], D.int IntKind.i64 (↑(mk24 b) : Int), D.int IntKind.i64 (0 : Int)], [D.str [(99 : UInt8)], D.str [(98 : UInt8)], D.int IntKind.i64 (↑(mk24 c) : Int), D.int IntKind.i64 (0 : Int)]]) : Int)) ?_
          refine rv (D.bool true) ?_
          refine k_done (k_skip_seq (kct (k_skip_seq (k_seq (k_block (k_seq ?_))))))
          refine rv (D.sl [[D.str [(97 : UInt8)], D.str [], D.int IntKind.i64 (↑(mk24 a) : Int), D.int IntKind.i64 (0 : Int)], [D.str [(98 : UInt8)], D.str [(97 : UInt8)], D.int IntKind.i64 (↑(mk24 b) : Int), D.int IntKind.i64 (0 : Int)], [D.str [(99 : UInt8)], D.str [(98 : UInt8)], D.int IntKind.i64 (↑(mk24 c) : Int), D.int IntKind.i64 (0 : Int)]] none) ?_
          refine rv (D.int IntKind.i64 (0 : Int)) ?_
          refine rv (D.ref [D.str [(97 : UInt8)], D.str [], D.int IntKind.i64 (↑(mk24 a) : Int), D.int IntKind.i64 (0 : Int)]) ?_
          refine rv (D.ref [D.int IntKind.i64 (0 : Int)]) ?_
          refine rv (D.int IntKind.i64 (0 : Int)) ?_
          refine rv (D.bool false) ?_
          refine k_done (k_skip_seq (kcf (k_skip_block (k_skip_seq ?_))))
          refine rv (D.int IntKind.i64 (0 : Int)) ?_
          refine rv (D.int IntKind.i64 (1 : Int)) ?_
          refine ra0 (D.int IntKind.i64 (1 : Int)) ?_
          refine k_done (k_skip_back ?_)
          exact ⟨1, by simp, by simp, by kernel_rfl, rfl⟩
        · refine k_seq (k_seq ?_)
          refine rv (D.int IntKind.i64 (1 : Int)) ?_
          refine rv (D.sl [[D.str [(97 : UInt8)], D.str [], D.int IntKind.i64 (↑(mk24 a) : Int), D.int IntKind.i64 (0 : Int)], [D.str [(98 : UInt8)], D.str [(97 : UInt8)], D.int IntKind.i64 (↑(mk24 b) : Int), D.int IntKind.i64 (0 : Int)], [D.str [(99 : UInt8)], D.str [(98 : UInt8)], D.int IntKind.i64 (↑(mk24 c) : Int), D.int IntKind.i64 (0 : Int)]] none) ?_
          refine rv (D.int IntKind.i64 (↑(List.length [[D.str [(97 : UInt8)], D.str [], D.int IntKind.i64 (↑(mk24 a) : Int), D.int IntKind.i64 (0 : Int)], [D.str [(98 : UInt8)], D.str [(97 : UInt8)], D.int IntKind.i64 (↑(mk24 b) : Int), D.int IntKind.i64 (0 : Int)], [D.str [(99 : UInt8)], D.str [(98 : UInt8)], D.int IntKind.i64 (↑(mk24 c) : Int), D.int IntKind.i64 (0 : Int)]]) : Int)) ?_
          refine rv (D.bool true) ?_
          refine k_done (k_skip_seq (kct (k_skip_seq (k_seq (k_block (k_seq ?_))))))
          refine rv (D.sl [[D.str [(97 : UInt8)], D.str [], D.int IntKind.i64 (↑(mk24 a) : Int), D.int IntKind.i64 (0 : Int)], [D.str [(98 : UInt8)], D.str [(97 : UInt8)], D.int IntKind.i64 (↑(mk24 b) : Int), D.int IntKind.i64 (0 : Int)], [D.str [(99 : UInt8)], D.str [(98 : UInt8)], D.int IntKind.i64 (↑(mk24 c) : Int), D.int IntKind.i64 (0 : Int)]] none) ?_
          refine rv (D.int IntKind.i64 (1 : Int)) ?_
          refine rv (D.ref [D.str [(98 : UInt8)], D.str [(97 : UInt8)], D.int IntKind.i64 (↑(mk24 b) : Int), D.int IntKind.i64 (0 : Int)]) ?_
          refine rv (D.ref [D.int IntKind.i64 (0 : Int)]) ?_
          refine rv (D.int IntKind.i64 (0 : Int)) ?_
          refine rv (D.bool false) ?_
          refine k_done (k_skip_seq (kcf (k_skip_block (k_skip_seq ?_))))
          refine rv (D.int IntKind.i64 (1 : Int)) ?_
          refine rv (D.int IntKind.i64 (2 : Int)) ?_
          refine ra0 (D.int IntKind.i64 (2 : Int)) ?_
          refine k_done (k_skip_back ?_)
          exact ⟨2, by simp, by simp, by kernel_rfl, rfl⟩
        · refine k_seq (k_seq ?_)
          refine rv (D.int IntKind.i64 (2 : Int)) ?_
          refine rv (D.sl [[D.str [(97 : UInt8)], D.str [], D.int IntKind.i64 (↑(mk24 a) : Int), D.int IntKind.i64 (0 : Int)], [D.str [(98 : UInt8)], D.str [(97 : UInt8)], D.int IntKind.i64 (↑(mk24 b) : Int), D.int IntKind.i64 (0 : Int)], [D.str [(99 : UInt8)], D.str [(98 : UInt8)], D.int IntKind.i64 (↑(mk24 c) : Int), D.int IntKind.i64 (0 : Int)]] none) ?_
          refine rv (D.int IntKind.i64 (↑(List.length [[D.str [(97 : UInt8)], D.str [], D.int IntKind.i64 (↑(mk24 a) : Int), D.int IntKind.i64 (0 : Int)], [D.str [(98 : UInt8)], D.str [(97 : UInt8)], D.int IntKind.i64 (↑(mk24 b) : Int), D.int IntKind.i64 (0 : Int)], [D.str [(99 : UInt8)], D.str [(98 : UInt8)], D.int IntKind.i64 (↑(mk24 c) : Int), D.int IntKind.i64 (0 : Int)]]) : Int)) ?_
          refine rv (D.bool true) ?_
          refine k_done (k_skip_seq (kct (k_skip_seq (k_seq (k_block (k_seq ?_))))))
          refine rv (D.sl [[D.str [(97 : UInt8)], D.str [], D.int IntKind.i64 (↑(mk24 a) : Int), D.int IntKind.i64 (0 : Int)], [D.str [(98 : UInt8)], D.str [(97 : UInt8)], D.int IntKind.i64 (↑(mk24 b) : Int), D.int IntKind.i64 (0 : Int)], [D.str [(99 : UInt8)], D.str [(98 : UInt8)], D.int IntKind.i64 (↑(mk24 c) : Int), D.int IntKind.i64 (0 : Int)]] none) ?_
          refine rv (D.int IntKind.i64 (2 : Int)) ?_
          refine rv (D.ref [D.str [(99 : UInt8)], D.str [(98 : UInt8)], D.int IntKind.i64 (↑(mk24 c) : Int), D.int IntKind.i64 (0 : Int)]) ?_
          refine rv (D.ref [D.int IntKind.i64 (0 : Int)]) ?_
          refine rv (D.int IntKind.i64 (0 : Int)) ?_
          refine rv (D.bool false) ?_
          refine k_done (k_skip_seq (kcf (k_skip_block (k_skip_seq ?_))))
          refine rv (D.int IntKind.i64 (2 : Int)) ?_
          refine rv (D.int IntKind.i64 (3 : Int)) ?_
          refine ra0 (D.int IntKind.i64 (3 : Int)) ?_
          refine k_done (k_skip_back ?_)
          exact ⟨3, by simp, by simp, by kernel_rfl, rfl⟩
        · refine k_seq (k_seq ?_)
          refine rv (D.int IntKind.i64 (3 : Int)) ?_
          refine rv (D.sl [[D.str [(97 : UInt8)], D.str [], D.int IntKind.i64 (↑(mk24 a) : Int), D.int IntKind.i64 (0 : Int)], [D.str [(98 : UInt8)], D.str [(97 : UInt8)], D.int IntKind.i64 (↑(mk24 b) : Int), D.int IntKind.i64 (0 : Int)], [D.str [(99 : UInt8)], D.str [(98 : UInt8)], D.int IntKind.i64 (↑(mk24 c) : Int), D.int IntKind.i64 (0 : Int)]] none) ?_
          refine rv (D.int IntKind.i64 (↑(List.length [[D.str [(97 : UInt8)], D.str [], D.int IntKind.i64 (↑(mk24 a) : Int), D.int IntKind.i64 (0 : Int)], [D.str [(98 : UInt8)], D.str [(97 : UInt8)], D.int IntKind.i64 (↑(mk24 b) : Int), D.int IntKind.i64 (0 : Int)], [D.str [(99 : UInt8)], D.str [(98 : UInt8)], D.int IntKind.i64 (↑(mk24 c) : Int), D.int IntKind.i64 (0 : Int)]]) : Int)) ?_
          refine rv (D.bool false) ?_
          refine k_done (k_skip_seq (kcf (k_exit_seq (k_exit_back (k_exit_hit rfl (k_skip_seq (k_seq ?_)))))))
          refine rv (D.int IntKind.i64 (0 : Int)) ?_
          refine rv (D.bool true) ?_
          refine rv (D.bool true) ?_
          refine rv (D.ptr (2 : Nat) (0 : Nat)) ?_
          refine runs_call_st ([D.ptr (2 : Nat) (0 : Nat), D.str [(120 : UInt8)]]) (by kernel_rfl) (by kernel_rfl) (by kernel_rfl) (by kernel_rfl) (hL2) ?_
          refine rv (D.bool true) ?_
          refine rv (D.bool true) ?_
          refine rv (D.bool true) ?_
          refine rv (D.ptr (2 : Nat) (0 : Nat)) ?_
          refine runs_call_st ([D.ptr (2 : Nat) (0 : Nat)]) (by kernel_rfl) (by kernel_rfl) (by kernel_rfl) (by kernel_rfl) (hLv) ?_
          refine rv (D.int IntKind.i64 (0 : Int)) ?_
          refine rv (D.bool true) ?_
          refine rv (D.bool true) ?_
          refine ra0 (D.bool true) ?_
          refine k_done (k_skip_seq (k_ret ?_))
          exact ⟨.inr rfl, by kernel_rfl, σ2 ++ [Go.Abs.Obj.cells [.map 1]], by kernel_rfl⟩
end Go.Abs.C
