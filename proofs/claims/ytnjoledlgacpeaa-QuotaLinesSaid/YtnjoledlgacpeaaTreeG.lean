import Derived.Test.YtnjoledlgacpeaaKont2
import Derived.Test.YtnjoledlgacpeaaTreeQ
set_option linter.unusedVariables false
set_option linter.unusedSimpArgs false
/-
  QuotaLines as the machine code sees it.
-/
namespace Go.Abs.C
open Go Go.Abs
set_option maxRecDepth 8000
attribute [local irreducible] callN runC evalOp

/-- The nodes' names, the operations' names. -/
def nmL : Nat → Nm
  | 0 => [97]
  | 1 => [98]
  | 2 => [99]
  | 3 => [100]
  | _ => [101]
def paL : Nat → List Nm
  | 0 => [[97]]
  | 1 => [[98], [97]]
  | 2 => [[99], [98], [97]]
  | 3 => [[100], [99], [98], [97]]
  | _ => [[101], [100], [99], [98], [97]]
def letters : List UInt8 := [97, 98, 99, 100, 101, 102, 103, 104, 105, 106, 107, 108, 109, 110, 111, 112, 113, 114, 115, 116]
def letterN (i : Nat) : Nm := (letters.drop i).take 1
theorem letter_cut (i : Nat) : List.take (i + 1 - i) (List.drop i [97, 98, 99, 100, 101, 102, 103, 104, 105, 106, 107, 108, 109, 110, 111, 112, 113, 114, 115, 116]) = letterN i := by
  rw [show i + 1 - i = 1 by omega]
  rfl
theorem letter_ne : ∀ i, i < 20 → letterN i ≠ [] := by decide
theorem letter_inj : ∀ i, i < 20 → ∀ j, j < i → letterN j ≠ letterN i := by decide
def recsU (s0 s1 s2 s3 s4 : Int) : List NodeR := [⟨[97], [], 1099511627776, s0⟩, ⟨[98], [97], 1099511627776, s1⟩, ⟨[99], [98], 1099511627776, s2⟩, ⟨[100], [99], 1099511627776, s3⟩, ⟨[101], [100], 1099511627776, s4⟩]
theorem grown_u (s0 s1 s2 s3 s4 : Int) : Grown (npR (recsU s0 s1 s2 s3 s4)) := by
  have h0 : Grown [] := .nil
  have h1 : Grown [(([97] : Nm), ([] : Nm))] := Grown.snoc h0 (by decide) rfl (.inl rfl)
  have h2 : Grown [(([97] : Nm), ([] : Nm)), ([98], [97])] := Grown.snoc h1 (by decide) rfl (.inr rfl)
  have h3 : Grown [(([97] : Nm), ([] : Nm)), ([98], [97]), ([99], [98])] := Grown.snoc h2 (by decide) rfl (.inr rfl)
  have h4 : Grown [(([97] : Nm), ([] : Nm)), ([98], [97]), ([99], [98]), ([100], [99])] := Grown.snoc h3 (by decide) rfl (.inr rfl)
  exact Grown.snoc h4 (fun e => by cases e) rfl (.inr rfl)
theorem any_false (rs : List NodeR) (bad : NodeR → Bool) (names : List Nm) (h : ∀ r ∈ rs, bad r = false) : anyR rs bad names = false := by
  unfold anyR
  rw [List.any_eq_false]
  intro s _
  cases hf : rs.find? (·.name == s) with
  | none => simp
  | some r => simp [h r (List.mem_of_find?_eq_some hf)]
def bumpJ (j m : Nat) (n s : Int) : Int := if m < j then s + n else s
theorem bump_u (K : Nat) (hK : K ≤ 4) (n s0 s1 s2 s3 s4 : Int) (h : ∀ s, s = s0 ∨ s = s1 ∨ s = s2 ∨ s = s3 ∨ s = s4 → IntKind.i64.wrap (s + n) = s + n) :
    bumpR (recsU s0 s1 s2 s3 s4) (paL K) (moreR n) = recsU (bumpJ (K + 1) 0 n s0) (bumpJ (K + 1) 1 n s1) (bumpJ (K + 1) 2 n s2) (bumpJ (K + 1) 3 n s3) (bumpJ (K + 1) 4 n s4) := by
  have w0 := h s0 (by simp)
  have w1 := h s1 (by simp)
  have w2 := h s2 (by simp)
  have w3 := h s3 (by simp)
  have w4 := h s4 (by simp)
  have h5 : K = 0 ∨ K = 1 ∨ K = 2 ∨ K = 3 ∨ K = 4 := by omega
  rcases h5 with rfl | rfl | rfl | rfl | rfl <;> simp [bumpR, recsU, moreR, paL, bumpJ, w0, w1, w2, w3, w4]
structure LInv (i : Nat) (σ : St) (ns : List NodeX) (hs : List HeldR) (s0 s1 s2 s3 s4 : Int) : Prop where
  L : Lay σ 2 0 1 ns hs
  r : ns.map (·.r) = recsU s0 s1 s2 s3 s4
  b0 : 0 ≤ s0 ∧ s0 ≤ 65536 * i
  b1 : 0 ≤ s1 ∧ s1 ≤ 65536 * i
  b2 : 0 ≤ s2 ∧ s2 ≤ 65536 * i
  b3 : 0 ≤ s3 ∧ s3 ≤ 65536 * i
  b4 : 0 ≤ s4 ∧ s4 ≤ 65536 * i
  h : ∀ h ∈ hs, ∃ j, j < i ∧ h.id = letterN j
theorem bumpJ_le {i j m : Nat} {n s : Int} (h1 : 1 ≤ n) (h2 : n ≤ 65536) (h : 0 ≤ s ∧ s ≤ 65536 * i) : 0 ≤ bumpJ j m n s ∧ bumpJ j m n s ≤ 65536 * (i + 1 : Nat) := by
  unfold bumpJ
  split <;> omega
theorem lines_step {i : Nat} {σ : St} {ns : List NodeX} {hs : List HeldR} {s0 s1 s2 s3 s4 : Int} (I : LInv i σ ns hs s0 s1 s2 s3 s4) (hi : i < 20) (K : Nat) (hK : K ≤ 4) (n : Int) (h1 : 1 ≤ n) (h2 : n ≤ 65536) :
    ∃ σ1, callN T 99 13 [.ptr 2 0, .str (nmL K), .str (letterN i), .int .i64 n] σ = some (.int .i64 0, σ1) ∧ LInv (i + 1) σ1 (usedAt ns (nmL K) n) (hs ++ [⟨letterN i, nmL K, n⟩]) (bumpJ (K + 1) 0 n s0) (bumpJ (K + 1) 1 n s1) (bumpJ (K + 1) 2 n s2) (bumpJ (K + 1) 3 n s3) (bumpJ (K + 1) 4 n s4) := by
  obtain ⟨L, hr, b0, b1, b2, b3, b4, hh⟩ := I
  have h5 : K = 0 ∨ K = 1 ∨ K = 2 ∨ K = 3 ∨ K = 4 := by omega
  have hpath : lineP (npOf ns) (nmL K) = paL K := by
    rw [np_recs hr]
    rcases h5 with rfl | rfl | rfl | rfl | rfl <;> rfl
  have hgr : Grown (npOf ns) := by rw [np_recs hr]; exact grown_u _ _ _ _ _
  have hln : ns.length < 900 := by have := congrArg List.length hr; simp [recsU] at this; omega
  obtain ⟨x, hx⟩ : ∃ x, findN ns (nmL K) = some x := by
    rcases h5 with rfl | rfl | rfl | rfl | rfl
    · obtain ⟨x, hx, _⟩ := find_recs (s := [97]) hr rfl
      exact ⟨x, hx⟩
    · obtain ⟨x, hx, _⟩ := find_recs (s := [98]) hr rfl
      exact ⟨x, hx⟩
    · obtain ⟨x, hx, _⟩ := find_recs (s := [99]) hr rfl
      exact ⟨x, hx⟩
    · obtain ⟨x, hx, _⟩ := find_recs (s := [100]) hr rfl
      exact ⟨x, hx⟩
    · obtain ⟨x, hx, _⟩ := find_recs (s := [101]) hr rfl
      exact ⟨x, hx⟩
  have hany : anyN ns (badR n) (lineP (npOf ns) (nmL K)) = false := by
    rw [any_recs hr]
    refine any_false _ _ _ fun r hm => ?_
    simp [recsU] at hm
    rcases hm with rfl | rfl | rfl | rfl | rfl <;> (rw [badR_small (by simp only []; omega) (by simp only []; omega)]; exact decide_eq_false (by simp only []; omega))
  have hfree : findH hs (letterN i) = none := by
    unfold findH
    rw [List.find?_eq_none]
    intro h hm
    obtain ⟨j, hj, e⟩ := hh h hm
    have := letter_inj i hi j hj
    rw [e]
    simpa using this
  obtain ⟨σ1, hR, L1, _⟩ := res_good L hgr hln 97 (nmL K) (letterN i) n (letter_ne i hi) h1 hx hfree hany
  refine ⟨σ1, hR, L1, ?_, bumpJ_le h1 h2 b0, bumpJ_le h1 h2 b1, bumpJ_le h1 h2 b2, bumpJ_le h1 h2 b3, bumpJ_le h1 h2 b4, fun h hm => ?_⟩
  · unfold usedAt
    rw [bump_recs hr, hpath]
    refine bump_u K hK n s0 s1 s2 s3 s4 fun s hs => ?_
    refine wrap_small _ ?_ ?_ <;> (rcases hs with rfl | rfl | rfl | rfl | rfl <;> omega)
  · rcases List.mem_append.1 hm with hm | hm
    · obtain ⟨j, hj, e⟩ := hh h hm
      exact ⟨j, by omega, e⟩
    · simp only [List.mem_singleton] at hm
      subst hm
      exact ⟨i, by omega, rfl⟩
def qN5 : D := .sl [[.str [97]], [.str [98]], [.str [99]], [.str [100]], [.str [101]]] (some 9)
def gB (s0 s1 s2 s3 s4 : Int) : List (Option (List D)) := [none, none, none, none, none, none, none, none, none, none, some [.int .i64 s0, .int .i64 s1, .int .i64 s2, .int .i64 s3, .int .i64 s4]] ++ List.replicate 99 none
def g1 (am at_ : List Int) (i : Nat) : Fr := ⟨[.sl (u16s am) none, .sl (u8s at_) none, .junk, .junk, .bool false, .junk, .ptr 2 0, qN5, .int .i64 i] ++ List.replicate 101 .junk, List.replicate 110 none, []⟩
structure LS where
  i : Nat
  σ : St
  ns : List NodeX
  hs : List HeldR
  s0 : Int
  s1 : Int
  s2 : Int
  s3 : Int
  s4 : Int
  x : D
  y : D
  z : D
def g2 (am at_ : List Int) (i : Nat) (s0 s1 s2 s3 s4 : Int) (x y z : D) : Fr := ⟨[.sl (u16s am) none, .sl (u8s at_) none, .junk, .junk, .bool false, .junk, .ptr 2 0, qN5, .int .i64 5, .junk, .lptr 10 0, .int .i64 i, x, y, z] ++ List.replicate 95 .junk, gB s0 s1 s2 s3 s4, []⟩
def g3 (am at_ : List Int) (i : Nat) (s0 s1 s2 s3 s4 : Int) (K n : Int) (j : Nat) : Fr := ⟨[.sl (u16s am) none, .sl (u8s at_) none, .junk, .junk, .bool false, .junk, .ptr 2 0, qN5, .int .i64 5, .junk, .lptr 10 0, .int .i64 i, .int .i64 K, .int .i64 n, .int .i64 j] ++ List.replicate 95 .junk, gB s0 s1 s2 s3 s4, []⟩
def g4 (am at_ : List Int) (i : Nat) (t0 t1 t2 t3 t4 : Int) (s0 s1 s2 s3 s4 : Int) (x y z : D) (j : Nat) : Fr := ⟨[.sl (u16s am) none, .sl (u8s at_) none, .junk, .junk, .bool false, .junk, .ptr 2 0, qN5, .int .i64 5, .junk, .lptr 10 0, .int .i64 i, x, y, z,
  .sl [[.str [97], .str [], .int .i64 1099511627776, .int .i64 t0], [.str [98], .str [97], .int .i64 1099511627776, .int .i64 t1], [.str [99], .str [98], .int .i64 1099511627776, .int .i64 t2], [.str [100], .str [99], .int .i64 1099511627776, .int .i64 t3], [.str [101], .str [100], .int .i64 1099511627776, .int .i64 t4]] none, .int .i64 j] ++ List.replicate 93 .junk, gB s0 s1 s2 s3 s4, []⟩
set_option maxHeartbeats 2000000
theorem lawLines_ok (am at_ : List Int) (ha : ∀ n ∈ am, 0 ≤ n ∧ n ≤ 65535) (hb : ∀ n ∈ at_, 0 ≤ n ∧ n ≤ 255) : ∃ σ, callN T 100 6 [.sl (u16s am) none, .sl (u8s at_) none] [] = some (.bool true, σ) := by
  refine call_ofE (m := m6) rfl rfl (by decide) (k_start ?_)
  unfold m6
  have hnew : callN T 99 11 [] [] = some (.ptr 2 0, [Go.Abs.Obj.map [], Go.Abs.Obj.map [], Go.Abs.Obj.cells [.map 0, .map 1]]) := new_ok 98 []
  have hl0 : Lay [Go.Abs.Obj.map [], Go.Abs.Obj.map [], Go.Abs.Obj.cells [.map 0, .map 1]] 2 0 1 [] [] := new_lay []
  obtain ⟨σw, haw⟩ := awake_ok
  refine k_seq ?_
  refine rv (D.bool false) ?_
  refine k_done (k_skip_seq (k_seq ?_))
  refine runs_call ([]) (by kernel_rfl) (by kernel_rfl) (by kernel_rfl) (by kernel_rfl) (haw) (by kernel_rfl) ?_
  refine ra0 (D.bool true) ?_
  refine k_done (k_skip_seq (k_seq (k_seq ?_)))
  refine rv (D.bool true) ?_
  refine rv (D.bool false) ?_
  refine k_done (k_skip_seq (kcf (k_skip_seq (k_seq ?_))))
  refine runs_call_fr ([]) (by kernel_rfl) (by kernel_rfl) (by kernel_rfl) (by kernel_rfl) (hnew) (by kernel_rfl) (by kernel_rfl) (hnew) ?_
  refine ra0 (D.ptr (2 : Nat) (0 : Nat)) ?_
  refine k_done (k_skip_seq (k_seq ?_))
  refine rv (D.sl [[D.str [(97 : UInt8)]], [D.str [(98 : UInt8)]], [D.str [(99 : UInt8)]], [D.str [(100 : UInt8)]], [D.str [(101 : UInt8)]]] (some (9 : Nat))) ?_
  refine runs_assign (D.sl [[D.str [(97 : UInt8)]], [D.str [(98 : UInt8)]], [D.str [(99 : UInt8)]], [D.str [(100 : UInt8)]], [D.str [(101 : UInt8)]]] (some (9 : Nat))) (by kernel_rfl) (by kernel_rfl) ?_
  refine k_done (k_skip_seq (k_seq (k_seq ?_)))
  refine rv (D.int IntKind.i64 (0 : Int)) ?_
  refine k_done (k_skip_seq (k_block ?_))
  refine k_loop (fun s : Nat × St × List NodeX => g1 am at_ s.1) (fun s => s.2.1) (fun s => s.1 ≤ 5 ∧ Lay s.2.1 2 0 1 s.2.2 [] ∧ s.2.2.map (·.r) = (recsU 0 0 0 0 0).take s.1) (fun s => 5 - s.1) (0, _, []) (by kernel_rfl) (by kernel_rfl) ⟨by simp, hl0, rfl⟩ (fun s hs => by omega) ?_
  rintro ⟨i, σ, ns⟩ ⟨hi, L, hr⟩
  simp only at hi L hr
  have h6 : i = 0 ∨ i = 1 ∨ i = 2 ∨ i = 3 ∨ i = 4 ∨ i = 5 := by omega
  unfold g1 qN5 l6_0
  rcases h6 with rfl | rfl | rfl | rfl | rfl | rfl
  · have hadd := add_good L 98 [97] [] 1099511627776 (by decide) (by omega) (find_none hr rfl) (.inl rfl)
    have La := L.add [97] [] 1099511627776 (find_none hr rfl)
    refine k_seq (k_seq ?_)
    refine rv (D.int IntKind.i64 (0 : Int)) ?_
    refine rv (D.bool true) ?_
    refine k_done (k_skip_seq (kct (k_skip_seq (k_seq (k_block (k_seq ?_))))))
    refine rv (D.str []) ?_
    refine k_done (k_skip_seq (k_seq (k_seq ?_)))
    refine rv (D.int IntKind.i64 (0 : Int)) ?_
    refine rv (D.bool false) ?_
    refine k_done (k_skip_seq (kcf (k_skip_seq (k_seq ?_))))
    refine rv (D.ptr (2 : Nat) (0 : Nat)) ?_
    refine rv (D.sl [[D.str [(97 : UInt8)]], [D.str [(98 : UInt8)]], [D.str [(99 : UInt8)]], [D.str [(100 : UInt8)]], [D.str [(101 : UInt8)]]] none) ?_
    refine rv (D.int IntKind.i64 (0 : Int)) ?_
    refine rv (D.ref [D.str [(97 : UInt8)]]) ?_
    refine rv (D.str [(97 : UInt8)]) ?_
    refine rv (D.str []) ?_
    refine runs_call_st ([D.ptr (2 : Nat) (0 : Nat), D.str [(97 : UInt8)], D.str [], D.int IntKind.i64 (1099511627776 : Int)]) (by kernel_rfl) (by kernel_rfl) (by kernel_rfl) (by kernel_rfl) (hadd) ?_
    refine rv (D.bool false) ?_
    refine k_done (k_skip_seq (kcf (k_skip_block (k_skip_seq ?_))))
    refine rv (D.int IntKind.i64 (0 : Int)) ?_
    refine rv (D.int IntKind.i64 (1 : Int)) ?_
    refine ra0 (D.int IntKind.i64 (1 : Int)) ?_
    refine k_done (k_skip_back ?_)
    exact ⟨(1, addS σ 0 ns [97] [] 1099511627776, ns ++ [⟨σ.length, ⟨[97], [], 1099511627776, 0⟩⟩]), ⟨by simp, La, by rw [List.map_append, hr]; rfl⟩, by simp, by kernel_rfl, rfl⟩
  · have hadd := add_good L 98 [98] [97] 1099511627776 (by decide) (by omega) (find_none hr rfl) (.inr (find_some (s := [97]) hr rfl))
    have La := L.add [98] [97] 1099511627776 (find_none hr rfl)
    refine k_seq (k_seq ?_)
    refine rv (D.int IntKind.i64 (1 : Int)) ?_
    refine rv (D.bool true) ?_
    refine k_done (k_skip_seq (kct (k_skip_seq (k_seq (k_block (k_seq ?_))))))
    refine rv (D.str []) ?_
    refine k_done (k_skip_seq (k_seq (k_seq ?_)))
    refine rv (D.int IntKind.i64 (1 : Int)) ?_
    refine rv (D.bool true) ?_
    refine k_done (k_skip_seq (kct ?_))
    refine rv (D.sl [[D.str [(97 : UInt8)]], [D.str [(98 : UInt8)]], [D.str [(99 : UInt8)]], [D.str [(100 : UInt8)]], [D.str [(101 : UInt8)]]] none) ?_
    refine rv (D.int IntKind.i64 (1 : Int)) ?_
    refine rv (D.int IntKind.i64 (0 : Int)) ?_
    refine rv (D.ref [D.str [(97 : UInt8)]]) ?_
    refine rv (D.str [(97 : UInt8)]) ?_
    refine ra0 (D.str [(97 : UInt8)]) ?_
    refine k_done (k_skip_seq (k_seq ?_))
    refine rv (D.ptr (2 : Nat) (0 : Nat)) ?_
    refine rv (D.sl [[D.str [(97 : UInt8)]], [D.str [(98 : UInt8)]], [D.str [(99 : UInt8)]], [D.str [(100 : UInt8)]], [D.str [(101 : UInt8)]]] none) ?_
    refine rv (D.int IntKind.i64 (1 : Int)) ?_
    refine rv (D.ref [D.str [(98 : UInt8)]]) ?_
    refine rv (D.str [(98 : UInt8)]) ?_
    refine rv (D.str [(97 : UInt8)]) ?_
    refine runs_call_st ([D.ptr (2 : Nat) (0 : Nat), D.str [(98 : UInt8)], D.str [(97 : UInt8)], D.int IntKind.i64 (1099511627776 : Int)]) (by kernel_rfl) (by kernel_rfl) (by kernel_rfl) (by kernel_rfl) (hadd) ?_
    refine rv (D.bool false) ?_
    refine k_done (k_skip_seq (kcf (k_skip_block (k_skip_seq ?_))))
    refine rv (D.int IntKind.i64 (1 : Int)) ?_
    refine rv (D.int IntKind.i64 (2 : Int)) ?_
    refine ra0 (D.int IntKind.i64 (2 : Int)) ?_
    refine k_done (k_skip_back ?_)
    exact ⟨(2, addS σ 0 ns [98] [97] 1099511627776, ns ++ [⟨σ.length, ⟨[98], [97], 1099511627776, 0⟩⟩]), ⟨by simp, La, by rw [List.map_append, hr]; rfl⟩, by simp, by kernel_rfl, rfl⟩
  · have hadd := add_good L 98 [99] [98] 1099511627776 (by decide) (by omega) (find_none hr rfl) (.inr (find_some (s := [98]) hr rfl))
    have La := L.add [99] [98] 1099511627776 (find_none hr rfl)
    refine k_seq (k_seq ?_)
    refine rv (D.int IntKind.i64 (2 : Int)) ?_
    refine rv (D.bool true) ?_
    refine k_done (k_skip_seq (kct (k_skip_seq (k_seq (k_block (k_seq ?_))))))
    refine rv (D.str []) ?_
    refine k_done (k_skip_seq (k_seq (k_seq ?_)))
    refine rv (D.int IntKind.i64 (2 : Int)) ?_
    refine rv (D.bool true) ?_
    refine k_done (k_skip_seq (kct ?_))
    refine rv (D.sl [[D.str [(97 : UInt8)]], [D.str [(98 : UInt8)]], [D.str [(99 : UInt8)]], [D.str [(100 : UInt8)]], [D.str [(101 : UInt8)]]] none) ?_
    refine rv (D.int IntKind.i64 (2 : Int)) ?_
    refine rv (D.int IntKind.i64 (1 : Int)) ?_
    refine rv (D.ref [D.str [(98 : UInt8)]]) ?_
    refine rv (D.str [(98 : UInt8)]) ?_
    refine ra0 (D.str [(98 : UInt8)]) ?_
    refine k_done (k_skip_seq (k_seq ?_))
    refine rv (D.ptr (2 : Nat) (0 : Nat)) ?_
    refine rv (D.sl [[D.str [(97 : UInt8)]], [D.str [(98 : UInt8)]], [D.str [(99 : UInt8)]], [D.str [(100 : UInt8)]], [D.str [(101 : UInt8)]]] none) ?_
    refine rv (D.int IntKind.i64 (2 : Int)) ?_
    refine rv (D.ref [D.str [(99 : UInt8)]]) ?_
    refine rv (D.str [(99 : UInt8)]) ?_
    refine rv (D.str [(98 : UInt8)]) ?_
    refine runs_call_st ([D.ptr (2 : Nat) (0 : Nat), D.str [(99 : UInt8)], D.str [(98 : UInt8)], D.int IntKind.i64 (1099511627776 : Int)]) (by kernel_rfl) (by kernel_rfl) (by kernel_rfl) (by kernel_rfl) (hadd) ?_
    refine rv (D.bool false) ?_
    refine k_done (k_skip_seq (kcf (k_skip_block (k_skip_seq ?_))))
    refine rv (D.int IntKind.i64 (2 : Int)) ?_
    refine rv (D.int IntKind.i64 (3 : Int)) ?_
    refine ra0 (D.int IntKind.i64 (3 : Int)) ?_
    refine k_done (k_skip_back ?_)
    exact ⟨(3, addS σ 0 ns [99] [98] 1099511627776, ns ++ [⟨σ.length, ⟨[99], [98], 1099511627776, 0⟩⟩]), ⟨by simp, La, by rw [List.map_append, hr]; rfl⟩, by simp, by kernel_rfl, rfl⟩
  · have hadd := add_good L 98 [100] [99] 1099511627776 (by decide) (by omega) (find_none hr rfl) (.inr (find_some (s := [99]) hr rfl))
    have La := L.add [100] [99] 1099511627776 (find_none hr rfl)
    refine k_seq (k_seq ?_)
    refine rv (D.int IntKind.i64 (3 : Int)) ?_
    refine rv (D.bool true) ?_
    refine k_done (k_skip_seq (kct (k_skip_seq (k_seq (k_block (k_seq ?_))))))
    refine rv (D.str []) ?_
    refine k_done (k_skip_seq (k_seq (k_seq ?_)))
    refine rv (D.int IntKind.i64 (3 : Int)) ?_
    refine rv (D.bool true) ?_
    refine k_done (k_skip_seq (kct ?_))
    refine rv (D.sl [[D.str [(97 : UInt8)]], [D.str [(98 : UInt8)]], [D.str [(99 : UInt8)]], [D.str [(100 : UInt8)]], [D.str [(101 : UInt8)]]] none) ?_
    refine rv (D.int IntKind.i64 (3 : Int)) ?_
    refine rv (D.int IntKind.i64 (2 : Int)) ?_
    refine rv (D.ref [D.str [(99 : UInt8)]]) ?_
    refine rv (D.str [(99 : UInt8)]) ?_
    refine ra0 (D.str [(99 : UInt8)]) ?_
    refine k_done (k_skip_seq (k_seq ?_))
    refine rv (D.ptr (2 : Nat) (0 : Nat)) ?_
    refine rv (D.sl [[D.str [(97 : UInt8)]], [D.str [(98 : UInt8)]], [D.str [(99 : UInt8)]], [D.str [(100 : UInt8)]], [D.str [(101 : UInt8)]]] none) ?_
    refine rv (D.int IntKind.i64 (3 : Int)) ?_
    refine rv (D.ref [D.str [(100 : UInt8)]]) ?_
    refine rv (D.str [(100 : UInt8)]) ?_
    refine rv (D.str [(99 : UInt8)]) ?_
    refine runs_call_st ([D.ptr (2 : Nat) (0 : Nat), D.str [(100 : UInt8)], D.str [(99 : UInt8)], D.int IntKind.i64 (1099511627776 : Int)]) (by kernel_rfl) (by kernel_rfl) (by kernel_rfl) (by kernel_rfl) (hadd) ?_
    refine rv (D.bool false) ?_
    refine k_done (k_skip_seq (kcf (k_skip_block (k_skip_seq ?_))))
    refine rv (D.int IntKind.i64 (3 : Int)) ?_
    refine rv (D.int IntKind.i64 (4 : Int)) ?_
    refine ra0 (D.int IntKind.i64 (4 : Int)) ?_
    refine k_done (k_skip_back ?_)
    exact ⟨(4, addS σ 0 ns [100] [99] 1099511627776, ns ++ [⟨σ.length, ⟨[100], [99], 1099511627776, 0⟩⟩]), ⟨by simp, La, by rw [List.map_append, hr]; rfl⟩, by simp, by kernel_rfl, rfl⟩
  · have hadd := add_good L 98 [101] [100] 1099511627776 (by decide) (by omega) (find_none hr rfl) (.inr (find_some (s := [100]) hr rfl))
    have La := L.add [101] [100] 1099511627776 (find_none hr rfl)
    refine k_seq (k_seq ?_)
    refine rv (D.int IntKind.i64 (4 : Int)) ?_
    refine rv (D.bool true) ?_
    refine k_done (k_skip_seq (kct (k_skip_seq (k_seq (k_block (k_seq ?_))))))
    refine rv (D.str []) ?_
    refine k_done (k_skip_seq (k_seq (k_seq ?_)))
    refine rv (D.int IntKind.i64 (4 : Int)) ?_
    refine rv (D.bool true) ?_
    refine k_done (k_skip_seq (kct ?_))
    refine rv (D.sl [[D.str [(97 : UInt8)]], [D.str [(98 : UInt8)]], [D.str [(99 : UInt8)]], [D.str [(100 : UInt8)]], [D.str [(101 : UInt8)]]] none) ?_
    refine rv (D.int IntKind.i64 (4 : Int)) ?_
    refine rv (D.int IntKind.i64 (3 : Int)) ?_
    refine rv (D.ref [D.str [(100 : UInt8)]]) ?_
    refine rv (D.str [(100 : UInt8)]) ?_
    refine ra0 (D.str [(100 : UInt8)]) ?_
    refine k_done (k_skip_seq (k_seq ?_))
    refine rv (D.ptr (2 : Nat) (0 : Nat)) ?_
    refine rv (D.sl [[D.str [(97 : UInt8)]], [D.str [(98 : UInt8)]], [D.str [(99 : UInt8)]], [D.str [(100 : UInt8)]], [D.str [(101 : UInt8)]]] none) ?_
    refine rv (D.int IntKind.i64 (4 : Int)) ?_
    refine rv (D.ref [D.str [(101 : UInt8)]]) ?_
    refine rv (D.str [(101 : UInt8)]) ?_
    refine rv (D.str [(100 : UInt8)]) ?_
    refine runs_call_st ([D.ptr (2 : Nat) (0 : Nat), D.str [(101 : UInt8)], D.str [(100 : UInt8)], D.int IntKind.i64 (1099511627776 : Int)]) (by kernel_rfl) (by kernel_rfl) (by kernel_rfl) (by kernel_rfl) (hadd) ?_
    refine rv (D.bool false) ?_
    refine k_done (k_skip_seq (kcf (k_skip_block (k_skip_seq ?_))))
    refine rv (D.int IntKind.i64 (4 : Int)) ?_
    refine rv (D.int IntKind.i64 (5 : Int)) ?_
    refine ra0 (D.int IntKind.i64 (5 : Int)) ?_
    refine k_done (k_skip_back ?_)
    exact ⟨(5, addS σ 0 ns [101] [100] 1099511627776, ns ++ [⟨σ.length, ⟨[101], [100], 1099511627776, 0⟩⟩]), ⟨by simp, La, by rw [List.map_append, hr]; rfl⟩, by simp, by kernel_rfl, rfl⟩
  · clear hi
    refine k_seq (k_seq ?_)
    refine rv (D.int IntKind.i64 (5 : Int)) ?_
    refine rv (D.bool false) ?_
    refine k_done (k_skip_seq (kcf (k_exit_seq (k_exit_back (k_exit_hit rfl (k_skip_seq (k_seq ?_)))))))
    refine rgf (D.lptr (10 : Nat) (0 : Nat)) (σ) ?_
    refine k_done (k_skip_seq (k_seq (k_seq ?_)))
    refine rv (D.int IntKind.i64 (0 : Int)) ?_
    refine k_done (k_skip_seq (k_block ?_))
    refine k_loop (fun s : LS => g2 am at_ s.i s.s0 s.s1 s.s2 s.s3 s.s4 s.x s.y s.z) (fun s => s.σ) (fun s => s.i ≤ 20 ∧ LInv s.i s.σ s.ns s.hs s.s0 s.s1 s.s2 s.s3 s.s4) (fun s => 20 - s.i) ⟨0, σ, ns, [], 0, 0, 0, 0, 0, .junk, .junk, .junk⟩ (by kernel_rfl) (by kernel_rfl) ⟨by simp, L, hr, by simp, by simp, by simp, by simp, by simp, fun h hm => by cases hm⟩ (fun s hs => by omega) ?_
    clear L hr haw
    rintro ⟨i, σ, ns, hs, s0, s1, s2, s3, s4, x, y, z⟩ ⟨hi, I⟩
    simp only at hi I
    have hln : ns.length < 900 := by have := congrArg List.length I.r; simp [recsU] at this; omega
    show Runs (runC _ _ _ (g2 am at_ i s0 s1 s2 s3 s4 x y z) σ) _
    unfold g2 gB qN5 l6_2
    by_cases c1 : i < am.length
    · by_cases c2 : i < at_.length
      · by_cases c3 : i < 20
        · have hai := ha _ (List.getElem_mem c1)
          have hbi := hb _ (List.getElem_mem c2)
          have hcut := letter_cut i
          have hb0 := I.b0
          have hb1 := I.b1
          have hb2 := I.b2
          have hb3 := I.b3
          have hb4 := I.b4
          have hK : Int.tmod at_[i] 5 = 0 ∨ Int.tmod at_[i] 5 = 1 ∨ Int.tmod at_[i] 5 = 2 ∨ Int.tmod at_[i] 5 = 3 ∨ Int.tmod at_[i] 5 = 4 := by
            rw [Int.tmod_eq_emod_of_nonneg hbi.1]
            omega
          rcases hK with hK | hK | hK | hK | hK
          · obtain ⟨σ1, hR, I1⟩ := lines_step I c3 0 (by decide) (am[i] + 1) (by omega) (by omega)
            refine k_seq (k_seq ?_)
            refine rv (D.int IntKind.i64 (↑i : Int)) ?_
            refine rv (D.sl (u16s am) none) ?_
            refine rve (D.int IntKind.i64 (↑(List.length (u16s am)) : Int)) (.int IntKind.i64 ((↑(List.length am) : Int))) (by simp only [ints, eInt, rows, eInts, bools, eBool, trips, eTrip, i8s, u16s, u8s, acts, List.length_map]) ?_
            refine rv (D.bool (decide ((↑i : Int) < (↑(List.length am) : Int)))) ?_
            refine rv (D.bool (decide ((↑i : Int) < (↑(List.length am) : Int)))) ?_
            refine rkn 45 (decide ((↑i : Int) < (↑(List.length am) : Int))) true (decide_eq_true (by omega)) ?_
            refine rv (D.int IntKind.i64 (↑i : Int)) ?_
            refine rv (D.sl (u8s at_) none) ?_
            refine rve (D.int IntKind.i64 (↑(List.length (u8s at_)) : Int)) (.int IntKind.i64 ((↑(List.length at_) : Int))) (by simp only [ints, eInt, rows, eInts, bools, eBool, trips, eTrip, i8s, u16s, u8s, acts, List.length_map]) ?_
            refine rv (D.bool (decide ((↑i : Int) < (↑(List.length at_) : Int)))) ?_
            refine rv (D.bool (decide ((↑i : Int) < (↑(List.length at_) : Int)))) ?_
            refine rv (D.bool (decide ((↑i : Int) < (↑(List.length at_) : Int)))) ?_
            refine rkn 51 (decide ((↑i : Int) < (↑(List.length at_) : Int))) true (decide_eq_true (by omega)) ?_
            refine rv (D.int IntKind.i64 (↑i : Int)) ?_
            refine rv (D.bool (decide ((↑i : Int) < (20 : Int)))) ?_
            refine rv (D.bool (decide ((↑i : Int) < (20 : Int)))) ?_
            refine k_done (k_skip_seq ?_)
            refine rkn 54 (decide ((↑i : Int) < (20 : Int))) true (decide_eq_true (by omega)) ?_
            refine kct (k_skip_seq (k_seq (k_block (k_seq ?_))))
            refine rv (D.sl (u8s at_) none) ?_
            refine rv (D.int IntKind.i64 (↑i : Int)) ?_
            refine runs_index (at_) (fun n => [D.int IntKind.u8 n]) (o := none) (kd := IntKind.i64) (i) (by kernel_rfl) (by kernel_rfl) (by kernel_rfl) (by assumption) (by kernel_rfl) ?_
            refine rv (D.int IntKind.u8 at_[i]) ?_
            refine rve (D.int IntKind.u8 (Int.tmod at_[i] (5 : Int))) (.int IntKind.u8 (0 : Int)) (congrArg (D.int IntKind.u8) (show Int.tmod at_[i] (5 : Int) = (0 : Int) from hK)) ?_
            refine rv (D.int IntKind.i64 (0 : Int)) ?_
            refine ra0 (D.int IntKind.i64 (0 : Int)) ?_
            refine k_done (k_skip_seq (k_seq ?_))
            refine rv (D.sl (u16s am) none) ?_
            refine rv (D.int IntKind.i64 (↑i : Int)) ?_
            refine runs_index (am) (fun n => [D.int IntKind.u16 n]) (o := none) (kd := IntKind.i64) (i) (by kernel_rfl) (by kernel_rfl) (by kernel_rfl) (by assumption) (by kernel_rfl) ?_
            refine rv (D.int IntKind.u16 am[i]) ?_
            refine rve (D.int IntKind.i64 (IntKind.wrap IntKind.i64 am[i])) (.int IntKind.i64 (am[i])) (congrArg (D.int IntKind.i64) (show IntKind.wrap IntKind.i64 am[i] = (am[i]) from wrap_eq (by omega) (by omega) (by omega))) ?_
            refine rve (D.int IntKind.i64 (IntKind.wrap IntKind.i64 (am[i] + (1 : Int)))) (.int IntKind.i64 (am[i] + (1 : Int))) (congrArg (D.int IntKind.i64) (show IntKind.wrap IntKind.i64 (am[i] + (1 : Int)) = (am[i] + (1 : Int)) from wrap_eq (by omega) (by omega) (by omega))) ?_
            refine ra0 (D.int IntKind.i64 (am[i] + (1 : Int))) ?_
            refine k_done (k_skip_seq (k_seq (k_seq ?_)))
            refine rv (D.ptr (2 : Nat) (0 : Nat)) ?_
            refine rv (D.sl [[D.str [(97 : UInt8)]], [D.str [(98 : UInt8)]], [D.str [(99 : UInt8)]], [D.str [(100 : UInt8)]], [D.str [(101 : UInt8)]]] none) ?_
            refine rv (D.int IntKind.i64 (0 : Int)) ?_
            refine rv (D.ref [D.str [(97 : UInt8)]]) ?_
            refine rv (D.str [(97 : UInt8)]) ?_
            refine rv (D.int IntKind.i64 (↑i : Int)) ?_
            refine rv (D.int IntKind.i64 (↑i : Int)) ?_
            refine rve (D.int IntKind.i64 (IntKind.wrap IntKind.i64 ((↑i : Int) + (1 : Int)))) (.int IntKind.i64 ((i + 1 : Nat) : Int)) (congrArg (D.int IntKind.i64) (show IntKind.wrap IntKind.i64 ((↑i : Int) + (1 : Int)) = ((i + 1 : Nat) : Int) from wrap_eq (by omega) (by omega) (by omega))) ?_
            refine runs_cut ([(97 : UInt8), (98 : UInt8), (99 : UInt8), (100 : UInt8), (101 : UInt8), (102 : UInt8), (103 : UInt8), (104 : UInt8), (105 : UInt8), (106 : UInt8), (107 : UInt8), (108 : UInt8), (109 : UInt8), (110 : UInt8), (111 : UInt8), (112 : UInt8), (113 : UInt8), (114 : UInt8), (115 : UInt8), (116 : UInt8)]) _ (i) (i + (1 : Nat)) (by kernel_rfl) (by kernel_rfl) (loD_nat (k := IntKind.i64) (by kernel_rfl)) (hiD_nat (k := IntKind.i64) (by kernel_rfl)) (by simp only [List.length_cons, List.length_nil]; omega) (by assumption) ?_
            refine rv (D.int IntKind.i64 (am[i] + (1 : Int))) ?_
            refine runs_call_st ([D.ptr (2 : Nat) (0 : Nat), D.str [(97 : UInt8)], D.str (letterN i), D.int IntKind.i64 (am[i] + (1 : Int))]) (by kernel_rfl) (by kernel_rfl) (by kernel_rfl) (by kernel_rfl) (hR) ?_
            refine rv (D.bool false) ?_
            refine k_done (k_skip_seq (kcf (k_skip_seq (k_seq ?_))))
            refine rv (D.int IntKind.i64 (0 : Int)) ?_
            refine k_done (k_skip_seq (k_block ?_))
            refine k_loop (fun s : Nat × Int × Int × Int × Int × Int => g3 am at_ i s.2.1 s.2.2.1 s.2.2.2.1 s.2.2.2.2.1 s.2.2.2.2.2 0 (am[i] + 1) s.1) (fun _ => σ1) (fun s => s.1 ≤ 1 ∧ s.2.1 = bumpJ s.1 0 (am[i] + 1) s0 ∧ s.2.2.1 = bumpJ s.1 1 (am[i] + 1) s1 ∧ s.2.2.2.1 = bumpJ s.1 2 (am[i] + 1) s2 ∧ s.2.2.2.2.1 = bumpJ s.1 3 (am[i] + 1) s3 ∧ s.2.2.2.2.2 = bumpJ s.1 4 (am[i] + 1) s4) (fun s => 1 - s.1) (0, s0, s1, s2, s3, s4) (by kernel_rfl) (by kernel_rfl) ⟨by simp, rfl, rfl, rfl, rfl, rfl⟩ (fun s hs => by omega) ?_
            rintro ⟨j, a0, a1, a2, a3, a4⟩ ⟨hj, e0, e1, e2, e3, e4⟩
            simp only at hj e0 e1 e2 e3 e4
            show Runs (runC _ _ _ (g3 am at_ i a0 a1 a2 a3 a4 0 (am[i] + 1) j) σ1) _
            unfold g3 gB qN5 l6_1
            have h6 : j = 0 ∨ j = 1 := by omega
            rcases h6 with rfl | rfl
            · rw [e0, e1, e2, e3, e4]
              have q0 := bumpJ_le (j := 0) (m := 0) (show 1 ≤ am[i] + 1 by omega) (by omega) I.b0
              have q1 := bumpJ_le (j := 0) (m := 1) (show 1 ≤ am[i] + 1 by omega) (by omega) I.b1
              have q2 := bumpJ_le (j := 0) (m := 2) (show 1 ≤ am[i] + 1 by omega) (by omega) I.b2
              have q3 := bumpJ_le (j := 0) (m := 3) (show 1 ≤ am[i] + 1 by omega) (by omega) I.b3
              have q4 := bumpJ_le (j := 0) (m := 4) (show 1 ≤ am[i] + 1 by omega) (by omega) I.b4
              refine k_seq (k_seq ?_)
              refine rv (D.int IntKind.i64 (0 : Int)) ?_
              refine rv (D.int IntKind.i64 (0 : Int)) ?_
              refine rv (D.bool true) ?_
              refine k_done (k_skip_seq (kct (k_skip_seq (k_seq (k_block ?_)))))
              refine rv (D.int IntKind.i64 (0 : Int)) ?_
              refine rv (D.lptr (10 : Nat) (0 : Nat)) ?_
              refine rv (D.int IntKind.i64 (bumpJ (0 : Nat) (0 : Nat) (am[i] + (1 : Int)) s0)) ?_
              refine rv (D.int IntKind.i64 (am[i] + (1 : Int))) ?_
              refine rve (D.int IntKind.i64 (IntKind.wrap IntKind.i64 (bumpJ (0 : Nat) (0 : Nat) (am[i] + (1 : Int)) s0 + (am[i] + (1 : Int))))) (.int IntKind.i64 (bumpJ (0 : Nat) (0 : Nat) (am[i] + (1 : Int)) s0 + (am[i] + (1 : Int)))) (congrArg (D.int IntKind.i64) (show IntKind.wrap IntKind.i64 (bumpJ (0 : Nat) (0 : Nat) (am[i] + (1 : Int)) s0 + (am[i] + (1 : Int))) = (bumpJ (0 : Nat) (0 : Nat) (am[i] + (1 : Int)) s0 + (am[i] + (1 : Int))) from wrap_eq (by omega) (by omega) (by omega))) ?_
              refine rv (D.lptr (10 : Nat) (0 : Nat)) ?_
              refine rgf (D.junk) (σ1) ?_
              refine k_done (k_skip_block (k_skip_seq ?_))
              refine rv (D.int IntKind.i64 (0 : Int)) ?_
              refine rv (D.int IntKind.i64 (1 : Int)) ?_
              refine ra0 (D.int IntKind.i64 (1 : Int)) ?_
              refine k_done (k_skip_back ?_)
              exact ⟨(1, bumpJ 1 0 (am[i] + 1) s0, bumpJ 1 1 (am[i] + 1) s1, bumpJ 1 2 (am[i] + 1) s2, bumpJ 1 3 (am[i] + 1) s3, bumpJ 1 4 (am[i] + 1) s4), ⟨by simp, rfl, rfl, rfl, rfl, rfl⟩, by simp, by kernel_rfl, rfl⟩
            · rw [e0, e1, e2, e3, e4]
              have q0 := bumpJ_le (j := 1) (m := 0) (show 1 ≤ am[i] + 1 by omega) (by omega) I.b0
              have q1 := bumpJ_le (j := 1) (m := 1) (show 1 ≤ am[i] + 1 by omega) (by omega) I.b1
              have q2 := bumpJ_le (j := 1) (m := 2) (show 1 ≤ am[i] + 1 by omega) (by omega) I.b2
              have q3 := bumpJ_le (j := 1) (m := 3) (show 1 ≤ am[i] + 1 by omega) (by omega) I.b3
              have q4 := bumpJ_le (j := 1) (m := 4) (show 1 ≤ am[i] + 1 by omega) (by omega) I.b4
              refine k_seq (k_seq ?_)
              refine rv (D.int IntKind.i64 (1 : Int)) ?_
              refine rv (D.int IntKind.i64 (0 : Int)) ?_
              refine rv (D.bool false) ?_
              refine k_done (k_skip_seq (kcf (k_exit_seq (k_exit_back (k_exit_hit rfl (k_skip_block (k_skip_seq ?_)))))))
              refine rv (D.int IntKind.i64 (↑i : Int)) ?_
              refine rve (D.int IntKind.i64 (IntKind.wrap IntKind.i64 ((↑i : Int) + (1 : Int)))) (.int IntKind.i64 ((i + 1 : Nat) : Int)) (congrArg (D.int IntKind.i64) (show IntKind.wrap IntKind.i64 ((↑i : Int) + (1 : Int)) = ((i + 1 : Nat) : Int) from wrap_eq (by omega) (by omega) (by omega))) ?_
              refine ra0 (D.int IntKind.i64 (↑(i + (1 : Nat)) : Int)) ?_
              refine k_done (k_skip_back ?_)
              exact ⟨⟨i + 1, σ1, usedAt ns (nmL 0) (am[i] + 1), hs ++ [⟨letterN i, nmL 0, am[i] + 1⟩], bumpJ 1 0 (am[i] + 1) s0, bumpJ 1 1 (am[i] + 1) s1, bumpJ 1 2 (am[i] + 1) s2, bumpJ 1 3 (am[i] + 1) s3, bumpJ 1 4 (am[i] + 1) s4, .int .i64 0, .int .i64 (am[i] + 1), .int .i64 1⟩, ⟨by simp only []; omega, I1⟩, by simp only []; omega, by kernel_rfl, rfl⟩
          · obtain ⟨σ1, hR, I1⟩ := lines_step I c3 1 (by decide) (am[i] + 1) (by omega) (by omega)
            refine k_seq (k_seq ?_)
            refine rv (D.int IntKind.i64 (↑i : Int)) ?_
            refine rv (D.sl (u16s am) none) ?_
            refine rve (D.int IntKind.i64 (↑(List.length (u16s am)) : Int)) (.int IntKind.i64 ((↑(List.length am) : Int))) (by simp only [ints, eInt, rows, eInts, bools, eBool, trips, eTrip, i8s, u16s, u8s, acts, List.length_map]) ?_
            refine rv (D.bool (decide ((↑i : Int) < (↑(List.length am) : Int)))) ?_
            refine rv (D.bool (decide ((↑i : Int) < (↑(List.length am) : Int)))) ?_
            refine rkn 45 (decide ((↑i : Int) < (↑(List.length am) : Int))) true (decide_eq_true (by omega)) ?_
            refine rv (D.int IntKind.i64 (↑i : Int)) ?_
            refine rv (D.sl (u8s at_) none) ?_
            refine rve (D.int IntKind.i64 (↑(List.length (u8s at_)) : Int)) (.int IntKind.i64 ((↑(List.length at_) : Int))) (by simp only [ints, eInt, rows, eInts, bools, eBool, trips, eTrip, i8s, u16s, u8s, acts, List.length_map]) ?_
            refine rv (D.bool (decide ((↑i : Int) < (↑(List.length at_) : Int)))) ?_
            refine rv (D.bool (decide ((↑i : Int) < (↑(List.length at_) : Int)))) ?_
            refine rv (D.bool (decide ((↑i : Int) < (↑(List.length at_) : Int)))) ?_
            refine rkn 51 (decide ((↑i : Int) < (↑(List.length at_) : Int))) true (decide_eq_true (by omega)) ?_
            refine rv (D.int IntKind.i64 (↑i : Int)) ?_
            refine rv (D.bool (decide ((↑i : Int) < (20 : Int)))) ?_
            refine rv (D.bool (decide ((↑i : Int) < (20 : Int)))) ?_
            refine k_done (k_skip_seq ?_)
            refine rkn 54 (decide ((↑i : Int) < (20 : Int))) true (decide_eq_true (by omega)) ?_
            refine kct (k_skip_seq (k_seq (k_block (k_seq ?_))))
            refine rv (D.sl (u8s at_) none) ?_
            refine rv (D.int IntKind.i64 (↑i : Int)) ?_
            refine runs_index (at_) (fun n => [D.int IntKind.u8 n]) (o := none) (kd := IntKind.i64) (i) (by kernel_rfl) (by kernel_rfl) (by kernel_rfl) (by assumption) (by kernel_rfl) ?_
            refine rv (D.int IntKind.u8 at_[i]) ?_
            refine rve (D.int IntKind.u8 (Int.tmod at_[i] (5 : Int))) (.int IntKind.u8 (1 : Int)) (congrArg (D.int IntKind.u8) (show Int.tmod at_[i] (5 : Int) = (1 : Int) from hK)) ?_
            refine rv (D.int IntKind.i64 (1 : Int)) ?_
            refine ra0 (D.int IntKind.i64 (1 : Int)) ?_
            refine k_done (k_skip_seq (k_seq ?_))
            refine rv (D.sl (u16s am) none) ?_
            refine rv (D.int IntKind.i64 (↑i : Int)) ?_
            refine runs_index (am) (fun n => [D.int IntKind.u16 n]) (o := none) (kd := IntKind.i64) (i) (by kernel_rfl) (by kernel_rfl) (by kernel_rfl) (by assumption) (by kernel_rfl) ?_
            refine rv (D.int IntKind.u16 am[i]) ?_
            refine rve (D.int IntKind.i64 (IntKind.wrap IntKind.i64 am[i])) (.int IntKind.i64 (am[i])) (congrArg (D.int IntKind.i64) (show IntKind.wrap IntKind.i64 am[i] = (am[i]) from wrap_eq (by omega) (by omega) (by omega))) ?_
            refine rve (D.int IntKind.i64 (IntKind.wrap IntKind.i64 (am[i] + (1 : Int)))) (.int IntKind.i64 (am[i] + (1 : Int))) (congrArg (D.int IntKind.i64) (show IntKind.wrap IntKind.i64 (am[i] + (1 : Int)) = (am[i] + (1 : Int)) from wrap_eq (by omega) (by omega) (by omega))) ?_
            refine ra0 (D.int IntKind.i64 (am[i] + (1 : Int))) ?_
            refine k_done (k_skip_seq (k_seq (k_seq ?_)))
            refine rv (D.ptr (2 : Nat) (0 : Nat)) ?_
            refine rv (D.sl [[D.str [(97 : UInt8)]], [D.str [(98 : UInt8)]], [D.str [(99 : UInt8)]], [D.str [(100 : UInt8)]], [D.str [(101 : UInt8)]]] none) ?_
            refine rv (D.int IntKind.i64 (1 : Int)) ?_
            refine rv (D.ref [D.str [(98 : UInt8)]]) ?_
            refine rv (D.str [(98 : UInt8)]) ?_
            refine rv (D.int IntKind.i64 (↑i : Int)) ?_
            refine rv (D.int IntKind.i64 (↑i : Int)) ?_
            refine rve (D.int IntKind.i64 (IntKind.wrap IntKind.i64 ((↑i : Int) + (1 : Int)))) (.int IntKind.i64 ((i + 1 : Nat) : Int)) (congrArg (D.int IntKind.i64) (show IntKind.wrap IntKind.i64 ((↑i : Int) + (1 : Int)) = ((i + 1 : Nat) : Int) from wrap_eq (by omega) (by omega) (by omega))) ?_
            refine runs_cut ([(97 : UInt8), (98 : UInt8), (99 : UInt8), (100 : UInt8), (101 : UInt8), (102 : UInt8), (103 : UInt8), (104 : UInt8), (105 : UInt8), (106 : UInt8), (107 : UInt8), (108 : UInt8), (109 : UInt8), (110 : UInt8), (111 : UInt8), (112 : UInt8), (113 : UInt8), (114 : UInt8), (115 : UInt8), (116 : UInt8)]) _ (i) (i + (1 : Nat)) (by kernel_rfl) (by kernel_rfl) (loD_nat (k := IntKind.i64) (by kernel_rfl)) (hiD_nat (k := IntKind.i64) (by kernel_rfl)) (by simp only [List.length_cons, List.length_nil]; omega) (by assumption) ?_
            refine rv (D.int IntKind.i64 (am[i] + (1 : Int))) ?_
            refine runs_call_st ([D.ptr (2 : Nat) (0 : Nat), D.str [(98 : UInt8)], D.str (letterN i), D.int IntKind.i64 (am[i] + (1 : Int))]) (by kernel_rfl) (by kernel_rfl) (by kernel_rfl) (by kernel_rfl) (hR) ?_
            refine rv (D.bool false) ?_
            refine k_done (k_skip_seq (kcf (k_skip_seq (k_seq ?_))))
            refine rv (D.int IntKind.i64 (0 : Int)) ?_
            refine k_done (k_skip_seq (k_block ?_))
            refine k_loop (fun s : Nat × Int × Int × Int × Int × Int => g3 am at_ i s.2.1 s.2.2.1 s.2.2.2.1 s.2.2.2.2.1 s.2.2.2.2.2 1 (am[i] + 1) s.1) (fun _ => σ1) (fun s => s.1 ≤ 2 ∧ s.2.1 = bumpJ s.1 0 (am[i] + 1) s0 ∧ s.2.2.1 = bumpJ s.1 1 (am[i] + 1) s1 ∧ s.2.2.2.1 = bumpJ s.1 2 (am[i] + 1) s2 ∧ s.2.2.2.2.1 = bumpJ s.1 3 (am[i] + 1) s3 ∧ s.2.2.2.2.2 = bumpJ s.1 4 (am[i] + 1) s4) (fun s => 2 - s.1) (0, s0, s1, s2, s3, s4) (by kernel_rfl) (by kernel_rfl) ⟨by simp, rfl, rfl, rfl, rfl, rfl⟩ (fun s hs => by omega) ?_
            rintro ⟨j, a0, a1, a2, a3, a4⟩ ⟨hj, e0, e1, e2, e3, e4⟩
            simp only at hj e0 e1 e2 e3 e4
            show Runs (runC _ _ _ (g3 am at_ i a0 a1 a2 a3 a4 1 (am[i] + 1) j) σ1) _
            unfold g3 gB qN5 l6_1
            have h6 : j = 0 ∨ j = 1 ∨ j = 2 := by omega
            rcases h6 with rfl | rfl | rfl
            · rw [e0, e1, e2, e3, e4]
              have q0 := bumpJ_le (j := 0) (m := 0) (show 1 ≤ am[i] + 1 by omega) (by omega) I.b0
              have q1 := bumpJ_le (j := 0) (m := 1) (show 1 ≤ am[i] + 1 by omega) (by omega) I.b1
              have q2 := bumpJ_le (j := 0) (m := 2) (show 1 ≤ am[i] + 1 by omega) (by omega) I.b2
              have q3 := bumpJ_le (j := 0) (m := 3) (show 1 ≤ am[i] + 1 by omega) (by omega) I.b3
              have q4 := bumpJ_le (j := 0) (m := 4) (show 1 ≤ am[i] + 1 by omega) (by omega) I.b4
              refine k_seq (k_seq ?_)
              refine rv (D.int IntKind.i64 (0 : Int)) ?_
              refine rv (D.int IntKind.i64 (1 : Int)) ?_
              refine rv (D.bool true) ?_
              refine k_done (k_skip_seq (kct (k_skip_seq (k_seq (k_block ?_)))))
              refine rv (D.int IntKind.i64 (0 : Int)) ?_
              refine rv (D.lptr (10 : Nat) (0 : Nat)) ?_
              refine rv (D.int IntKind.i64 (bumpJ (0 : Nat) (0 : Nat) (am[i] + (1 : Int)) s0)) ?_
              refine rv (D.int IntKind.i64 (am[i] + (1 : Int))) ?_
              refine rve (D.int IntKind.i64 (IntKind.wrap IntKind.i64 (bumpJ (0 : Nat) (0 : Nat) (am[i] + (1 : Int)) s0 + (am[i] + (1 : Int))))) (.int IntKind.i64 (bumpJ (0 : Nat) (0 : Nat) (am[i] + (1 : Int)) s0 + (am[i] + (1 : Int)))) (congrArg (D.int IntKind.i64) (show IntKind.wrap IntKind.i64 (bumpJ (0 : Nat) (0 : Nat) (am[i] + (1 : Int)) s0 + (am[i] + (1 : Int))) = (bumpJ (0 : Nat) (0 : Nat) (am[i] + (1 : Int)) s0 + (am[i] + (1 : Int))) from wrap_eq (by omega) (by omega) (by omega))) ?_
              refine rv (D.lptr (10 : Nat) (0 : Nat)) ?_
              refine rgf (D.junk) (σ1) ?_
              refine k_done (k_skip_block (k_skip_seq ?_))
              refine rv (D.int IntKind.i64 (0 : Int)) ?_
              refine rv (D.int IntKind.i64 (1 : Int)) ?_
              refine ra0 (D.int IntKind.i64 (1 : Int)) ?_
              refine k_done (k_skip_back ?_)
              exact ⟨(1, bumpJ 1 0 (am[i] + 1) s0, bumpJ 1 1 (am[i] + 1) s1, bumpJ 1 2 (am[i] + 1) s2, bumpJ 1 3 (am[i] + 1) s3, bumpJ 1 4 (am[i] + 1) s4), ⟨by simp, rfl, rfl, rfl, rfl, rfl⟩, by simp, by kernel_rfl, rfl⟩
            · rw [e0, e1, e2, e3, e4]
              have q0 := bumpJ_le (j := 1) (m := 0) (show 1 ≤ am[i] + 1 by omega) (by omega) I.b0
              have q1 := bumpJ_le (j := 1) (m := 1) (show 1 ≤ am[i] + 1 by omega) (by omega) I.b1
              have q2 := bumpJ_le (j := 1) (m := 2) (show 1 ≤ am[i] + 1 by omega) (by omega) I.b2
              have q3 := bumpJ_le (j := 1) (m := 3) (show 1 ≤ am[i] + 1 by omega) (by omega) I.b3
              have q4 := bumpJ_le (j := 1) (m := 4) (show 1 ≤ am[i] + 1 by omega) (by omega) I.b4
              refine k_seq (k_seq ?_)
              refine rv (D.int IntKind.i64 (1 : Int)) ?_
              refine rv (D.int IntKind.i64 (1 : Int)) ?_
              refine rv (D.bool true) ?_
              refine k_done (k_skip_seq (kct (k_skip_seq (k_seq (k_block ?_)))))
              refine rv (D.int IntKind.i64 (1 : Int)) ?_
              refine rv (D.lptr (10 : Nat) (1 : Nat)) ?_
              refine rv (D.int IntKind.i64 (bumpJ (1 : Nat) (1 : Nat) (am[i] + (1 : Int)) s1)) ?_
              refine rv (D.int IntKind.i64 (am[i] + (1 : Int))) ?_
              refine rve (D.int IntKind.i64 (IntKind.wrap IntKind.i64 (bumpJ (1 : Nat) (1 : Nat) (am[i] + (1 : Int)) s1 + (am[i] + (1 : Int))))) (.int IntKind.i64 (bumpJ (1 : Nat) (1 : Nat) (am[i] + (1 : Int)) s1 + (am[i] + (1 : Int)))) (congrArg (D.int IntKind.i64) (show IntKind.wrap IntKind.i64 (bumpJ (1 : Nat) (1 : Nat) (am[i] + (1 : Int)) s1 + (am[i] + (1 : Int))) = (bumpJ (1 : Nat) (1 : Nat) (am[i] + (1 : Int)) s1 + (am[i] + (1 : Int))) from wrap_eq (by omega) (by omega) (by omega))) ?_
              refine rv (D.lptr (10 : Nat) (1 : Nat)) ?_
              refine rgf (D.junk) (σ1) ?_
              refine k_done (k_skip_block (k_skip_seq ?_))
              refine rv (D.int IntKind.i64 (1 : Int)) ?_
              refine rv (D.int IntKind.i64 (2 : Int)) ?_
              refine ra0 (D.int IntKind.i64 (2 : Int)) ?_
              refine k_done (k_skip_back ?_)
              exact ⟨(2, bumpJ 2 0 (am[i] + 1) s0, bumpJ 2 1 (am[i] + 1) s1, bumpJ 2 2 (am[i] + 1) s2, bumpJ 2 3 (am[i] + 1) s3, bumpJ 2 4 (am[i] + 1) s4), ⟨by simp, rfl, rfl, rfl, rfl, rfl⟩, by simp, by kernel_rfl, rfl⟩
            · rw [e0, e1, e2, e3, e4]
              have q0 := bumpJ_le (j := 2) (m := 0) (show 1 ≤ am[i] + 1 by omega) (by omega) I.b0
              have q1 := bumpJ_le (j := 2) (m := 1) (show 1 ≤ am[i] + 1 by omega) (by omega) I.b1
              have q2 := bumpJ_le (j := 2) (m := 2) (show 1 ≤ am[i] + 1 by omega) (by omega) I.b2
              have q3 := bumpJ_le (j := 2) (m := 3) (show 1 ≤ am[i] + 1 by omega) (by omega) I.b3
              have q4 := bumpJ_le (j := 2) (m := 4) (show 1 ≤ am[i] + 1 by omega) (by omega) I.b4
              refine k_seq (k_seq ?_)
              refine rv (D.int IntKind.i64 (2 : Int)) ?_
              refine rv (D.int IntKind.i64 (1 : Int)) ?_
              refine rv (D.bool false) ?_
              refine k_done (k_skip_seq (kcf (k_exit_seq (k_exit_back (k_exit_hit rfl (k_skip_block (k_skip_seq ?_)))))))
              refine rv (D.int IntKind.i64 (↑i : Int)) ?_
              refine rve (D.int IntKind.i64 (IntKind.wrap IntKind.i64 ((↑i : Int) + (1 : Int)))) (.int IntKind.i64 ((i + 1 : Nat) : Int)) (congrArg (D.int IntKind.i64) (show IntKind.wrap IntKind.i64 ((↑i : Int) + (1 : Int)) = ((i + 1 : Nat) : Int) from wrap_eq (by omega) (by omega) (by omega))) ?_
              refine ra0 (D.int IntKind.i64 (↑(i + (1 : Nat)) : Int)) ?_
              refine k_done (k_skip_back ?_)
              exact ⟨⟨i + 1, σ1, usedAt ns (nmL 1) (am[i] + 1), hs ++ [⟨letterN i, nmL 1, am[i] + 1⟩], bumpJ 2 0 (am[i] + 1) s0, bumpJ 2 1 (am[i] + 1) s1, bumpJ 2 2 (am[i] + 1) s2, bumpJ 2 3 (am[i] + 1) s3, bumpJ 2 4 (am[i] + 1) s4, .int .i64 1, .int .i64 (am[i] + 1), .int .i64 2⟩, ⟨by simp only []; omega, I1⟩, by simp only []; omega, by kernel_rfl, rfl⟩
          · obtain ⟨σ1, hR, I1⟩ := lines_step I c3 2 (by decide) (am[i] + 1) (by omega) (by omega)
            refine k_seq (k_seq ?_)
            refine rv (D.int IntKind.i64 (↑i : Int)) ?_
            refine rv (D.sl (u16s am) none) ?_
            refine rve (D.int IntKind.i64 (↑(List.length (u16s am)) : Int)) (.int IntKind.i64 ((↑(List.length am) : Int))) (by simp only [ints, eInt, rows, eInts, bools, eBool, trips, eTrip, i8s, u16s, u8s, acts, List.length_map]) ?_
            refine rv (D.bool (decide ((↑i : Int) < (↑(List.length am) : Int)))) ?_
            refine rv (D.bool (decide ((↑i : Int) < (↑(List.length am) : Int)))) ?_
            refine rkn 45 (decide ((↑i : Int) < (↑(List.length am) : Int))) true (decide_eq_true (by omega)) ?_
            refine rv (D.int IntKind.i64 (↑i : Int)) ?_
            refine rv (D.sl (u8s at_) none) ?_
            refine rve (D.int IntKind.i64 (↑(List.length (u8s at_)) : Int)) (.int IntKind.i64 ((↑(List.length at_) : Int))) (by simp only [ints, eInt, rows, eInts, bools, eBool, trips, eTrip, i8s, u16s, u8s, acts, List.length_map]) ?_
            refine rv (D.bool (decide ((↑i : Int) < (↑(List.length at_) : Int)))) ?_
            refine rv (D.bool (decide ((↑i : Int) < (↑(List.length at_) : Int)))) ?_
            refine rv (D.bool (decide ((↑i : Int) < (↑(List.length at_) : Int)))) ?_
            refine rkn 51 (decide ((↑i : Int) < (↑(List.length at_) : Int))) true (decide_eq_true (by omega)) ?_
            refine rv (D.int IntKind.i64 (↑i : Int)) ?_
            refine rv (D.bool (decide ((↑i : Int) < (20 : Int)))) ?_
            refine rv (D.bool (decide ((↑i : Int) < (20 : Int)))) ?_
            refine k_done (k_skip_seq ?_)
            refine rkn 54 (decide ((↑i : Int) < (20 : Int))) true (decide_eq_true (by omega)) ?_
            refine kct (k_skip_seq (k_seq (k_block (k_seq ?_))))
            refine rv (D.sl (u8s at_) none) ?_
            refine rv (D.int IntKind.i64 (↑i : Int)) ?_
            refine runs_index (at_) (fun n => [D.int IntKind.u8 n]) (o := none) (kd := IntKind.i64) (i) (by kernel_rfl) (by kernel_rfl) (by kernel_rfl) (by assumption) (by kernel_rfl) ?_
            refine rv (D.int IntKind.u8 at_[i]) ?_
            refine rve (D.int IntKind.u8 (Int.tmod at_[i] (5 : Int))) (.int IntKind.u8 (2 : Int)) (congrArg (D.int IntKind.u8) (show Int.tmod at_[i] (5 : Int) = (2 : Int) from hK)) ?_
            refine rv (D.int IntKind.i64 (2 : Int)) ?_
            refine ra0 (D.int IntKind.i64 (2 : Int)) ?_
            refine k_done (k_skip_seq (k_seq ?_))
            refine rv (D.sl (u16s am) none) ?_
            refine rv (D.int IntKind.i64 (↑i : Int)) ?_
            refine runs_index (am) (fun n => [D.int IntKind.u16 n]) (o := none) (kd := IntKind.i64) (i) (by kernel_rfl) (by kernel_rfl) (by kernel_rfl) (by assumption) (by kernel_rfl) ?_
            refine rv (D.int IntKind.u16 am[i]) ?_
            refine rve (D.int IntKind.i64 (IntKind.wrap IntKind.i64 am[i])) (.int IntKind.i64 (am[i])) (congrArg (D.int IntKind.i64) (show IntKind.wrap IntKind.i64 am[i] = (am[i]) from wrap_eq (by omega) (by omega) (by omega))) ?_
            refine rve (D.int IntKind.i64 (IntKind.wrap IntKind.i64 (am[i] + (1 : Int)))) (.int IntKind.i64 (am[i] + (1 : Int))) (congrArg (D.int IntKind.i64) (show IntKind.wrap IntKind.i64 (am[i] + (1 : Int)) = (am[i] + (1 : Int)) from wrap_eq (by omega) (by omega) (by omega))) ?_
            refine ra0 (D.int IntKind.i64 (am[i] + (1 : Int))) ?_
            refine k_done (k_skip_seq (k_seq (k_seq ?_)))
            refine rv (D.ptr (2 : Nat) (0 : Nat)) ?_
            refine rv (D.sl [[D.str [(97 : UInt8)]], [D.str [(98 : UInt8)]], [D.str [(99 : UInt8)]], [D.str [(100 : UInt8)]], [D.str [(101 : UInt8)]]] none) ?_
            refine rv (D.int IntKind.i64 (2 : Int)) ?_
            refine rv (D.ref [D.str [(99 : UInt8)]]) ?_
            refine rv (D.str [(99 : UInt8)]) ?_
            refine rv (D.int IntKind.i64 (↑i : Int)) ?_
            refine rv (D.int IntKind.i64 (↑i : Int)) ?_
            refine rve (D.int IntKind.i64 (IntKind.wrap IntKind.i64 ((↑i : Int) + (1 : Int)))) (.int IntKind.i64 ((i + 1 : Nat) : Int)) (congrArg (D.int IntKind.i64) (show IntKind.wrap IntKind.i64 ((↑i : Int) + (1 : Int)) = ((i + 1 : Nat) : Int) from wrap_eq (by omega) (by omega) (by omega))) ?_
            refine runs_cut ([(97 : UInt8), (98 : UInt8), (99 : UInt8), (100 : UInt8), (101 : UInt8), (102 : UInt8), (103 : UInt8), (104 : UInt8), (105 : UInt8), (106 : UInt8), (107 : UInt8), (108 : UInt8), (109 : UInt8), (110 : UInt8), (111 : UInt8), (112 : UInt8), (113 : UInt8), (114 : UInt8), (115 : UInt8), (116 : UInt8)]) _ (i) (i + (1 : Nat)) (by kernel_rfl) (by kernel_rfl) (loD_nat (k := IntKind.i64) (by kernel_rfl)) (hiD_nat (k := IntKind.i64) (by kernel_rfl)) (by simp only [List.length_cons, List.length_nil]; omega) (by assumption) ?_
            refine rv (D.int IntKind.i64 (am[i] + (1 : Int))) ?_
            refine runs_call_st ([D.ptr (2 : Nat) (0 : Nat), D.str [(99 : UInt8)], D.str (letterN i), D.int IntKind.i64 (am[i] + (1 : Int))]) (by kernel_rfl) (by kernel_rfl) (by kernel_rfl) (by kernel_rfl) (hR) ?_
            refine rv (D.bool false) ?_
            refine k_done (k_skip_seq (kcf (k_skip_seq (k_seq ?_))))
            refine rv (D.int IntKind.i64 (0 : Int)) ?_
            refine k_done (k_skip_seq (k_block ?_))
            refine k_loop (fun s : Nat × Int × Int × Int × Int × Int => g3 am at_ i s.2.1 s.2.2.1 s.2.2.2.1 s.2.2.2.2.1 s.2.2.2.2.2 2 (am[i] + 1) s.1) (fun _ => σ1) (fun s => s.1 ≤ 3 ∧ s.2.1 = bumpJ s.1 0 (am[i] + 1) s0 ∧ s.2.2.1 = bumpJ s.1 1 (am[i] + 1) s1 ∧ s.2.2.2.1 = bumpJ s.1 2 (am[i] + 1) s2 ∧ s.2.2.2.2.1 = bumpJ s.1 3 (am[i] + 1) s3 ∧ s.2.2.2.2.2 = bumpJ s.1 4 (am[i] + 1) s4) (fun s => 3 - s.1) (0, s0, s1, s2, s3, s4) (by kernel_rfl) (by kernel_rfl) ⟨by simp, rfl, rfl, rfl, rfl, rfl⟩ (fun s hs => by omega) ?_
            rintro ⟨j, a0, a1, a2, a3, a4⟩ ⟨hj, e0, e1, e2, e3, e4⟩
            simp only at hj e0 e1 e2 e3 e4
            show Runs (runC _ _ _ (g3 am at_ i a0 a1 a2 a3 a4 2 (am[i] + 1) j) σ1) _
            unfold g3 gB qN5 l6_1
            have h6 : j = 0 ∨ j = 1 ∨ j = 2 ∨ j = 3 := by omega
            rcases h6 with rfl | rfl | rfl | rfl
            · rw [e0, e1, e2, e3, e4]
              have q0 := bumpJ_le (j := 0) (m := 0) (show 1 ≤ am[i] + 1 by omega) (by omega) I.b0
              have q1 := bumpJ_le (j := 0) (m := 1) (show 1 ≤ am[i] + 1 by omega) (by omega) I.b1
              have q2 := bumpJ_le (j := 0) (m := 2) (show 1 ≤ am[i] + 1 by omega) (by omega) I.b2
              have q3 := bumpJ_le (j := 0) (m := 3) (show 1 ≤ am[i] + 1 by omega) (by omega) I.b3
              have q4 := bumpJ_le (j := 0) (m := 4) (show 1 ≤ am[i] + 1 by omega) (by omega) I.b4
              refine k_seq (k_seq ?_)
              refine rv (D.int IntKind.i64 (0 : Int)) ?_
              refine rv (D.int IntKind.i64 (2 : Int)) ?_
              refine rv (D.bool true) ?_
              refine k_done (k_skip_seq (kct (k_skip_seq (k_seq (k_block ?_)))))
              refine rv (D.int IntKind.i64 (0 : Int)) ?_
              refine rv (D.lptr (10 : Nat) (0 : Nat)) ?_
              refine rv (D.int IntKind.i64 (bumpJ (0 : Nat) (0 : Nat) (am[i] + (1 : Int)) s0)) ?_
              refine rv (D.int IntKind.i64 (am[i] + (1 : Int))) ?_
              refine rve (D.int IntKind.i64 (IntKind.wrap IntKind.i64 (bumpJ (0 : Nat) (0 : Nat) (am[i] + (1 : Int)) s0 + (am[i] + (1 : Int))))) (.int IntKind.i64 (bumpJ (0 : Nat) (0 : Nat) (am[i] + (1 : Int)) s0 + (am[i] + (1 : Int)))) (congrArg (D.int IntKind.i64) (show IntKind.wrap IntKind.i64 (bumpJ (0 : Nat) (0 : Nat) (am[i] + (1 : Int)) s0 + (am[i] + (1 : Int))) = (bumpJ (0 : Nat) (0 : Nat) (am[i] + (1 : Int)) s0 + (am[i] + (1 : Int))) from wrap_eq (by omega) (by omega) (by omega))) ?_
              refine rv (D.lptr (10 : Nat) (0 : Nat)) ?_
              refine rgf (D.junk) (σ1) ?_
              refine k_done (k_skip_block (k_skip_seq ?_))
              refine rv (D.int IntKind.i64 (0 : Int)) ?_
              refine rv (D.int IntKind.i64 (1 : Int)) ?_
              refine ra0 (D.int IntKind.i64 (1 : Int)) ?_
              refine k_done (k_skip_back ?_)
              exact ⟨(1, bumpJ 1 0 (am[i] + 1) s0, bumpJ 1 1 (am[i] + 1) s1, bumpJ 1 2 (am[i] + 1) s2, bumpJ 1 3 (am[i] + 1) s3, bumpJ 1 4 (am[i] + 1) s4), ⟨by simp, rfl, rfl, rfl, rfl, rfl⟩, by simp, by kernel_rfl, rfl⟩
            · rw [e0, e1, e2, e3, e4]
              have q0 := bumpJ_le (j := 1) (m := 0) (show 1 ≤ am[i] + 1 by omega) (by omega) I.b0
              have q1 := bumpJ_le (j := 1) (m := 1) (show 1 ≤ am[i] + 1 by omega) (by omega) I.b1
              have q2 := bumpJ_le (j := 1) (m := 2) (show 1 ≤ am[i] + 1 by omega) (by omega) I.b2
              have q3 := bumpJ_le (j := 1) (m := 3) (show 1 ≤ am[i] + 1 by omega) (by omega) I.b3
              have q4 := bumpJ_le (j := 1) (m := 4) (show 1 ≤ am[i] + 1 by omega) (by omega) I.b4
              refine k_seq (k_seq ?_)
              refine rv (D.int IntKind.i64 (1 : Int)) ?_
              refine rv (D.int IntKind.i64 (2 : Int)) ?_
              refine rv (D.bool true) ?_
              refine k_done (k_skip_seq (kct (k_skip_seq (k_seq (k_block ?_)))))
              refine rv (D.int IntKind.i64 (1 : Int)) ?_
              refine rv (D.lptr (10 : Nat) (1 : Nat)) ?_
              refine rv (D.int IntKind.i64 (bumpJ (1 : Nat) (1 : Nat) (am[i] + (1 : Int)) s1)) ?_
              refine rv (D.int IntKind.i64 (am[i] + (1 : Int))) ?_
              refine rve (D.int IntKind.i64 (IntKind.wrap IntKind.i64 (bumpJ (1 : Nat) (1 : Nat) (am[i] + (1 : Int)) s1 + (am[i] + (1 : Int))))) (.int IntKind.i64 (bumpJ (1 : Nat) (1 : Nat) (am[i] + (1 : Int)) s1 + (am[i] + (1 : Int)))) (congrArg (D.int IntKind.i64) (show IntKind.wrap IntKind.i64 (bumpJ (1 : Nat) (1 : Nat) (am[i] + (1 : Int)) s1 + (am[i] + (1 : Int))) = (bumpJ (1 : Nat) (1 : Nat) (am[i] + (1 : Int)) s1 + (am[i] + (1 : Int))) from wrap_eq (by omega) (by omega) (by omega))) ?_
              refine rv (D.lptr (10 : Nat) (1 : Nat)) ?_
              refine rgf (D.junk) (σ1) ?_
              refine k_done (k_skip_block (k_skip_seq ?_))
              refine rv (D.int IntKind.i64 (1 : Int)) ?_
              refine rv (D.int IntKind.i64 (2 : Int)) ?_
              refine ra0 (D.int IntKind.i64 (2 : Int)) ?_
              refine k_done (k_skip_back ?_)
              exact ⟨(2, bumpJ 2 0 (am[i] + 1) s0, bumpJ 2 1 (am[i] + 1) s1, bumpJ 2 2 (am[i] + 1) s2, bumpJ 2 3 (am[i] + 1) s3, bumpJ 2 4 (am[i] + 1) s4), ⟨by simp, rfl, rfl, rfl, rfl, rfl⟩, by simp, by kernel_rfl, rfl⟩
            · rw [e0, e1, e2, e3, e4]
              have q0 := bumpJ_le (j := 2) (m := 0) (show 1 ≤ am[i] + 1 by omega) (by omega) I.b0
              have q1 := bumpJ_le (j := 2) (m := 1) (show 1 ≤ am[i] + 1 by omega) (by omega) I.b1
              have q2 := bumpJ_le (j := 2) (m := 2) (show 1 ≤ am[i] + 1 by omega) (by omega) I.b2
              have q3 := bumpJ_le (j := 2) (m := 3) (show 1 ≤ am[i] + 1 by omega) (by omega) I.b3
              have q4 := bumpJ_le (j := 2) (m := 4) (show 1 ≤ am[i] + 1 by omega) (by omega) I.b4
              refine k_seq (k_seq ?_)
              refine rv (D.int IntKind.i64 (2 : Int)) ?_
              refine rv (D.int IntKind.i64 (2 : Int)) ?_
              refine rv (D.bool true) ?_
              refine k_done (k_skip_seq (kct (k_skip_seq (k_seq (k_block ?_)))))
              refine rv (D.int IntKind.i64 (2 : Int)) ?_
              refine rv (D.lptr (10 : Nat) (2 : Nat)) ?_
              refine rv (D.int IntKind.i64 (bumpJ (2 : Nat) (2 : Nat) (am[i] + (1 : Int)) s2)) ?_
              refine rv (D.int IntKind.i64 (am[i] + (1 : Int))) ?_
              refine rve (D.int IntKind.i64 (IntKind.wrap IntKind.i64 (bumpJ (2 : Nat) (2 : Nat) (am[i] + (1 : Int)) s2 + (am[i] + (1 : Int))))) (.int IntKind.i64 (bumpJ (2 : Nat) (2 : Nat) (am[i] + (1 : Int)) s2 + (am[i] + (1 : Int)))) (congrArg (D.int IntKind.i64) (show IntKind.wrap IntKind.i64 (bumpJ (2 : Nat) (2 : Nat) (am[i] + (1 : Int)) s2 + (am[i] + (1 : Int))) = (bumpJ (2 : Nat) (2 : Nat) (am[i] + (1 : Int)) s2 + (am[i] + (1 : Int))) from wrap_eq (by omega) (by omega) (by omega))) ?_
              refine rv (D.lptr (10 : Nat) (2 : Nat)) ?_
              refine rgf (D.junk) (σ1) ?_
              refine k_done (k_skip_block (k_skip_seq ?_))
              refine rv (D.int IntKind.i64 (2 : Int)) ?_
              refine rv (D.int IntKind.i64 (3 : Int)) ?_
              refine ra0 (D.int IntKind.i64 (3 : Int)) ?_
              refine k_done (k_skip_back ?_)
              exact ⟨(3, bumpJ 3 0 (am[i] + 1) s0, bumpJ 3 1 (am[i] + 1) s1, bumpJ 3 2 (am[i] + 1) s2, bumpJ 3 3 (am[i] + 1) s3, bumpJ 3 4 (am[i] + 1) s4), ⟨by simp, rfl, rfl, rfl, rfl, rfl⟩, by simp, by kernel_rfl, rfl⟩
            · rw [e0, e1, e2, e3, e4]
              have q0 := bumpJ_le (j := 3) (m := 0) (show 1 ≤ am[i] + 1 by omega) (by omega) I.b0
              have q1 := bumpJ_le (j := 3) (m := 1) (show 1 ≤ am[i] + 1 by omega) (by omega) I.b1
              have q2 := bumpJ_le (j := 3) (m := 2) (show 1 ≤ am[i] + 1 by omega) (by omega) I.b2
              have q3 := bumpJ_le (j := 3) (m := 3) (show 1 ≤ am[i] + 1 by omega) (by omega) I.b3
              have q4 := bumpJ_le (j := 3) (m := 4) (show 1 ≤ am[i] + 1 by omega) (by omega) I.b4
              refine k_seq (k_seq ?_)
              refine rv (D.int IntKind.i64 (3 : Int)) ?_
              refine rv (D.int IntKind.i64 (2 : Int)) ?_
              refine rv (D.bool false) ?_
              refine k_done (k_skip_seq (kcf (k_exit_seq (k_exit_back (k_exit_hit rfl (k_skip_block (k_skip_seq ?_)))))))
              refine rv (D.int IntKind.i64 (↑i : Int)) ?_
              refine rve (D.int IntKind.i64 (IntKind.wrap IntKind.i64 ((↑i : Int) + (1 : Int)))) (.int IntKind.i64 ((i + 1 : Nat) : Int)) (congrArg (D.int IntKind.i64) (show IntKind.wrap IntKind.i64 ((↑i : Int) + (1 : Int)) = ((i + 1 : Nat) : Int) from wrap_eq (by omega) (by omega) (by omega))) ?_
              refine ra0 (D.int IntKind.i64 (↑(i + (1 : Nat)) : Int)) ?_
              refine k_done (k_skip_back ?_)
              exact ⟨⟨i + 1, σ1, usedAt ns (nmL 2) (am[i] + 1), hs ++ [⟨letterN i, nmL 2, am[i] + 1⟩], bumpJ 3 0 (am[i] + 1) s0, bumpJ 3 1 (am[i] + 1) s1, bumpJ 3 2 (am[i] + 1) s2, bumpJ 3 3 (am[i] + 1) s3, bumpJ 3 4 (am[i] + 1) s4, .int .i64 2, .int .i64 (am[i] + 1), .int .i64 3⟩, ⟨by simp only []; omega, I1⟩, by simp only []; omega, by kernel_rfl, rfl⟩
          · obtain ⟨σ1, hR, I1⟩ := lines_step I c3 3 (by decide) (am[i] + 1) (by omega) (by omega)
            refine k_seq (k_seq ?_)
            refine rv (D.int IntKind.i64 (↑i : Int)) ?_
            refine rv (D.sl (u16s am) none) ?_
            refine rve (D.int IntKind.i64 (↑(List.length (u16s am)) : Int)) (.int IntKind.i64 ((↑(List.length am) : Int))) (by simp only [ints, eInt, rows, eInts, bools, eBool, trips, eTrip, i8s, u16s, u8s, acts, List.length_map]) ?_
            refine rv (D.bool (decide ((↑i : Int) < (↑(List.length am) : Int)))) ?_
            refine rv (D.bool (decide ((↑i : Int) < (↑(List.length am) : Int)))) ?_
            refine rkn 45 (decide ((↑i : Int) < (↑(List.length am) : Int))) true (decide_eq_true (by omega)) ?_
            refine rv (D.int IntKind.i64 (↑i : Int)) ?_
            refine rv (D.sl (u8s at_) none) ?_
            refine rve (D.int IntKind.i64 (↑(List.length (u8s at_)) : Int)) (.int IntKind.i64 ((↑(List.length at_) : Int))) (by simp only [ints, eInt, rows, eInts, bools, eBool, trips, eTrip, i8s, u16s, u8s, acts, List.length_map]) ?_
            refine rv (D.bool (decide ((↑i : Int) < (↑(List.length at_) : Int)))) ?_
            refine rv (D.bool (decide ((↑i : Int) < (↑(List.length at_) : Int)))) ?_
            refine rv (D.bool (decide ((↑i : Int) < (↑(List.length at_) : Int)))) ?_
            refine rkn 51 (decide ((↑i : Int) < (↑(List.length at_) : Int))) true (decide_eq_true (by omega)) ?_
            refine rv (D.int IntKind.i64 (↑i : Int)) ?_
            refine rv (D.bool (decide ((↑i : Int) < (20 : Int)))) ?_
            refine rv (D.bool (decide ((↑i : Int) < (20 : Int)))) ?_
            refine k_done (k_skip_seq ?_)
            refine rkn 54 (decide ((↑i : Int) < (20 : Int))) true (decide_eq_true (by omega)) ?_
            refine kct (k_skip_seq (k_seq (k_block (k_seq ?_))))
            refine rv (D.sl (u8s at_) none) ?_
            refine rv (D.int IntKind.i64 (↑i : Int)) ?_
            refine runs_index (at_) (fun n => [D.int IntKind.u8 n]) (o := none) (kd := IntKind.i64) (i) (by kernel_rfl) (by kernel_rfl) (by kernel_rfl) (by assumption) (by kernel_rfl) ?_
            refine rv (D.int IntKind.u8 at_[i]) ?_
            refine rve (D.int IntKind.u8 (Int.tmod at_[i] (5 : Int))) (.int IntKind.u8 (3 : Int)) (congrArg (D.int IntKind.u8) (show Int.tmod at_[i] (5 : Int) = (3 : Int) from hK)) ?_
            refine rv (D.int IntKind.i64 (3 : Int)) ?_
            refine ra0 (D.int IntKind.i64 (3 : Int)) ?_
            refine k_done (k_skip_seq (k_seq ?_))
            refine rv (D.sl (u16s am) none) ?_
            refine rv (D.int IntKind.i64 (↑i : Int)) ?_
            refine runs_index (am) (fun n => [D.int IntKind.u16 n]) (o := none) (kd := IntKind.i64) (i) (by kernel_rfl) (by kernel_rfl) (by kernel_rfl) (by assumption) (by kernel_rfl) ?_
            refine rv (D.int IntKind.u16 am[i]) ?_
            refine rve (D.int IntKind.i64 (IntKind.wrap IntKind.i64 am[i])) (.int IntKind.i64 (am[i])) (congrArg (D.int IntKind.i64) (show IntKind.wrap IntKind.i64 am[i] = (am[i]) from wrap_eq (by omega) (by omega) (by omega))) ?_
            refine rve (D.int IntKind.i64 (IntKind.wrap IntKind.i64 (am[i] + (1 : Int)))) (.int IntKind.i64 (am[i] + (1 : Int))) (congrArg (D.int IntKind.i64) (show IntKind.wrap IntKind.i64 (am[i] + (1 : Int)) = (am[i] + (1 : Int)) from wrap_eq (by omega) (by omega) (by omega))) ?_
            refine ra0 (D.int IntKind.i64 (am[i] + (1 : Int))) ?_
            refine k_done (k_skip_seq (k_seq (k_seq ?_)))
            refine rv (D.ptr (2 : Nat) (0 : Nat)) ?_
            refine rv (D.sl [[D.str [(97 : UInt8)]], [D.str [(98 : UInt8)]], [D.str [(99 : UInt8)]], [D.str [(100 : UInt8)]], [D.str [(101 : UInt8)]]] none) ?_
            refine rv (D.int IntKind.i64 (3 : Int)) ?_
            refine rv (D.ref [D.str [(100 : UInt8)]]) ?_
            refine rv (D.str [(100 : UInt8)]) ?_
            refine rv (D.int IntKind.i64 (↑i : Int)) ?_
            refine rv (D.int IntKind.i64 (↑i : Int)) ?_
            refine rve (D.int IntKind.i64 (IntKind.wrap IntKind.i64 ((↑i : Int) + (1 : Int)))) (.int IntKind.i64 ((i + 1 : Nat) : Int)) (congrArg (D.int IntKind.i64) (show IntKind.wrap IntKind.i64 ((↑i : Int) + (1 : Int)) = ((i + 1 : Nat) : Int) from wrap_eq (by omega) (by omega) (by omega))) ?_
            refine runs_cut ([(97 : UInt8), (98 : UInt8), (99 : UInt8), (100 : UInt8), (101 : UInt8), (102 : UInt8), (103 : UInt8), (104 : UInt8), (105 : UInt8), (106 : UInt8), (107 : UInt8), (108 : UInt8), (109 : UInt8), (110 : UInt8), (111 : UInt8), (112 : UInt8), (113 : UInt8), (114 : UInt8), (115 : UInt8), (116 : UInt8)]) _ (i) (i + (1 : Nat)) (by kernel_rfl) (by kernel_rfl) (loD_nat (k := IntKind.i64) (by kernel_rfl)) (hiD_nat (k := IntKind.i64) (by kernel_rfl)) (by simp only [List.length_cons, List.length_nil]; omega) (by assumption) ?_
            refine rv (D.int IntKind.i64 (am[i] + (1 : Int))) ?_
            refine runs_call_st ([D.ptr (2 : Nat) (0 : Nat), D.str [(100 : UInt8)], D.str (letterN i), D.int IntKind.i64 (am[i] + (1 : Int))]) (by kernel_rfl) (by kernel_rfl) (by kernel_rfl) (by kernel_rfl) (hR) ?_
            refine rv (D.bool false) ?_
            refine k_done (k_skip_seq (kcf (k_skip_seq (k_seq ?_))))
            refine rv (D.int IntKind.i64 (0 : Int)) ?_
            refine k_done (k_skip_seq (k_block ?_))
            refine k_loop (fun s : Nat × Int × Int × Int × Int × Int => g3 am at_ i s.2.1 s.2.2.1 s.2.2.2.1 s.2.2.2.2.1 s.2.2.2.2.2 3 (am[i] + 1) s.1) (fun _ => σ1) (fun s => s.1 ≤ 4 ∧ s.2.1 = bumpJ s.1 0 (am[i] + 1) s0 ∧ s.2.2.1 = bumpJ s.1 1 (am[i] + 1) s1 ∧ s.2.2.2.1 = bumpJ s.1 2 (am[i] + 1) s2 ∧ s.2.2.2.2.1 = bumpJ s.1 3 (am[i] + 1) s3 ∧ s.2.2.2.2.2 = bumpJ s.1 4 (am[i] + 1) s4) (fun s => 4 - s.1) (0, s0, s1, s2, s3, s4) (by kernel_rfl) (by kernel_rfl) ⟨by simp, rfl, rfl, rfl, rfl, rfl⟩ (fun s hs => by omega) ?_
            rintro ⟨j, a0, a1, a2, a3, a4⟩ ⟨hj, e0, e1, e2, e3, e4⟩
            simp only at hj e0 e1 e2 e3 e4
            show Runs (runC _ _ _ (g3 am at_ i a0 a1 a2 a3 a4 3 (am[i] + 1) j) σ1) _
            unfold g3 gB qN5 l6_1
            have h6 : j = 0 ∨ j = 1 ∨ j = 2 ∨ j = 3 ∨ j = 4 := by omega
            rcases h6 with rfl | rfl | rfl | rfl | rfl
            · rw [e0, e1, e2, e3, e4]
              have q0 := bumpJ_le (j := 0) (m := 0) (show 1 ≤ am[i] + 1 by omega) (by omega) I.b0
              have q1 := bumpJ_le (j := 0) (m := 1) (show 1 ≤ am[i] + 1 by omega) (by omega) I.b1
              have q2 := bumpJ_le (j := 0) (m := 2) (show 1 ≤ am[i] + 1 by omega) (by omega) I.b2
              have q3 := bumpJ_le (j := 0) (m := 3) (show 1 ≤ am[i] + 1 by omega) (by omega) I.b3
              have q4 := bumpJ_le (j := 0) (m := 4) (show 1 ≤ am[i] + 1 by omega) (by omega) I.b4
              refine k_seq (k_seq ?_)
              refine rv (D.int IntKind.i64 (0 : Int)) ?_
              refine rv (D.int IntKind.i64 (3 : Int)) ?_
              refine rv (D.bool true) ?_
              refine k_done (k_skip_seq (kct (k_skip_seq (k_seq (k_block ?_)))))
              refine rv (D.int IntKind.i64 (0 : Int)) ?_
              refine rv (D.lptr (10 : Nat) (0 : Nat)) ?_
              refine rv (D.int IntKind.i64 (bumpJ (0 : Nat) (0 : Nat) (am[i] + (1 : Int)) s0)) ?_
              refine rv (D.int IntKind.i64 (am[i] + (1 : Int))) ?_
              refine rve (D.int IntKind.i64 (IntKind.wrap IntKind.i64 (bumpJ (0 : Nat) (0 : Nat) (am[i] + (1 : Int)) s0 + (am[i] + (1 : Int))))) (.int IntKind.i64 (bumpJ (0 : Nat) (0 : Nat) (am[i] + (1 : Int)) s0 + (am[i] + (1 : Int)))) (congrArg (D.int IntKind.i64) (show IntKind.wrap IntKind.i64 (bumpJ (0 : Nat) (0 : Nat) (am[i] + (1 : Int)) s0 + (am[i] + (1 : Int))) = (bumpJ (0 : Nat) (0 : Nat) (am[i] + (1 : Int)) s0 + (am[i] + (1 : Int))) from wrap_eq (by omega) (by omega) (by omega))) ?_
              refine rv (D.lptr (10 : Nat) (0 : Nat)) ?_
              refine rgf (D.junk) (σ1) ?_
              refine k_done (k_skip_block (k_skip_seq ?_))
              refine rv (D.int IntKind.i64 (0 : Int)) ?_
              refine rv (D.int IntKind.i64 (1 : Int)) ?_
              refine ra0 (D.int IntKind.i64 (1 : Int)) ?_
              refine k_done (k_skip_back ?_)
              exact ⟨(1, bumpJ 1 0 (am[i] + 1) s0, bumpJ 1 1 (am[i] + 1) s1, bumpJ 1 2 (am[i] + 1) s2, bumpJ 1 3 (am[i] + 1) s3, bumpJ 1 4 (am[i] + 1) s4), ⟨by simp, rfl, rfl, rfl, rfl, rfl⟩, by simp, by kernel_rfl, rfl⟩
            · rw [e0, e1, e2, e3, e4]
              have q0 := bumpJ_le (j := 1) (m := 0) (show 1 ≤ am[i] + 1 by omega) (by omega) I.b0
              have q1 := bumpJ_le (j := 1) (m := 1) (show 1 ≤ am[i] + 1 by omega) (by omega) I.b1
              have q2 := bumpJ_le (j := 1) (m := 2) (show 1 ≤ am[i] + 1 by omega) (by omega) I.b2
              have q3 := bumpJ_le (j := 1) (m := 3) (show 1 ≤ am[i] + 1 by omega) (by omega) I.b3
              have q4 := bumpJ_le (j := 1) (m := 4) (show 1 ≤ am[i] + 1 by omega) (by omega) I.b4
              refine k_seq (k_seq ?_)
              refine rv (D.int IntKind.i64 (1 : Int)) ?_
              refine rv (D.int IntKind.i64 (3 : Int)) ?_
              refine rv (D.bool true) ?_
              refine k_done (k_skip_seq (kct (k_skip_seq (k_seq (k_block ?_)))))
              refine rv (D.int IntKind.i64 (1 : Int)) ?_
              refine rv (D.lptr (10 : Nat) (1 : Nat)) ?_
              refine rv (D.int IntKind.i64 (bumpJ (1 : Nat) (1 : Nat) (am[i] + (1 : Int)) s1)) ?_
              refine rv (D.int IntKind.i64 (am[i] + (1 : Int))) ?_
              refine rve (D.int IntKind.i64 (IntKind.wrap IntKind.i64 (bumpJ (1 : Nat) (1 : Nat) (am[i] + (1 : Int)) s1 + (am[i] + (1 : Int))))) (.int IntKind.i64 (bumpJ (1 : Nat) (1 : Nat) (am[i] + (1 : Int)) s1 + (am[i] + (1 : Int)))) (congrArg (D.int IntKind.i64) (show IntKind.wrap IntKind.i64 (bumpJ (1 : Nat) (1 : Nat) (am[i] + (1 : Int)) s1 + (am[i] + (1 : Int))) = (bumpJ (1 : Nat) (1 : Nat) (am[i] + (1 : Int)) s1 + (am[i] + (1 : Int))) from wrap_eq (by omega) (by omega) (by omega))) ?_
              refine rv (D.lptr (10 : Nat) (1 : Nat)) ?_
              refine rgf (D.junk) (σ1) ?_
              refine k_done (k_skip_block (k_skip_seq ?_))
              refine rv (D.int IntKind.i64 (1 : Int)) ?_
              refine rv (D.int IntKind.i64 (2 : Int)) ?_
              refine ra0 (D.int IntKind.i64 (2 : Int)) ?_
              refine k_done (k_skip_back ?_)
              exact ⟨(2, bumpJ 2 0 (am[i] + 1) s0, bumpJ 2 1 (am[i] + 1) s1, bumpJ 2 2 (am[i] + 1) s2, bumpJ 2 3 (am[i] + 1) s3, bumpJ 2 4 (am[i] + 1) s4), ⟨by simp, rfl, rfl, rfl, rfl, rfl⟩, by simp, by kernel_rfl, rfl⟩
            · rw [e0, e1, e2, e3, e4]
              have q0 := bumpJ_le (j := 2) (m := 0) (show 1 ≤ am[i] + 1 by omega) (by omega) I.b0
              have q1 := bumpJ_le (j := 2) (m := 1) (show 1 ≤ am[i] + 1 by omega) (by omega) I.b1
              have q2 := bumpJ_le (j := 2) (m := 2) (show 1 ≤ am[i] + 1 by omega) (by omega) I.b2
              have q3 := bumpJ_le (j := 2) (m := 3) (show 1 ≤ am[i] + 1 by omega) (by omega) I.b3
              have q4 := bumpJ_le (j := 2) (m := 4) (show 1 ≤ am[i] + 1 by omega) (by omega) I.b4
              refine k_seq (k_seq ?_)
              refine rv (D.int IntKind.i64 (2 : Int)) ?_
              refine rv (D.int IntKind.i64 (3 : Int)) ?_
              refine rv (D.bool true) ?_
              refine k_done (k_skip_seq (kct (k_skip_seq (k_seq (k_block ?_)))))
              refine rv (D.int IntKind.i64 (2 : Int)) ?_
              refine rv (D.lptr (10 : Nat) (2 : Nat)) ?_
              refine rv (D.int IntKind.i64 (bumpJ (2 : Nat) (2 : Nat) (am[i] + (1 : Int)) s2)) ?_
              refine rv (D.int IntKind.i64 (am[i] + (1 : Int))) ?_
              refine rve (D.int IntKind.i64 (IntKind.wrap IntKind.i64 (bumpJ (2 : Nat) (2 : Nat) (am[i] + (1 : Int)) s2 + (am[i] + (1 : Int))))) (.int IntKind.i64 (bumpJ (2 : Nat) (2 : Nat) (am[i] + (1 : Int)) s2 + (am[i] + (1 : Int)))) (congrArg (D.int IntKind.i64) (show IntKind.wrap IntKind.i64 (bumpJ (2 : Nat) (2 : Nat) (am[i] + (1 : Int)) s2 + (am[i] + (1 : Int))) = (bumpJ (2 : Nat) (2 : Nat) (am[i] + (1 : Int)) s2 + (am[i] + (1 : Int))) from wrap_eq (by omega) (by omega) (by omega))) ?_
              refine rv (D.lptr (10 : Nat) (2 : Nat)) ?_
              refine rgf (D.junk) (σ1) ?_
              refine k_done (k_skip_block (k_skip_seq ?_))
              refine rv (D.int IntKind.i64 (2 : Int)) ?_
              refine rv (D.int IntKind.i64 (3 : Int)) ?_
              refine ra0 (D.int IntKind.i64 (3 : Int)) ?_
              refine k_done (k_skip_back ?_)
              exact ⟨(3, bumpJ 3 0 (am[i] + 1) s0, bumpJ 3 1 (am[i] + 1) s1, bumpJ 3 2 (am[i] + 1) s2, bumpJ 3 3 (am[i] + 1) s3, bumpJ 3 4 (am[i] + 1) s4), ⟨by simp, rfl, rfl, rfl, rfl, rfl⟩, by simp, by kernel_rfl, rfl⟩
            · rw [e0, e1, e2, e3, e4]
              have q0 := bumpJ_le (j := 3) (m := 0) (show 1 ≤ am[i] + 1 by omega) (by omega) I.b0
              have q1 := bumpJ_le (j := 3) (m := 1) (show 1 ≤ am[i] + 1 by omega) (by omega) I.b1
              have q2 := bumpJ_le (j := 3) (m := 2) (show 1 ≤ am[i] + 1 by omega) (by omega) I.b2
              have q3 := bumpJ_le (j := 3) (m := 3) (show 1 ≤ am[i] + 1 by omega) (by omega) I.b3
              have q4 := bumpJ_le (j := 3) (m := 4) (show 1 ≤ am[i] + 1 by omega) (by omega) I.b4
              refine k_seq (k_seq ?_)
              refine rv (D.int IntKind.i64 (3 : Int)) ?_
              refine rv (D.int IntKind.i64 (3 : Int)) ?_
              refine rv (D.bool true) ?_
              refine k_done (k_skip_seq (kct (k_skip_seq (k_seq (k_block ?_)))))
              refine rv (D.int IntKind.i64 (3 : Int)) ?_
              refine rv (D.lptr (10 : Nat) (3 : Nat)) ?_
              refine rv (D.int IntKind.i64 (bumpJ (3 : Nat) (3 : Nat) (am[i] + (1 : Int)) s3)) ?_
              refine rv (D.int IntKind.i64 (am[i] + (1 : Int))) ?_
              refine rve (D.int IntKind.i64 (IntKind.wrap IntKind.i64 (bumpJ (3 : Nat) (3 : Nat) (am[i] + (1 : Int)) s3 + (am[i] + (1 : Int))))) (.int IntKind.i64 (bumpJ (3 : Nat) (3 : Nat) (am[i] + (1 : Int)) s3 + (am[i] + (1 : Int)))) (congrArg (D.int IntKind.i64) (show IntKind.wrap IntKind.i64 (bumpJ (3 : Nat) (3 : Nat) (am[i] + (1 : Int)) s3 + (am[i] + (1 : Int))) = (bumpJ (3 : Nat) (3 : Nat) (am[i] + (1 : Int)) s3 + (am[i] + (1 : Int))) from wrap_eq (by omega) (by omega) (by omega))) ?_
              refine rv (D.lptr (10 : Nat) (3 : Nat)) ?_
              refine rgf (D.junk) (σ1) ?_
              refine k_done (k_skip_block (k_skip_seq ?_))
              refine rv (D.int IntKind.i64 (3 : Int)) ?_
              refine rv (D.int IntKind.i64 (4 : Int)) ?_
              refine ra0 (D.int IntKind.i64 (4 : Int)) ?_
              refine k_done (k_skip_back ?_)
              exact ⟨(4, bumpJ 4 0 (am[i] + 1) s0, bumpJ 4 1 (am[i] + 1) s1, bumpJ 4 2 (am[i] + 1) s2, bumpJ 4 3 (am[i] + 1) s3, bumpJ 4 4 (am[i] + 1) s4), ⟨by simp, rfl, rfl, rfl, rfl, rfl⟩, by simp, by kernel_rfl, rfl⟩
            · rw [e0, e1, e2, e3, e4]
              have q0 := bumpJ_le (j := 4) (m := 0) (show 1 ≤ am[i] + 1 by omega) (by omega) I.b0
              have q1 := bumpJ_le (j := 4) (m := 1) (show 1 ≤ am[i] + 1 by omega) (by omega) I.b1
              have q2 := bumpJ_le (j := 4) (m := 2) (show 1 ≤ am[i] + 1 by omega) (by omega) I.b2
              have q3 := bumpJ_le (j := 4) (m := 3) (show 1 ≤ am[i] + 1 by omega) (by omega) I.b3
              have q4 := bumpJ_le (j := 4) (m := 4) (show 1 ≤ am[i] + 1 by omega) (by omega) I.b4
              refine k_seq (k_seq ?_)
              refine rv (D.int IntKind.i64 (4 : Int)) ?_
              refine rv (D.int IntKind.i64 (3 : Int)) ?_
              refine rv (D.bool false) ?_
              refine k_done (k_skip_seq (kcf (k_exit_seq (k_exit_back (k_exit_hit rfl (k_skip_block (k_skip_seq ?_)))))))
              refine rv (D.int IntKind.i64 (↑i : Int)) ?_
              refine rve (D.int IntKind.i64 (IntKind.wrap IntKind.i64 ((↑i : Int) + (1 : Int)))) (.int IntKind.i64 ((i + 1 : Nat) : Int)) (congrArg (D.int IntKind.i64) (show IntKind.wrap IntKind.i64 ((↑i : Int) + (1 : Int)) = ((i + 1 : Nat) : Int) from wrap_eq (by omega) (by omega) (by omega))) ?_
              refine ra0 (D.int IntKind.i64 (↑(i + (1 : Nat)) : Int)) ?_
              refine k_done (k_skip_back ?_)
              exact ⟨⟨i + 1, σ1, usedAt ns (nmL 3) (am[i] + 1), hs ++ [⟨letterN i, nmL 3, am[i] + 1⟩], bumpJ 4 0 (am[i] + 1) s0, bumpJ 4 1 (am[i] + 1) s1, bumpJ 4 2 (am[i] + 1) s2, bumpJ 4 3 (am[i] + 1) s3, bumpJ 4 4 (am[i] + 1) s4, .int .i64 3, .int .i64 (am[i] + 1), .int .i64 4⟩, ⟨by simp only []; omega, I1⟩, by simp only []; omega, by kernel_rfl, rfl⟩
          · obtain ⟨σ1, hR, I1⟩ := lines_step I c3 4 (by decide) (am[i] + 1) (by omega) (by omega)
            refine k_seq (k_seq ?_)
            refine rv (D.int IntKind.i64 (↑i : Int)) ?_
            refine rv (D.sl (u16s am) none) ?_
            refine rve (D.int IntKind.i64 (↑(List.length (u16s am)) : Int)) (.int IntKind.i64 ((↑(List.length am) : Int))) (by simp only [ints, eInt, rows, eInts, bools, eBool, trips, eTrip, i8s, u16s, u8s, acts, List.length_map]) ?_
            refine rv (D.bool (decide ((↑i : Int) < (↑(List.length am) : Int)))) ?_
            refine rv (D.bool (decide ((↑i : Int) < (↑(List.length am) : Int)))) ?_
            refine rkn 45 (decide ((↑i : Int) < (↑(List.length am) : Int))) true (decide_eq_true (by omega)) ?_
            refine rv (D.int IntKind.i64 (↑i : Int)) ?_
            refine rv (D.sl (u8s at_) none) ?_
            refine rve (D.int IntKind.i64 (↑(List.length (u8s at_)) : Int)) (.int IntKind.i64 ((↑(List.length at_) : Int))) (by simp only [ints, eInt, rows, eInts, bools, eBool, trips, eTrip, i8s, u16s, u8s, acts, List.length_map]) ?_
            refine rv (D.bool (decide ((↑i : Int) < (↑(List.length at_) : Int)))) ?_
            refine rv (D.bool (decide ((↑i : Int) < (↑(List.length at_) : Int)))) ?_
            refine rv (D.bool (decide ((↑i : Int) < (↑(List.length at_) : Int)))) ?_
            refine rkn 51 (decide ((↑i : Int) < (↑(List.length at_) : Int))) true (decide_eq_true (by omega)) ?_
            refine rv (D.int IntKind.i64 (↑i : Int)) ?_
            refine rv (D.bool (decide ((↑i : Int) < (20 : Int)))) ?_
            refine rv (D.bool (decide ((↑i : Int) < (20 : Int)))) ?_
            refine k_done (k_skip_seq ?_)
            refine rkn 54 (decide ((↑i : Int) < (20 : Int))) true (decide_eq_true (by omega)) ?_
            refine kct (k_skip_seq (k_seq (k_block (k_seq ?_))))
            refine rv (D.sl (u8s at_) none) ?_
            refine rv (D.int IntKind.i64 (↑i : Int)) ?_
            refine runs_index (at_) (fun n => [D.int IntKind.u8 n]) (o := none) (kd := IntKind.i64) (i) (by kernel_rfl) (by kernel_rfl) (by kernel_rfl) (by assumption) (by kernel_rfl) ?_
            refine rv (D.int IntKind.u8 at_[i]) ?_
            refine rve (D.int IntKind.u8 (Int.tmod at_[i] (5 : Int))) (.int IntKind.u8 (4 : Int)) (congrArg (D.int IntKind.u8) (show Int.tmod at_[i] (5 : Int) = (4 : Int) from hK)) ?_
            refine rv (D.int IntKind.i64 (4 : Int)) ?_
            refine ra0 (D.int IntKind.i64 (4 : Int)) ?_
            refine k_done (k_skip_seq (k_seq ?_))
            refine rv (D.sl (u16s am) none) ?_
            refine rv (D.int IntKind.i64 (↑i : Int)) ?_
            refine runs_index (am) (fun n => [D.int IntKind.u16 n]) (o := none) (kd := IntKind.i64) (i) (by kernel_rfl) (by kernel_rfl) (by kernel_rfl) (by assumption) (by kernel_rfl) ?_
            refine rv (D.int IntKind.u16 am[i]) ?_
            refine rve (D.int IntKind.i64 (IntKind.wrap IntKind.i64 am[i])) (.int IntKind.i64 (am[i])) (congrArg (D.int IntKind.i64) (show IntKind.wrap IntKind.i64 am[i] = (am[i]) from wrap_eq (by omega) (by omega) (by omega))) ?_
            refine rve (D.int IntKind.i64 (IntKind.wrap IntKind.i64 (am[i] + (1 : Int)))) (.int IntKind.i64 (am[i] + (1 : Int))) (congrArg (D.int IntKind.i64) (show IntKind.wrap IntKind.i64 (am[i] + (1 : Int)) = (am[i] + (1 : Int)) from wrap_eq (by omega) (by omega) (by omega))) ?_
            refine ra0 (D.int IntKind.i64 (am[i] + (1 : Int))) ?_
            refine k_done (k_skip_seq (k_seq (k_seq ?_)))
            refine rv (D.ptr (2 : Nat) (0 : Nat)) ?_
            refine rv (D.sl [[D.str [(97 : UInt8)]], [D.str [(98 : UInt8)]], [D.str [(99 : UInt8)]], [D.str [(100 : UInt8)]], [D.str [(101 : UInt8)]]] none) ?_
            refine rv (D.int IntKind.i64 (4 : Int)) ?_
            refine rv (D.ref [D.str [(101 : UInt8)]]) ?_
            refine rv (D.str [(101 : UInt8)]) ?_
            refine rv (D.int IntKind.i64 (↑i : Int)) ?_
            refine rv (D.int IntKind.i64 (↑i : Int)) ?_
            refine rve (D.int IntKind.i64 (IntKind.wrap IntKind.i64 ((↑i : Int) + (1 : Int)))) (.int IntKind.i64 ((i + 1 : Nat) : Int)) (congrArg (D.int IntKind.i64) (show IntKind.wrap IntKind.i64 ((↑i : Int) + (1 : Int)) = ((i + 1 : Nat) : Int) from wrap_eq (by omega) (by omega) (by omega))) ?_
            refine runs_cut ([(97 : UInt8), (98 : UInt8), (99 : UInt8), (100 : UInt8), (101 : UInt8), (102 : UInt8), (103 : UInt8), (104 : UInt8), (105 : UInt8), (106 : UInt8), (107 : UInt8), (108 : UInt8), (109 : UInt8), (110 : UInt8), (111 : UInt8), (112 : UInt8), (113 : UInt8), (114 : UInt8), (115 : UInt8), (116 : UInt8)]) _ (i) (i + (1 : Nat)) (by kernel_rfl) (by kernel_rfl) (loD_nat (k := IntKind.i64) (by kernel_rfl)) (hiD_nat (k := IntKind.i64) (by kernel_rfl)) (by simp only [List.length_cons, List.length_nil]; omega) (by assumption) ?_
            refine rv (D.int IntKind.i64 (am[i] + (1 : Int))) ?_
            refine runs_call_st ([D.ptr (2 : Nat) (0 : Nat), D.str [(101 : UInt8)], D.str (letterN i), D.int IntKind.i64 (am[i] + (1 : Int))]) (by kernel_rfl) (by kernel_rfl) (by kernel_rfl) (by kernel_rfl) (hR) ?_
            refine rv (D.bool false) ?_
            refine k_done (k_skip_seq (kcf (k_skip_seq (k_seq ?_))))
            refine rv (D.int IntKind.i64 (0 : Int)) ?_
            refine k_done (k_skip_seq (k_block ?_))
            refine k_loop (fun s : Nat × Int × Int × Int × Int × Int => g3 am at_ i s.2.1 s.2.2.1 s.2.2.2.1 s.2.2.2.2.1 s.2.2.2.2.2 4 (am[i] + 1) s.1) (fun _ => σ1) (fun s => s.1 ≤ 5 ∧ s.2.1 = bumpJ s.1 0 (am[i] + 1) s0 ∧ s.2.2.1 = bumpJ s.1 1 (am[i] + 1) s1 ∧ s.2.2.2.1 = bumpJ s.1 2 (am[i] + 1) s2 ∧ s.2.2.2.2.1 = bumpJ s.1 3 (am[i] + 1) s3 ∧ s.2.2.2.2.2 = bumpJ s.1 4 (am[i] + 1) s4) (fun s => 5 - s.1) (0, s0, s1, s2, s3, s4) (by kernel_rfl) (by kernel_rfl) ⟨by simp, rfl, rfl, rfl, rfl, rfl⟩ (fun s hs => by omega) ?_
            rintro ⟨j, a0, a1, a2, a3, a4⟩ ⟨hj, e0, e1, e2, e3, e4⟩
            simp only at hj e0 e1 e2 e3 e4
            show Runs (runC _ _ _ (g3 am at_ i a0 a1 a2 a3 a4 4 (am[i] + 1) j) σ1) _
            unfold g3 gB qN5 l6_1
            have h6 : j = 0 ∨ j = 1 ∨ j = 2 ∨ j = 3 ∨ j = 4 ∨ j = 5 := by omega
            rcases h6 with rfl | rfl | rfl | rfl | rfl | rfl
            · rw [e0, e1, e2, e3, e4]
              have q0 := bumpJ_le (j := 0) (m := 0) (show 1 ≤ am[i] + 1 by omega) (by omega) I.b0
              have q1 := bumpJ_le (j := 0) (m := 1) (show 1 ≤ am[i] + 1 by omega) (by omega) I.b1
              have q2 := bumpJ_le (j := 0) (m := 2) (show 1 ≤ am[i] + 1 by omega) (by omega) I.b2
              have q3 := bumpJ_le (j := 0) (m := 3) (show 1 ≤ am[i] + 1 by omega) (by omega) I.b3
              have q4 := bumpJ_le (j := 0) (m := 4) (show 1 ≤ am[i] + 1 by omega) (by omega) I.b4
              refine k_seq (k_seq ?_)
              refine rv (D.int IntKind.i64 (0 : Int)) ?_
              refine rv (D.int IntKind.i64 (4 : Int)) ?_
              refine rv (D.bool true) ?_
              refine k_done (k_skip_seq (kct (k_skip_seq (k_seq (k_block ?_)))))
              refine rv (D.int IntKind.i64 (0 : Int)) ?_
              refine rv (D.lptr (10 : Nat) (0 : Nat)) ?_
              refine rv (D.int IntKind.i64 (bumpJ (0 : Nat) (0 : Nat) (am[i] + (1 : Int)) s0)) ?_
              refine rv (D.int IntKind.i64 (am[i] + (1 : Int))) ?_
              refine rve (D.int IntKind.i64 (IntKind.wrap IntKind.i64 (bumpJ (0 : Nat) (0 : Nat) (am[i] + (1 : Int)) s0 + (am[i] + (1 : Int))))) (.int IntKind.i64 (bumpJ (0 : Nat) (0 : Nat) (am[i] + (1 : Int)) s0 + (am[i] + (1 : Int)))) (congrArg (D.int IntKind.i64) (show IntKind.wrap IntKind.i64 (bumpJ (0 : Nat) (0 : Nat) (am[i] + (1 : Int)) s0 + (am[i] + (1 : Int))) = (bumpJ (0 : Nat) (0 : Nat) (am[i] + (1 : Int)) s0 + (am[i] + (1 : Int))) from wrap_eq (by omega) (by omega) (by omega))) ?_
              refine rv (D.lptr (10 : Nat) (0 : Nat)) ?_
              refine rgf (D.junk) (σ1) ?_
              refine k_done (k_skip_block (k_skip_seq ?_))
              refine rv (D.int IntKind.i64 (0 : Int)) ?_
              refine rv (D.int IntKind.i64 (1 : Int)) ?_
              refine ra0 (D.int IntKind.i64 (1 : Int)) ?_
              refine k_done (k_skip_back ?_)
              exact ⟨(1, bumpJ 1 0 (am[i] + 1) s0, bumpJ 1 1 (am[i] + 1) s1, bumpJ 1 2 (am[i] + 1) s2, bumpJ 1 3 (am[i] + 1) s3, bumpJ 1 4 (am[i] + 1) s4), ⟨by simp, rfl, rfl, rfl, rfl, rfl⟩, by simp, by kernel_rfl, rfl⟩
            · rw [e0, e1, e2, e3, e4]
              have q0 := bumpJ_le (j := 1) (m := 0) (show 1 ≤ am[i] + 1 by omega) (by omega) I.b0
              have q1 := bumpJ_le (j := 1) (m := 1) (show 1 ≤ am[i] + 1 by omega) (by omega) I.b1
              have q2 := bumpJ_le (j := 1) (m := 2) (show 1 ≤ am[i] + 1 by omega) (by omega) I.b2
              have q3 := bumpJ_le (j := 1) (m := 3) (show 1 ≤ am[i] + 1 by omega) (by omega) I.b3
              have q4 := bumpJ_le (j := 1) (m := 4) (show 1 ≤ am[i] + 1 by omega) (by omega) I.b4
              refine k_seq (k_seq ?_)
              refine rv (D.int IntKind.i64 (1 : Int)) ?_
              refine rv (D.int IntKind.i64 (4 : Int)) ?_
              refine rv (D.bool true) ?_
              refine k_done (k_skip_seq (kct (k_skip_seq (k_seq (k_block ?_)))))
              refine rv (D.int IntKind.i64 (1 : Int)) ?_
              refine rv (D.lptr (10 : Nat) (1 : Nat)) ?_
              refine rv (D.int IntKind.i64 (bumpJ (1 : Nat) (1 : Nat) (am[i] + (1 : Int)) s1)) ?_
              refine rv (D.int IntKind.i64 (am[i] + (1 : Int))) ?_
              refine rve (D.int IntKind.i64 (IntKind.wrap IntKind.i64 (bumpJ (1 : Nat) (1 : Nat) (am[i] + (1 : Int)) s1 + (am[i] + (1 : Int))))) (.int IntKind.i64 (bumpJ (1 : Nat) (1 : Nat) (am[i] + (1 : Int)) s1 + (am[i] + (1 : Int)))) (congrArg (D.int IntKind.i64) (show IntKind.wrap IntKind.i64 (bumpJ (1 : Nat) (1 : Nat) (am[i] + (1 : Int)) s1 + (am[i] + (1 : Int))) = (bumpJ (1 : Nat) (1 : Nat) (am[i] + (1 : Int)) s1 + (am[i] + (1 : Int))) from wrap_eq (by omega) (by omega) (by omega))) ?_
              refine rv (D.lptr (10 : Nat) (1 : Nat)) ?_
              refine rgf (D.junk) (σ1) ?_
              refine k_done (k_skip_block (k_skip_seq ?_))
              refine rv (D.int IntKind.i64 (1 : Int)) ?_
              refine rv (D.int IntKind.i64 (2 : Int)) ?_
              refine ra0 (D.int IntKind.i64 (2 : Int)) ?_
              refine k_done (k_skip_back ?_)
              exact ⟨(2, bumpJ 2 0 (am[i] + 1) s0, bumpJ 2 1 (am[i] + 1) s1, bumpJ 2 2 (am[i] + 1) s2, bumpJ 2 3 (am[i] + 1) s3, bumpJ 2 4 (am[i] + 1) s4), ⟨by simp, rfl, rfl, rfl, rfl, rfl⟩, by simp, by kernel_rfl, rfl⟩
            · rw [e0, e1, e2, e3, e4]
              have q0 := bumpJ_le (j := 2) (m := 0) (show 1 ≤ am[i] + 1 by omega) (by omega) I.b0
              have q1 := bumpJ_le (j := 2) (m := 1) (show 1 ≤ am[i] + 1 by omega) (by omega) I.b1
              have q2 := bumpJ_le (j := 2) (m := 2) (show 1 ≤ am[i] + 1 by omega) (by omega) I.b2
              have q3 := bumpJ_le (j := 2) (m := 3) (show 1 ≤ am[i] + 1 by omega) (by omega) I.b3
              have q4 := bumpJ_le (j := 2) (m := 4) (show 1 ≤ am[i] + 1 by omega) (by omega) I.b4
              refine k_seq (k_seq ?_)
              refine rv (D.int IntKind.i64 (2 : Int)) ?_
              refine rv (D.int IntKind.i64 (4 : Int)) ?_
              refine rv (D.bool true) ?_
              refine k_done (k_skip_seq (kct (k_skip_seq (k_seq (k_block ?_)))))
              refine rv (D.int IntKind.i64 (2 : Int)) ?_
              refine rv (D.lptr (10 : Nat) (2 : Nat)) ?_
              refine rv (D.int IntKind.i64 (bumpJ (2 : Nat) (2 : Nat) (am[i] + (1 : Int)) s2)) ?_
              refine rv (D.int IntKind.i64 (am[i] + (1 : Int))) ?_
              refine rve (D.int IntKind.i64 (IntKind.wrap IntKind.i64 (bumpJ (2 : Nat) (2 : Nat) (am[i] + (1 : Int)) s2 + (am[i] + (1 : Int))))) (.int IntKind.i64 (bumpJ (2 : Nat) (2 : Nat) (am[i] + (1 : Int)) s2 + (am[i] + (1 : Int)))) (congrArg (D.int IntKind.i64) (show IntKind.wrap IntKind.i64 (bumpJ (2 : Nat) (2 : Nat) (am[i] + (1 : Int)) s2 + (am[i] + (1 : Int))) = (bumpJ (2 : Nat) (2 : Nat) (am[i] + (1 : Int)) s2 + (am[i] + (1 : Int))) from wrap_eq (by omega) (by omega) (by omega))) ?_
              refine rv (D.lptr (10 : Nat) (2 : Nat)) ?_
              refine rgf (D.junk) (σ1) ?_
              refine k_done (k_skip_block (k_skip_seq ?_))
              refine rv (D.int IntKind.i64 (2 : Int)) ?_
              refine rv (D.int IntKind.i64 (3 : Int)) ?_
              refine ra0 (D.int IntKind.i64 (3 : Int)) ?_
              refine k_done (k_skip_back ?_)
              exact ⟨(3, bumpJ 3 0 (am[i] + 1) s0, bumpJ 3 1 (am[i] + 1) s1, bumpJ 3 2 (am[i] + 1) s2, bumpJ 3 3 (am[i] + 1) s3, bumpJ 3 4 (am[i] + 1) s4), ⟨by simp, rfl, rfl, rfl, rfl, rfl⟩, by simp, by kernel_rfl, rfl⟩
            · rw [e0, e1, e2, e3, e4]
              have q0 := bumpJ_le (j := 3) (m := 0) (show 1 ≤ am[i] + 1 by omega) (by omega) I.b0
              have q1 := bumpJ_le (j := 3) (m := 1) (show 1 ≤ am[i] + 1 by omega) (by omega) I.b1
              have q2 := bumpJ_le (j := 3) (m := 2) (show 1 ≤ am[i] + 1 by omega) (by omega) I.b2
              have q3 := bumpJ_le (j := 3) (m := 3) (show 1 ≤ am[i] + 1 by omega) (by omega) I.b3
              have q4 := bumpJ_le (j := 3) (m := 4) (show 1 ≤ am[i] + 1 by omega) (by omega) I.b4
              refine k_seq (k_seq ?_)
              refine rv (D.int IntKind.i64 (3 : Int)) ?_
              refine rv (D.int IntKind.i64 (4 : Int)) ?_
              refine rv (D.bool true) ?_
              refine k_done (k_skip_seq (kct (k_skip_seq (k_seq (k_block ?_)))))
              refine rv (D.int IntKind.i64 (3 : Int)) ?_
              refine rv (D.lptr (10 : Nat) (3 : Nat)) ?_
              refine rv (D.int IntKind.i64 (bumpJ (3 : Nat) (3 : Nat) (am[i] + (1 : Int)) s3)) ?_
              refine rv (D.int IntKind.i64 (am[i] + (1 : Int))) ?_
              refine rve (D.int IntKind.i64 (IntKind.wrap IntKind.i64 (bumpJ (3 : Nat) (3 : Nat) (am[i] + (1 : Int)) s3 + (am[i] + (1 : Int))))) (.int IntKind.i64 (bumpJ (3 : Nat) (3 : Nat) (am[i] + (1 : Int)) s3 + (am[i] + (1 : Int)))) (congrArg (D.int IntKind.i64) (show IntKind.wrap IntKind.i64 (bumpJ (3 : Nat) (3 : Nat) (am[i] + (1 : Int)) s3 + (am[i] + (1 : Int))) = (bumpJ (3 : Nat) (3 : Nat) (am[i] + (1 : Int)) s3 + (am[i] + (1 : Int))) from wrap_eq (by omega) (by omega) (by omega))) ?_
              refine rv (D.lptr (10 : Nat) (3 : Nat)) ?_
              refine rgf (D.junk) (σ1) ?_
              refine k_done (k_skip_block (k_skip_seq ?_))
              refine rv (D.int IntKind.i64 (3 : Int)) ?_
              refine rv (D.int IntKind.i64 (4 : Int)) ?_
              refine ra0 (D.int IntKind.i64 (4 : Int)) ?_
              refine k_done (k_skip_back ?_)
              exact ⟨(4, bumpJ 4 0 (am[i] + 1) s0, bumpJ 4 1 (am[i] + 1) s1, bumpJ 4 2 (am[i] + 1) s2, bumpJ 4 3 (am[i] + 1) s3, bumpJ 4 4 (am[i] + 1) s4), ⟨by simp, rfl, rfl, rfl, rfl, rfl⟩, by simp, by kernel_rfl, rfl⟩
            · rw [e0, e1, e2, e3, e4]
              have q0 := bumpJ_le (j := 4) (m := 0) (show 1 ≤ am[i] + 1 by omega) (by omega) I.b0
              have q1 := bumpJ_le (j := 4) (m := 1) (show 1 ≤ am[i] + 1 by omega) (by omega) I.b1
              have q2 := bumpJ_le (j := 4) (m := 2) (show 1 ≤ am[i] + 1 by omega) (by omega) I.b2
              have q3 := bumpJ_le (j := 4) (m := 3) (show 1 ≤ am[i] + 1 by omega) (by omega) I.b3
              have q4 := bumpJ_le (j := 4) (m := 4) (show 1 ≤ am[i] + 1 by omega) (by omega) I.b4
              refine k_seq (k_seq ?_)
              refine rv (D.int IntKind.i64 (4 : Int)) ?_
              refine rv (D.int IntKind.i64 (4 : Int)) ?_
              refine rv (D.bool true) ?_
              refine k_done (k_skip_seq (kct (k_skip_seq (k_seq (k_block ?_)))))
              refine rv (D.int IntKind.i64 (4 : Int)) ?_
              refine rv (D.lptr (10 : Nat) (4 : Nat)) ?_
              refine rv (D.int IntKind.i64 (bumpJ (4 : Nat) (4 : Nat) (am[i] + (1 : Int)) s4)) ?_
              refine rv (D.int IntKind.i64 (am[i] + (1 : Int))) ?_
              refine rve (D.int IntKind.i64 (IntKind.wrap IntKind.i64 (bumpJ (4 : Nat) (4 : Nat) (am[i] + (1 : Int)) s4 + (am[i] + (1 : Int))))) (.int IntKind.i64 (bumpJ (4 : Nat) (4 : Nat) (am[i] + (1 : Int)) s4 + (am[i] + (1 : Int)))) (congrArg (D.int IntKind.i64) (show IntKind.wrap IntKind.i64 (bumpJ (4 : Nat) (4 : Nat) (am[i] + (1 : Int)) s4 + (am[i] + (1 : Int))) = (bumpJ (4 : Nat) (4 : Nat) (am[i] + (1 : Int)) s4 + (am[i] + (1 : Int))) from wrap_eq (by omega) (by omega) (by omega))) ?_
              refine rv (D.lptr (10 : Nat) (4 : Nat)) ?_
              refine rgf (D.junk) (σ1) ?_
              refine k_done (k_skip_block (k_skip_seq ?_))
              refine rv (D.int IntKind.i64 (4 : Int)) ?_
              refine rv (D.int IntKind.i64 (5 : Int)) ?_
              refine ra0 (D.int IntKind.i64 (5 : Int)) ?_
              refine k_done (k_skip_back ?_)
              exact ⟨(5, bumpJ 5 0 (am[i] + 1) s0, bumpJ 5 1 (am[i] + 1) s1, bumpJ 5 2 (am[i] + 1) s2, bumpJ 5 3 (am[i] + 1) s3, bumpJ 5 4 (am[i] + 1) s4), ⟨by simp, rfl, rfl, rfl, rfl, rfl⟩, by simp, by kernel_rfl, rfl⟩
            · rw [e0, e1, e2, e3, e4]
              have q0 := bumpJ_le (j := 5) (m := 0) (show 1 ≤ am[i] + 1 by omega) (by omega) I.b0
              have q1 := bumpJ_le (j := 5) (m := 1) (show 1 ≤ am[i] + 1 by omega) (by omega) I.b1
              have q2 := bumpJ_le (j := 5) (m := 2) (show 1 ≤ am[i] + 1 by omega) (by omega) I.b2
              have q3 := bumpJ_le (j := 5) (m := 3) (show 1 ≤ am[i] + 1 by omega) (by omega) I.b3
              have q4 := bumpJ_le (j := 5) (m := 4) (show 1 ≤ am[i] + 1 by omega) (by omega) I.b4
              refine k_seq (k_seq ?_)
              refine rv (D.int IntKind.i64 (5 : Int)) ?_
              refine rv (D.int IntKind.i64 (4 : Int)) ?_
              refine rv (D.bool false) ?_
              refine k_done (k_skip_seq (kcf (k_exit_seq (k_exit_back (k_exit_hit rfl (k_skip_block (k_skip_seq ?_)))))))
              refine rv (D.int IntKind.i64 (↑i : Int)) ?_
              refine rve (D.int IntKind.i64 (IntKind.wrap IntKind.i64 ((↑i : Int) + (1 : Int)))) (.int IntKind.i64 ((i + 1 : Nat) : Int)) (congrArg (D.int IntKind.i64) (show IntKind.wrap IntKind.i64 ((↑i : Int) + (1 : Int)) = ((i + 1 : Nat) : Int) from wrap_eq (by omega) (by omega) (by omega))) ?_
              refine ra0 (D.int IntKind.i64 (↑(i + (1 : Nat)) : Int)) ?_
              refine k_done (k_skip_back ?_)
              exact ⟨⟨i + 1, σ1, usedAt ns (nmL 4) (am[i] + 1), hs ++ [⟨letterN i, nmL 4, am[i] + 1⟩], bumpJ 5 0 (am[i] + 1) s0, bumpJ 5 1 (am[i] + 1) s1, bumpJ 5 2 (am[i] + 1) s2, bumpJ 5 3 (am[i] + 1) s3, bumpJ 5 4 (am[i] + 1) s4, .int .i64 4, .int .i64 (am[i] + 1), .int .i64 5⟩, ⟨by simp only []; omega, I1⟩, by simp only []; omega, by kernel_rfl, rfl⟩
        · have hN := nodes_ok I.L hln 98
          have hV : (nodesV ns).map NodeR.cells = [[.str [97], .str [], .int .i64 1099511627776, .int .i64 s0], [.str [98], .str [97], .int .i64 1099511627776, .int .i64 s1], [.str [99], .str [98], .int .i64 1099511627776, .int .i64 s2], [.str [100], .str [99], .int .i64 1099511627776, .int .i64 s3], [.str [101], .str [100], .int .i64 1099511627776, .int .i64 s4]] := by unfold nodesV; rw [I.r]; rfl
          rw [hV] at hN
          refine k_seq (k_seq ?_)
          refine rv (D.int IntKind.i64 (↑i : Int)) ?_
          refine rv (D.sl (u16s am) none) ?_
          refine rve (D.int IntKind.i64 (↑(List.length (u16s am)) : Int)) (.int IntKind.i64 ((↑(List.length am) : Int))) (by simp only [ints, eInt, rows, eInts, bools, eBool, trips, eTrip, i8s, u16s, u8s, acts, List.length_map]) ?_
          refine rv (D.bool (decide ((↑i : Int) < (↑(List.length am) : Int)))) ?_
          refine rv (D.bool (decide ((↑i : Int) < (↑(List.length am) : Int)))) ?_
          refine rkn 45 (decide ((↑i : Int) < (↑(List.length am) : Int))) true (decide_eq_true (by omega)) ?_
          refine rv (D.int IntKind.i64 (↑i : Int)) ?_
          refine rv (D.sl (u8s at_) none) ?_
          refine rve (D.int IntKind.i64 (↑(List.length (u8s at_)) : Int)) (.int IntKind.i64 ((↑(List.length at_) : Int))) (by simp only [ints, eInt, rows, eInts, bools, eBool, trips, eTrip, i8s, u16s, u8s, acts, List.length_map]) ?_
          refine rv (D.bool (decide ((↑i : Int) < (↑(List.length at_) : Int)))) ?_
          refine rv (D.bool (decide ((↑i : Int) < (↑(List.length at_) : Int)))) ?_
          refine rv (D.bool (decide ((↑i : Int) < (↑(List.length at_) : Int)))) ?_
          refine rkn 51 (decide ((↑i : Int) < (↑(List.length at_) : Int))) true (decide_eq_true (by omega)) ?_
          refine rv (D.int IntKind.i64 (↑i : Int)) ?_
          refine rv (D.bool (decide ((↑i : Int) < (20 : Int)))) ?_
          refine rv (D.bool (decide ((↑i : Int) < (20 : Int)))) ?_
          refine k_done (k_skip_seq ?_)
          refine rkn 54 (decide ((↑i : Int) < (20 : Int))) false (decide_eq_false (by omega)) ?_
          refine kcf (k_exit_seq (k_exit_back (k_exit_hit rfl (k_skip_seq (k_seq ?_)))))
          refine rv (D.ptr (2 : Nat) (0 : Nat)) ?_
          refine runs_call_st ([D.ptr (2 : Nat) (0 : Nat)]) (by kernel_rfl) (by kernel_rfl) (by kernel_rfl) (by kernel_rfl) (hN) ?_
          refine ra0 (D.sl [[D.str [(97 : UInt8)], D.str [], D.int IntKind.i64 (1099511627776 : Int), D.int IntKind.i64 s0], [D.str [(98 : UInt8)], D.str [(97 : UInt8)], D.int IntKind.i64 (1099511627776 : Int), D.int IntKind.i64 s1], [D.str [(99 : UInt8)], D.str [(98 : UInt8)], D.int IntKind.i64 (1099511627776 : Int), D.int IntKind.i64 s2], [D.str [(100 : UInt8)], D.str [(99 : UInt8)], D.int IntKind.i64 (1099511627776 : Int), D.int IntKind.i64 s3], [D.str [(101 : UInt8)], D.str [(100 : UInt8)], D.int IntKind.i64 (1099511627776 : Int), D.int IntKind.i64 s4]] none) ?_
          refine k_done (k_skip_seq (k_seq (k_seq ?_)))
          refine rv (D.int IntKind.i64 (0 : Int)) ?_
          refine k_done (k_skip_seq (k_block ?_))
          refine k_loop (fun s : Nat × D × D × D => g4 am at_ i s0 s1 s2 s3 s4 s0 s1 s2 s3 s4 s.2.1 s.2.2.1 s.2.2.2 s.1) (fun _ => σ) (fun s => s.1 ≤ 5) (fun s => 5 - s.1) (0, keptD [15, 16, 10, 6, 11, 14, 13, 12, 7, 0, 1, 8, 4] x, keptD [15, 16, 10, 6, 11, 14, 13, 12, 7, 0, 1, 8, 4] y, keptD [15, 16, 10, 6, 11, 14, 13, 12, 7, 0, 1, 8, 4] z) (by kernel_rfl) (by kernel_rfl) (by simp) (fun s hs => by omega) ?_
          rintro ⟨j, x1, y1, z1⟩ hj
          simp only at hj
          show Runs (runC _ _ _ (g4 am at_ i s0 s1 s2 s3 s4 s0 s1 s2 s3 s4 x1 y1 z1 j) σ) _
          have h6 : j = 0 ∨ j = 1 ∨ j = 2 ∨ j = 3 ∨ j = 4 ∨ j = 5 := by omega
          unfold g4 gB qN5 l6_3
          rcases h6 with rfl | rfl | rfl | rfl | rfl | rfl
          · refine k_seq (k_seq ?_)
            refine rv (D.int IntKind.i64 (0 : Int)) ?_
            refine rv (D.bool true) ?_
            refine k_done (k_skip_seq (kct (k_skip_seq (k_seq (k_block (k_seq ?_))))))
            refine rv (D.sl [[D.str [(97 : UInt8)], D.str [], D.int IntKind.i64 (1099511627776 : Int), D.int IntKind.i64 s0], [D.str [(98 : UInt8)], D.str [(97 : UInt8)], D.int IntKind.i64 (1099511627776 : Int), D.int IntKind.i64 s1], [D.str [(99 : UInt8)], D.str [(98 : UInt8)], D.int IntKind.i64 (1099511627776 : Int), D.int IntKind.i64 s2], [D.str [(100 : UInt8)], D.str [(99 : UInt8)], D.int IntKind.i64 (1099511627776 : Int), D.int IntKind.i64 s3], [D.str [(101 : UInt8)], D.str [(100 : UInt8)], D.int IntKind.i64 (1099511627776 : Int), D.int IntKind.i64 s4]] none) ?_
            refine rv (D.int IntKind.i64 (0 : Int)) ?_
            refine rv (D.ref [D.str [(97 : UInt8)], D.str [], D.int IntKind.i64 (1099511627776 : Int), D.int IntKind.i64 s0]) ?_
            refine rv (D.ref [D.int IntKind.i64 s0]) ?_
            refine rv (D.int IntKind.i64 s0) ?_
            refine rv (D.int IntKind.i64 (0 : Int)) ?_
            refine rv (D.lptr (10 : Nat) (0 : Nat)) ?_
            refine rv (D.int IntKind.i64 s0) ?_
            refine rv (D.bool (s0 != s0)) ?_
            refine k_done (k_skip_seq ?_)
            refine rkn 106 (s0 != s0) false (bne_eq_false_iff_eq.2 (by omega)) ?_
            refine kcf (k_skip_block (k_skip_seq ?_))
            refine rv (D.int IntKind.i64 (0 : Int)) ?_
            refine rv (D.int IntKind.i64 (1 : Int)) ?_
            refine ra0 (D.int IntKind.i64 (1 : Int)) ?_
            refine k_done (k_skip_back ?_)
            exact ⟨(1, keptD [15, 16, 10, 6, 11, 14, 13, 12, 7, 0, 1, 8, 4] x1, keptD [15, 16, 10, 6, 11, 14, 13, 12, 7, 0, 1, 8, 4] y1, keptD [15, 16, 10, 6, 11, 14, 13, 12, 7, 0, 1, 8, 4] z1), by simp, by simp, by kernel_rfl, rfl⟩
          · refine k_seq (k_seq ?_)
            refine rv (D.int IntKind.i64 (1 : Int)) ?_
            refine rv (D.bool true) ?_
            refine k_done (k_skip_seq (kct (k_skip_seq (k_seq (k_block (k_seq ?_))))))
            refine rv (D.sl [[D.str [(97 : UInt8)], D.str [], D.int IntKind.i64 (1099511627776 : Int), D.int IntKind.i64 s0], [D.str [(98 : UInt8)], D.str [(97 : UInt8)], D.int IntKind.i64 (1099511627776 : Int), D.int IntKind.i64 s1], [D.str [(99 : UInt8)], D.str [(98 : UInt8)], D.int IntKind.i64 (1099511627776 : Int), D.int IntKind.i64 s2], [D.str [(100 : UInt8)], D.str [(99 : UInt8)], D.int IntKind.i64 (1099511627776 : Int), D.int IntKind.i64 s3], [D.str [(101 : UInt8)], D.str [(100 : UInt8)], D.int IntKind.i64 (1099511627776 : Int), D.int IntKind.i64 s4]] none) ?_
            refine rv (D.int IntKind.i64 (1 : Int)) ?_
            refine rv (D.ref [D.str [(98 : UInt8)], D.str [(97 : UInt8)], D.int IntKind.i64 (1099511627776 : Int), D.int IntKind.i64 s1]) ?_
            refine rv (D.ref [D.int IntKind.i64 s1]) ?_
            refine rv (D.int IntKind.i64 s1) ?_
            refine rv (D.int IntKind.i64 (1 : Int)) ?_
            refine rv (D.lptr (10 : Nat) (1 : Nat)) ?_
            refine rv (D.int IntKind.i64 s1) ?_
            refine rv (D.bool (s1 != s1)) ?_
            refine k_done (k_skip_seq ?_)
            refine rkn 106 (s1 != s1) false (bne_eq_false_iff_eq.2 (by omega)) ?_
            refine kcf (k_skip_block (k_skip_seq ?_))
            refine rv (D.int IntKind.i64 (1 : Int)) ?_
            refine rv (D.int IntKind.i64 (2 : Int)) ?_
            refine ra0 (D.int IntKind.i64 (2 : Int)) ?_
            refine k_done (k_skip_back ?_)
            exact ⟨(2, keptD [15, 16, 10, 6, 11, 14, 13, 12, 7, 0, 1, 8, 4] x1, keptD [15, 16, 10, 6, 11, 14, 13, 12, 7, 0, 1, 8, 4] y1, keptD [15, 16, 10, 6, 11, 14, 13, 12, 7, 0, 1, 8, 4] z1), by simp, by simp, by kernel_rfl, rfl⟩
          · refine k_seq (k_seq ?_)
            refine rv (D.int IntKind.i64 (2 : Int)) ?_
            refine rv (D.bool true) ?_
            refine k_done (k_skip_seq (kct (k_skip_seq (k_seq (k_block (k_seq ?_))))))
            refine rv (D.sl [[D.str [(97 : UInt8)], D.str [], D.int IntKind.i64 (1099511627776 : Int), D.int IntKind.i64 s0], [D.str [(98 : UInt8)], D.str [(97 : UInt8)], D.int IntKind.i64 (1099511627776 : Int), D.int IntKind.i64 s1], [D.str [(99 : UInt8)], D.str [(98 : UInt8)], D.int IntKind.i64 (1099511627776 : Int), D.int IntKind.i64 s2], [D.str [(100 : UInt8)], D.str [(99 : UInt8)], D.int IntKind.i64 (1099511627776 : Int), D.int IntKind.i64 s3], [D.str [(101 : UInt8)], D.str [(100 : UInt8)], D.int IntKind.i64 (1099511627776 : Int), D.int IntKind.i64 s4]] none) ?_
            refine rv (D.int IntKind.i64 (2 : Int)) ?_
            refine rv (D.ref [D.str [(99 : UInt8)], D.str [(98 : UInt8)], D.int IntKind.i64 (1099511627776 : Int), D.int IntKind.i64 s2]) ?_
            refine rv (D.ref [D.int IntKind.i64 s2]) ?_
            refine rv (D.int IntKind.i64 s2) ?_
            refine rv (D.int IntKind.i64 (2 : Int)) ?_
            refine rv (D.lptr (10 : Nat) (2 : Nat)) ?_
            refine rv (D.int IntKind.i64 s2) ?_
            refine rv (D.bool (s2 != s2)) ?_
            refine k_done (k_skip_seq ?_)
            refine rkn 106 (s2 != s2) false (bne_eq_false_iff_eq.2 (by omega)) ?_
            refine kcf (k_skip_block (k_skip_seq ?_))
            refine rv (D.int IntKind.i64 (2 : Int)) ?_
            refine rv (D.int IntKind.i64 (3 : Int)) ?_
            refine ra0 (D.int IntKind.i64 (3 : Int)) ?_
            refine k_done (k_skip_back ?_)
            exact ⟨(3, keptD [15, 16, 10, 6, 11, 14, 13, 12, 7, 0, 1, 8, 4] x1, keptD [15, 16, 10, 6, 11, 14, 13, 12, 7, 0, 1, 8, 4] y1, keptD [15, 16, 10, 6, 11, 14, 13, 12, 7, 0, 1, 8, 4] z1), by simp, by simp, by kernel_rfl, rfl⟩
          · refine k_seq (k_seq ?_)
            refine rv (D.int IntKind.i64 (3 : Int)) ?_
            refine rv (D.bool true) ?_
            refine k_done (k_skip_seq (kct (k_skip_seq (k_seq (k_block (k_seq ?_))))))
            refine rv (D.sl [[D.str [(97 : UInt8)], D.str [], D.int IntKind.i64 (1099511627776 : Int), D.int IntKind.i64 s0], [D.str [(98 : UInt8)], D.str [(97 : UInt8)], D.int IntKind.i64 (1099511627776 : Int), D.int IntKind.i64 s1], [D.str [(99 : UInt8)], D.str [(98 : UInt8)], D.int IntKind.i64 (1099511627776 : Int), D.int IntKind.i64 s2], [D.str [(100 : UInt8)], D.str [(99 : UInt8)], D.int IntKind.i64 (1099511627776 : Int), D.int IntKind.i64 s3], [D.str [(101 : UInt8)], D.str [(100 : UInt8)], D.int IntKind.i64 (1099511627776 : Int), D.int IntKind.i64 s4]] none) ?_
            refine rv (D.int IntKind.i64 (3 : Int)) ?_
            refine rv (D.ref [D.str [(100 : UInt8)], D.str [(99 : UInt8)], D.int IntKind.i64 (1099511627776 : Int), D.int IntKind.i64 s3]) ?_
            refine rv (D.ref [D.int IntKind.i64 s3]) ?_
            refine rv (D.int IntKind.i64 s3) ?_
            refine rv (D.int IntKind.i64 (3 : Int)) ?_
            refine rv (D.lptr (10 : Nat) (3 : Nat)) ?_
            refine rv (D.int IntKind.i64 s3) ?_
            refine rv (D.bool (s3 != s3)) ?_
            refine k_done (k_skip_seq ?_)
            refine rkn 106 (s3 != s3) false (bne_eq_false_iff_eq.2 (by omega)) ?_
            refine kcf (k_skip_block (k_skip_seq ?_))
            refine rv (D.int IntKind.i64 (3 : Int)) ?_
            refine rv (D.int IntKind.i64 (4 : Int)) ?_
            refine ra0 (D.int IntKind.i64 (4 : Int)) ?_
            refine k_done (k_skip_back ?_)
            exact ⟨(4, keptD [15, 16, 10, 6, 11, 14, 13, 12, 7, 0, 1, 8, 4] x1, keptD [15, 16, 10, 6, 11, 14, 13, 12, 7, 0, 1, 8, 4] y1, keptD [15, 16, 10, 6, 11, 14, 13, 12, 7, 0, 1, 8, 4] z1), by simp, by simp, by kernel_rfl, rfl⟩
          · refine k_seq (k_seq ?_)
            refine rv (D.int IntKind.i64 (4 : Int)) ?_
            refine rv (D.bool true) ?_
            refine k_done (k_skip_seq (kct (k_skip_seq (k_seq (k_block (k_seq ?_))))))
            refine rv (D.sl [[D.str [(97 : UInt8)], D.str [], D.int IntKind.i64 (1099511627776 : Int), D.int IntKind.i64 s0], [D.str [(98 : UInt8)], D.str [(97 : UInt8)], D.int IntKind.i64 (1099511627776 : Int), D.int IntKind.i64 s1], [D.str [(99 : UInt8)], D.str [(98 : UInt8)], D.int IntKind.i64 (1099511627776 : Int), D.int IntKind.i64 s2], [D.str [(100 : UInt8)], D.str [(99 : UInt8)], D.int IntKind.i64 (1099511627776 : Int), D.int IntKind.i64 s3], [D.str [(101 : UInt8)], D.str [(100 : UInt8)], D.int IntKind.i64 (1099511627776 : Int), D.int IntKind.i64 s4]] none) ?_
            refine rv (D.int IntKind.i64 (4 : Int)) ?_
            refine rv (D.ref [D.str [(101 : UInt8)], D.str [(100 : UInt8)], D.int IntKind.i64 (1099511627776 : Int), D.int IntKind.i64 s4]) ?_
            refine rv (D.ref [D.int IntKind.i64 s4]) ?_
            refine rv (D.int IntKind.i64 s4) ?_
            refine rv (D.int IntKind.i64 (4 : Int)) ?_
            refine rv (D.lptr (10 : Nat) (4 : Nat)) ?_
            refine rv (D.int IntKind.i64 s4) ?_
            refine rv (D.bool (s4 != s4)) ?_
            refine k_done (k_skip_seq ?_)
            refine rkn 106 (s4 != s4) false (bne_eq_false_iff_eq.2 (by omega)) ?_
            refine kcf (k_skip_block (k_skip_seq ?_))
            refine rv (D.int IntKind.i64 (4 : Int)) ?_
            refine rv (D.int IntKind.i64 (5 : Int)) ?_
            refine ra0 (D.int IntKind.i64 (5 : Int)) ?_
            refine k_done (k_skip_back ?_)
            exact ⟨(5, keptD [15, 16, 10, 6, 11, 14, 13, 12, 7, 0, 1, 8, 4] x1, keptD [15, 16, 10, 6, 11, 14, 13, 12, 7, 0, 1, 8, 4] y1, keptD [15, 16, 10, 6, 11, 14, 13, 12, 7, 0, 1, 8, 4] z1), by simp, by simp, by kernel_rfl, rfl⟩
          · refine k_seq (k_seq ?_)
            refine rv (D.int IntKind.i64 (5 : Int)) ?_
            refine rv (D.bool false) ?_
            refine k_done (k_skip_seq (kcf (k_exit_seq (k_exit_back (k_exit_hit rfl (k_skip_seq (k_seq ?_)))))))
            refine rv (D.sl [[D.str [(97 : UInt8)], D.str [], D.int IntKind.i64 (1099511627776 : Int), D.int IntKind.i64 s0], [D.str [(98 : UInt8)], D.str [(97 : UInt8)], D.int IntKind.i64 (1099511627776 : Int), D.int IntKind.i64 s1], [D.str [(99 : UInt8)], D.str [(98 : UInt8)], D.int IntKind.i64 (1099511627776 : Int), D.int IntKind.i64 s2], [D.str [(100 : UInt8)], D.str [(99 : UInt8)], D.int IntKind.i64 (1099511627776 : Int), D.int IntKind.i64 s3], [D.str [(101 : UInt8)], D.str [(100 : UInt8)], D.int IntKind.i64 (1099511627776 : Int), D.int IntKind.i64 s4]] none) ?_
            refine rv (D.int IntKind.i64 (↑(List.length [[D.str [(97 : UInt8)], D.str [], D.int IntKind.i64 (1099511627776 : Int), D.int IntKind.i64 s0], [D.str [(98 : UInt8)], D.str [(97 : UInt8)], D.int IntKind.i64 (1099511627776 : Int), D.int IntKind.i64 s1], [D.str [(99 : UInt8)], D.str [(98 : UInt8)], D.int IntKind.i64 (1099511627776 : Int), D.int IntKind.i64 s2], [D.str [(100 : UInt8)], D.str [(99 : UInt8)], D.int IntKind.i64 (1099511627776 : Int), D.int IntKind.i64 s3], [D.str [(101 : UInt8)], D.str [(100 : UInt8)], D.int IntKind.i64 (1099511627776 : Int), D.int IntKind.i64 s4]]) : Int)) ?_
            refine rv (D.bool true) ?_
            refine ra0 (D.bool true) ?_
            refine k_done (k_skip_seq (k_ret ?_))
            exact ⟨.inr rfl, by kernel_rfl, σ, by kernel_rfl⟩
      · have hN := nodes_ok I.L hln 98
        have hV : (nodesV ns).map NodeR.cells = [[.str [97], .str [], .int .i64 1099511627776, .int .i64 s0], [.str [98], .str [97], .int .i64 1099511627776, .int .i64 s1], [.str [99], .str [98], .int .i64 1099511627776, .int .i64 s2], [.str [100], .str [99], .int .i64 1099511627776, .int .i64 s3], [.str [101], .str [100], .int .i64 1099511627776, .int .i64 s4]] := by unfold nodesV; rw [I.r]; rfl
        rw [hV] at hN
        refine k_seq (k_seq ?_)
        refine rv (D.int IntKind.i64 (↑i : Int)) ?_
        refine rv (D.sl (u16s am) none) ?_
        refine rve (D.int IntKind.i64 (↑(List.length (u16s am)) : Int)) (.int IntKind.i64 ((↑(List.length am) : Int))) (by simp only [ints, eInt, rows, eInts, bools, eBool, trips, eTrip, i8s, u16s, u8s, acts, List.length_map]) ?_
        refine rv (D.bool (decide ((↑i : Int) < (↑(List.length am) : Int)))) ?_
        refine rv (D.bool (decide ((↑i : Int) < (↑(List.length am) : Int)))) ?_
        refine rkn 45 (decide ((↑i : Int) < (↑(List.length am) : Int))) true (decide_eq_true (by omega)) ?_
        refine rv (D.int IntKind.i64 (↑i : Int)) ?_
        refine rv (D.sl (u8s at_) none) ?_
        refine rve (D.int IntKind.i64 (↑(List.length (u8s at_)) : Int)) (.int IntKind.i64 ((↑(List.length at_) : Int))) (by simp only [ints, eInt, rows, eInts, bools, eBool, trips, eTrip, i8s, u16s, u8s, acts, List.length_map]) ?_
        refine rv (D.bool (decide ((↑i : Int) < (↑(List.length at_) : Int)))) ?_
        refine rv (D.bool (decide ((↑i : Int) < (↑(List.length at_) : Int)))) ?_
        refine rv (D.bool (decide ((↑i : Int) < (↑(List.length at_) : Int)))) ?_
        refine rkn 51 (decide ((↑i : Int) < (↑(List.length at_) : Int))) false (decide_eq_false (by omega)) ?_
        refine rno (rno ?_)
        refine rv (D.bool false) ?_
        refine k_done (k_skip_seq (kcf (k_exit_seq (k_exit_back (k_exit_hit rfl (k_skip_seq (k_seq ?_)))))))
        refine rv (D.ptr (2 : Nat) (0 : Nat)) ?_
        refine runs_call_st ([D.ptr (2 : Nat) (0 : Nat)]) (by kernel_rfl) (by kernel_rfl) (by kernel_rfl) (by kernel_rfl) (hN) ?_
        refine ra0 (D.sl [[D.str [(97 : UInt8)], D.str [], D.int IntKind.i64 (1099511627776 : Int), D.int IntKind.i64 s0], [D.str [(98 : UInt8)], D.str [(97 : UInt8)], D.int IntKind.i64 (1099511627776 : Int), D.int IntKind.i64 s1], [D.str [(99 : UInt8)], D.str [(98 : UInt8)], D.int IntKind.i64 (1099511627776 : Int), D.int IntKind.i64 s2], [D.str [(100 : UInt8)], D.str [(99 : UInt8)], D.int IntKind.i64 (1099511627776 : Int), D.int IntKind.i64 s3], [D.str [(101 : UInt8)], D.str [(100 : UInt8)], D.int IntKind.i64 (1099511627776 : Int), D.int IntKind.i64 s4]] none) ?_
        refine k_done (k_skip_seq (k_seq (k_seq ?_)))
        refine rv (D.int IntKind.i64 (0 : Int)) ?_
        refine k_done (k_skip_seq (k_block ?_))
        refine k_loop (fun s : Nat × D × D × D => g4 am at_ i s0 s1 s2 s3 s4 s0 s1 s2 s3 s4 s.2.1 s.2.2.1 s.2.2.2 s.1) (fun _ => σ) (fun s => s.1 ≤ 5) (fun s => 5 - s.1) (0, keptD [15, 16, 10, 6, 11, 14, 13, 12, 7, 0, 1, 8, 4] x, keptD [15, 16, 10, 6, 11, 14, 13, 12, 7, 0, 1, 8, 4] y, keptD [15, 16, 10, 6, 11, 14, 13, 12, 7, 0, 1, 8, 4] z) (by kernel_rfl) (by kernel_rfl) (by simp) (fun s hs => by omega) ?_
        rintro ⟨j, x1, y1, z1⟩ hj
        simp only at hj
        show Runs (runC _ _ _ (g4 am at_ i s0 s1 s2 s3 s4 s0 s1 s2 s3 s4 x1 y1 z1 j) σ) _
        have h6 : j = 0 ∨ j = 1 ∨ j = 2 ∨ j = 3 ∨ j = 4 ∨ j = 5 := by omega
        unfold g4 gB qN5 l6_3
        rcases h6 with rfl | rfl | rfl | rfl | rfl | rfl
        · refine k_seq (k_seq ?_)
          refine rv (D.int IntKind.i64 (0 : Int)) ?_
          refine rv (D.bool true) ?_
          refine k_done (k_skip_seq (kct (k_skip_seq (k_seq (k_block (k_seq ?_))))))
          refine rv (D.sl [[D.str [(97 : UInt8)], D.str [], D.int IntKind.i64 (1099511627776 : Int), D.int IntKind.i64 s0], [D.str [(98 : UInt8)], D.str [(97 : UInt8)], D.int IntKind.i64 (1099511627776 : Int), D.int IntKind.i64 s1], [D.str [(99 : UInt8)], D.str [(98 : UInt8)], D.int IntKind.i64 (1099511627776 : Int), D.int IntKind.i64 s2], [D.str [(100 : UInt8)], D.str [(99 : UInt8)], D.int IntKind.i64 (1099511627776 : Int), D.int IntKind.i64 s3], [D.str [(101 : UInt8)], D.str [(100 : UInt8)], D.int IntKind.i64 (1099511627776 : Int), D.int IntKind.i64 s4]] none) ?_
          refine rv (D.int IntKind.i64 (0 : Int)) ?_
          refine rv (D.ref [D.str [(97 : UInt8)], D.str [], D.int IntKind.i64 (1099511627776 : Int), D.int IntKind.i64 s0]) ?_
          refine rv (D.ref [D.int IntKind.i64 s0]) ?_
          refine rv (D.int IntKind.i64 s0) ?_
          refine rv (D.int IntKind.i64 (0 : Int)) ?_
          refine rv (D.lptr (10 : Nat) (0 : Nat)) ?_
          refine rv (D.int IntKind.i64 s0) ?_
          refine rv (D.bool (s0 != s0)) ?_
          refine k_done (k_skip_seq ?_)
          refine rkn 106 (s0 != s0) false (bne_eq_false_iff_eq.2 (by omega)) ?_
          refine kcf (k_skip_block (k_skip_seq ?_))
          refine rv (D.int IntKind.i64 (0 : Int)) ?_
          refine rv (D.int IntKind.i64 (1 : Int)) ?_
          refine ra0 (D.int IntKind.i64 (1 : Int)) ?_
          refine k_done (k_skip_back ?_)
          exact ⟨(1, keptD [15, 16, 10, 6, 11, 14, 13, 12, 7, 0, 1, 8, 4] x1, keptD [15, 16, 10, 6, 11, 14, 13, 12, 7, 0, 1, 8, 4] y1, keptD [15, 16, 10, 6, 11, 14, 13, 12, 7, 0, 1, 8, 4] z1), by simp, by simp, by kernel_rfl, rfl⟩
        · refine k_seq (k_seq ?_)
          refine rv (D.int IntKind.i64 (1 : Int)) ?_
          refine rv (D.bool true) ?_
          refine k_done (k_skip_seq (kct (k_skip_seq (k_seq (k_block (k_seq ?_))))))
          refine rv (D.sl [[D.str [(97 : UInt8)], D.str [], D.int IntKind.i64 (1099511627776 : Int), D.int IntKind.i64 s0], [D.str [(98 : UInt8)], D.str [(97 : UInt8)], D.int IntKind.i64 (1099511627776 : Int), D.int IntKind.i64 s1], [D.str [(99 : UInt8)], D.str [(98 : UInt8)], D.int IntKind.i64 (1099511627776 : Int), D.int IntKind.i64 s2], [D.str [(100 : UInt8)], D.str [(99 : UInt8)], D.int IntKind.i64 (1099511627776 : Int), D.int IntKind.i64 s3], [D.str [(101 : UInt8)], D.str [(100 : UInt8)], D.int IntKind.i64 (1099511627776 : Int), D.int IntKind.i64 s4]] none) ?_
          refine rv (D.int IntKind.i64 (1 : Int)) ?_
          refine rv (D.ref [D.str [(98 : UInt8)], D.str [(97 : UInt8)], D.int IntKind.i64 (1099511627776 : Int), D.int IntKind.i64 s1]) ?_
          refine rv (D.ref [D.int IntKind.i64 s1]) ?_
          refine rv (D.int IntKind.i64 s1) ?_
          refine rv (D.int IntKind.i64 (1 : Int)) ?_
          refine rv (D.lptr (10 : Nat) (1 : Nat)) ?_
          refine rv (D.int IntKind.i64 s1) ?_
          refine rv (D.bool (s1 != s1)) ?_
          refine k_done (k_skip_seq ?_)
          refine rkn 106 (s1 != s1) false (bne_eq_false_iff_eq.2 (by omega)) ?_
          refine kcf (k_skip_block (k_skip_seq ?_))
          refine rv (D.int IntKind.i64 (1 : Int)) ?_
          refine rv (D.int IntKind.i64 (2 : Int)) ?_
          refine ra0 (D.int IntKind.i64 (2 : Int)) ?_
          refine k_done (k_skip_back ?_)
          exact ⟨(2, keptD [15, 16, 10, 6, 11, 14, 13, 12, 7, 0, 1, 8, 4] x1, keptD [15, 16, 10, 6, 11, 14, 13, 12, 7, 0, 1, 8, 4] y1, keptD [15, 16, 10, 6, 11, 14, 13, 12, 7, 0, 1, 8, 4] z1), by simp, by simp, by kernel_rfl, rfl⟩
        · refine k_seq (k_seq ?_)
          refine rv (D.int IntKind.i64 (2 : Int)) ?_
          refine rv (D.bool true) ?_
          refine k_done (k_skip_seq (kct (k_skip_seq (k_seq (k_block (k_seq ?_))))))
          refine rv (D.sl [[D.str [(97 : UInt8)], D.str [], D.int IntKind.i64 (1099511627776 : Int), D.int IntKind.i64 s0], [D.str [(98 : UInt8)], D.str [(97 : UInt8)], D.int IntKind.i64 (1099511627776 : Int), D.int IntKind.i64 s1], [D.str [(99 : UInt8)], D.str [(98 : UInt8)], D.int IntKind.i64 (1099511627776 : Int), D.int IntKind.i64 s2], [D.str [(100 : UInt8)], D.str [(99 : UInt8)], D.int IntKind.i64 (1099511627776 : Int), D.int IntKind.i64 s3], [D.str [(101 : UInt8)], D.str [(100 : UInt8)], D.int IntKind.i64 (1099511627776 : Int), D.int IntKind.i64 s4]] none) ?_
          refine rv (D.int IntKind.i64 (2 : Int)) ?_
          refine rv (D.ref [D.str [(99 : UInt8)], D.str [(98 : UInt8)], D.int IntKind.i64 (1099511627776 : Int), D.int IntKind.i64 s2]) ?_
          refine rv (D.ref [D.int IntKind.i64 s2]) ?_
          refine rv (D.int IntKind.i64 s2) ?_
          refine rv (D.int IntKind.i64 (2 : Int)) ?_
          refine rv (D.lptr (10 : Nat) (2 : Nat)) ?_
          refine rv (D.int IntKind.i64 s2) ?_
          refine rv (D.bool (s2 != s2)) ?_
          refine k_done (k_skip_seq ?_)
          refine rkn 106 (s2 != s2) false (bne_eq_false_iff_eq.2 (by omega)) ?_
          refine kcf (k_skip_block (k_skip_seq ?_))
          refine rv (D.int IntKind.i64 (2 : Int)) ?_
          refine rv (D.int IntKind.i64 (3 : Int)) ?_
          refine ra0 (D.int IntKind.i64 (3 : Int)) ?_
          refine k_done (k_skip_back ?_)
          exact ⟨(3, keptD [15, 16, 10, 6, 11, 14, 13, 12, 7, 0, 1, 8, 4] x1, keptD [15, 16, 10, 6, 11, 14, 13, 12, 7, 0, 1, 8, 4] y1, keptD [15, 16, 10, 6, 11, 14, 13, 12, 7, 0, 1, 8, 4] z1), by simp, by simp, by kernel_rfl, rfl⟩
        · refine k_seq (k_seq ?_)
          refine rv (D.int IntKind.i64 (3 : Int)) ?_
          refine rv (D.bool true) ?_
          refine k_done (k_skip_seq (kct (k_skip_seq (k_seq (k_block (k_seq ?_))))))
          refine rv (D.sl [[D.str [(97 : UInt8)], D.str [], D.int IntKind.i64 (1099511627776 : Int), D.int IntKind.i64 s0], [D.str [(98 : UInt8)], D.str [(97 : UInt8)], D.int IntKind.i64 (1099511627776 : Int), D.int IntKind.i64 s1], [D.str [(99 : UInt8)], D.str [(98 : UInt8)], D.int IntKind.i64 (1099511627776 : Int), D.int IntKind.i64 s2], [D.str [(100 : UInt8)], D.str [(99 : UInt8)], D.int IntKind.i64 (1099511627776 : Int), D.int IntKind.i64 s3], [D.str [(101 : UInt8)], D.str [(100 : UInt8)], D.int IntKind.i64 (1099511627776 : Int), D.int IntKind.i64 s4]] none) ?_
          refine rv (D.int IntKind.i64 (3 : Int)) ?_
          refine rv (D.ref [D.str [(100 : UInt8)], D.str [(99 : UInt8)], D.int IntKind.i64 (1099511627776 : Int), D.int IntKind.i64 s3]) ?_
          refine rv (D.ref [D.int IntKind.i64 s3]) ?_
          refine rv (D.int IntKind.i64 s3) ?_
          refine rv (D.int IntKind.i64 (3 : Int)) ?_
          refine rv (D.lptr (10 : Nat) (3 : Nat)) ?_
          refine rv (D.int IntKind.i64 s3) ?_
          refine rv (D.bool (s3 != s3)) ?_
          refine k_done (k_skip_seq ?_)
          refine rkn 106 (s3 != s3) false (bne_eq_false_iff_eq.2 (by omega)) ?_
          refine kcf (k_skip_block (k_skip_seq ?_))
          refine rv (D.int IntKind.i64 (3 : Int)) ?_
          refine rv (D.int IntKind.i64 (4 : Int)) ?_
          refine ra0 (D.int IntKind.i64 (4 : Int)) ?_
          refine k_done (k_skip_back ?_)
          exact ⟨(4, keptD [15, 16, 10, 6, 11, 14, 13, 12, 7, 0, 1, 8, 4] x1, keptD [15, 16, 10, 6, 11, 14, 13, 12, 7, 0, 1, 8, 4] y1, keptD [15, 16, 10, 6, 11, 14, 13, 12, 7, 0, 1, 8, 4] z1), by simp, by simp, by kernel_rfl, rfl⟩
        · refine k_seq (k_seq ?_)
          refine rv (D.int IntKind.i64 (4 : Int)) ?_
          refine rv (D.bool true) ?_
          refine k_done (k_skip_seq (kct (k_skip_seq (k_seq (k_block (k_seq ?_))))))
          refine rv (D.sl [[D.str [(97 : UInt8)], D.str [], D.int IntKind.i64 (1099511627776 : Int), D.int IntKind.i64 s0], [D.str [(98 : UInt8)], D.str [(97 : UInt8)], D.int IntKind.i64 (1099511627776 : Int), D.int IntKind.i64 s1], [D.str [(99 : UInt8)], D.str [(98 : UInt8)], D.int IntKind.i64 (1099511627776 : Int), D.int IntKind.i64 s2], [D.str [(100 : UInt8)], D.str [(99 : UInt8)], D.int IntKind.i64 (1099511627776 : Int), D.int IntKind.i64 s3], [D.str [(101 : UInt8)], D.str [(100 : UInt8)], D.int IntKind.i64 (1099511627776 : Int), D.int IntKind.i64 s4]] none) ?_
          refine rv (D.int IntKind.i64 (4 : Int)) ?_
          refine rv (D.ref [D.str [(101 : UInt8)], D.str [(100 : UInt8)], D.int IntKind.i64 (1099511627776 : Int), D.int IntKind.i64 s4]) ?_
          refine rv (D.ref [D.int IntKind.i64 s4]) ?_
          refine rv (D.int IntKind.i64 s4) ?_
          refine rv (D.int IntKind.i64 (4 : Int)) ?_
          refine rv (D.lptr (10 : Nat) (4 : Nat)) ?_
          refine rv (D.int IntKind.i64 s4) ?_
          refine rv (D.bool (s4 != s4)) ?_
          refine k_done (k_skip_seq ?_)
          refine rkn 106 (s4 != s4) false (bne_eq_false_iff_eq.2 (by omega)) ?_
          refine kcf (k_skip_block (k_skip_seq ?_))
          refine rv (D.int IntKind.i64 (4 : Int)) ?_
          refine rv (D.int IntKind.i64 (5 : Int)) ?_
          refine ra0 (D.int IntKind.i64 (5 : Int)) ?_
          refine k_done (k_skip_back ?_)
          exact ⟨(5, keptD [15, 16, 10, 6, 11, 14, 13, 12, 7, 0, 1, 8, 4] x1, keptD [15, 16, 10, 6, 11, 14, 13, 12, 7, 0, 1, 8, 4] y1, keptD [15, 16, 10, 6, 11, 14, 13, 12, 7, 0, 1, 8, 4] z1), by simp, by simp, by kernel_rfl, rfl⟩
        · refine k_seq (k_seq ?_)
          refine rv (D.int IntKind.i64 (5 : Int)) ?_
          refine rv (D.bool false) ?_
          refine k_done (k_skip_seq (kcf (k_exit_seq (k_exit_back (k_exit_hit rfl (k_skip_seq (k_seq ?_)))))))
          refine rv (D.sl [[D.str [(97 : UInt8)], D.str [], D.int IntKind.i64 (1099511627776 : Int), D.int IntKind.i64 s0], [D.str [(98 : UInt8)], D.str [(97 : UInt8)], D.int IntKind.i64 (1099511627776 : Int), D.int IntKind.i64 s1], [D.str [(99 : UInt8)], D.str [(98 : UInt8)], D.int IntKind.i64 (1099511627776 : Int), D.int IntKind.i64 s2], [D.str [(100 : UInt8)], D.str [(99 : UInt8)], D.int IntKind.i64 (1099511627776 : Int), D.int IntKind.i64 s3], [D.str [(101 : UInt8)], D.str [(100 : UInt8)], D.int IntKind.i64 (1099511627776 : Int), D.int IntKind.i64 s4]] none) ?_
          refine rv (D.int IntKind.i64 (↑(List.length [[D.str [(97 : UInt8)], D.str [], D.int IntKind.i64 (1099511627776 : Int), D.int IntKind.i64 s0], [D.str [(98 : UInt8)], D.str [(97 : UInt8)], D.int IntKind.i64 (1099511627776 : Int), D.int IntKind.i64 s1], [D.str [(99 : UInt8)], D.str [(98 : UInt8)], D.int IntKind.i64 (1099511627776 : Int), D.int IntKind.i64 s2], [D.str [(100 : UInt8)], D.str [(99 : UInt8)], D.int IntKind.i64 (1099511627776 : Int), D.int IntKind.i64 s3], [D.str [(101 : UInt8)], D.str [(100 : UInt8)], D.int IntKind.i64 (1099511627776 : Int), D.int IntKind.i64 s4]]) : Int)) ?_
          refine rv (D.bool true) ?_
          refine ra0 (D.bool true) ?_
          refine k_done (k_skip_seq (k_ret ?_))
          exact ⟨.inr rfl, by kernel_rfl, σ, by kernel_rfl⟩
    · have hN := nodes_ok I.L hln 98
      have hV : (nodesV ns).map NodeR.cells = [[.str [97], .str [], .int .i64 1099511627776, .int .i64 s0], [.str [98], .str [97], .int .i64 1099511627776, .int .i64 s1], [.str [99], .str [98], .int .i64 1099511627776, .int .i64 s2], [.str [100], .str [99], .int .i64 1099511627776, .int .i64 s3], [.str [101], .str [100], .int .i64 1099511627776, .int .i64 s4]] := by unfold nodesV; rw [I.r]; rfl
      rw [hV] at hN
      refine k_seq (k_seq ?_)
      refine rv (D.int IntKind.i64 (↑i : Int)) ?_
      refine rv (D.sl (u16s am) none) ?_
      refine rve (D.int IntKind.i64 (↑(List.length (u16s am)) : Int)) (.int IntKind.i64 ((↑(List.length am) : Int))) (by simp only [ints, eInt, rows, eInts, bools, eBool, trips, eTrip, i8s, u16s, u8s, acts, List.length_map]) ?_
      refine rv (D.bool (decide ((↑i : Int) < (↑(List.length am) : Int)))) ?_
      refine rv (D.bool (decide ((↑i : Int) < (↑(List.length am) : Int)))) ?_
      refine rkn 45 (decide ((↑i : Int) < (↑(List.length am) : Int))) false (decide_eq_false (by omega)) ?_
      refine rno (rno (rno (rno ?_)))
      refine rv (D.bool false) ?_
      refine rv (D.bool false) ?_
      refine rno (rno ?_)
      refine rv (D.bool false) ?_
      refine k_done (k_skip_seq (kcf (k_exit_seq (k_exit_back (k_exit_hit rfl (k_skip_seq (k_seq ?_)))))))
      refine rv (D.ptr (2 : Nat) (0 : Nat)) ?_
      refine runs_call_st ([D.ptr (2 : Nat) (0 : Nat)]) (by kernel_rfl) (by kernel_rfl) (by kernel_rfl) (by kernel_rfl) (hN) ?_
      refine ra0 (D.sl [[D.str [(97 : UInt8)], D.str [], D.int IntKind.i64 (1099511627776 : Int), D.int IntKind.i64 s0], [D.str [(98 : UInt8)], D.str [(97 : UInt8)], D.int IntKind.i64 (1099511627776 : Int), D.int IntKind.i64 s1], [D.str [(99 : UInt8)], D.str [(98 : UInt8)], D.int IntKind.i64 (1099511627776 : Int), D.int IntKind.i64 s2], [D.str [(100 : UInt8)], D.str [(99 : UInt8)], D.int IntKind.i64 (1099511627776 : Int), D.int IntKind.i64 s3], [D.str [(101 : UInt8)], D.str [(100 : UInt8)], D.int IntKind.i64 (1099511627776 : Int), D.int IntKind.i64 s4]] none) ?_
      refine k_done (k_skip_seq (k_seq (k_seq ?_)))
      refine rv (D.int IntKind.i64 (0 : Int)) ?_
      refine k_done (k_skip_seq (k_block ?_))
      refine k_loop (fun s : Nat × D × D × D => g4 am at_ i s0 s1 s2 s3 s4 s0 s1 s2 s3 s4 s.2.1 s.2.2.1 s.2.2.2 s.1) (fun _ => σ) (fun s => s.1 ≤ 5) (fun s => 5 - s.1) (0, keptD [15, 16, 10, 6, 11, 14, 13, 12, 7, 0, 1, 8, 4] x, keptD [15, 16, 10, 6, 11, 14, 13, 12, 7, 0, 1, 8, 4] y, keptD [15, 16, 10, 6, 11, 14, 13, 12, 7, 0, 1, 8, 4] z) (by kernel_rfl) (by kernel_rfl) (by simp) (fun s hs => by omega) ?_
      rintro ⟨j, x1, y1, z1⟩ hj
      simp only at hj
      show Runs (runC _ _ _ (g4 am at_ i s0 s1 s2 s3 s4 s0 s1 s2 s3 s4 x1 y1 z1 j) σ) _
      have h6 : j = 0 ∨ j = 1 ∨ j = 2 ∨ j = 3 ∨ j = 4 ∨ j = 5 := by omega
      unfold g4 gB qN5 l6_3
      rcases h6 with rfl | rfl | rfl | rfl | rfl | rfl
      · refine k_seq (k_seq ?_)
        refine rv (D.int IntKind.i64 (0 : Int)) ?_
        refine rv (D.bool true) ?_
        refine k_done (k_skip_seq (kct (k_skip_seq (k_seq (k_block (k_seq ?_))))))
        refine rv (D.sl [[D.str [(97 : UInt8)], D.str [], D.int IntKind.i64 (1099511627776 : Int), D.int IntKind.i64 s0], [D.str [(98 : UInt8)], D.str [(97 : UInt8)], D.int IntKind.i64 (1099511627776 : Int), D.int IntKind.i64 s1], [D.str [(99 : UInt8)], D.str [(98 : UInt8)], D.int IntKind.i64 (1099511627776 : Int), D.int IntKind.i64 s2], [D.str [(100 : UInt8)], D.str [(99 : UInt8)], D.int IntKind.i64 (1099511627776 : Int), D.int IntKind.i64 s3], [D.str [(101 : UInt8)], D.str [(100 : UInt8)], D.int IntKind.i64 (1099511627776 : Int), D.int IntKind.i64 s4]] none) ?_
        refine rv (D.int IntKind.i64 (0 : Int)) ?_
        refine rv (D.ref [D.str [(97 : UInt8)], D.str [], D.int IntKind.i64 (1099511627776 : Int), D.int IntKind.i64 s0]) ?_
        refine rv (D.ref [D.int IntKind.i64 s0]) ?_
        refine rv (D.int IntKind.i64 s0) ?_
        refine rv (D.int IntKind.i64 (0 : Int)) ?_
        refine rv (D.lptr (10 : Nat) (0 : Nat)) ?_
        refine rv (D.int IntKind.i64 s0) ?_
        refine rv (D.bool (s0 != s0)) ?_
        refine k_done (k_skip_seq ?_)
        refine rkn 106 (s0 != s0) false (bne_eq_false_iff_eq.2 (by omega)) ?_
        refine kcf (k_skip_block (k_skip_seq ?_))
        refine rv (D.int IntKind.i64 (0 : Int)) ?_
        refine rv (D.int IntKind.i64 (1 : Int)) ?_
        refine ra0 (D.int IntKind.i64 (1 : Int)) ?_
        refine k_done (k_skip_back ?_)
        exact ⟨(1, keptD [15, 16, 10, 6, 11, 14, 13, 12, 7, 0, 1, 8, 4] x1, keptD [15, 16, 10, 6, 11, 14, 13, 12, 7, 0, 1, 8, 4] y1, keptD [15, 16, 10, 6, 11, 14, 13, 12, 7, 0, 1, 8, 4] z1), by simp, by simp, by kernel_rfl, rfl⟩
      · refine k_seq (k_seq ?_)
        refine rv (D.int IntKind.i64 (1 : Int)) ?_
        refine rv (D.bool true) ?_
        refine k_done (k_skip_seq (kct (k_skip_seq (k_seq (k_block (k_seq ?_))))))
        refine rv (D.sl [[D.str [(97 : UInt8)], D.str [], D.int IntKind.i64 (1099511627776 : Int), D.int IntKind.i64 s0], [D.str [(98 : UInt8)], D.str [(97 : UInt8)], D.int IntKind.i64 (1099511627776 : Int), D.int IntKind.i64 s1], [D.str [(99 : UInt8)], D.str [(98 : UInt8)], D.int IntKind.i64 (1099511627776 : Int), D.int IntKind.i64 s2], [D.str [(100 : UInt8)], D.str [(99 : UInt8)], D.int IntKind.i64 (1099511627776 : Int), D.int IntKind.i64 s3], [D.str [(101 : UInt8)], D.str [(100 : UInt8)], D.int IntKind.i64 (1099511627776 : Int), D.int IntKind.i64 s4]] none) ?_
        refine rv (D.int IntKind.i64 (1 : Int)) ?_
        refine rv (D.ref [D.str [(98 : UInt8)], D.str [(97 : UInt8)], D.int IntKind.i64 (1099511627776 : Int), D.int IntKind.i64 s1]) ?_
        refine rv (D.ref [D.int IntKind.i64 s1]) ?_
        refine rv (D.int IntKind.i64 s1) ?_
        refine rv (D.int IntKind.i64 (1 : Int)) ?_
        refine rv (D.lptr (10 : Nat) (1 : Nat)) ?_
        refine rv (D.int IntKind.i64 s1) ?_
        refine rv (D.bool (s1 != s1)) ?_
        refine k_done (k_skip_seq ?_)
        refine rkn 106 (s1 != s1) false (bne_eq_false_iff_eq.2 (by omega)) ?_
        refine kcf (k_skip_block (k_skip_seq ?_))
        refine rv (D.int IntKind.i64 (1 : Int)) ?_
        refine rv (D.int IntKind.i64 (2 : Int)) ?_
        refine ra0 (D.int IntKind.i64 (2 : Int)) ?_
        refine k_done (k_skip_back ?_)
        exact ⟨(2, keptD [15, 16, 10, 6, 11, 14, 13, 12, 7, 0, 1, 8, 4] x1, keptD [15, 16, 10, 6, 11, 14, 13, 12, 7, 0, 1, 8, 4] y1, keptD [15, 16, 10, 6, 11, 14, 13, 12, 7, 0, 1, 8, 4] z1), by simp, by simp, by kernel_rfl, rfl⟩
      · refine k_seq (k_seq ?_)
        refine rv (D.int IntKind.i64 (2 : Int)) ?_
        refine rv (D.bool true) ?_
        refine k_done (k_skip_seq (kct (k_skip_seq (k_seq (k_block (k_seq ?_))))))
        refine rv (D.sl [[D.str [(97 : UInt8)], D.str [], D.int IntKind.i64 (1099511627776 : Int), D.int IntKind.i64 s0], [D.str [(98 : UInt8)], D.str [(97 : UInt8)], D.int IntKind.i64 (1099511627776 : Int), D.int IntKind.i64 s1], [D.str [(99 : UInt8)], D.str [(98 : UInt8)], D.int IntKind.i64 (1099511627776 : Int), D.int IntKind.i64 s2], [D.str [(100 : UInt8)], D.str [(99 : UInt8)], D.int IntKind.i64 (1099511627776 : Int), D.int IntKind.i64 s3], [D.str [(101 : UInt8)], D.str [(100 : UInt8)], D.int IntKind.i64 (1099511627776 : Int), D.int IntKind.i64 s4]] none) ?_
        refine rv (D.int IntKind.i64 (2 : Int)) ?_
        refine rv (D.ref [D.str [(99 : UInt8)], D.str [(98 : UInt8)], D.int IntKind.i64 (1099511627776 : Int), D.int IntKind.i64 s2]) ?_
        refine rv (D.ref [D.int IntKind.i64 s2]) ?_
        refine rv (D.int IntKind.i64 s2) ?_
        refine rv (D.int IntKind.i64 (2 : Int)) ?_
        refine rv (D.lptr (10 : Nat) (2 : Nat)) ?_
        refine rv (D.int IntKind.i64 s2) ?_
        refine rv (D.bool (s2 != s2)) ?_
        refine k_done (k_skip_seq ?_)
        refine rkn 106 (s2 != s2) false (bne_eq_false_iff_eq.2 (by omega)) ?_
        refine kcf (k_skip_block (k_skip_seq ?_))
        refine rv (D.int IntKind.i64 (2 : Int)) ?_
        refine rv (D.int IntKind.i64 (3 : Int)) ?_
        refine ra0 (D.int IntKind.i64 (3 : Int)) ?_
        refine k_done (k_skip_back ?_)
        exact ⟨(3, keptD [15, 16, 10, 6, 11, 14, 13, 12, 7, 0, 1, 8, 4] x1, keptD [15, 16, 10, 6, 11, 14, 13, 12, 7, 0, 1, 8, 4] y1, keptD [15, 16, 10, 6, 11, 14, 13, 12, 7, 0, 1, 8, 4] z1), by simp, by simp, by kernel_rfl, rfl⟩
      · refine k_seq (k_seq ?_)
        refine rv (D.int IntKind.i64 (3 : Int)) ?_
        refine rv (D.bool true) ?_
        refine k_done (k_skip_seq (kct (k_skip_seq (k_seq (k_block (k_seq ?_))))))
        refine rv (D.sl [[D.str [(97 : UInt8)], D.str [], D.int IntKind.i64 (1099511627776 : Int), D.int IntKind.i64 s0], [D.str [(98 : UInt8)], D.str [(97 : UInt8)], D.int IntKind.i64 (1099511627776 : Int), D.int IntKind.i64 s1], [D.str [(99 : UInt8)], D.str [(98 : UInt8)], D.int IntKind.i64 (1099511627776 : Int), D.int IntKind.i64 s2], [D.str [(100 : UInt8)], D.str [(99 : UInt8)], D.int IntKind.i64 (1099511627776 : Int), D.int IntKind.i64 s3], [D.str [(101 : UInt8)], D.str [(100 : UInt8)], D.int IntKind.i64 (1099511627776 : Int), D.int IntKind.i64 s4]] none) ?_
        refine rv (D.int IntKind.i64 (3 : Int)) ?_
        refine rv (D.ref [D.str [(100 : UInt8)], D.str [(99 : UInt8)], D.int IntKind.i64 (1099511627776 : Int), D.int IntKind.i64 s3]) ?_
        refine rv (D.ref [D.int IntKind.i64 s3]) ?_
        refine rv (D.int IntKind.i64 s3) ?_
        refine rv (D.int IntKind.i64 (3 : Int)) ?_
        refine rv (D.lptr (10 : Nat) (3 : Nat)) ?_
        refine rv (D.int IntKind.i64 s3) ?_
        refine rv (D.bool (s3 != s3)) ?_
        refine k_done (k_skip_seq ?_)
        refine rkn 106 (s3 != s3) false (bne_eq_false_iff_eq.2 (by omega)) ?_
        refine kcf (k_skip_block (k_skip_seq ?_))
        refine rv (D.int IntKind.i64 (3 : Int)) ?_
        refine rv (D.int IntKind.i64 (4 : Int)) ?_
        refine ra0 (D.int IntKind.i64 (4 : Int)) ?_
        refine k_done (k_skip_back ?_)
        exact ⟨(4, keptD [15, 16, 10, 6, 11, 14, 13, 12, 7, 0, 1, 8, 4] x1, keptD [15, 16, 10, 6, 11, 14, 13, 12, 7, 0, 1, 8, 4] y1, keptD [15, 16, 10, 6, 11, 14, 13, 12, 7, 0, 1, 8, 4] z1), by simp, by simp, by kernel_rfl, rfl⟩
      · refine k_seq (k_seq ?_)
        refine rv (D.int IntKind.i64 (4 : Int)) ?_
        refine rv (D.bool true) ?_
        refine k_done (k_skip_seq (kct (k_skip_seq (k_seq (k_block (k_seq ?_))))))
        refine rv (D.sl [[D.str [(97 : UInt8)], D.str [], D.int IntKind.i64 (1099511627776 : Int), D.int IntKind.i64 s0], [D.str [(98 : UInt8)], D.str [(97 : UInt8)], D.int IntKind.i64 (1099511627776 : Int), D.int IntKind.i64 s1], [D.str [(99 : UInt8)], D.str [(98 : UInt8)], D.int IntKind.i64 (1099511627776 : Int), D.int IntKind.i64 s2], [D.str [(100 : UInt8)], D.str [(99 : UInt8)], D.int IntKind.i64 (1099511627776 : Int), D.int IntKind.i64 s3], [D.str [(101 : UInt8)], D.str [(100 : UInt8)], D.int IntKind.i64 (1099511627776 : Int), D.int IntKind.i64 s4]] none) ?_
        refine rv (D.int IntKind.i64 (4 : Int)) ?_
        refine rv (D.ref [D.str [(101 : UInt8)], D.str [(100 : UInt8)], D.int IntKind.i64 (1099511627776 : Int), D.int IntKind.i64 s4]) ?_
        refine rv (D.ref [D.int IntKind.i64 s4]) ?_
        refine rv (D.int IntKind.i64 s4) ?_
        refine rv (D.int IntKind.i64 (4 : Int)) ?_
        refine rv (D.lptr (10 : Nat) (4 : Nat)) ?_
        refine rv (D.int IntKind.i64 s4) ?_
        refine rv (D.bool (s4 != s4)) ?_
        refine k_done (k_skip_seq ?_)
        refine rkn 106 (s4 != s4) false (bne_eq_false_iff_eq.2 (by omega)) ?_
        refine kcf (k_skip_block (k_skip_seq ?_))
        refine rv (D.int IntKind.i64 (4 : Int)) ?_
        refine rv (D.int IntKind.i64 (5 : Int)) ?_
        refine ra0 (D.int IntKind.i64 (5 : Int)) ?_
        refine k_done (k_skip_back ?_)
        exact ⟨(5, keptD [15, 16, 10, 6, 11, 14, 13, 12, 7, 0, 1, 8, 4] x1, keptD [15, 16, 10, 6, 11, 14, 13, 12, 7, 0, 1, 8, 4] y1, keptD [15, 16, 10, 6, 11, 14, 13, 12, 7, 0, 1, 8, 4] z1), by simp, by simp, by kernel_rfl, rfl⟩
      · refine k_seq (k_seq ?_)
        refine rv (D.int IntKind.i64 (5 : Int)) ?_
        refine rv (D.bool false) ?_
        refine k_done (k_skip_seq (kcf (k_exit_seq (k_exit_back (k_exit_hit rfl (k_skip_seq (k_seq ?_)))))))
        refine rv (D.sl [[D.str [(97 : UInt8)], D.str [], D.int IntKind.i64 (1099511627776 : Int), D.int IntKind.i64 s0], [D.str [(98 : UInt8)], D.str [(97 : UInt8)], D.int IntKind.i64 (1099511627776 : Int), D.int IntKind.i64 s1], [D.str [(99 : UInt8)], D.str [(98 : UInt8)], D.int IntKind.i64 (1099511627776 : Int), D.int IntKind.i64 s2], [D.str [(100 : UInt8)], D.str [(99 : UInt8)], D.int IntKind.i64 (1099511627776 : Int), D.int IntKind.i64 s3], [D.str [(101 : UInt8)], D.str [(100 : UInt8)], D.int IntKind.i64 (1099511627776 : Int), D.int IntKind.i64 s4]] none) ?_
        refine rv (D.int IntKind.i64 (↑(List.length [[D.str [(97 : UInt8)], D.str [], D.int IntKind.i64 (1099511627776 : Int), D.int IntKind.i64 s0], [D.str [(98 : UInt8)], D.str [(97 : UInt8)], D.int IntKind.i64 (1099511627776 : Int), D.int IntKind.i64 s1], [D.str [(99 : UInt8)], D.str [(98 : UInt8)], D.int IntKind.i64 (1099511627776 : Int), D.int IntKind.i64 s2], [D.str [(100 : UInt8)], D.str [(99 : UInt8)], D.int IntKind.i64 (1099511627776 : Int), D.int IntKind.i64 s3], [D.str [(101 : UInt8)], D.str [(100 : UInt8)], D.int IntKind.i64 (1099511627776 : Int), D.int IntKind.i64 s4]]) : Int)) ?_
        refine rv (D.bool true) ?_
        refine ra0 (D.bool true) ?_
        refine k_done (k_skip_seq (k_ret ?_))
        exact ⟨.inr rfl, by kernel_rfl, σ, by kernel_rfl⟩
end Go.Abs.C
