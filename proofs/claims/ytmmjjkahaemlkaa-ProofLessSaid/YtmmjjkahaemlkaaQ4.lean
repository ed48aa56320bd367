import Derived.Test.YtmmjjkahaemlkaaKont
import Derived.Test.YtmmjjkahaemlkaaQ1
set_option linter.unusedVariables false
set_option linter.unusedSimpArgs false
/-
  Steps of a proof: what they make, and the functions All of both.
-/
namespace Go.Abs.B
open Go Go.Abs
set_option maxRecDepth 8000
attribute [local irreducible] callN runC evalOp

abbrev Step3 := Int × Int × Int
def can (out : List (List Int)) (s : Step3) : Prop := 0 ≤ s.1 ∧ s.1 < out.length ∧ 0 ≤ s.2.1 ∧ s.2.1 < out.length
instance (out : List (List Int)) (s : Step3) : Decidable (can out s) := by unfold can; infer_instance
def getC (out : List (List Int)) (i : Int) : List Int := out.getD i.toNat []
/-- What the steps make of the clauses, or nothing. -/
def allF : List (List Int) → List Step3 → Option (List (List Int))
  | out, [] => some out
  | out, s :: ss => if can out s ∧ makes (getC out s.1) (getC out s.2.1) s.2.2 then allF (out ++ [made (getC out s.1) (getC out s.2.1) s.2.2]) ss else none
def allR (l : List (List Int)) (st : List Step3) : List (List Int) × Int :=
  match allF l st with
  | some out => (out, 0)
  | none => ([], 50)

theorem addAll_mem (w : Int) : ∀ (xs out : List Int) (v : Int), v ∈ addAll w xs out → v ∈ out ∨ v ∈ xs
  | [], out, v, h => .inl h
  | x :: xs, out, v, h => by
    simp only [addAll] at h
    rcases addAll_mem w xs _ v h with h | h
    · by_cases hc : x ≠ w ∧ x ∉ out
      · rw [if_pos hc] at h
        rcases List.mem_append.1 h with h | h
        · exact .inl h
        · exact .inr (by simp only [List.mem_singleton] at h; simp [h])
      · rw [if_neg hc] at h
        exact .inl h
    · exact .inr (List.mem_cons_of_mem _ h)
theorem addAll_nodup (w : Int) : ∀ (xs out : List Int), out.Nodup → (addAll w xs out).Nodup
  | [], out, h => h
  | x :: xs, out, h => by
    simp only [addAll]
    refine addAll_nodup w xs _ ?_
    by_cases hc : x ≠ w ∧ x ∉ out
    · rw [if_pos hc]
      refine List.nodup_append.2 ⟨h, by simp, fun a ha b hb => ?_⟩
      simp only [List.mem_singleton] at hb
      subst hb
      exact fun e => hc.2 (e ▸ ha)
    · rw [if_neg hc]
      exact h
theorem made_mem {a b : List Int} {p v : Int} (h : v ∈ made a b p) : v ∈ a ∨ v ∈ b := by
  rcases addAll_mem _ _ _ _ h with h | h
  · rcases addAll_mem _ _ _ _ h with h | h
    · cases h
    · exact .inl h
  · exact .inr h
theorem made_nodup (a b : List Int) (p : Int) : (made a b p).Nodup := addAll_nodup _ _ _ (addAll_nodup _ _ _ List.nodup_nil)
theorem nodup_len : ∀ (c L : List Int), c.Nodup → (∀ v ∈ c, v ∈ L) → c.length ≤ L.length
  | [], _, _, _ => Nat.zero_le _
  | x :: c, L, hn, hs => by
    have hx : x ∈ L := hs x (by simp)
    have hn' := List.nodup_cons.1 hn
    have := nodup_len c (L.erase x) hn'.2 (fun v hv => (List.mem_erase_of_ne (fun e : v = x => hn'.1 (by rw [← e]; exact hv))).2 (hs v (by simp [hv])))
    rw [List.length_erase_of_mem hx] at this
    have : 0 < L.length := List.length_pos_of_mem hx
    simp only [List.length_cons]
    omega

/-- Clauses that are not too long, of given letters. -/
def small (L : List Int) (out : List (List Int)) : Prop := ∀ c ∈ out, c.length ≤ 720 ∧ ∀ v ∈ c, v ∈ L
theorem flat_len (k : Nat) : ∀ (l : List (List Int)), (∀ c ∈ l, c.length ≤ k) → l.flatten.length ≤ l.length * k
  | [], _ => by simp
  | c :: l, h => by
    have h1 := h c (by simp)
    have h2 := flat_len k l (fun x hx => h x (by simp [hx]))
    simp only [List.flatten_cons, List.length_append, List.length_cons, Nat.succ_mul]
    omega
theorem small_start (l : List (List Int)) (h1 : l.length ≤ 60) (h2 : ∀ c ∈ l, c.length ≤ 12) : small l.flatten l ∧ l.flatten.length ≤ 720 := by
  refine ⟨fun c hc => ⟨?_, fun v hv => List.mem_flatten.2 ⟨c, hc, hv⟩⟩, ?_⟩
  · have := h2 c hc
    omega
  · have := flat_len 12 l h2
    have : l.length * 12 ≤ 60 * 12 := Nat.mul_le_mul_right _ h1
    omega
theorem getC_mem {out : List (List Int)} {i : Int} (h0 : 0 ≤ i) (h : i < out.length) : getC out i ∈ out := by
  unfold getC
  have : i.toNat < out.length := by omega
  simp [List.getD, List.getElem?_eq_getElem this]
theorem getC_eq {out : List (List Int)} {i : Int} (h : i.toNat < out.length) : out[i.toNat] = getC out i := by
  unfold getC
  simp [List.getD, List.getElem?_eq_getElem h]
theorem small_step {L : List Int} {out : List (List Int)} {a b : List Int} {p : Int} (hL : L.length ≤ 720) (h : small L out) (ha : a ∈ out) (hb : b ∈ out) : small L (out ++ [made a b p]) := by
  intro c hc
  rcases List.mem_append.1 hc with hc | hc
  · exact h c hc
  · simp only [List.mem_singleton] at hc
    subst hc
    have hs : ∀ v ∈ made a b p, v ∈ L := fun v hv => by
      rcases made_mem hv with hv | hv
      · exact (h a ha).2 v hv
      · exact (h b hb).2 v hv
    exact ⟨by have := nodup_len _ L (made_nodup a b p) hs; omega, hs⟩

def f13 (l : List (List Int)) (i : Int) : Fr := Fr.mk ([.sl (rows l) none, .junk, .bool false, .int .i64 i] ++ List.replicate 15 .junk) (List.replicate 19 none) []
def tidyB (l : List (List Int)) : Bool := decide (l.length ≤ 60) && l.all fun c => decide (c.length ≤ 12)
theorem tidy_ok (n : Nat) (l : List (List Int)) (o : Option Nat) (σ : St) (hn : 60 < n) :
    callN T (n + 1) 13 [.sl (rows l) o] σ = some (.bool (tidyB l), σ) := by
  refine call_of (m := m13) rfl rfl (by decide) (k_start ?_)
  unfold m13
  by_cases h0 : l.length ≤ 60
  · refine k_seq ?_
    refine rv (D.bool false) ?_
    refine k_done (k_skip_seq (k_seq (k_seq ?_)))
    refine rv (D.sl (rows l) none) ?_
    refine rve (D.int IntKind.i64 (↑(List.length (rows l)) : Int)) (.int IntKind.i64 ((↑(List.length l) : Int))) (by simp only [ints, eInt, rows, eInts, bools, eBool, trips, eTrip, List.length_map]) ?_
    refine rv (D.bool (decide ((↑(List.length l) : Int) > (60 : Int)))) ?_
    refine k_done (k_skip_seq ?_)
    refine rkn 6 (decide ((↑(List.length l) : Int) > (60 : Int))) false (decide_eq_false (by omega)) ?_
    refine kcf (k_skip_seq (k_seq (k_seq ?_)))
    refine rv (D.int IntKind.i64 (0 : Int)) ?_
    refine k_done (k_skip_seq (k_block ?_))
    refine k_loop (fun i : Nat => f13 l i) (fun _ => σ) (fun i => i ≤ l.length ∧ ∀ c ∈ l.take i, c.length ≤ 12) (fun i => l.length - i) 0 (by kernel_rfl) rfl (by simp) (by omega) ?_
    rintro i ⟨hi, hv⟩
    by_cases hlt : i < l.length
    · by_cases h1 : l[i].length ≤ 12
      · refine k_seq (k_seq ?_)
        refine rv (D.int IntKind.i64 (↑i : Int)) ?_
        refine rv (D.sl (rows l) none) ?_
        refine rve (D.int IntKind.i64 (↑(List.length (rows l)) : Int)) (.int IntKind.i64 ((↑(List.length l) : Int))) (by simp only [ints, eInt, rows, eInts, bools, eBool, trips, eTrip, List.length_map]) ?_
        refine rv (D.bool (decide ((↑i : Int) < (↑(List.length l) : Int)))) ?_
        refine k_done (k_skip_seq ?_)
        refine rkn 10 (decide ((↑i : Int) < (↑(List.length l) : Int))) true (decide_eq_true (by omega)) ?_
        refine kct (k_skip_seq (k_seq (k_block (k_seq ?_))))
        refine rv (D.sl (rows l) none) ?_
        refine rv (D.int IntKind.i64 (↑i : Int)) ?_
        refine runs_index (l) (eInts) (o := none) (kd := IntKind.i64) (i) (by kernel_rfl) (by kernel_rfl) (by kernel_rfl) (by assumption) (by kernel_rfl) ?_
        refine rv (D.sl (ints l[i]) none) ?_
        refine rve (D.int IntKind.i64 (↑(List.length (ints l[i])) : Int)) (.int IntKind.i64 ((↑(List.length l[i]) : Int))) (by simp only [ints, eInt, rows, eInts, bools, eBool, trips, eTrip, List.length_map]) ?_
        refine rv (D.bool (decide ((↑(List.length l[i]) : Int) > (12 : Int)))) ?_
        refine k_done (k_skip_seq ?_)
        refine rkn 18 (decide ((↑(List.length l[i]) : Int) > (12 : Int))) false (decide_eq_false (by omega)) ?_
        refine kcf (k_skip_block (k_skip_seq ?_))
        refine rv (D.int IntKind.i64 (↑i : Int)) ?_
        refine rve (D.int IntKind.i64 (IntKind.wrap IntKind.i64 ((↑i : Int) + (1 : Int)))) (.int IntKind.i64 ((i + 1 : Nat) : Int)) (congrArg (D.int IntKind.i64) (show IntKind.wrap IntKind.i64 ((↑i : Int) + (1 : Int)) = ((i + 1 : Nat) : Int) by rw [IntKind.wrap_i64] <;> omega)) ?_
        refine ra0 (D.int IntKind.i64 (↑(i + (1 : Nat)) : Int)) ?_
        refine k_done (k_skip_back ?_)
        refine ⟨i + 1, ⟨hlt, ?_⟩, by omega, by kernel_rfl, rfl⟩
        rw [List.take_succ_eq_append_getElem hlt]
        intro c hc
        rcases List.mem_append.1 hc with hc | hc
        · exact hv c hc
        · simp only [List.mem_singleton] at hc
          rw [hc]
          exact h1
      · refine k_seq (k_seq ?_)
        refine rv (D.int IntKind.i64 (↑i : Int)) ?_
        refine rv (D.sl (rows l) none) ?_
        refine rve (D.int IntKind.i64 (↑(List.length (rows l)) : Int)) (.int IntKind.i64 ((↑(List.length l) : Int))) (by simp only [ints, eInt, rows, eInts, bools, eBool, trips, eTrip, List.length_map]) ?_
        refine rv (D.bool (decide ((↑i : Int) < (↑(List.length l) : Int)))) ?_
        refine k_done (k_skip_seq ?_)
        refine rkn 10 (decide ((↑i : Int) < (↑(List.length l) : Int))) true (decide_eq_true (by omega)) ?_
        refine kct (k_skip_seq (k_seq (k_block (k_seq ?_))))
        refine rv (D.sl (rows l) none) ?_
        refine rv (D.int IntKind.i64 (↑i : Int)) ?_
        refine runs_index (l) (eInts) (o := none) (kd := IntKind.i64) (i) (by kernel_rfl) (by kernel_rfl) (by kernel_rfl) (by assumption) (by kernel_rfl) ?_
        refine rv (D.sl (ints l[i]) none) ?_
        refine rve (D.int IntKind.i64 (↑(List.length (ints l[i])) : Int)) (.int IntKind.i64 ((↑(List.length l[i]) : Int))) (by simp only [ints, eInt, rows, eInts, bools, eBool, trips, eTrip, List.length_map]) ?_
        refine rv (D.bool (decide ((↑(List.length l[i]) : Int) > (12 : Int)))) ?_
        refine k_done (k_skip_seq ?_)
        refine rkn 18 (decide ((↑(List.length l[i]) : Int) > (12 : Int))) true (decide_eq_true (by omega)) ?_
        refine kct (k_seq ?_)
        refine rv (D.bool false) ?_
        refine k_done (k_skip_seq (k_ret ?_))
        have : tidyB l = false := by
          unfold tidyB
          have : (l.all fun c => decide (c.length ≤ 12)) = false := by
            rw [Bool.eq_false_iff]
            intro h
            have := List.all_eq_true.1 h l[i] (List.getElem_mem hlt)
            simp only [decide_eq_true_eq] at this
            exact h1 this
          rw [this, Bool.and_false]
        rw [this]
        exact ⟨.inr rfl, by kernel_rfl, by kernel_rfl⟩
    · refine k_seq (k_seq ?_)
      refine rv (D.int IntKind.i64 (↑i : Int)) ?_
      refine rv (D.sl (rows l) none) ?_
      refine rve (D.int IntKind.i64 (↑(List.length (rows l)) : Int)) (.int IntKind.i64 ((↑(List.length l) : Int))) (by simp only [ints, eInt, rows, eInts, bools, eBool, trips, eTrip, List.length_map]) ?_
      refine rv (D.bool (decide ((↑i : Int) < (↑(List.length l) : Int)))) ?_
      refine k_done (k_skip_seq ?_)
      refine rkn 10 (decide ((↑i : Int) < (↑(List.length l) : Int))) false (decide_eq_false (by omega)) ?_
      refine kcf (k_exit_seq (k_exit_back (k_exit_hit rfl (k_skip_seq (k_seq ?_)))))
      refine rv (D.bool true) ?_
      refine k_done (k_skip_seq (k_ret ?_))
      have : tidyB l = true := by
        unfold tidyB
        rw [List.take_of_length_le (by omega)] at hv
        rw [decide_eq_true h0, Bool.true_and, List.all_eq_true]
        exact fun c hc => decide_eq_true (hv c hc)
      rw [this]
      exact ⟨.inr rfl, by kernel_rfl, by kernel_rfl⟩
  · have : tidyB l = false := by
      unfold tidyB
      rw [decide_eq_false h0, Bool.false_and]
    rw [this]
    refine k_seq ?_
    refine rv (D.bool false) ?_
    refine k_done (k_skip_seq (k_seq (k_seq ?_)))
    refine rv (D.sl (rows l) none) ?_
    refine rve (D.int IntKind.i64 (↑(List.length (rows l)) : Int)) (.int IntKind.i64 ((↑(List.length l) : Int))) (by simp only [ints, eInt, rows, eInts, bools, eBool, trips, eTrip, List.length_map]) ?_
    refine rv (D.bool (decide ((↑(List.length l) : Int) > (60 : Int)))) ?_
    refine k_done (k_skip_seq ?_)
    refine rkn 6 (decide ((↑(List.length l) : Int) > (60 : Int))) true (decide_eq_true (by omega)) ?_
    refine kct (k_seq ?_)
    refine rv (D.bool false) ?_
    refine k_done (k_skip_seq (k_ret ?_))
    exact ⟨.inr rfl, by kernel_rfl, by kernel_rfl⟩
theorem tidy_iff {l : List (List Int)} (h : tidyB l = true) : l.length ≤ 60 ∧ ∀ c ∈ l, c.length ≤ 12 := by
  unfold tidyB at h
  simp only [Bool.and_eq_true, decide_eq_true_eq, List.all_eq_true] at h
  exact h

def f16 (st : List Step3) (out : List Step3) (i : Int) : Fr := Fr.mk ([.sl (trips st) none, .junk, .sl [] (some 58), .sl (trips out) (some 58), .int .i64 i] ++ List.replicate 26 .junk) (List.replicate 31 none) []
theorem model_ok (n : Nat) (st : List Step3) (o : Option Nat) (σ : St) (hn : 30 < n) (hs : st.length ≤ 30) :
    callN T (n + 1) 16 [.sl (trips st) o] σ = some (.sl (trips st) none, σ) := by
  refine call_of (m := m16) rfl rfl (by decide) (k_start ?_)
  unfold m16
  refine k_seq ?_
  refine rv (D.sl [] (some (58 : Nat))) ?_
  refine k_done (k_skip_seq (k_seq ?_))
  refine rv (D.sl [] (some (58 : Nat))) ?_
  refine k_done (k_skip_seq (k_seq (k_seq ?_)))
  refine rv (D.int IntKind.i64 (0 : Int)) ?_
  refine k_done (k_skip_seq (k_block ?_))
  refine k_loop (fun i : Nat => f16 st (st.take i) i) (fun _ => σ) (fun i => i ≤ st.length) (fun i => st.length - i) 0 (by kernel_rfl) rfl (by simp) (by omega) ?_
  intro i hi
  have hl : (st.take i).length = i := by simp; omega
  by_cases hlt : i < st.length
  · have ht := List.take_succ_eq_append_getElem hlt
    generalize hout : st.take i = out at *
    refine k_seq (k_seq ?_)
    refine rv (D.int IntKind.i64 (↑i : Int)) ?_
    refine rv (D.sl (trips st) none) ?_
    refine rve (D.int IntKind.i64 (↑(List.length (trips st)) : Int)) (.int IntKind.i64 ((↑(List.length st) : Int))) (by simp only [ints, eInt, rows, eInts, bools, eBool, trips, eTrip, List.length_map]) ?_
    refine rv (D.bool (decide ((↑i : Int) < (↑(List.length st) : Int)))) ?_
    refine k_done (k_skip_seq ?_)
    refine rkn 8 (decide ((↑i : Int) < (↑(List.length st) : Int))) true (decide_eq_true (by omega)) ?_
    refine kct (k_skip_seq (k_seq (k_block ?_)))
    refine runs_steal (D.sl (trips out) (some (58 : Nat))) (by kernel_rfl) (by kernel_rfl) ?_
    refine rv (D.sl (trips st) none) ?_
    refine rv (D.int IntKind.i64 (↑i : Int)) ?_
    refine runs_index (st) (eTrip) (o := none) (kd := IntKind.i64) (i) (by kernel_rfl) (by kernel_rfl) (by kernel_rfl) (by assumption) (by kernel_rfl) ?_
    refine rv (D.ref [D.int IntKind.i64 (Prod.fst st[i]), D.int IntKind.i64 (Prod.fst (Prod.snd st[i])), D.int IntKind.i64 (Prod.snd (Prod.snd st[i]))]) ?_
    refine rv (D.int IntKind.i64 (Prod.fst st[i])) ?_
    refine rv (D.sl (trips st) none) ?_
    refine rv (D.int IntKind.i64 (↑i : Int)) ?_
    refine runs_index (st) (eTrip) (o := none) (kd := IntKind.i64) (i) (by kernel_rfl) (by kernel_rfl) (by kernel_rfl) (by assumption) (by kernel_rfl) ?_
    refine rv (D.ref [D.int IntKind.i64 (Prod.fst (Prod.snd st[i])), D.int IntKind.i64 (Prod.snd (Prod.snd st[i]))]) ?_
    refine rv (D.int IntKind.i64 (Prod.fst (Prod.snd st[i]))) ?_
    refine rv (D.sl (trips st) none) ?_
    refine rv (D.int IntKind.i64 (↑i : Int)) ?_
    refine runs_index (st) (eTrip) (o := none) (kd := IntKind.i64) (i) (by kernel_rfl) (by kernel_rfl) (by kernel_rfl) (by assumption) (by kernel_rfl) ?_
    refine rv (D.ref [D.int IntKind.i64 (Prod.snd (Prod.snd st[i]))]) ?_
    refine rv (D.int IntKind.i64 (Prod.snd (Prod.snd st[i]))) ?_
    refine rv (D.agg [D.int IntKind.i64 (Prod.fst st[i]), D.int IntKind.i64 (Prod.fst (Prod.snd st[i])), D.int IntKind.i64 (Prod.snd (Prod.snd st[i]))]) ?_
    refine rv (D.sl [[D.int IntKind.i64 (Prod.fst st[i]), D.int IntKind.i64 (Prod.fst (Prod.snd st[i])), D.int IntKind.i64 (Prod.snd (Prod.snd st[i]))]] (some (58 : Nat))) ?_
    refine runs_append (trips out) ([[D.int IntKind.i64 (Prod.fst st[i]), D.int IntKind.i64 (Prod.fst (Prod.snd st[i])), D.int IntKind.i64 (Prod.snd (Prod.snd st[i]))]]) (trips (out ++ [(Prod.fst st[i], Prod.fst (Prod.snd st[i]), Prod.snd (Prod.snd st[i]))])) (by kernel_rfl) (by kernel_rfl) (by kernel_rfl) (by kernel_rfl) (by simp [ints, eInt, rows, eInts, bools, eBool, trips, eTrip, room]; omega) (by simp [ints, eInt, rows, eInts, bools, eBool, trips, eTrip]) ?_
    refine runs_assign (D.sl (trips (out ++ [(Prod.fst st[i], Prod.fst (Prod.snd st[i]), Prod.snd (Prod.snd st[i]))])) (some (58 : Nat))) (by kernel_rfl) (by kernel_rfl) ?_
    refine k_done (k_skip_block (k_skip_seq ?_))
    refine rv (D.int IntKind.i64 (↑i : Int)) ?_
    refine rve (D.int IntKind.i64 (IntKind.wrap IntKind.i64 ((↑i : Int) + (1 : Int)))) (.int IntKind.i64 ((i + 1 : Nat) : Int)) (congrArg (D.int IntKind.i64) (show IntKind.wrap IntKind.i64 ((↑i : Int) + (1 : Int)) = ((i + 1 : Nat) : Int) by rw [IntKind.wrap_i64] <;> omega)) ?_
    refine ra0 (D.int IntKind.i64 (↑(i + (1 : Nat)) : Int)) ?_
    refine k_done (k_skip_back ?_)
    exact ⟨i + 1, hlt, by omega, by rw [ht]; kernel_rfl, rfl⟩
  · rw [List.take_of_length_le (by omega)]
    refine k_seq (k_seq ?_)
    refine rv (D.int IntKind.i64 (↑i : Int)) ?_
    refine rv (D.sl (trips st) none) ?_
    refine rve (D.int IntKind.i64 (↑(List.length (trips st)) : Int)) (.int IntKind.i64 ((↑(List.length st) : Int))) (by simp only [ints, eInt, rows, eInts, bools, eBool, trips, eTrip, List.length_map]) ?_
    refine rv (D.bool (decide ((↑i : Int) < (↑(List.length st) : Int)))) ?_
    refine k_done (k_skip_seq ?_)
    refine rkn 8 (decide ((↑i : Int) < (↑(List.length st) : Int))) false (decide_eq_false (by omega)) ?_
    refine kcf (k_exit_seq (k_exit_back (k_exit_hit rfl (k_skip_seq (k_seq ?_)))))
    refine rv (D.sl (trips st) none) ?_
    refine ra0 (D.sl (trips st) none) ?_
    refine k_done (k_skip_seq (k_ret ?_))
    exact ⟨.inr rfl, by kernel_rfl, by kernel_rfl⟩
end Go.Abs.B
