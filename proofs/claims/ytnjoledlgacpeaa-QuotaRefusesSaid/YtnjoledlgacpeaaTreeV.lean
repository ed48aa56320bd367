import Derived.Test.YtnjoledlgacpeaaTreeS
import Derived.Test.YtnjoledlgacpeaaKont2
set_option linter.unusedVariables false
set_option linter.unusedSimpArgs false
/-
  Sorted rows: how the plain model of the tree keeps them.
-/
namespace Go.Abs.C
open Go Go.Abs
section
variable {α : Type} {key : α → List UInt8}
theorem insK_map {f : α → α} (hf : ∀ x, key (f x) = key x) (x : α) : ∀ l, insK key (f x) (l.map f) = (insK key x l).map f
  | [] => rfl
  | m :: l => by
    simp only [List.map_cons, insK, hf]
    split
    · rfl
    · rw [List.map_cons, insK_map hf x l]
theorem sortK_map {f : α → α} (hf : ∀ x, key (f x) = key x) : ∀ l, sortK key (l.map f) = (sortK key l).map f
  | [] => rfl
  | n :: l => by rw [List.map_cons, sortK, sortK, sortK_map hf l, insK_map hf]
theorem sortK_snoc {l : List α} {x : α} (hn : ((l ++ [x]).map key).Nodup) : sortK key (l ++ [x]) = insK key x (sortK key l) := by
  refine rising_unique (l := insK key x (sortK key l)) ?_ ?_ (sortK_rising key _) (insK_rising (sortK_rising key l))
  · refine (List.Perm.map key ?_).nodup_iff.2 hn
    exact (insK_perm key x _).trans (((sortK_perm key l).cons x).trans (List.perm_append_comm (l₁ := [x]) (l₂ := l)))
  · refine (sortK_perm key _).trans (List.Perm.symm ?_)
    exact (insK_perm key x _).trans (((sortK_perm key l).cons x).trans (List.perm_append_comm (l₁ := [x]) (l₂ := l)))
theorem sortK_filter {l : List α} (p : α → Bool) (hn : (l.map key).Nodup) : sortK key (l.filter p) = (sortK key l).filter p := by
  refine rising_unique (l := (sortK key l).filter p) ?_ ?_ (sortK_rising key _) ((sortK_rising key l).filter p)
  · refine List.Nodup.sublist (List.Sublist.map key List.filter_sublist) ?_
    exact ((sortK_perm key l).map key).nodup_iff.2 hn
  · exact (sortK_perm key _).trans ((sortK_perm key l).filter p).symm
theorem insK_at {x : α} : ∀ {l : List α} (at_ : Nat), at_ ≤ l.length → (∀ j (h : j < l.length), j < at_ → ltB (key l[j]) (key x) = true) → (∀ h : at_ < l.length, ltB (key l[at_]) (key x) = false) → (∀ y ∈ l, key y ≠ key x) → l.take at_ ++ (x :: l.drop at_) = insK key x l
  | [], at_, _, _, _, _ => by simp [insK]
  | m :: l, 0, _, _, h2, hne => by
    have h := h2 (by simp)
    simp only [List.getElem_cons_zero] at h
    have : ltB (key x) (key m) = true := by
      cases hh : ltB (key x) (key m) with
      | true => rfl
      | false => exact absurd (ltB_anti h hh) (hne m (by simp))
    simp [insK, this]
  | m :: l, at_ + 1, h0, h1, h2, hne => by
    have h := h1 0 (by simp) (by omega)
    simp only [List.getElem_cons_zero] at h
    have ih := insK_at (x := x) (l := l) at_ (by simpa using h0) (fun j hj hlt => by have := h1 (j + 1) (by simp; omega) (by omega); rwa [List.getElem_cons_succ] at this) (fun hh => by have := h2 (by simp; omega); rwa [List.getElem_cons_succ] at this) (fun y hy => hne y (List.mem_cons_of_mem _ hy))
    simp only [List.take_succ_cons, List.drop_succ_cons, List.cons_append, insK, ltB_asymm h, Bool.false_eq_true, if_false, ih]
end
theorem delH_at {l : List HeldR} {id : Nm} (hn : (l.map (·.id)).Nodup) (i : Nat) (h : i < l.length) (he : l[i].id = id) : l.take i ++ l.drop (i + 1) = delH l id := by
  induction l generalizing i with
  | nil => simp at h
  | cons x l ih =>
    simp only [List.map_cons, List.nodup_cons] at hn
    cases i with
    | zero =>
      simp only [List.getElem_cons_zero] at he
      simp only [List.take_zero, List.nil_append, Nat.zero_add, List.drop_succ_cons, List.drop_zero, delH, List.filter_cons, he, beq_self_eq_true, Bool.not_true, Bool.false_eq_true, if_false]
      symm
      rw [List.filter_eq_self]
      intro y hy
      have : y.id ≠ id := fun e => hn.1 (List.mem_map.2 ⟨y, hy, e.trans he.symm⟩)
      simpa using this
    | succ i =>
      simp only [List.getElem_cons_succ] at he
      have hne : x.id ≠ id := fun e => hn.1 (List.mem_map.2 ⟨l[i]'(by simpa using h), List.getElem_mem _, he.trans e.symm⟩)
      have h1 : (x.id == id) = false := by simpa using hne
      have := ih hn.2 i (by simpa using h) he
      simp only [List.take_succ_cons, List.drop_succ_cons, List.cons_append, delH, List.filter_cons, h1, Bool.not_false, if_true]
      rw [this]
      rfl
/-- A node as the plain model has it. -/
def nW (r : NodeR) : List D := [.str r.name, .str r.parent, .int .i64 r.limit]
def treeD (lN : List NodeR) (lH : List HeldR) : D := .agg [.sl (lN.map nW) none, .sl (lH.map HeldR.cells) none]
/-- Both, side by side. -/
structure WInv (rs : List NodeR) (hs : List HeldR) (lN : List NodeR) (lH : List HeldR) : Prop where
  p : PInv rs hs
  N : lN = sortK NodeR.name rs
  H : lH = sortK HeldR.id hs
theorem WInv.permN {rs : List NodeR} {hs : List HeldR} {lN : List NodeR} {lH : List HeldR} (W : WInv rs hs lN lH) : lN.Perm rs := by rw [W.N]; exact sortK_perm _ _
theorem WInv.permH {rs : List NodeR} {hs : List HeldR} {lN : List NodeR} {lH : List HeldR} (W : WInv rs hs lN lH) : lH.Perm hs := by rw [W.H]; exact sortK_perm _ _
theorem PInv.nod {rs : List NodeR} {hs : List HeldR} (p : PInv rs hs) : (rs.map (·.name)).Nodup := by
  have := grown_names p.g
  unfold npR at this
  rw [List.map_map] at this
  exact this
theorem sort_bump (rs : List NodeR) (names : List Nm) (n : Int) : (sortK NodeR.name (bumpQ rs names n)).map nW = (sortK NodeR.name rs).map nW := by
  unfold bumpQ
  rw [sortK_map (key := NodeR.name) (fun x => by split <;> rfl), List.map_map]
  refine List.map_congr_left fun x _ => ?_
  simp only [Function.comp]
  split <;> rfl
theorem sort_set (rs : List NodeR) (name : Nm) (n : Int) : sortK NodeR.name (setR rs name fun r => { r with limit := n }) = setR (sortK NodeR.name rs) name fun r => { r with limit := n } := by
  unfold setR
  rw [sortK_map (key := NodeR.name) (fun x => by split <;> rfl)]
theorem bytes_step (p a b : List UInt8) : ltB (p ++ a) (p ++ b) = ltB a b := by
  induction p with
  | nil => rfl
  | cons x p ih =>
    simp only [ltB, Op.bytesLess, List.cons_append] at ih ⊢
    simp [ih]
theorem PInv.sum_add {rs : List NodeR} {hs lH : List HeldR} (p : PInv rs hs) (hH : lH.Perm hs) {name : Nm} (hn : hasR rs name = true) {j : Nat} (hj : j < lH.length) {sum : Int} (h : sum = sumAt (npR rs) name (lH.take j)) (hm : name ∈ lineP (npR rs) lH[j].node) :
    0 ≤ sum + lH[j].amount ∧ sum + lH[j].amount ≤ 9223372036854775807 ∧ sum + lH[j].amount = sumAt (npR rs) name (lH.take (j + 1)) := by
  have h1 := sumAt_snoc (npR rs) name lH j hj
  rw [if_pos hm] at h1
  have h2 := sumAt_take (np := npR rs) (name := name) (hs := lH) (fun x hx => (p.h x (hH.subset hx)).1) (j + 1)
  rw [sumAt_perm hH] at h2
  unfold hasR at hn
  obtain ⟨r, hr⟩ := Option.isSome_iff_exists.1 hn
  have hmem := List.mem_of_find?_eq_some hr
  have he : r.name = name := by simpa using List.find?_some hr
  obtain ⟨u1, u2, u3⟩ := p.u _ hmem
  rw [he] at u1
  omega
theorem sum_same {np : List (Nm × Nm)} {name : Nm} {lH : List HeldR} {j : Nat} (hj : j < lH.length) {sum : Int} (h : sum = sumAt np name (lH.take j)) (hm : name ∉ lineP np lH[j].node) : sum = sumAt np name (lH.take (j + 1)) := by
  rw [sumAt_snoc np name lH j hj, if_neg hm, h]
  omega
/-- Where a name stands; below 0: nowhere. -/
def idxI {α : Type} (key : α → Nm) (l : List α) (s : Nm) : Int := match l.findIdx? (fun x => key x == s) with | some i => (i : Int) | none => -1
theorem idxI_here {α : Type} {key : α → Nm} {l : List α} {s : Nm} {i : Nat} (h : i < l.length) (he : key l[i] = s) (hb : ∀ j (hj : j < l.length), j < i → key l[j] ≠ s) : idxI key l s = i := by
  have : l.findIdx? (fun x => key x == s) = some i := by
    rw [List.findIdx?_eq_some_iff_getElem]
    refine ⟨h, by simpa using he, fun j hj => ?_⟩
    have := hb j (by omega) hj
    simpa using this
  unfold idxI
  rw [this]
theorem idxI_none {α : Type} {key : α → Nm} {l : List α} {s : Nm} (hb : ∀ j (hj : j < l.length), key l[j] ≠ s) : idxI key l s = -1 := by
  have : l.findIdx? (fun x => key x == s) = none := by
    rw [List.findIdx?_eq_none_iff]
    intro x hx
    obtain ⟨j, hj, rfl⟩ := List.getElem_of_mem hx
    simpa using hb j hj
  unfold idxI
  rw [this]
theorem idxI_cases {α : Type} (key : α → Nm) (l : List α) (s : Nm) : (idxI key l s = -1 ∧ ∀ x ∈ l, key x ≠ s) ∨ ∃ i, ∃ h : i < l.length, idxI key l s = (i : Int) ∧ key l[i] = s := by
  cases hf : l.findIdx? (fun x => key x == s) with
  | none =>
    left
    refine ⟨by unfold idxI; rw [hf], fun x hx => ?_⟩
    rw [List.findIdx?_eq_none_iff] at hf
    simpa using hf x hx
  | some i =>
    right
    have hf2 := hf
    rw [List.findIdx?_eq_some_iff_getElem] at hf
    obtain ⟨h, h1, _⟩ := hf
    exact ⟨i, h, by unfold idxI; rw [hf2], by simpa using h1⟩
/-- The order of texts. -/
def textI (a b : Nm) : Int := if ltB a b = true then -1 else if a = b then 0 else 1
theorem textI_neg (a b : Nm) : textI a b < 0 ↔ ltB a b = true := by
  unfold textI
  constructor
  · intro h
    split at h
    · assumption
    · split at h <;> omega
  · intro h
    rw [if_pos h]
    decide
theorem split_at {a : Nm} {i : Nat} (h : i < a.length) : a = a.take i ++ (a[i] :: a.drop (i + 1)) := by
  rw [← List.drop_eq_getElem_cons h, List.take_append_drop]
theorem text_less {a b : Nm} {i : Nat} (ha : i < a.length) (hb : i < b.length) (h : a.take i = b.take i) (hlt : (a[i].toNat : Int) < b[i].toNat) : textI a b = -1 := by
  have : ltB a b = true := by
    rw [split_at ha, split_at hb, h, bytes_step]
    have : a[i] < b[i] := by
      rw [UInt8.lt_iff_toNat_lt]
      omega
    simp [ltB, Op.bytesLess, this]
  unfold textI
  rw [if_pos this]
theorem text_more {a b : Nm} {i : Nat} (ha : i < a.length) (hb : i < b.length) (h : a.take i = b.take i) (hlt : (b[i].toNat : Int) < a[i].toNat) : textI a b = 1 := by
  have h2 : ¬ a[i] < b[i] := by
    rw [UInt8.lt_iff_toNat_lt]
    omega
  have h3 : ¬ a[i] = b[i] := fun e => by rw [e] at hlt; omega
  have h1 : ltB a b = false := by
    rw [split_at ha, split_at hb, h, bytes_step]
    simp [ltB, Op.bytesLess, h2, h3]
  have h4 : a ≠ b := fun e => by subst e; exact h3 rfl
  unfold textI
  rw [if_neg (by rw [h1]; decide), if_neg h4]
theorem text_end {a b : Nm} {i : Nat} (ha : i ≤ a.length) (hb : i ≤ b.length) (h : a.take i = b.take i) (he : i = a.length ∨ i = b.length) : textI a b = if (a.length : Int) < b.length then -1 else if (a.length : Int) > b.length then 1 else 0 := by
  have h1 : a = a.take i ++ a.drop i := (List.take_append_drop i a).symm
  have h2 : b = a.take i ++ b.drop i := by rw [h]; exact (List.take_append_drop i b).symm
  have h3 : ltB a b = ltB (a.drop i) (b.drop i) := by
    have := bytes_step (a.take i) (a.drop i) (b.drop i)
    rw [← h1, ← h2] at this
    exact this
  by_cases c1 : (a.length : Int) < b.length
  · have e : i = a.length := by omega
    rw [if_pos c1]
    have : ltB a b = true := by
      rw [h3, e, List.drop_length]
      cases hd : b.drop a.length with
      | nil => have := congrArg List.length hd; simp at this; omega
      | cons x y => rfl
    unfold textI
    rw [if_pos this]
  · rw [if_neg c1]
    have e : i = b.length := by omega
    have h4 : ltB a b = false := by
      rw [h3, e, List.drop_length]
      cases a.drop b.length <;> rfl
    by_cases c2 : (a.length : Int) > b.length
    · rw [if_pos c2]
      unfold textI
      rw [if_neg (by rw [h4]; decide), if_neg (fun e2 => by rw [e2] at c2; omega)]
    · rw [if_neg c2]
      have hab : a = b := by
        have e2 : i = a.length := by omega
        rw [e2, List.take_length] at h
        rw [h, ← e2, e, List.take_length]
      unfold textI
      rw [if_neg (by rw [h4]; decide), if_pos hab]
end Go.Abs.C

/-
  The plain model of the tree, as the machine code sees it: where a name stands, what lies below what, what is used, the order of texts.
-/
namespace Go.Abs.C
open Go Go.Abs
set_option maxRecDepth 8000
attribute [local irreducible] callN runC evalOp
def h33 (lN : List NodeR) (lH : List HeldR) (s : Nm) (i : Nat) : Fr := ⟨[.agg [.sl (lN.map nW) none, .sl (lH.map HeldR.cells) none], .str s, .lptr 2 0, .junk, .int .i64 0, .int .i64 i] ++ List.replicate 16 .junk, [none, none, some [.sl (lN.map nW) none, .sl (lH.map HeldR.cells) none]] ++ List.replicate 19 none, []⟩
theorem find_ok (n : Nat) (lN : List NodeR) (lH : List HeldR) (s : Nm) (hn : lN.length < n) (hB : lN.length < 1000) : callN T (n + 1) 33 [treeD lN lH, .str s] [] = some (.int .i64 (idxI NodeR.name lN s), []) := by
  refine call_of (m := m33) rfl rfl (by decide) (k_start ?_)
  unfold m33 treeD
  refine k_seq ?_
  refine rgf (D.lptr (2 : Nat) (0 : Nat)) ([]) ?_
  refine rv (D.int IntKind.i64 (0 : Int)) ?_
  refine k_done (k_skip_seq (k_seq (k_seq ?_)))
  refine rv (D.int IntKind.i64 (0 : Int)) ?_
  refine k_done (k_skip_seq (k_block ?_))
  refine k_loop (fun i => h33 lN lH s i) (fun _ => []) (fun i => i ≤ lN.length ∧ ∀ j (hj : j < lN.length), j < i → lN[j].name ≠ s) (fun i => lN.length - i) 0 (by kernel_rfl) (by kernel_rfl) ⟨by simp, fun j _ h => absurd h (Nat.not_lt_zero _)⟩ (fun s hs => by omega) ?_
  rintro i ⟨hi, hb⟩
  unfold h33 l33_0
  by_cases c : i < lN.length
  · by_cases e : lN[i].name = s
    · refine k_seq (k_seq ?_)
      refine rv (D.int IntKind.i64 (↑i : Int)) ?_
      refine rv (D.lptr (2 : Nat) (0 : Nat)) ?_
      refine rv (D.sl (List.map nW lN) none) ?_
      refine rve (D.int IntKind.i64 (↑(List.length (List.map nW lN)) : Int)) (.int IntKind.i64 ((↑(List.length lN) : Int))) (by simp only [ints, eInt, rows, eInts, bools, eBool, trips, eTrip, i8s, u16s, u8s, acts, List.length_map]) ?_
      refine rv (D.bool (decide ((↑i : Int) < (↑(List.length lN) : Int)))) ?_
      refine k_done (k_skip_seq ?_)
      refine rkn 10 (decide ((↑i : Int) < (↑(List.length lN) : Int))) true (decide_eq_true (by omega)) ?_
      refine kct (k_skip_seq (k_seq (k_block (k_seq ?_))))
      refine rv (D.lptr (2 : Nat) (0 : Nat)) ?_
      refine rv (D.sl (List.map nW lN) none) ?_
      refine rv (D.int IntKind.i64 (↑i : Int)) ?_
      refine runs_index (lN) (nW) (o := none) (kd := IntKind.i64) (i) (by kernel_rfl) (by kernel_rfl) (by kernel_rfl) (by assumption) (by kernel_rfl) ?_
      refine rv (D.ref [D.str (NodeR.name lN[i]), D.str (NodeR.parent lN[i]), D.int IntKind.i64 (NodeR.limit lN[i])]) ?_
      refine rv (D.str (NodeR.name lN[i])) ?_
      refine rv (D.str s) ?_
      refine rv (D.bool (NodeR.name lN[i] == s)) ?_
      refine k_done (k_skip_seq ?_)
      refine rkn 20 (NodeR.name lN[i] == s) true (beq_iff_eq.2 (by assumption)) ?_
      refine kct (k_seq ?_)
      refine rv (D.int IntKind.i64 (↑i : Int)) ?_
      refine ra0 (D.int IntKind.i64 (↑i : Int)) ?_
      refine k_done (k_skip_seq (k_ret ?_))
      exact ⟨.inr rfl, by kernel_rfl, by rw [idxI_here (key := NodeR.name) c e hb]; kernel_rfl⟩
    · refine k_seq (k_seq ?_)
      refine rv (D.int IntKind.i64 (↑i : Int)) ?_
      refine rv (D.lptr (2 : Nat) (0 : Nat)) ?_
      refine rv (D.sl (List.map nW lN) none) ?_
      refine rve (D.int IntKind.i64 (↑(List.length (List.map nW lN)) : Int)) (.int IntKind.i64 ((↑(List.length lN) : Int))) (by simp only [ints, eInt, rows, eInts, bools, eBool, trips, eTrip, i8s, u16s, u8s, acts, List.length_map]) ?_
      refine rv (D.bool (decide ((↑i : Int) < (↑(List.length lN) : Int)))) ?_
      refine k_done (k_skip_seq ?_)
      refine rkn 10 (decide ((↑i : Int) < (↑(List.length lN) : Int))) true (decide_eq_true (by omega)) ?_
      refine kct (k_skip_seq (k_seq (k_block (k_seq ?_))))
      refine rv (D.lptr (2 : Nat) (0 : Nat)) ?_
      refine rv (D.sl (List.map nW lN) none) ?_
      refine rv (D.int IntKind.i64 (↑i : Int)) ?_
      refine runs_index (lN) (nW) (o := none) (kd := IntKind.i64) (i) (by kernel_rfl) (by kernel_rfl) (by kernel_rfl) (by assumption) (by kernel_rfl) ?_
      refine rv (D.ref [D.str (NodeR.name lN[i]), D.str (NodeR.parent lN[i]), D.int IntKind.i64 (NodeR.limit lN[i])]) ?_
      refine rv (D.str (NodeR.name lN[i])) ?_
      refine rv (D.str s) ?_
      refine rv (D.bool (NodeR.name lN[i] == s)) ?_
      refine k_done (k_skip_seq ?_)
      refine rkn 20 (NodeR.name lN[i] == s) false (beq_eq_false_iff_ne.2 (by assumption)) ?_
      refine kcf (k_skip_block (k_skip_seq ?_))
      refine rv (D.int IntKind.i64 (↑i : Int)) ?_
      refine rve (D.int IntKind.i64 (IntKind.wrap IntKind.i64 ((↑i : Int) + (1 : Int)))) (.int IntKind.i64 ((i + 1 : Nat) : Int)) (congrArg (D.int IntKind.i64) (show IntKind.wrap IntKind.i64 ((↑i : Int) + (1 : Int)) = ((i + 1 : Nat) : Int) from wrap_eq (by omega) (by omega) (by omega))) ?_
      refine ra0 (D.int IntKind.i64 (↑(i + (1 : Nat)) : Int)) ?_
      refine k_done (k_skip_back ?_)
      exact ⟨i + 1, ⟨c, fun j hj hlt => by by_cases h : j = i; (subst h; exact e); exact hb j hj (by omega)⟩, by omega, by kernel_rfl, rfl⟩
  · refine k_seq (k_seq ?_)
    refine rv (D.int IntKind.i64 (↑i : Int)) ?_
    refine rv (D.lptr (2 : Nat) (0 : Nat)) ?_
    refine rv (D.sl (List.map nW lN) none) ?_
    refine rve (D.int IntKind.i64 (↑(List.length (List.map nW lN)) : Int)) (.int IntKind.i64 ((↑(List.length lN) : Int))) (by simp only [ints, eInt, rows, eInts, bools, eBool, trips, eTrip, i8s, u16s, u8s, acts, List.length_map]) ?_
    refine rv (D.bool (decide ((↑i : Int) < (↑(List.length lN) : Int)))) ?_
    refine k_done (k_skip_seq ?_)
    refine rkn 10 (decide ((↑i : Int) < (↑(List.length lN) : Int))) false (decide_eq_false (by omega)) ?_
    refine kcf (k_exit_seq (k_exit_back (k_exit_hit rfl (k_skip_seq (k_seq ?_)))))
    refine rv (D.int IntKind.i64 (-1 : Int)) ?_
    refine k_done (k_skip_seq (k_ret ?_))
    exact ⟨.inr rfl, by kernel_rfl, by rw [idxI_none (key := NodeR.name) (fun j hj => hb j hj (by omega))]; kernel_rfl⟩
theorem held_ok (n : Nat) (lN : List NodeR) (lH : List HeldR) (s : Nm) (hn : lH.length < n) (hB : lH.length < 1000) : callN T (n + 1) 35 [treeD lN lH, .str s] [] = some (.int .i64 (idxI HeldR.id lH s), []) := by
  refine call_of (m := m35) rfl rfl (by decide) (k_start ?_)
  unfold m35 treeD
  refine k_seq ?_
  refine rgf (D.lptr (2 : Nat) (0 : Nat)) ([]) ?_
  refine rv (D.int IntKind.i64 (0 : Int)) ?_
  refine k_done (k_skip_seq (k_seq (k_seq ?_)))
  refine rv (D.int IntKind.i64 (0 : Int)) ?_
  refine k_done (k_skip_seq (k_block ?_))
  refine k_loop (fun i => h33 lN lH s i) (fun _ => []) (fun i => i ≤ lH.length ∧ ∀ j (hj : j < lH.length), j < i → lH[j].id ≠ s) (fun i => lH.length - i) 0 (by kernel_rfl) (by kernel_rfl) ⟨by simp, fun j _ h => absurd h (Nat.not_lt_zero _)⟩ (fun s hs => by omega) ?_
  rintro i ⟨hi, hb⟩
  unfold h33 l35_0
  by_cases c : i < lH.length
  · by_cases e : lH[i].id = s
    · refine k_seq (k_seq ?_)
      refine rv (D.int IntKind.i64 (↑i : Int)) ?_
      refine rv (D.lptr (2 : Nat) (1 : Nat)) ?_
      refine rv (D.sl (List.map HeldR.cells lH) none) ?_
      refine rve (D.int IntKind.i64 (↑(List.length (List.map HeldR.cells lH)) : Int)) (.int IntKind.i64 ((↑(List.length lH) : Int))) (by simp only [ints, eInt, rows, eInts, bools, eBool, trips, eTrip, i8s, u16s, u8s, acts, List.length_map]) ?_
      refine rv (D.bool (decide ((↑i : Int) < (↑(List.length lH) : Int)))) ?_
      refine k_done (k_skip_seq ?_)
      refine rkn 10 (decide ((↑i : Int) < (↑(List.length lH) : Int))) true (decide_eq_true (by omega)) ?_
      refine kct (k_skip_seq (k_seq (k_block (k_seq ?_))))
      refine rv (D.lptr (2 : Nat) (1 : Nat)) ?_
      refine rv (D.sl (List.map HeldR.cells lH) none) ?_
      refine rv (D.int IntKind.i64 (↑i : Int)) ?_
      refine runs_index (lH) (HeldR.cells) (o := none) (kd := IntKind.i64) (i) (by kernel_rfl) (by kernel_rfl) (by kernel_rfl) (by assumption) (by kernel_rfl) ?_
      refine rv (D.ref [D.str (HeldR.id lH[i]), D.str (HeldR.node lH[i]), D.int IntKind.i64 (HeldR.amount lH[i])]) ?_
      refine rv (D.str (HeldR.id lH[i])) ?_
      refine rv (D.str s) ?_
      refine rv (D.bool (HeldR.id lH[i] == s)) ?_
      refine k_done (k_skip_seq ?_)
      refine rkn 20 (HeldR.id lH[i] == s) true (beq_iff_eq.2 (by assumption)) ?_
      refine kct (k_seq ?_)
      refine rv (D.int IntKind.i64 (↑i : Int)) ?_
      refine ra0 (D.int IntKind.i64 (↑i : Int)) ?_
      refine k_done (k_skip_seq (k_ret ?_))
      exact ⟨.inr rfl, by kernel_rfl, by rw [idxI_here (key := HeldR.id) c e hb]; kernel_rfl⟩
    · refine k_seq (k_seq ?_)
      refine rv (D.int IntKind.i64 (↑i : Int)) ?_
      refine rv (D.lptr (2 : Nat) (1 : Nat)) ?_
      refine rv (D.sl (List.map HeldR.cells lH) none) ?_
      refine rve (D.int IntKind.i64 (↑(List.length (List.map HeldR.cells lH)) : Int)) (.int IntKind.i64 ((↑(List.length lH) : Int))) (by simp only [ints, eInt, rows, eInts, bools, eBool, trips, eTrip, i8s, u16s, u8s, acts, List.length_map]) ?_
      refine rv (D.bool (decide ((↑i : Int) < (↑(List.length lH) : Int)))) ?_
      refine k_done (k_skip_seq ?_)
      refine rkn 10 (decide ((↑i : Int) < (↑(List.length lH) : Int))) true (decide_eq_true (by omega)) ?_
      refine kct (k_skip_seq (k_seq (k_block (k_seq ?_))))
      refine rv (D.lptr (2 : Nat) (1 : Nat)) ?_
      refine rv (D.sl (List.map HeldR.cells lH) none) ?_
      refine rv (D.int IntKind.i64 (↑i : Int)) ?_
      refine runs_index (lH) (HeldR.cells) (o := none) (kd := IntKind.i64) (i) (by kernel_rfl) (by kernel_rfl) (by kernel_rfl) (by assumption) (by kernel_rfl) ?_
      refine rv (D.ref [D.str (HeldR.id lH[i]), D.str (HeldR.node lH[i]), D.int IntKind.i64 (HeldR.amount lH[i])]) ?_
      refine rv (D.str (HeldR.id lH[i])) ?_
      refine rv (D.str s) ?_
      refine rv (D.bool (HeldR.id lH[i] == s)) ?_
      refine k_done (k_skip_seq ?_)
      refine rkn 20 (HeldR.id lH[i] == s) false (beq_eq_false_iff_ne.2 (by assumption)) ?_
      refine kcf (k_skip_block (k_skip_seq ?_))
      refine rv (D.int IntKind.i64 (↑i : Int)) ?_
      refine rve (D.int IntKind.i64 (IntKind.wrap IntKind.i64 ((↑i : Int) + (1 : Int)))) (.int IntKind.i64 ((i + 1 : Nat) : Int)) (congrArg (D.int IntKind.i64) (show IntKind.wrap IntKind.i64 ((↑i : Int) + (1 : Int)) = ((i + 1 : Nat) : Int) from wrap_eq (by omega) (by omega) (by omega))) ?_
      refine ra0 (D.int IntKind.i64 (↑(i + (1 : Nat)) : Int)) ?_
      refine k_done (k_skip_back ?_)
      exact ⟨i + 1, ⟨c, fun j hj hlt => by by_cases h : j = i; (subst h; exact e); exact hb j hj (by omega)⟩, by omega, by kernel_rfl, rfl⟩
  · refine k_seq (k_seq ?_)
    refine rv (D.int IntKind.i64 (↑i : Int)) ?_
    refine rv (D.lptr (2 : Nat) (1 : Nat)) ?_
    refine rv (D.sl (List.map HeldR.cells lH) none) ?_
    refine rve (D.int IntKind.i64 (↑(List.length (List.map HeldR.cells lH)) : Int)) (.int IntKind.i64 ((↑(List.length lH) : Int))) (by simp only [ints, eInt, rows, eInts, bools, eBool, trips, eTrip, i8s, u16s, u8s, acts, List.length_map]) ?_
    refine rv (D.bool (decide ((↑i : Int) < (↑(List.length lH) : Int)))) ?_
    refine k_done (k_skip_seq ?_)
    refine rkn 10 (decide ((↑i : Int) < (↑(List.length lH) : Int))) false (decide_eq_false (by omega)) ?_
    refine kcf (k_exit_seq (k_exit_back (k_exit_hit rfl (k_skip_seq (k_seq ?_)))))
    refine rv (D.int IntKind.i64 (-1 : Int)) ?_
    refine k_done (k_skip_seq (k_ret ?_))
    exact ⟨.inr rfl, by kernel_rfl, by rw [idxI_none (key := HeldR.id) (fun j hj => hb j hj (by omega))]; kernel_rfl⟩
def h36 (lN : List NodeR) (lH : List HeldR) (low high : Nm) (i : Nat) : Fr := ⟨[.agg [.sl (lN.map nW) none, .sl (lH.map HeldR.cells) none], .str low, .str high, .lptr 3 0, .junk, .junk, .bool false, .int .i64 i] ++ List.replicate 31 .junk, [none, none, none, some [.sl (lN.map nW) none, .sl (lH.map HeldR.cells) none]] ++ List.replicate 35 none, []⟩
theorem under_ok (n : Nat) {rs lN : List NodeR} {hs lH : List HeldR} (p : PInv rs hs) (hN : lN.Perm rs) (low0 high : Nm) (hl : hasR rs low0 = true) (hn : lN.length + 2 < n) (hB : lN.length < 1000) : callN T (n + 2) 36 [treeD lN lH, .str low0, .str high] [] = some (.bool (decide (high ∈ lineP (npR rs) low0)), []) := by
  refine call_of (m := m36) rfl rfl (by decide) (k_start ?_)
  unfold m36 treeD
  refine k_seq ?_
  refine rgf (D.lptr (3 : Nat) (0 : Nat)) ([]) ?_
  refine rv (D.bool false) ?_
  refine k_done (k_skip_seq (k_seq (k_seq ?_)))
  refine rv (D.int IntKind.i64 (0 : Int)) ?_
  refine k_done (k_skip_seq (k_block ?_))
  have hnp : lN.length = (npR rs).length := by rw [hN.length_eq]; simp [npR]
  refine k_loop (fun s : Nat × Nm => h36 lN lH s.2 high s.1) (fun _ => []) (fun s => s.1 ≤ lN.length + 1 ∧ hasR rs s.2 = true ∧ (high ∈ pathP (npR rs) (lN.length + 1 - s.1) s.2 ↔ high ∈ lineP (npR rs) low0)) (fun s => lN.length + 1 - s.1) (0, low0) (by kernel_rfl) (by kernel_rfl) ⟨by simp, hl, by rw [hnp]; exact Iff.rfl⟩ (fun s hs => by omega) ?_
  rintro ⟨i, low⟩ ⟨hi, hlow, hin⟩
  simp only at hi hlow hin
  show Runs (runC _ _ _ (h36 lN lH low high i) []) _
  unfold h36 l36_0
  by_cases c : i ≤ lN.length
  · rw [show lN.length + 1 - i = (lN.length - i) + 1 by omega] at hin
    by_cases e : low = high
    · have hm : high ∈ lineP (npR rs) low0 := by
        rw [← hin, ← e]
        exact mem_path_here (by rw [lookP_has]; exact hlow)
      refine k_seq (k_seq ?_)
      refine rv (D.int IntKind.i64 (↑i : Int)) ?_
      refine rv (D.lptr (3 : Nat) (0 : Nat)) ?_
      refine rv (D.sl (List.map nW lN) none) ?_
      refine rve (D.int IntKind.i64 (↑(List.length (List.map nW lN)) : Int)) (.int IntKind.i64 ((↑(List.length lN) : Int))) (by simp only [ints, eInt, rows, eInts, bools, eBool, trips, eTrip, i8s, u16s, u8s, acts, List.length_map]) ?_
      refine rv (D.bool (decide ((↑i : Int) ≤ (↑(List.length lN) : Int)))) ?_
      refine k_done (k_skip_seq ?_)
      refine rkn 13 (decide ((↑i : Int) ≤ (↑(List.length lN) : Int))) true (decide_eq_true (by omega)) ?_
      refine kct (k_skip_seq (k_seq (k_block (k_seq (k_seq ?_)))))
      refine rv (D.str low) ?_
      refine rv (D.str high) ?_
      refine rv (D.bool (low == high)) ?_
      refine k_done (k_skip_seq ?_)
      refine rkn 18 (low == high) true (beq_iff_eq.2 (by assumption)) ?_
      refine kct (k_seq ?_)
      refine rv (D.bool true) ?_
      refine k_done (k_skip_seq (k_ret ?_))
      exact ⟨.inr rfl, by kernel_rfl, by rw [decide_eq_true hm]; kernel_rfl⟩
    · obtain ⟨_, hno⟩ | ⟨a, ca, hidx, he⟩ := idxI_cases NodeR.name lN low
      · exfalso
        unfold hasR at hlow
        obtain ⟨r, hr⟩ := Option.isSome_iff_exists.1 hlow
        exact hno r (hN.symm.subset (List.mem_of_find?_eq_some hr)) (by simpa using List.find?_some hr)
      · have hf := find_ok n lN lH low (by omega) hB
        rw [hidx] at hf
        have hpar : (lookP (npR rs) low).getD [] = lN[a].parent := by
          rw [← he, lookP_mem p.nod (hN.subset (List.getElem_mem ca))]
          rfl
        rw [mem_path_step p.g e, hpar] at hin
        by_cases hp : lN[a].parent = []
        · rw [hp] at hin
          have hm : high ∉ lineP (npR rs) low0 := fun h => mem_path_empty p.g _ _ (hin.2 h)
          refine k_seq (k_seq ?_)
          refine rv (D.int IntKind.i64 (↑i : Int)) ?_
          refine rv (D.lptr (3 : Nat) (0 : Nat)) ?_
          refine rv (D.sl (List.map nW lN) none) ?_
          refine rve (D.int IntKind.i64 (↑(List.length (List.map nW lN)) : Int)) (.int IntKind.i64 ((↑(List.length lN) : Int))) (by simp only [ints, eInt, rows, eInts, bools, eBool, trips, eTrip, i8s, u16s, u8s, acts, List.length_map]) ?_
          refine rv (D.bool (decide ((↑i : Int) ≤ (↑(List.length lN) : Int)))) ?_
          refine k_done (k_skip_seq ?_)
          refine rkn 13 (decide ((↑i : Int) ≤ (↑(List.length lN) : Int))) true (decide_eq_true (by omega)) ?_
          refine kct (k_skip_seq (k_seq (k_block (k_seq (k_seq ?_)))))
          refine rv (D.str low) ?_
          refine rv (D.str high) ?_
          refine rv (D.bool (low == high)) ?_
          refine k_done (k_skip_seq ?_)
          refine rkn 18 (low == high) false (beq_eq_false_iff_ne.2 (by assumption)) ?_
          refine kcf (k_skip_seq (k_seq ?_))
          refine rv (D.agg [D.sl (List.map nW lN) none, D.sl (List.map HeldR.cells lH) none]) ?_
          refine rv (D.str low) ?_
          refine runs_call ([D.agg [D.sl (List.map nW lN) none, D.sl (List.map HeldR.cells lH) none], D.str low]) (by kernel_rfl) (by kernel_rfl) (by kernel_rfl) (by kernel_rfl) (hf) (by kernel_rfl) ?_
          refine ra0 (D.int IntKind.i64 (↑a : Int)) ?_
          refine k_done (k_skip_seq (k_seq (k_seq ?_)))
          refine rv (D.int IntKind.i64 (↑a : Int)) ?_
          refine rv (D.bool false) ?_
          refine rv (D.bool false) ?_
          refine rv (D.lptr (3 : Nat) (0 : Nat)) ?_
          refine rv (D.sl (List.map nW lN) none) ?_
          refine rv (D.int IntKind.i64 (↑a : Int)) ?_
          refine runs_index (lN) (nW) (o := none) (kd := IntKind.i64) (a) (by kernel_rfl) (by kernel_rfl) (by kernel_rfl) (by assumption) (by kernel_rfl) ?_
          refine rv (D.ref [D.str (NodeR.parent lN[a]), D.int IntKind.i64 (NodeR.limit lN[a])]) ?_
          refine rv (D.str (NodeR.parent lN[a])) ?_
          refine rv (D.bool (NodeR.parent lN[a] == [])) ?_
          refine rv (D.bool (NodeR.parent lN[a] == [])) ?_
          refine k_done (k_skip_seq ?_)
          refine rkn 32 (NodeR.parent lN[a] == []) true (beq_iff_eq.2 (by assumption)) ?_
          refine kct (k_seq ?_)
          refine rv (D.bool false) ?_
          refine k_done (k_skip_seq (k_ret ?_))
          exact ⟨.inr rfl, by kernel_rfl, by rw [decide_eq_false hm]; kernel_rfl⟩
        · have hnext : hasR rs lN[a].parent = true := by
            have hlk : lookP (npR rs) low = some lN[a].parent := by
              rw [← he]
              exact lookP_mem p.nod (hN.subset (List.getElem_mem ca))
            rcases p.g.parent hlk with h | h
            · exact absurd h hp
            · rw [← lookP_has]; exact h
          refine k_seq (k_seq ?_)
          refine rv (D.int IntKind.i64 (↑i : Int)) ?_
          refine rv (D.lptr (3 : Nat) (0 : Nat)) ?_
          refine rv (D.sl (List.map nW lN) none) ?_
          refine rve (D.int IntKind.i64 (↑(List.length (List.map nW lN)) : Int)) (.int IntKind.i64 ((↑(List.length lN) : Int))) (by simp only [ints, eInt, rows, eInts, bools, eBool, trips, eTrip, i8s, u16s, u8s, acts, List.length_map]) ?_
          refine rv (D.bool (decide ((↑i : Int) ≤ (↑(List.length lN) : Int)))) ?_
          refine k_done (k_skip_seq ?_)
          refine rkn 13 (decide ((↑i : Int) ≤ (↑(List.length lN) : Int))) true (decide_eq_true (by omega)) ?_
          refine kct (k_skip_seq (k_seq (k_block (k_seq (k_seq ?_)))))
          refine rv (D.str low) ?_
          refine rv (D.str high) ?_
          refine rv (D.bool (low == high)) ?_
          refine k_done (k_skip_seq ?_)
          refine rkn 18 (low == high) false (beq_eq_false_iff_ne.2 (by assumption)) ?_
          refine kcf (k_skip_seq (k_seq ?_))
          refine rv (D.agg [D.sl (List.map nW lN) none, D.sl (List.map HeldR.cells lH) none]) ?_
          refine rv (D.str low) ?_
          refine runs_call ([D.agg [D.sl (List.map nW lN) none, D.sl (List.map HeldR.cells lH) none], D.str low]) (by kernel_rfl) (by kernel_rfl) (by kernel_rfl) (by kernel_rfl) (hf) (by kernel_rfl) ?_
          refine ra0 (D.int IntKind.i64 (↑a : Int)) ?_
          refine k_done (k_skip_seq (k_seq (k_seq ?_)))
          refine rv (D.int IntKind.i64 (↑a : Int)) ?_
          refine rv (D.bool false) ?_
          refine rv (D.bool false) ?_
          refine rv (D.lptr (3 : Nat) (0 : Nat)) ?_
          refine rv (D.sl (List.map nW lN) none) ?_
          refine rv (D.int IntKind.i64 (↑a : Int)) ?_
          refine runs_index (lN) (nW) (o := none) (kd := IntKind.i64) (a) (by kernel_rfl) (by kernel_rfl) (by kernel_rfl) (by assumption) (by kernel_rfl) ?_
          refine rv (D.ref [D.str (NodeR.parent lN[a]), D.int IntKind.i64 (NodeR.limit lN[a])]) ?_
          refine rv (D.str (NodeR.parent lN[a])) ?_
          refine rv (D.bool (NodeR.parent lN[a] == [])) ?_
          refine rv (D.bool (NodeR.parent lN[a] == [])) ?_
          refine k_done (k_skip_seq ?_)
          refine rkn 32 (NodeR.parent lN[a] == []) false (beq_eq_false_iff_ne.2 (by assumption)) ?_
          refine kcf (k_skip_seq ?_)
          refine rv (D.lptr (3 : Nat) (0 : Nat)) ?_
          refine rv (D.sl (List.map nW lN) none) ?_
          refine rv (D.int IntKind.i64 (↑a : Int)) ?_
          refine runs_index (lN) (nW) (o := none) (kd := IntKind.i64) (a) (by kernel_rfl) (by kernel_rfl) (by kernel_rfl) (by assumption) (by kernel_rfl) ?_
          refine rv (D.ref [D.str (NodeR.parent lN[a]), D.int IntKind.i64 (NodeR.limit lN[a])]) ?_
          refine rv (D.str (NodeR.parent lN[a])) ?_
          refine ra0 (D.str (NodeR.parent lN[a])) ?_
          refine k_done (k_skip_block (k_skip_seq ?_))
          refine rv (D.int IntKind.i64 (↑i : Int)) ?_
          refine rve (D.int IntKind.i64 (IntKind.wrap IntKind.i64 ((↑i : Int) + (1 : Int)))) (.int IntKind.i64 ((i + 1 : Nat) : Int)) (congrArg (D.int IntKind.i64) (show IntKind.wrap IntKind.i64 ((↑i : Int) + (1 : Int)) = ((i + 1 : Nat) : Int) from wrap_eq (by omega) (by omega) (by omega))) ?_
          refine ra0 (D.int IntKind.i64 (↑(i + (1 : Nat)) : Int)) ?_
          refine k_done (k_skip_back ?_)
          exact ⟨(i + 1, lN[a].parent), ⟨by simp only []; omega, hnext, by simp only []; rw [show lN.length + 1 - (i + 1) = lN.length - i by omega]; exact hin⟩, by simp only []; omega, by kernel_rfl, rfl⟩
  · have hm : high ∉ lineP (npR rs) low0 := by
      rw [← hin, show lN.length + 1 - i = 0 by omega]
      simp [pathP]
    refine k_seq (k_seq ?_)
    refine rv (D.int IntKind.i64 (↑i : Int)) ?_
    refine rv (D.lptr (3 : Nat) (0 : Nat)) ?_
    refine rv (D.sl (List.map nW lN) none) ?_
    refine rve (D.int IntKind.i64 (↑(List.length (List.map nW lN)) : Int)) (.int IntKind.i64 ((↑(List.length lN) : Int))) (by simp only [ints, eInt, rows, eInts, bools, eBool, trips, eTrip, i8s, u16s, u8s, acts, List.length_map]) ?_
    refine rv (D.bool (decide ((↑i : Int) ≤ (↑(List.length lN) : Int)))) ?_
    refine k_done (k_skip_seq ?_)
    refine rkn 13 (decide ((↑i : Int) ≤ (↑(List.length lN) : Int))) false (decide_eq_false (by omega)) ?_
    refine kcf (k_exit_seq (k_exit_back (k_exit_hit rfl (k_skip_seq (k_seq ?_)))))
    refine rv (D.bool false) ?_
    refine k_done (k_skip_seq (k_ret ?_))
    exact ⟨.inr rfl, by kernel_rfl, by rw [decide_eq_false hm]; kernel_rfl⟩
def h32 (lN : List NodeR) (lH : List HeldR) (name : Nm) (sum : Int) (i : Nat) : Fr := ⟨[.agg [.sl (lN.map nW) none, .sl (lH.map HeldR.cells) none], .str name, .lptr 2 0, .junk, .int .i64 0, .int .i64 sum, .int .i64 i] ++ List.replicate 27 .junk, [none, none, some [.sl (lN.map nW) none, .sl (lH.map HeldR.cells) none]] ++ List.replicate 31 none, []⟩
theorem used_ok (n : Nat) {rs lN : List NodeR} {hs lH : List HeldR} (p : PInv rs hs) (hN : lN.Perm rs) (hH : lH.Perm hs) (name : Nm) (hl : hasR rs name = true) (hn : lN.length + 2 < n) (hn2 : lH.length < n) (hB : lN.length < 1000) (hB2 : lH.length < 1000) : callN T (n + 3) 32 [treeD lN lH, .str name] [] = some (.int .i64 (sumAt (npR rs) name lH), []) := by
  refine call_of (m := m32) rfl rfl (by decide) (k_start ?_)
  unfold m32 treeD
  refine k_seq ?_
  refine rgf (D.lptr (2 : Nat) (0 : Nat)) ([]) ?_
  refine rv (D.int IntKind.i64 (0 : Int)) ?_
  refine k_done (k_skip_seq (k_seq ?_))
  refine rv (D.int IntKind.i64 (0 : Int)) ?_
  refine k_done (k_skip_seq (k_seq (k_seq ?_)))
  refine rv (D.int IntKind.i64 (0 : Int)) ?_
  refine k_done (k_skip_seq (k_block ?_))
  refine k_loop (fun s : Nat × Int => h32 lN lH name s.2 s.1) (fun _ => []) (fun s => s.1 ≤ lH.length ∧ s.2 = sumAt (npR rs) name (lH.take s.1)) (fun s => lH.length - s.1) (0, 0) (by kernel_rfl) (by kernel_rfl) ⟨by simp, rfl⟩ (fun s hs => by omega) ?_
  rintro ⟨i, sum⟩ ⟨hi, hsum⟩
  simp only at hi hsum
  show Runs (runC _ _ _ (h32 lN lH name sum i) []) _
  unfold h32 l32_0
  by_cases c : i < lH.length
  · have hu := under_ok n p hN (lH := lH) lH[i].node name (p.h _ (hH.subset (List.getElem_mem c))).2 hn hB
    by_cases hm : name ∈ lineP (npR rs) lH[i].node
    · obtain ⟨s1, s2, s3⟩ := p.sum_add hH hl c hsum hm
      rw [decide_eq_true hm] at hu
      refine k_seq (k_seq ?_)
      refine rv (D.int IntKind.i64 (↑i : Int)) ?_
      refine rv (D.lptr (2 : Nat) (1 : Nat)) ?_
      refine rv (D.sl (List.map HeldR.cells lH) none) ?_
      refine rve (D.int IntKind.i64 (↑(List.length (List.map HeldR.cells lH)) : Int)) (.int IntKind.i64 ((↑(List.length lH) : Int))) (by simp only [ints, eInt, rows, eInts, bools, eBool, trips, eTrip, i8s, u16s, u8s, acts, List.length_map]) ?_
      refine rv (D.bool (decide ((↑i : Int) < (↑(List.length lH) : Int)))) ?_
      refine k_done (k_skip_seq ?_)
      refine rkn 12 (decide ((↑i : Int) < (↑(List.length lH) : Int))) true (decide_eq_true (by omega)) ?_
      refine kct (k_skip_seq (k_seq (k_block (k_seq ?_))))
      refine rv (D.agg [D.sl (List.map nW lN) none, D.sl (List.map HeldR.cells lH) none]) ?_
      refine rv (D.lptr (2 : Nat) (1 : Nat)) ?_
      refine rv (D.sl (List.map HeldR.cells lH) none) ?_
      refine rv (D.int IntKind.i64 (↑i : Int)) ?_
      refine runs_index (lH) (HeldR.cells) (o := none) (kd := IntKind.i64) (i) (by kernel_rfl) (by kernel_rfl) (by kernel_rfl) (by assumption) (by kernel_rfl) ?_
      refine rv (D.ref [D.str (HeldR.node lH[i]), D.int IntKind.i64 (HeldR.amount lH[i])]) ?_
      refine rv (D.str (HeldR.node lH[i])) ?_
      refine rv (D.str name) ?_
      refine runs_call ([D.agg [D.sl (List.map nW lN) none, D.sl (List.map HeldR.cells lH) none], D.str (HeldR.node lH[i]), D.str name]) (by kernel_rfl) (by kernel_rfl) (by kernel_rfl) (by kernel_rfl) (hu) (by kernel_rfl) ?_
      refine ra0 (D.bool true) ?_
      refine k_done (k_skip_seq (k_seq ?_))
      refine rv (D.bool true) ?_
      refine k_done (k_skip_seq (kct ?_))
      refine rv (D.int IntKind.i64 sum) ?_
      refine rv (D.lptr (2 : Nat) (1 : Nat)) ?_
      refine rv (D.sl (List.map HeldR.cells lH) none) ?_
      refine rv (D.int IntKind.i64 (↑i : Int)) ?_
      refine runs_index (lH) (HeldR.cells) (o := none) (kd := IntKind.i64) (i) (by kernel_rfl) (by kernel_rfl) (by kernel_rfl) (by assumption) (by kernel_rfl) ?_
      refine rv (D.ref [D.int IntKind.i64 (HeldR.amount lH[i])]) ?_
      refine rv (D.int IntKind.i64 (HeldR.amount lH[i])) ?_
      refine rve (D.int IntKind.i64 (IntKind.wrap IntKind.i64 (sum + HeldR.amount lH[i]))) (.int IntKind.i64 (sum + HeldR.amount lH[i])) (congrArg (D.int IntKind.i64) (show IntKind.wrap IntKind.i64 (sum + HeldR.amount lH[i]) = (sum + HeldR.amount lH[i]) from wrap_eq (by omega) (by omega) (by omega))) ?_
      refine ra0 (D.int IntKind.i64 (sum + HeldR.amount lH[i])) ?_
      refine k_done (k_skip_block (k_skip_seq ?_))
      refine rv (D.int IntKind.i64 (↑i : Int)) ?_
      refine rve (D.int IntKind.i64 (IntKind.wrap IntKind.i64 ((↑i : Int) + (1 : Int)))) (.int IntKind.i64 ((i + 1 : Nat) : Int)) (congrArg (D.int IntKind.i64) (show IntKind.wrap IntKind.i64 ((↑i : Int) + (1 : Int)) = ((i + 1 : Nat) : Int) from wrap_eq (by omega) (by omega) (by omega))) ?_
      refine ra0 (D.int IntKind.i64 (↑(i + (1 : Nat)) : Int)) ?_
      refine k_done (k_skip_back ?_)
      exact ⟨(i + 1, sum + lH[i].amount), ⟨c, s3⟩, by simp only []; omega, by kernel_rfl, rfl⟩
    · rw [decide_eq_false hm] at hu
      refine k_seq (k_seq ?_)
      refine rv (D.int IntKind.i64 (↑i : Int)) ?_
      refine rv (D.lptr (2 : Nat) (1 : Nat)) ?_
      refine rv (D.sl (List.map HeldR.cells lH) none) ?_
      refine rve (D.int IntKind.i64 (↑(List.length (List.map HeldR.cells lH)) : Int)) (.int IntKind.i64 ((↑(List.length lH) : Int))) (by simp only [ints, eInt, rows, eInts, bools, eBool, trips, eTrip, i8s, u16s, u8s, acts, List.length_map]) ?_
      refine rv (D.bool (decide ((↑i : Int) < (↑(List.length lH) : Int)))) ?_
      refine k_done (k_skip_seq ?_)
      refine rkn 12 (decide ((↑i : Int) < (↑(List.length lH) : Int))) true (decide_eq_true (by omega)) ?_
      refine kct (k_skip_seq (k_seq (k_block (k_seq ?_))))
      refine rv (D.agg [D.sl (List.map nW lN) none, D.sl (List.map HeldR.cells lH) none]) ?_
      refine rv (D.lptr (2 : Nat) (1 : Nat)) ?_
      refine rv (D.sl (List.map HeldR.cells lH) none) ?_
      refine rv (D.int IntKind.i64 (↑i : Int)) ?_
      refine runs_index (lH) (HeldR.cells) (o := none) (kd := IntKind.i64) (i) (by kernel_rfl) (by kernel_rfl) (by kernel_rfl) (by assumption) (by kernel_rfl) ?_
      refine rv (D.ref [D.str (HeldR.node lH[i]), D.int IntKind.i64 (HeldR.amount lH[i])]) ?_
      refine rv (D.str (HeldR.node lH[i])) ?_
      refine rv (D.str name) ?_
      refine runs_call ([D.agg [D.sl (List.map nW lN) none, D.sl (List.map HeldR.cells lH) none], D.str (HeldR.node lH[i]), D.str name]) (by kernel_rfl) (by kernel_rfl) (by kernel_rfl) (by kernel_rfl) (hu) (by kernel_rfl) ?_
      refine ra0 (D.bool false) ?_
      refine k_done (k_skip_seq (k_seq ?_))
      refine rv (D.bool false) ?_
      refine k_done (k_skip_seq (kcf (k_skip_block (k_skip_seq ?_))))
      refine rv (D.int IntKind.i64 (↑i : Int)) ?_
      refine rve (D.int IntKind.i64 (IntKind.wrap IntKind.i64 ((↑i : Int) + (1 : Int)))) (.int IntKind.i64 ((i + 1 : Nat) : Int)) (congrArg (D.int IntKind.i64) (show IntKind.wrap IntKind.i64 ((↑i : Int) + (1 : Int)) = ((i + 1 : Nat) : Int) from wrap_eq (by omega) (by omega) (by omega))) ?_
      refine ra0 (D.int IntKind.i64 (↑(i + (1 : Nat)) : Int)) ?_
      refine k_done (k_skip_back ?_)
      exact ⟨(i + 1, sum), ⟨c, sum_same c hsum hm⟩, by simp only []; omega, by kernel_rfl, rfl⟩
  · have e : i = lH.length := by omega
    rw [e, List.take_length] at hsum
    refine k_seq (k_seq ?_)
    refine rv (D.int IntKind.i64 (↑i : Int)) ?_
    refine rv (D.lptr (2 : Nat) (1 : Nat)) ?_
    refine rv (D.sl (List.map HeldR.cells lH) none) ?_
    refine rve (D.int IntKind.i64 (↑(List.length (List.map HeldR.cells lH)) : Int)) (.int IntKind.i64 ((↑(List.length lH) : Int))) (by simp only [ints, eInt, rows, eInts, bools, eBool, trips, eTrip, i8s, u16s, u8s, acts, List.length_map]) ?_
    refine rv (D.bool (decide ((↑i : Int) < (↑(List.length lH) : Int)))) ?_
    refine k_done (k_skip_seq ?_)
    refine rkn 12 (decide ((↑i : Int) < (↑(List.length lH) : Int))) false (decide_eq_false (by omega)) ?_
    refine kcf (k_exit_seq (k_exit_back (k_exit_hit rfl (k_skip_seq (k_seq ?_)))))
    refine rv (D.int IntKind.i64 sum) ?_
    refine ra0 (D.int IntKind.i64 sum) ?_
    refine k_done (k_skip_seq (k_ret ?_))
    exact ⟨.inr rfl, by kernel_rfl, by rw [← hsum]; kernel_rfl⟩
theorem ints_ok (n : Nat) (x y : Int) : callN T (n + 1) 46 [.int .i64 x, .int .i64 y] [] = some (.int .i64 (if x < y then -1 else if x > y then 1 else 0), []) := by
  refine call_of (m := m46) rfl rfl (by decide) (k_start ?_)
  unfold m46
  by_cases c1 : x < y
  · rw [if_pos c1]
    refine k_seq ?_
    refine rv (D.int IntKind.i64 (0 : Int)) ?_
    refine k_done (k_skip_seq (k_seq (k_seq ?_)))
    refine rv (D.int IntKind.i64 x) ?_
    refine rv (D.int IntKind.i64 y) ?_
    refine rv (D.bool (decide (x < y))) ?_
    refine k_done (k_skip_seq ?_)
    refine rkn 7 (decide (x < y)) true (decide_eq_true (by assumption)) ?_
    refine kct (k_seq ?_)
    refine rv (D.int IntKind.i64 (-1 : Int)) ?_
    refine k_done (k_skip_seq (k_ret ?_))
    exact ⟨.inr rfl, by kernel_rfl, by kernel_rfl⟩
  · rw [if_neg c1]
    by_cases c2 : x > y
    · rw [if_pos c2]
      refine k_seq ?_
      refine rv (D.int IntKind.i64 (0 : Int)) ?_
      refine k_done (k_skip_seq (k_seq (k_seq ?_)))
      refine rv (D.int IntKind.i64 x) ?_
      refine rv (D.int IntKind.i64 y) ?_
      refine rv (D.bool (decide (x < y))) ?_
      refine k_done (k_skip_seq ?_)
      refine rkn 7 (decide (x < y)) false (decide_eq_false (by assumption)) ?_
      refine kcf (k_skip_seq (k_seq (k_seq ?_)))
      refine rv (D.int IntKind.i64 x) ?_
      refine rv (D.int IntKind.i64 y) ?_
      refine rv (D.bool (decide (x > y))) ?_
      refine k_done (k_skip_seq ?_)
      refine rkn 10 (decide (x > y)) true (decide_eq_true (by assumption)) ?_
      refine kct (k_seq ?_)
      refine rv (D.int IntKind.i64 (1 : Int)) ?_
      refine k_done (k_skip_seq (k_ret ?_))
      exact ⟨.inr rfl, by kernel_rfl, by kernel_rfl⟩
    · rw [if_neg c2]
      refine k_seq ?_
      refine rv (D.int IntKind.i64 (0 : Int)) ?_
      refine k_done (k_skip_seq (k_seq (k_seq ?_)))
      refine rv (D.int IntKind.i64 x) ?_
      refine rv (D.int IntKind.i64 y) ?_
      refine rv (D.bool (decide (x < y))) ?_
      refine k_done (k_skip_seq ?_)
      refine rkn 7 (decide (x < y)) false (decide_eq_false (by assumption)) ?_
      refine kcf (k_skip_seq (k_seq (k_seq ?_)))
      refine rv (D.int IntKind.i64 x) ?_
      refine rv (D.int IntKind.i64 y) ?_
      refine rv (D.bool (decide (x > y))) ?_
      refine k_done (k_skip_seq ?_)
      refine rkn 10 (decide (x > y)) false (decide_eq_false (by assumption)) ?_
      refine kcf (k_skip_seq (k_seq ?_))
      refine rv (D.int IntKind.i64 (0 : Int)) ?_
      refine k_done (k_skip_seq (k_ret ?_))
      exact ⟨.inr rfl, by kernel_rfl, by kernel_rfl⟩
def h34 (a b : Nm) (i : Nat) : Fr := ⟨[.str a, .str b, .junk, .junk, .int .i64 0, .int .i64 i] ++ List.replicate 31 .junk, List.replicate 37 none, []⟩
theorem texts_ok (n : Nat) (a b : Nm) (hn : a.length < n) (hB : a.length ≤ 9223372036854775807) : callN T (n + 2) 34 [.str a, .str b] [] = some (.int .i64 (textI a b), []) := by
  refine call_of (m := m34) rfl rfl (by decide) (k_start ?_)
  unfold m34
  refine k_seq ?_
  refine rv (D.int IntKind.i64 (0 : Int)) ?_
  refine k_done (k_skip_seq (k_seq (k_seq ?_)))
  refine rv (D.int IntKind.i64 (0 : Int)) ?_
  refine k_done (k_skip_seq (k_block ?_))
  refine k_loop (fun i => h34 a b i) (fun _ => []) (fun i => i ≤ a.length ∧ i ≤ b.length ∧ a.take i = b.take i) (fun i => a.length - i) 0 (by kernel_rfl) (by kernel_rfl) ⟨by simp, by simp, by simp⟩ (fun s hs => by omega) ?_
  rintro i ⟨h1, h2, h3⟩
  unfold h34 l34_0
  have hint := ints_ok n a.length b.length
  by_cases c1 : i < a.length
  · by_cases c2 : i < b.length
    · by_cases e : a[i] = b[i]
      · have e1 : (a[i].toNat : Int) = b[i].toNat := by rw [e]
        refine k_seq (k_seq ?_)
        refine rv (D.int IntKind.i64 (↑i : Int)) ?_
        refine rv (D.str a) ?_
        refine rv (D.int IntKind.i64 (↑(List.length a) : Int)) ?_
        refine rv (D.bool (decide ((↑i : Int) < (↑(List.length a) : Int)))) ?_
        refine rv (D.bool (decide ((↑i : Int) < (↑(List.length a) : Int)))) ?_
        refine rkn 10 (decide ((↑i : Int) < (↑(List.length a) : Int))) true (decide_eq_true (by omega)) ?_
        refine rv (D.int IntKind.i64 (↑i : Int)) ?_
        refine rv (D.str b) ?_
        refine rv (D.int IntKind.i64 (↑(List.length b) : Int)) ?_
        refine rv (D.bool (decide ((↑i : Int) < (↑(List.length b) : Int)))) ?_
        refine rv (D.bool (decide ((↑i : Int) < (↑(List.length b) : Int)))) ?_
        refine k_done (k_skip_seq ?_)
        refine rkn 15 (decide ((↑i : Int) < (↑(List.length b) : Int))) true (decide_eq_true (by omega)) ?_
        refine kct (k_skip_seq (k_seq (k_block (k_seq ?_))))
        refine rv (D.str a) ?_
        refine rv (D.int IntKind.i64 (↑i : Int)) ?_
        refine runs_indexStr (kd := IntKind.i64) (a) (i) (by assumption) (by kernel_rfl) (by kernel_rfl) (by kernel_rfl) ?_
        refine rv (D.str b) ?_
        refine rv (D.int IntKind.i64 (↑i : Int)) ?_
        refine runs_indexStr (kd := IntKind.i64) (b) (i) (by assumption) (by kernel_rfl) (by kernel_rfl) (by kernel_rfl) ?_
        refine rv (D.bool ((↑(UInt8.toNat a[i]) : Int) != (↑(UInt8.toNat b[i]) : Int))) ?_
        refine k_done (k_skip_seq ?_)
        refine rkn 24 ((↑(UInt8.toNat a[i]) : Int) != (↑(UInt8.toNat b[i]) : Int)) false (bne_eq_false_iff_eq.2 (by assumption)) ?_
        refine kcf (k_skip_block (k_skip_seq ?_))
        refine rv (D.int IntKind.i64 (↑i : Int)) ?_
        refine rve (D.int IntKind.i64 (IntKind.wrap IntKind.i64 ((↑i : Int) + (1 : Int)))) (.int IntKind.i64 ((i + 1 : Nat) : Int)) (congrArg (D.int IntKind.i64) (show IntKind.wrap IntKind.i64 ((↑i : Int) + (1 : Int)) = ((i + 1 : Nat) : Int) from wrap_eq (by omega) (by omega) (by omega))) ?_
        refine ra0 (D.int IntKind.i64 (↑(i + (1 : Nat)) : Int)) ?_
        refine k_done (k_skip_back ?_)
        exact ⟨i + 1, ⟨c1, c2, by rw [List.take_succ_eq_append_getElem c1, List.take_succ_eq_append_getElem c2, h3, e]⟩, by omega, by kernel_rfl, rfl⟩
      · have e1 : (a[i].toNat : Int) ≠ b[i].toNat := fun h => e (UInt8.toNat_inj.1 (by omega))
        by_cases c3 : (a[i].toNat : Int) < b[i].toNat
        · refine k_seq (k_seq ?_)
          refine rv (D.int IntKind.i64 (↑i : Int)) ?_
          refine rv (D.str a) ?_
          refine rv (D.int IntKind.i64 (↑(List.length a) : Int)) ?_
          refine rv (D.bool (decide ((↑i : Int) < (↑(List.length a) : Int)))) ?_
          refine rv (D.bool (decide ((↑i : Int) < (↑(List.length a) : Int)))) ?_
          refine rkn 10 (decide ((↑i : Int) < (↑(List.length a) : Int))) true (decide_eq_true (by omega)) ?_
          refine rv (D.int IntKind.i64 (↑i : Int)) ?_
          refine rv (D.str b) ?_
          refine rv (D.int IntKind.i64 (↑(List.length b) : Int)) ?_
          refine rv (D.bool (decide ((↑i : Int) < (↑(List.length b) : Int)))) ?_
          refine rv (D.bool (decide ((↑i : Int) < (↑(List.length b) : Int)))) ?_
          refine k_done (k_skip_seq ?_)
          refine rkn 15 (decide ((↑i : Int) < (↑(List.length b) : Int))) true (decide_eq_true (by omega)) ?_
          refine kct (k_skip_seq (k_seq (k_block (k_seq ?_))))
          refine rv (D.str a) ?_
          refine rv (D.int IntKind.i64 (↑i : Int)) ?_
          refine runs_indexStr (kd := IntKind.i64) (a) (i) (by assumption) (by kernel_rfl) (by kernel_rfl) (by kernel_rfl) ?_
          refine rv (D.str b) ?_
          refine rv (D.int IntKind.i64 (↑i : Int)) ?_
          refine runs_indexStr (kd := IntKind.i64) (b) (i) (by assumption) (by kernel_rfl) (by kernel_rfl) (by kernel_rfl) ?_
          refine rv (D.bool ((↑(UInt8.toNat a[i]) : Int) != (↑(UInt8.toNat b[i]) : Int))) ?_
          refine k_done (k_skip_seq ?_)
          refine rkn 24 ((↑(UInt8.toNat a[i]) : Int) != (↑(UInt8.toNat b[i]) : Int)) true (bne_iff_ne.2 (by assumption)) ?_
          refine kct (k_seq (k_seq ?_))
          refine rv (D.str a) ?_
          refine rv (D.int IntKind.i64 (↑i : Int)) ?_
          refine runs_indexStr (kd := IntKind.i64) (a) (i) (by assumption) (by kernel_rfl) (by kernel_rfl) (by kernel_rfl) ?_
          refine rv (D.str b) ?_
          refine rv (D.int IntKind.i64 (↑i : Int)) ?_
          refine runs_indexStr (kd := IntKind.i64) (b) (i) (by assumption) (by kernel_rfl) (by kernel_rfl) (by kernel_rfl) ?_
          refine rv (D.bool (decide ((↑(UInt8.toNat a[i]) : Int) < (↑(UInt8.toNat b[i]) : Int)))) ?_
          refine k_done (k_skip_seq ?_)
          refine rkn 31 (decide ((↑(UInt8.toNat a[i]) : Int) < (↑(UInt8.toNat b[i]) : Int))) true (decide_eq_true (by assumption)) ?_
          refine kct (k_seq ?_)
          refine rv (D.int IntKind.i64 (-1 : Int)) ?_
          refine k_done (k_skip_seq (k_ret ?_))
          exact ⟨.inr rfl, by kernel_rfl, by rw [text_less c1 c2 h3 c3]; kernel_rfl⟩
        · refine k_seq (k_seq ?_)
          refine rv (D.int IntKind.i64 (↑i : Int)) ?_
          refine rv (D.str a) ?_
          refine rv (D.int IntKind.i64 (↑(List.length a) : Int)) ?_
          refine rv (D.bool (decide ((↑i : Int) < (↑(List.length a) : Int)))) ?_
          refine rv (D.bool (decide ((↑i : Int) < (↑(List.length a) : Int)))) ?_
          refine rkn 10 (decide ((↑i : Int) < (↑(List.length a) : Int))) true (decide_eq_true (by omega)) ?_
          refine rv (D.int IntKind.i64 (↑i : Int)) ?_
          refine rv (D.str b) ?_
          refine rv (D.int IntKind.i64 (↑(List.length b) : Int)) ?_
          refine rv (D.bool (decide ((↑i : Int) < (↑(List.length b) : Int)))) ?_
          refine rv (D.bool (decide ((↑i : Int) < (↑(List.length b) : Int)))) ?_
          refine k_done (k_skip_seq ?_)
          refine rkn 15 (decide ((↑i : Int) < (↑(List.length b) : Int))) true (decide_eq_true (by omega)) ?_
          refine kct (k_skip_seq (k_seq (k_block (k_seq ?_))))
          refine rv (D.str a) ?_
          refine rv (D.int IntKind.i64 (↑i : Int)) ?_
          refine runs_indexStr (kd := IntKind.i64) (a) (i) (by assumption) (by kernel_rfl) (by kernel_rfl) (by kernel_rfl) ?_
          refine rv (D.str b) ?_
          refine rv (D.int IntKind.i64 (↑i : Int)) ?_
          refine runs_indexStr (kd := IntKind.i64) (b) (i) (by assumption) (by kernel_rfl) (by kernel_rfl) (by kernel_rfl) ?_
          refine rv (D.bool ((↑(UInt8.toNat a[i]) : Int) != (↑(UInt8.toNat b[i]) : Int))) ?_
          refine k_done (k_skip_seq ?_)
          refine rkn 24 ((↑(UInt8.toNat a[i]) : Int) != (↑(UInt8.toNat b[i]) : Int)) true (bne_iff_ne.2 (by assumption)) ?_
          refine kct (k_seq (k_seq ?_))
          refine rv (D.str a) ?_
          refine rv (D.int IntKind.i64 (↑i : Int)) ?_
          refine runs_indexStr (kd := IntKind.i64) (a) (i) (by assumption) (by kernel_rfl) (by kernel_rfl) (by kernel_rfl) ?_
          refine rv (D.str b) ?_
          refine rv (D.int IntKind.i64 (↑i : Int)) ?_
          refine runs_indexStr (kd := IntKind.i64) (b) (i) (by assumption) (by kernel_rfl) (by kernel_rfl) (by kernel_rfl) ?_
          refine rv (D.bool (decide ((↑(UInt8.toNat a[i]) : Int) < (↑(UInt8.toNat b[i]) : Int)))) ?_
          refine k_done (k_skip_seq ?_)
          refine rkn 31 (decide ((↑(UInt8.toNat a[i]) : Int) < (↑(UInt8.toNat b[i]) : Int))) false (decide_eq_false (by assumption)) ?_
          refine kcf (k_skip_seq (k_seq ?_))
          refine rv (D.int IntKind.i64 (1 : Int)) ?_
          refine k_done (k_skip_seq (k_ret ?_))
          exact ⟨.inr rfl, by kernel_rfl, by rw [text_more c1 c2 h3 (by omega)]; kernel_rfl⟩
    · refine k_seq (k_seq ?_)
      refine rv (D.int IntKind.i64 (↑i : Int)) ?_
      refine rv (D.str a) ?_
      refine rv (D.int IntKind.i64 (↑(List.length a) : Int)) ?_
      refine rv (D.bool (decide ((↑i : Int) < (↑(List.length a) : Int)))) ?_
      refine rv (D.bool (decide ((↑i : Int) < (↑(List.length a) : Int)))) ?_
      refine rkn 10 (decide ((↑i : Int) < (↑(List.length a) : Int))) true (decide_eq_true (by omega)) ?_
      refine rv (D.int IntKind.i64 (↑i : Int)) ?_
      refine rv (D.str b) ?_
      refine rv (D.int IntKind.i64 (↑(List.length b) : Int)) ?_
      refine rv (D.bool (decide ((↑i : Int) < (↑(List.length b) : Int)))) ?_
      refine rv (D.bool (decide ((↑i : Int) < (↑(List.length b) : Int)))) ?_
      refine k_done (k_skip_seq ?_)
      refine rkn 15 (decide ((↑i : Int) < (↑(List.length b) : Int))) false (decide_eq_false (by omega)) ?_
      refine kcf (k_exit_seq (k_exit_back (k_exit_hit rfl (k_skip_seq (k_seq ?_)))))
      refine rv (D.str a) ?_
      refine rv (D.int IntKind.i64 (↑(List.length a) : Int)) ?_
      refine rv (D.str b) ?_
      refine rv (D.int IntKind.i64 (↑(List.length b) : Int)) ?_
      refine runs_call ([D.int IntKind.i64 (↑(List.length a) : Int), D.int IntKind.i64 (↑(List.length b) : Int)]) (by kernel_rfl) (by kernel_rfl) (by kernel_rfl) (by kernel_rfl) (hint) (by kernel_rfl) ?_
      refine ra0 (D.int IntKind.i64 (if (↑(List.length a) : Int) < (↑(List.length b) : Int) then (-1 : Int) else if (↑(List.length a) : Int) > (↑(List.length b) : Int) then (1 : Int) else (0 : Int))) ?_
      refine k_done (k_skip_seq (k_ret ?_))
      exact ⟨.inr rfl, by kernel_rfl, by rw [text_end h1 h2 h3 (.inr (by omega))]; kernel_rfl⟩
  · refine k_seq (k_seq ?_)
    refine rv (D.int IntKind.i64 (↑i : Int)) ?_
    refine rv (D.str a) ?_
    refine rv (D.int IntKind.i64 (↑(List.length a) : Int)) ?_
    refine rv (D.bool (decide ((↑i : Int) < (↑(List.length a) : Int)))) ?_
    refine rv (D.bool (decide ((↑i : Int) < (↑(List.length a) : Int)))) ?_
    refine rkn 10 (decide ((↑i : Int) < (↑(List.length a) : Int))) false (decide_eq_false (by omega)) ?_
    refine rno (rno (rno (rno ?_)))
    refine rv (D.bool false) ?_
    refine k_done (k_skip_seq (kcf (k_exit_seq (k_exit_back (k_exit_hit rfl (k_skip_seq (k_seq ?_)))))))
    refine rv (D.str a) ?_
    refine rv (D.int IntKind.i64 (↑(List.length a) : Int)) ?_
    refine rv (D.str b) ?_
    refine rv (D.int IntKind.i64 (↑(List.length b) : Int)) ?_
    refine runs_call ([D.int IntKind.i64 (↑(List.length a) : Int), D.int IntKind.i64 (↑(List.length b) : Int)]) (by kernel_rfl) (by kernel_rfl) (by kernel_rfl) (by kernel_rfl) (hint) (by kernel_rfl) ?_
    refine ra0 (D.int IntKind.i64 (if (↑(List.length a) : Int) < (↑(List.length b) : Int) then (-1 : Int) else if (↑(List.length a) : Int) > (↑(List.length b) : Int) then (1 : Int) else (0 : Int))) ?_
    refine k_done (k_skip_seq (k_ret ?_))
    exact ⟨.inr rfl, by kernel_rfl, by rw [text_end h1 h2 h3 (.inl (by omega))]; kernel_rfl⟩
end Go.Abs.C
