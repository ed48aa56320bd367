import Derived.Test.YtjmhfliaehhijaaKont2
import Derived.Test.YtjmhfliaehhijaaA16
import Derived.Test.YtjmhfliaehhijaaShapes
set_option linter.unusedVariables false
set_option linter.unusedSimpArgs false
/-
  The statement ClausesLiterals as the machine code sees it.
-/
namespace Go.Abs.A
open Go Go.Abs
set_option maxRecDepth 8000
attribute [local irreducible] callN runC evalOp

mutual
/-- How many rows are in a formula. -/
def rowsC : Fm → Nat
  | .mk o _ ks => rowsL ks + (if o = 5 ∨ o = 6 then 1 else 0)
def rowsL : List Fm → Nat
  | [] => 0
  | k :: ks => rowsC k + rowsL ks
end
theorem rowsC_eq : ∀ f : Fm, rowsC f = rowsL f.kids + (if f.op = 5 ∨ f.op = 6 then 1 else 0)
  | .mk _ _ _ => by rw [rowsC, Fm.kids_mk, Fm.op_mk]
theorem rowsL_mem : ∀ {l : List Fm} {k : Fm}, k ∈ l → rowsC k ≤ rowsL l
  | x :: l, k, h => by
    simp only [rowsL]
    rcases List.mem_cons.1 h with rfl | h
    · omega
    · have := rowsL_mem h
      omega
theorem rowsL_filter (p : Fm → Bool) : ∀ l : List Fm, rowsL (l.filter p) ≤ rowsL l
  | [] => Nat.le_refl _
  | x :: l => by
    have := rowsL_filter p l
    by_cases h : p x = true
    · rw [List.filter_cons_of_pos h]
      simp only [rowsL]
      omega
    · rw [List.filter_cons_of_neg h]
      simp only [rowsL]
      omega
theorem rowsL_map {S : Fm → Fm} : ∀ l : List Fm, (∀ k ∈ l, rowsC (S k) ≤ rowsC k) → rowsL (l.map S) ≤ rowsL l
  | [], _ => Nat.le_refl _
  | x :: l, h => by
    have := rowsL_map l (fun k hk => h k (by simp [hk]))
    have := h x (by simp)
    simp only [rowsL, List.map_cons]
    omega
theorem leaf_rows {o : Int} (n : Int) (h : o ≠ 5 ∧ o ≠ 6) : rowsC (.mk o n []) = 0 := by
  have : ¬ (o = 5 ∨ o = 6) := by omega
  simp [rowsC, rowsL, this]
theorem neg_rows (s : Fm) : rowsC (negR s) ≤ rowsC s := by
  unfold negR
  split
  · rw [leaf_rows 0 (by omega)]; omega
  split
  · rw [leaf_rows 0 (by omega)]; omega
  split
  · split
    · rename_i x hx
      have : rowsC x ≤ rowsL s.kids := rowsL_mem (by rw [hx]; simp)
      have := rowsC_eq s
      omega
    · omega
  · simp [rowsC, rowsL]
theorem row_rows (op all one : Int) (hall : all ≠ 5 ∧ all ≠ 6) (hone : one ≠ 5 ∧ one ≠ 6) (S : Fm → Fm) (ks : List Fm) (h : ∀ k ∈ ks, rowsC (S k) ≤ rowsC k) : rowsC (rowEnd op all one (rowL S all one ks [])) ≤ rowsL ks + 1 := by
  rw [rowL_eq]
  split
  · simp only [rowEnd, leaf_rows 0 hone]; omega
  · rw [List.nil_append]
    have h1 := rowsL_filter (fun s => !decide (s.op = all)) (ks.map S)
    have h2 := rowsL_map ks h
    generalize (ks.map S).filter (fun s => !decide (s.op = all)) = m at *
    match m with
    | [] => simp only [rowEnd, leaf_rows 0 hall]; omega
    | [x] =>
      simp only [rowsL, Nat.add_zero] at h1
      simp only [rowEnd]
      omega
    | x :: y :: l =>
      simp only [rowEnd, rowsC]
      split <;> omega
theorem simple_rows : ∀ (d : Nat) (f : Fm), fits d f → rowsC (simpleR d f) ≤ rowsC f
  | 0, _, h => h.elim
  | d + 1, f, h => by
    have hk : ∀ k ∈ f.kids, rowsC (simpleR d k) ≤ rowsC k := fun k hk => simple_rows d k (h.2 k hk)
    have hn := rowsC_eq f
    show rowsC (if f.op = 4 then (match f.kids with | [k] => negR (simpleR d k) | _ => .mk 4 0 [])
      else if f.op = 5 then rowEnd 5 1 2 (rowL (simpleR d) 1 2 f.kids [])
      else if f.op = 6 then rowEnd 6 2 1 (rowL (simpleR d) 2 1 f.kids [])
      else if f.op = 3 then .mk 3 f.n []
      else .mk f.op 0 []) ≤ _
    split
    · match hks : f.kids, hk, hn with
      | [], _, hn => rw [leaf_rows 0 (by omega)]; omega
      | [k], hk, hn =>
        have h1 := hk k (by simp)
        have h2 := neg_rows (simpleR d k)
        simp only [rowsL] at hn
        show rowsC (negR _) ≤ _
        omega
      | _ :: _ :: _, _, hn => show rowsC (.mk 4 0 []) ≤ _; rw [leaf_rows 0 (by omega)]; omega
    split
    · rename_i h5
      have := row_rows 5 1 2 (by omega) (by omega) (simpleR d) f.kids hk
      rw [if_pos (.inl h5)] at hn
      omega
    split
    · rename_i h6
      have := row_rows 6 2 1 (by omega) (by omega) (simpleR d) f.kids hk
      rw [if_pos (.inr h6)] at hn
      omega
    split
    · rw [leaf_rows _ (by omega)]; omega
    · rw [leaf_rows _ (by omega)]; omega
theorem kids_rows {g : Fm → Int → LR} : ∀ (ks : List Fm) (n : Int), (∀ k ∈ ks, ∀ n, (g k n).2.1 ≤ n + rowsC k) → (kidsR g ks n).2.1 ≤ n + rowsL ks
  | [], n, _ => by simp [kidsR, rowsL]
  | x :: ks, n, h => by
    have h1 := h x (by simp) n
    have h2 := kids_rows ks (g x n).2.1 (fun k hk => h k (by simp [hk]))
    simp only [kidsR, rowsL]
    omega
theorem lit_rows : ∀ (d : Nat) (f : Fm) (n : Int), nf d f → (litR d f n).2.1 ≤ n + rowsC f
  | 0, _, _, h => h.elim
  | d + 1, f, n, h => by
    have hn := rowsC_eq f
    rcases h with ⟨h3, hk, h1, h2⟩ | ⟨h4, _, x, hk, hx, _⟩ | ⟨h5, _, _, h60, hk⟩
    · have e : litR (d + 1) f n = ([], n, f.n) := if_pos h3
      rw [e]
      show n ≤ _
      omega
    · have e : litR (d + 1) f n = ((litR d x n).1, (litR d x n).2.1, 0 - (litR d x n).2.2) := by
        show (if f.op = 3 then _ else if f.op = 4 then _ else _) = _
        rw [if_neg (by omega), if_pos h4, hk]
      have r := lit_rows d x n hx
      rw [hk] at hn
      simp only [rowsL] at hn
      rw [e]
      show (litR d x n).2.1 ≤ _
      omega
    · have e : litR (d + 1) f n = ((kidsR (litR d) f.kids n).1 ++ gate (sgn f.op) ((kidsR (litR d) f.kids n).2.1 + 1) (kidsR (litR d) f.kids n).2.2, (kidsR (litR d) f.kids n).2.1 + 1, (kidsR (litR d) f.kids n).2.1 + 1) := by
        show (if f.op = 3 then _ else if f.op = 4 then _ else _) = _
        rw [if_neg (by omega), if_neg (by omega)]
      have r := kids_rows (g := litR d) f.kids n (fun k hk' n => lit_rows d k n (hk k hk'))
      rw [if_pos h5] at hn
      rw [e]
      show (kidsR (litR d) f.kids n).2.1 + 1 ≤ _
      omega
theorem of_rows {d : Nat} {f : Fm} {n : Int} (hf : fits d f) (hm : mayR d f = true) : (ofR d f n).2 ≤ n + rowsC f := by
  have hs := simple_rows d f hf
  have hn := simple_nice d f hf hm
  unfold ofR
  by_cases c1 : (simpleR d f).op = 1
  · rw [if_pos c1]
    show n ≤ _
    omega
  rw [if_neg c1]
  by_cases c2 : (simpleR d f).op = 2
  · rw [if_pos c2]
    show n ≤ _
    omega
  rw [if_neg c2]
  have := lit_rows d _ n (nice_3 hn c1 c2)
  show (litR d (simpleR d f) n).2.1 ≤ _
  omega

/-- A literal: its atom, its formula, its truth. -/
def vn (v : Int) : Int := Int.tmod (if v < 0 then 0 - v else v) 6 + 1
theorem tmod6 {v : Int} (h : 0 ≤ v) : 0 ≤ Int.tmod v 6 ∧ Int.tmod v 6 ≤ 5 := by
  rw [Int.tmod_eq_emod_of_nonneg h]
  omega
theorem vn_in (v : Int) : 1 ≤ vn v ∧ vn v ≤ 6 := by
  unfold vn
  have := tmod6 (v := if v < 0 then 0 - v else v) (by split <;> omega)
  omega
def litF (v : Int) : Fm := if v < 0 then .mk 4 0 [.mk 3 (vn v) []] else .mk 3 (vn v) []
def isl (t : List Bool) (v : Int) : Bool := (t.getD (vn v - 1).toNat false == decide (v < 0)) != true
theorem atom_may {n : Int} (h : 1 ≤ n ∧ n ≤ 6) : mayR 1 (.mk 3 n []) = true := by
  rw [mayR_go ⟨by simp only [Fm.op_mk]; omega, by simp only [Fm.op_mk]; omega, by simp [Fm.kids_mk], by simp only [Fm.op_mk]; omega, by simp only [Fm.op_mk, Fm.n_mk]; omega⟩]
  rfl
theorem notF_may {k : Fm} {d : Nat} (h : mayR d k = true) : mayR (d + 1) (.mk 4 0 [k]) = true := by
  rw [mayR_go ⟨by simp only [Fm.op_mk]; omega, by simp only [Fm.op_mk]; omega, by simp [Fm.kids_mk, Fm.op_mk], by simp [Fm.kids_mk], by simp only [Fm.op_mk]; omega⟩]
  simp [Fm.kids_mk, h]
theorem litF_ok (t : List Bool) (ht : t.length = 6) (v : Int) : fits 2 (litF v) ∧ mayR 2 (litF v) = true ∧ lowF 6 (litF v) ∧ nodes (litF v) ≤ 2 ∧ rowsC (litF v) = 0 ∧ evalR 2 (litF v) t = isl t v := by
  have hv := vn_in v
  have hf1 : fits 1 (.mk 3 (vn v) []) := ⟨by simp [Fm.kids_mk], fun k hk => by simp [Fm.kids_mk] at hk⟩
  have hb : atomB (vn v) t = t.getD (vn v - 1).toNat false := by
    unfold atomB
    rw [decide_eq_true (by omega), decide_eq_true (by omega)]
    rfl
  unfold litF isl
  by_cases h : v < 0
  · simp only [if_pos h]
    refine ⟨⟨by simp [Fm.kids_mk], fun k hk => by simp only [Fm.kids_mk, List.mem_singleton] at hk; subst hk; exact hf1⟩, notF_may (atom_may hv), by simp [lowF, lowL]; omega, by simp [nodes, nodesL], by simp [rowsC, rowsL], ?_⟩
    show (!atomB (vn v) t) = _
    rw [hb, decide_eq_true h]
    cases t.getD (vn v - 1).toNat false <;> rfl
  · simp only [if_neg h]
    refine ⟨fits_mono hf1 (by omega), mayR_mono (atom_may hv) (by omega), by simp [lowF, lowL]; omega, by simp [nodes, nodesL], by simp [rowsC, rowsL], ?_⟩
    show atomB (vn v) t = _
    rw [hb, decide_eq_false h]
    cases t.getD (vn v - 1).toNat false <;> rfl
def rowF (op : Int) (l : List Int) : Fm := .mk op 0 (l.map litF)
theorem rowF_ok (t : List Bool) (ht : t.length = 6) (op : Int) (hop : op = 5 ∨ op = 6) (l : List Int) (hl : l.length ≤ 8) : fits 3 (rowF op l) ∧ mayR 3 (rowF op l) = true ∧ lowF 6 (rowF op l) ∧ nodes (rowF op l) ≤ 17 ∧ rowsC (rowF op l) = 1 ∧ evalR 3 (rowF op l) t = if op = 5 then l.all (isl t) else l.any (isl t) := by
  have hk : ∀ k ∈ l.map litF, fits 2 k ∧ mayR 2 k = true ∧ lowF 6 k ∧ nodes k ≤ 2 ∧ rowsC k = 0 := by
    intro k hk
    obtain ⟨v, _, rfl⟩ := List.mem_map.1 hk
    have := litF_ok t ht v
    exact ⟨this.1, this.2.1, this.2.2.1, this.2.2.2.1, this.2.2.2.2.1⟩
  have hnod : ∀ m : List Int, nodesL (m.map litF) ≤ 2 * m.length := by
    intro m
    induction m with
    | nil => exact Nat.le_refl _
    | cons v m ih =>
      have := (litF_ok t ht v).2.2.2.1
      simp only [List.map_cons, nodesL, List.length_cons]
      omega
  have hrow : ∀ m : List Int, rowsL (m.map litF) = 0 := by
    intro m
    induction m with
    | nil => rfl
    | cons v m ih =>
      have := (litF_ok t ht v).2.2.2.2.1
      simp only [List.map_cons, rowsL]
      omega
  refine ⟨⟨by simp [rowF, Fm.kids_mk]; omega, fun k h => (hk k h).1⟩, ?_, ?_, ?_, ?_, ?_⟩
  · unfold rowF
    rw [mayR_go ⟨by simp only [Fm.op_mk]; omega, by simp only [Fm.op_mk]; omega, by simp only [Fm.op_mk]; omega, by simp only [Fm.op_mk]; omega, by simp only [Fm.op_mk]; omega⟩, List.all_eq_true]
    exact fun k h => (hk k h).2.1
  · unfold rowF
    rw [lowF_eq]
    exact ⟨fun h => by simp only [Fm.op_mk] at h; omega, (lowL_iff 6 _).2 fun k h => (hk k h).2.2.1⟩
  · unfold rowF
    have := hnod l
    rw [nodes]
    omega
  · unfold rowF
    rw [rowsC, hrow l, if_pos hop]
  · have e1 : (l.map litF).all (evalR 2 · t) = l.all (isl t) := by
      rw [all_map]
      exact all_congr fun v _ => (litF_ok t ht v).2.2.2.2.2
    have e2 : (l.map litF).any (evalR 2 · t) = l.any (isl t) := by
      rw [any_map]
      exact any_congr fun v _ => (litF_ok t ht v).2.2.2.2.2
    show (if op = 1 then true else if op = 3 then _ else if op = 4 then _ else if op = 5 then (l.map litF).all (evalR 2 · t) else if op = 6 then (l.map litF).any (evalR 2 · t) else false) = _
    rw [if_neg (by omega), if_neg (by omega), if_neg (by omega), e1, e2]
    rcases hop with rfl | rfl
    · rfl
    · rfl
theorem eFs_lit (l : List Int) (v : Int) : eFs ((l ++ [v]).map litF) = eFs (l.map litF) ++ [eF (litF v)] := by
  rw [List.map_append, eFs_append]
  simp [eFs_map]
theorem eF_neg {v : Int} (h : v < 0) : eF (litF v) = [.int .i64 4, .int .i64 0, .sl [[.int .i64 3, .int .i64 (Int.tmod (0 - v) 6 + 1), .sl [] none]] none] := by
  unfold litF vn
  rw [if_pos h, if_pos h, eF_one, eF_leaf]
theorem eF_pos {v : Int} (h : ¬ v < 0) : eF (litF v) = [.int .i64 3, .int .i64 (Int.tmod v 6 + 1), .sl [] none] := by
  unfold litF vn
  rw [if_neg h, if_neg h, eF_leaf]
theorem isl_neg {t : List Bool} {v : Int} (h : v < 0) : isl t v = ((t.getD (Int.tmod (0 - v) 6 + 1 - 1).toNat false == decide (v < 0)) != true) := by
  unfold isl vn
  rw [if_pos h]
theorem isl_pos {t : List Bool} {v : Int} (h : ¬ v < 0) : isl t v = ((t.getD (Int.tmod v 6 + 1 - 1).toNat false == decide (v < 0)) != true) := by
  unfold isl vn
  rw [if_neg h]
theorem atoms_fold {B : Int} {g : Fm → Int} : ∀ (ks : List Fm) (b : Int), b ≤ B → (∀ k ∈ ks, g k ≤ B) → ks.foldl (fun n k => if g k > n then g k else n) b ≤ B
  | [], b, hb, _ => hb
  | x :: ks, b, hb, h => by
    simp only [List.foldl_cons]
    refine atoms_fold ks _ ?_ (fun k hk => h k (by simp [hk]))
    have := h x (by simp)
    split <;> omega
theorem low_atoms (B : Int) (h0 : 0 ≤ B) : ∀ (d : Nat) (f : Fm), lowF B f → atomsR d f ≤ B
  | 0, _, _ => h0
  | d + 1, f, h => by
    have h' := (lowF_eq B f).1 h
    refine atoms_fold f.kids (atom0 f) ?_ (fun k hk => low_atoms B h0 d k ((lowL_iff B _).1 h'.2 k hk))
    unfold atom0
    by_cases h3 : f.op = 3
    · have := h'.1 h3
      rw [if_pos h3]
      split <;> omega
    · rw [if_neg h3]
      exact h0
theorem take_snoc {α : Type} {l : List α} {i : Nat} (h : i < l.length) : l.take (i + 1) = l.take i ++ [l[i]] := List.take_succ_eq_append_getElem h
end Go.Abs.A
