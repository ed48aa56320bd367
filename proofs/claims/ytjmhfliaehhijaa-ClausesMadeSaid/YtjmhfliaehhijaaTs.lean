import Derived.Test.YtjmhfliaehhijaaA8
import Derived.Test.YtjmhfliaehhijaaA13
set_option linter.unusedVariables false
set_option linter.unusedSimpArgs false
/-
  The clauses of a formula, in plain Lean: what they are, and by what truths they are met.
-/
namespace Go.Abs.A
open Go Go.Abs
set_option maxRecDepth 8000
attribute [local irreducible] callN runC evalOp

mutual
def nodes : Fm → Nat
  | .mk _ _ ks => nodesL ks + 1
def nodesL : List Fm → Nat
  | [] => 0
  | k :: ks => nodes k + nodesL ks
end
mutual
/-- No atom is greater. -/
def lowF (B : Int) : Fm → Prop
  | .mk o n ks => (o = 3 → n ≤ B) ∧ lowL B ks
def lowL (B : Int) : List Fm → Prop
  | [] => True
  | k :: ks => lowF B k ∧ lowL B ks
end
theorem nodes_eq : ∀ f : Fm, nodes f = nodesL f.kids + 1
  | .mk _ _ _ => by simp [nodes, Fm.kids_mk]
theorem nodes_pos (f : Fm) : 1 ≤ nodes f := by rw [nodes_eq]; omega
theorem lowF_eq (B : Int) : ∀ f : Fm, lowF B f ↔ (f.op = 3 → f.n ≤ B) ∧ lowL B f.kids
  | .mk _ _ _ => by simp [lowF, Fm.kids_mk, Fm.op_mk, Fm.n_mk]
theorem lowL_iff (B : Int) : ∀ l : List Fm, lowL B l ↔ ∀ k ∈ l, lowF B k
  | [] => by simp [lowL]
  | k :: ks => by simp [lowL, lowL_iff B ks]
theorem nodesL_mem : ∀ {l : List Fm} {k : Fm}, k ∈ l → nodes k ≤ nodesL l
  | x :: l, k, h => by
    simp only [nodesL]
    rcases List.mem_cons.1 h with rfl | h
    · omega
    · have := nodesL_mem h
      omega
theorem nodesL_filter (p : Fm → Bool) : ∀ l : List Fm, nodesL (l.filter p) ≤ nodesL l
  | [] => Nat.le_refl _
  | x :: l => by
    have := nodesL_filter p l
    by_cases h : p x = true
    · rw [List.filter_cons_of_pos h]
      simp only [nodesL]
      omega
    · rw [List.filter_cons_of_neg h]
      simp only [nodesL]
      omega
theorem nodesL_map {S : Fm → Fm} : ∀ l : List Fm, (∀ k ∈ l, nodes (S k) ≤ nodes k) → nodesL (l.map S) ≤ nodesL l
  | [], _ => Nat.le_refl _
  | x :: l, h => by
    have := nodesL_map l (fun k hk => h k (by simp [hk]))
    have := h x (by simp)
    simp only [nodesL, List.map_cons]
    omega
theorem nodesL_len : ∀ l : List Fm, l.length ≤ nodesL l
  | [] => Nat.le_refl _
  | x :: l => by
    have := nodesL_len l
    have := nodes_pos x
    simp only [nodesL, List.length_cons]
    omega

theorem weight_up (d : Nat) : ∀ (ks : List Fm) (b : Int), b ≤ ks.foldl (fun n k => if n < 1000 then n + weightR d k else n) b
  | [], b => Int.le_refl _
  | x :: ks, b => by
    have h := weight_up d ks (if b < 1000 then b + weightR d x else b)
    have hw := (weightR_bound d x).1
    simp only [List.foldl_cons]
    refine Int.le_trans ?_ h
    split <;> omega
theorem weight_sum (d : Nat) : ∀ (ks : List Fm) (b : Int), (∀ k ∈ ks, weightR d k ≤ 999 → (nodes k : Int) = weightR d k) → 1 ≤ b → ks.foldl (fun n k => if n < 1000 then n + weightR d k else n) b ≤ 999 → ks.foldl (fun n k => if n < 1000 then n + weightR d k else n) b = b + nodesL ks
  | [], b, _, _, _ => by simp [nodesL]
  | x :: ks, b, hk, h1, hle => by
    have hw := (weightR_bound d x).1
    simp only [List.foldl_cons] at hle ⊢
    by_cases hb : b < 1000
    · simp only [hb, if_true] at hle ⊢
      have h2 := weight_up d ks (b + weightR d x)
      have hx := hk x (by simp) (by omega)
      rw [weight_sum d ks _ (fun k h => hk k (by simp [h])) (by omega) hle]
      simp only [nodesL]
      omega
    · simp only [hb, if_false] at hle ⊢
      have h2 := weight_up d ks b
      omega
theorem weight_nodes : ∀ (d : Nat) (f : Fm), fits d f → weightR d f ≤ 999 → (nodes f : Int) = weightR d f
  | 0, _, h, _ => h.elim
  | d + 1, f, h, hw => by
    have := weight_sum d f.kids 1 (fun k hk => weight_nodes d k (h.2 k hk)) (by omega) hw
    show _ = f.kids.foldl _ 1
    rw [this, nodes_eq]
    omega

theorem atoms_up (d : Nat) : ∀ (ks : List Fm) (b : Int), b ≤ ks.foldl (fun n k => if atomsR d k > n then atomsR d k else n) b ∧ ∀ k ∈ ks, atomsR d k ≤ ks.foldl (fun n k => if atomsR d k > n then atomsR d k else n) b
  | [], b => ⟨Int.le_refl _, fun k hk => by cases hk⟩
  | x :: ks, b => by
    have h := atoms_up d ks (if atomsR d x > b then atomsR d x else b)
    simp only [List.foldl_cons]
    have hb : b ≤ (if atomsR d x > b then atomsR d x else b) ∧ atomsR d x ≤ (if atomsR d x > b then atomsR d x else b) := by split <;> omega
    refine ⟨Int.le_trans hb.1 h.1, ?_⟩
    intro k hk
    rcases List.mem_cons.1 hk with rfl | hk
    · exact Int.le_trans hb.2 h.1
    · exact h.2 k hk
theorem atoms_low (B : Int) : ∀ (d : Nat) (f : Fm), fits d f → atomsR d f ≤ B → lowF B f
  | 0, _, h, _ => h.elim
  | d + 1, f, h, hB => by
    have hu := atoms_up d f.kids (atom0 f)
    have hB' : f.kids.foldl (fun n k => if atomsR d k > n then atomsR d k else n) (atom0 f) ≤ B := hB
    rw [lowF_eq, lowL_iff]
    refine ⟨fun h3 => ?_, fun k hk => atoms_low B d k (h.2 k hk) (Int.le_trans (hu.2 k hk) hB')⟩
    have : f.n ≤ atom0 f := by
      unfold atom0
      rw [if_pos h3]
      split <;> omega
    exact Int.le_trans this (Int.le_trans hu.1 hB')

theorem leaf_nodes (o n : Int) : nodes (.mk o n []) = 1 := by simp [nodes, nodesL]
theorem leaf_low {B o n : Int} (h : o = 3 → n ≤ B) : lowF B (.mk o n []) := by simp only [lowF, lowL, and_true]; exact h
theorem neg_nodes (B : Int) (s : Fm) : nodes (negR s) ≤ nodes s + 1 ∧ (lowF B s → lowF B (negR s)) := by
  have hp := nodes_pos s
  unfold negR
  split
  · exact ⟨by rw [leaf_nodes]; omega, fun _ => leaf_low (by omega)⟩
  split
  · exact ⟨by rw [leaf_nodes]; omega, fun _ => leaf_low (by omega)⟩
  split
  · split
    · rename_i x hx
      have : nodes x ≤ nodesL s.kids := nodesL_mem (by rw [hx]; simp)
      have := nodes_eq s
      refine ⟨by omega, fun h => ?_⟩
      have := (lowL_iff B _).1 ((lowF_eq B s).1 h).2 x (by rw [hx]; simp)
      exact this
    · exact ⟨by omega, fun h => h⟩
  · refine ⟨by simp [nodes, nodesL], fun h => ?_⟩
    simp only [lowF, lowL, and_true]
    exact ⟨by omega, h⟩
theorem end_nodes (B op all one : Int) (hop : op ≠ 3) (hall : all ≠ 3) (hone : one ≠ 3) (l : Option (List Fm)) (N : Nat) (hl : ∀ m, l = some m → nodesL m ≤ N ∧ lowL B m) : nodes (rowEnd op all one l) ≤ N + 1 ∧ lowF B (rowEnd op all one l) := by
  match l, hl with
  | none, _ => exact ⟨by simp [rowEnd, leaf_nodes], leaf_low (by omega)⟩
  | some [], _ => exact ⟨by simp [rowEnd, leaf_nodes], leaf_low (by omega)⟩
  | some [x], hl =>
    have := hl _ rfl
    simp only [nodesL, lowL, and_true, Nat.add_zero] at this
    exact ⟨by show nodes x ≤ _; omega, this.2⟩
  | some (x :: y :: l), hl =>
    have := hl _ rfl
    refine ⟨?_, ?_⟩
    · show nodes (.mk op 0 (x :: y :: l)) ≤ _
      rw [nodes]
      omega
    · show lowF B (.mk op 0 (x :: y :: l))
      rw [lowF]
      exact ⟨by omega, this.2⟩
theorem row_nodes (B op all one : Int) (hop : op ≠ 3) (hall : all ≠ 3) (hone : one ≠ 3) (S : Fm → Fm) (ks : List Fm) (h : ∀ k ∈ ks, nodes (S k) ≤ nodes k ∧ lowF B (S k)) : nodes (rowEnd op all one (rowL S all one ks [])) ≤ nodesL ks + 1 ∧ lowF B (rowEnd op all one (rowL S all one ks [])) := by
  refine end_nodes B op all one hop hall hone _ _ ?_
  intro m hm
  rw [rowL_eq] at hm
  split at hm
  · cases hm
  · simp only [List.nil_append, Option.some.injEq] at hm
    subst hm
    refine ⟨Nat.le_trans (nodesL_filter _ _) (nodesL_map ks (fun k hk => (h k hk).1)), ?_⟩
    rw [lowL_iff]
    intro k hk
    have := (List.mem_filter.1 hk).1
    obtain ⟨x, hx, rfl⟩ := List.mem_map.1 this
    exact (h x hx).2
theorem simple_nodes (B : Int) : ∀ (d : Nat) (f : Fm), fits d f → lowF B f → nodes (simpleR d f) ≤ nodes f ∧ lowF B (simpleR d f)
  | 0, _, h, _ => h.elim
  | d + 1, f, h, hl => by
    have hk : ∀ k ∈ f.kids, nodes (simpleR d k) ≤ nodes k ∧ lowF B (simpleR d k) := fun k hk => simple_nodes B d k (h.2 k hk) ((lowL_iff B _).1 ((lowF_eq B f).1 hl).2 k hk)
    have hn := nodes_eq f
    show nodes (if f.op = 4 then (match f.kids with | [k] => negR (simpleR d k) | _ => .mk 4 0 [])
      else if f.op = 5 then rowEnd 5 1 2 (rowL (simpleR d) 1 2 f.kids [])
      else if f.op = 6 then rowEnd 6 2 1 (rowL (simpleR d) 2 1 f.kids [])
      else if f.op = 3 then .mk 3 f.n []
      else .mk f.op 0 []) ≤ _ ∧ lowF B (if f.op = 4 then (match f.kids with | [k] => negR (simpleR d k) | _ => .mk 4 0 [])
      else if f.op = 5 then rowEnd 5 1 2 (rowL (simpleR d) 1 2 f.kids [])
      else if f.op = 6 then rowEnd 6 2 1 (rowL (simpleR d) 2 1 f.kids [])
      else if f.op = 3 then .mk 3 f.n []
      else .mk f.op 0 [])
    split
    · match hks : f.kids, hk, hn with
      | [], _, hn => exact ⟨by rw [leaf_nodes]; omega, leaf_low (by omega)⟩
      | [k], hk, hn =>
        have h1 := hk k (by simp)
        have h2 := neg_nodes B (simpleR d k)
        simp only [nodesL] at hn
        exact ⟨by show nodes (negR _) ≤ _; omega, h2.2 h1.2⟩
      | _ :: _ :: _, _, hn => exact ⟨by show nodes (.mk 4 0 []) ≤ _; rw [leaf_nodes]; omega, leaf_low (by omega)⟩
    split
    · have := row_nodes B 5 1 2 (by omega) (by omega) (by omega) (simpleR d) f.kids hk
      exact ⟨by omega, this.2⟩
    split
    · have := row_nodes B 6 2 1 (by omega) (by omega) (by omega) (simpleR d) f.kids hk
      exact ⟨by omega, this.2⟩
    split
    · rename_i h3
      exact ⟨by rw [leaf_nodes]; omega, leaf_low (fun _ => ((lowF_eq B f).1 hl).1 h3)⟩
    · rename_i h3
      exact ⟨by rw [leaf_nodes]; omega, leaf_low (fun h => absurd h h3)⟩

/-- Truths by number. -/
def agree (n : Int) (a b : Int → Bool) : Prop := ∀ i, 1 ≤ i → i ≤ n → a i = b i
def sol (v : Int) (a : Int → Bool) : Bool := if v = 0 then false else (a (if v < 0 then 0 - v else v) == decide (0 < v))
def met (l : List (List Int)) (a : Int → Bool) : Bool := l.all fun c => c.any fun v => sol v a
theorem agree_refl (n : Int) (a : Int → Bool) : agree n a a := fun _ _ _ => rfl
theorem agree_symm {n : Int} {a b : Int → Bool} (h : agree n a b) : agree n b a := fun i h1 h2 => (h i h1 h2).symm
theorem agree_trans {n : Int} {a b c : Int → Bool} (h : agree n a b) (h' : agree n b c) : agree n a c := fun i h1 h2 => (h i h1 h2).trans (h' i h1 h2)
theorem agree_mono {n m : Int} {a b : Int → Bool} (h : agree n a b) (hm : m ≤ n) : agree m a b := fun i h1 h2 => h i h1 (by omega)
theorem met_append (l m : List (List Int)) (a : Int → Bool) : met (l ++ m) a = (met l a && met m a) := by simp [met, List.all_append]
theorem sol_agree {n v : Int} {a b : Int → Bool} (h : agree n a b) (h1 : -n ≤ v) (h2 : v ≤ n) : sol v a = sol v b := by
  unfold sol
  by_cases hv : v = 0
  · rw [if_pos hv, if_pos hv]
  · rw [if_neg hv, if_neg hv, h _ (by split <;> omega) (by split <;> omega)]
theorem sol_neg {v : Int} (hv : v ≠ 0) (a : Int → Bool) : sol (0 - v) a = !sol v a := by
  unfold sol
  rcases Int.lt_or_gt_of_ne hv with h | h
  · rw [if_neg (by omega), if_neg hv, if_neg (by omega), if_pos h, decide_eq_true (by omega : (0 : Int) < 0 - v), decide_eq_false (by omega : ¬ (0 : Int) < v)]
    cases a (0 - v) <;> rfl
  · rw [if_neg (by omega), if_neg hv, if_pos (by omega), if_neg (by omega : ¬ v < 0), decide_eq_false (by omega : ¬ (0 : Int) < 0 - v), decide_eq_true (by omega : (0 : Int) < v)]
    have : 0 - (0 - v) = v := by omega
    rw [this]
    cases a v <;> rfl
theorem sol_pos {v : Int} (hv : 0 < v) (a : Int → Bool) : sol v a = a v := by
  unfold sol
  rw [if_neg (by omega), if_neg (by omega : ¬ v < 0), decide_eq_true hv]
  cases a v <;> rfl

abbrev LR := List (List Int) × Int × Int
def kidsR (g : Fm → Int → LR) : List Fm → Int → List (List Int) × Int × List Int
  | [], n => ([], n, [])
  | k :: ks, n => ((g k n).1 ++ (kidsR g ks (g k n).2.1).1, (kidsR g ks (g k n).2.1).2.1, (g k n).2.2 :: (kidsR g ks (g k n).2.1).2.2)
theorem kidsR_snoc (g : Fm → Int → LR) (k : Fm) : ∀ (ks : List Fm) (n : Int), kidsR g (ks ++ [k]) n = ((kidsR g ks n).1 ++ (g k (kidsR g ks n).2.1).1, (g k (kidsR g ks n).2.1).2.1, (kidsR g ks n).2.2 ++ [(g k (kidsR g ks n).2.1).2.2])
  | [], n => by simp [kidsR]
  | x :: ks, n => by
    simp only [List.cons_append, kidsR, kidsR_snoc g k ks, List.append_assoc]
def sgn (op : Int) : Int := if op = 6 then -1 else 1
def gate (s v : Int) (ks : List Int) : List (List Int) := ks.map (fun k => [(0 - s) * v, s * k]) ++ [(s * v) :: ks.map fun k => (0 - s) * k]
def litR : Nat → Fm → Int → LR
  | 0, _, n => ([], n, 0)
  | d + 1, f, n =>
    if f.op = 3 then ([], n, f.n)
    else if f.op = 4 then (match f.kids with | k :: _ => ((litR d k n).1, (litR d k n).2.1, 0 - (litR d k n).2.2) | [] => ([], n, 0))
    else ((kidsR (litR d) f.kids n).1 ++ gate (sgn f.op) ((kidsR (litR d) f.kids n).2.1 + 1) (kidsR (litR d) f.kids n).2.2, (kidsR (litR d) f.kids n).2.1 + 1, (kidsR (litR d) f.kids n).2.1 + 1)

/-- Sizes. -/
structure LitOK (n : Int) (r : LR) (N : Nat) : Prop where
  up : n ≤ r.2.1
  top : r.2.1 ≤ n + N
  nz : r.2.2 ≠ 0
  lo : -r.2.1 ≤ r.2.2
  hi : r.2.2 ≤ r.2.1
  cl : ∀ c ∈ r.1, c.length ≤ 61 ∧ ∀ v ∈ c, -r.2.1 ≤ v ∧ v ≤ r.2.1
  num : r.1.length + 1 ≤ 2 * N
structure KidsOK (n : Int) (r : List (List Int) × Int × List Int) (N m : Nat) : Prop where
  up : n ≤ r.2.1
  top : r.2.1 ≤ n + N
  vs : ∀ k ∈ r.2.2, k ≠ 0 ∧ -r.2.1 ≤ k ∧ k ≤ r.2.1
  cl : ∀ c ∈ r.1, c.length ≤ 61 ∧ ∀ v ∈ c, -r.2.1 ≤ v ∧ v ≤ r.2.1
  num : r.1.length + r.2.2.length ≤ 2 * N
  len : r.2.2.length = m
theorem kids_OK {g : Fm → Int → LR} {B : Int} : ∀ (ks : List Fm) (n : Int), B ≤ n → (∀ k ∈ ks, ∀ n, B ≤ n → LitOK n (g k n) (nodes k)) → KidsOK n (kidsR g ks n) (nodesL ks) ks.length
  | [], n, hB, _ => ⟨Int.le_refl _, by simp [kidsR, nodesL], fun k hk => by simp [kidsR] at hk, fun c hc => by simp [kidsR] at hc, by simp [kidsR], rfl⟩
  | x :: ks, n, hB, h => by
    have h1 := h x (by simp) n hB
    have h2 := kids_OK ks (g x n).2.1 (Int.le_trans hB h1.up) (fun k hk => h k (by simp [hk]))
    have a1 := h1.up
    have a2 := h1.top
    have a3 := h2.up
    have a4 := h2.top
    refine ⟨by simp only [kidsR]; omega, by simp only [kidsR, nodesL]; omega, ?_, ?_, ?_, ?_⟩
    · intro k hk
      simp only [kidsR, List.mem_cons] at hk ⊢
      rcases hk with rfl | hk
      · exact ⟨h1.nz, by have := h1.lo; omega, by have := h1.hi; omega⟩
      · exact h2.vs k hk
    · intro c hc
      simp only [kidsR, List.mem_append] at hc ⊢
      rcases hc with hc | hc
      · refine ⟨(h1.cl c hc).1, fun v hv => ?_⟩
        have := (h1.cl c hc).2 v hv
        omega
      · exact h2.cl c hc
    · have := h1.num
      have := h2.num
      simp only [kidsR, List.length_append, List.length_cons, nodesL]
      omega
    · simp only [kidsR, List.length_cons, h2.len]
theorem sgn_or (op : Int) : sgn op = 1 ∨ sgn op = -1 := by
  unfold sgn
  split
  · exact .inr rfl
  · exact .inl rfl
theorem gate_cl {s v n : Int} {ks : List Int} (hs : s = 1 ∨ s = -1) (hv : v = n + 1) (hn : 0 ≤ n) (h60 : ks.length ≤ 60) (hks : ∀ k ∈ ks, k ≠ 0 ∧ -n ≤ k ∧ k ≤ n) : ∀ c ∈ gate s v ks, c.length ≤ 61 ∧ ∀ x ∈ c, -v ≤ x ∧ x ≤ v := by
  intro c hc
  unfold gate at hc
  rcases List.mem_append.1 hc with hc | hc
  · obtain ⟨k, hk, rfl⟩ := List.mem_map.1 hc
    have := hks k hk
    refine ⟨by simp, fun x hx => ?_⟩
    rcases hs with rfl | rfl
    · simp only [List.mem_cons, List.not_mem_nil, or_false] at hx
      omega
    · simp only [List.mem_cons, List.not_mem_nil, or_false] at hx
      omega
  · simp only [List.mem_singleton] at hc
    subst hc
    refine ⟨by simp; omega, fun x hx => ?_⟩
    simp only [List.mem_cons, List.mem_map] at hx
    rcases hx with rfl | ⟨k, hk, rfl⟩
    · rcases hs with rfl | rfl <;> omega
    · have := hks k hk
      rcases hs with rfl | rfl <;> omega
theorem lit_OK (B : Int) (h0 : 0 ≤ B) : ∀ (d : Nat) (f : Fm) (n : Int), nf d f → lowF B f → B ≤ n → LitOK n (litR d f n) (nodes f)
  | 0, _, _, h, _, _ => h.elim
  | d + 1, f, n, h, hl, hB => by
    have hn := nodes_eq f
    have hl' := (lowF_eq B f).1 hl
    have hlk := (lowL_iff B _).1 hl'.2
    rcases h with ⟨h3, hk, h1, h2⟩ | ⟨h4, _, x, hk, hx, _⟩ | ⟨h5, _, _, h60, hk⟩
    · have e : litR (d + 1) f n = ([], n, f.n) := if_pos h3
      have := hl'.1 h3
      rw [e]
      exact ⟨Int.le_refl _, by show n ≤ _; omega, by show f.n ≠ 0; omega, by show -n ≤ f.n; omega, by show f.n ≤ n; omega, fun c hc => (List.not_mem_nil hc).elim, by show 0 + 1 ≤ _; omega⟩
    · have e : litR (d + 1) f n = ((litR d x n).1, (litR d x n).2.1, 0 - (litR d x n).2.2) := by
        show (if f.op = 3 then _ else if f.op = 4 then _ else _) = _
        rw [if_neg (by omega), if_pos h4, hk]
      have r := lit_OK B h0 d x n hx (hlk x (by rw [hk]; simp)) hB
      rw [hk] at hn
      simp only [nodesL] at hn
      rw [e]
      have a1 := r.up
      have a2 := r.top
      have a3 := r.nz
      have a4 := r.lo
      have a5 := r.hi
      have a6 := r.num
      exact ⟨r.up, by show (litR d x n).2.1 ≤ _; omega, by show 0 - (litR d x n).2.2 ≠ 0; omega, by show -(litR d x n).2.1 ≤ 0 - (litR d x n).2.2; omega, by show 0 - (litR d x n).2.2 ≤ (litR d x n).2.1; omega, r.cl, by show (litR d x n).1.length + 1 ≤ _; omega⟩
    · have e : litR (d + 1) f n = ((kidsR (litR d) f.kids n).1 ++ gate (sgn f.op) ((kidsR (litR d) f.kids n).2.1 + 1) (kidsR (litR d) f.kids n).2.2, (kidsR (litR d) f.kids n).2.1 + 1, (kidsR (litR d) f.kids n).2.1 + 1) := by
        show (if f.op = 3 then _ else if f.op = 4 then _ else _) = _
        rw [if_neg (by omega), if_neg (by omega)]
      have r := kids_OK f.kids n hB (fun k hk' n hB => lit_OK B h0 d k n (hk k hk') (hlk k hk') hB)
      rw [e]
      have a1 := r.up
      have a2 := r.top
      have a3 := r.num
      have a4 := r.len
      refine ⟨by show n ≤ _ + 1; omega, by show _ + 1 ≤ _; omega, by show _ + 1 ≠ (0 : Int); omega, by show -(_ + 1) ≤ (kidsR (litR d) f.kids n).2.1 + 1; omega, Int.le_refl _, ?_, ?_⟩
      · intro c hc
        rcases List.mem_append.1 hc with hc | hc
        · refine ⟨(r.cl c hc).1, fun v hv => ?_⟩
          have := (r.cl c hc).2 v hv
          show -((kidsR (litR d) f.kids n).2.1 + 1) ≤ v ∧ v ≤ (kidsR (litR d) f.kids n).2.1 + 1
          omega
        · exact gate_cl (sgn_or _) rfl (by omega) (by omega) r.vs c hc
      · show ((kidsR (litR d) f.kids n).1 ++ gate _ _ _).length + 1 ≤ _
        simp only [gate, List.length_append, List.length_map, List.length_cons, List.length_nil]
        omega

theorem gate_met {s v : Int} {ks : List Int} (hs : s = 1 ∨ s = -1) (hv : 0 < v) (hks : ∀ k ∈ ks, k ≠ 0) (c : Int → Bool) : met (gate s v ks) c = (c v == (if s = 1 then ks.all (sol · c) else ks.any (sol · c))) := by
  have e1 : sol v c = c v := sol_pos hv c
  have e2 : sol (0 - v) c = !c v := by rw [sol_neg (by omega), e1]
  have e3 : ∀ k ∈ ks, sol (0 - k) c = !sol k c := fun k hk => sol_neg (hks k hk) c
  rcases hs with rfl | rfl
  · have g : gate 1 v ks = ks.map (fun k => [0 - v, k]) ++ [v :: ks.map fun k => 0 - k] := by
      unfold gate
      have q2 : ∀ k : Int, (0 - 1) * k = 0 - k := fun k => by omega
      simp only [q2, Int.one_mul]
    rw [g, if_pos rfl]
    have h1 : met (ks.map (fun k => [0 - v, k])) c = ks.all (fun k => !c v || sol k c) := by
      unfold met
      rw [List.all_map]
      refine all_congr fun k hk => ?_
      show (sol (0 - v) c || (sol k c || false)) = _
      rw [e2, Bool.or_false]
    have h2 : met [v :: ks.map fun k => 0 - k] c = (c v || !ks.all (sol · c)) := by
      unfold met
      simp only [List.all_cons, List.all_nil, Bool.and_true, List.any_cons, e1, List.any_map]
      congr 1
      rw [List.not_all_eq_any_not]
      exact any_congr fun k hk => e3 k hk
    rw [met_append, h1, h2]
    cases c v <;> simp
  · have g : gate (-1) v ks = ks.map (fun k => [v, 0 - k]) ++ [(0 - v) :: ks.map fun k => k] := by
      unfold gate
      have q2 : ∀ k : Int, (0 - -1) * k = k := fun k => by omega
      have q3 : ∀ k : Int, -1 * k = 0 - k := fun k => by omega
      simp only [q2, q3]
    rw [g, if_neg (by omega)]
    have h1 : met (ks.map (fun k => [v, 0 - k])) c = ks.all (fun k => c v || !sol k c) := by
      unfold met
      rw [List.all_map]
      refine all_congr fun k hk => ?_
      show (sol v c || (sol (0 - k) c || false)) = _
      rw [e1, e3 k hk, Bool.or_false]
    have h2 : met [(0 - v) :: ks.map fun k => k] c = (!c v || ks.any (sol · c)) := by
      unfold met
      simp only [List.all_cons, List.all_nil, Bool.and_true, List.any_cons, e2, List.map_id']
    rw [met_append, h1, h2]
    cases c v
    · simp [List.not_any_eq_all_not]
    · simp

/-- By one choice of the new variables alone the clauses are met; the literal is then what the formula is. -/
def LitS (n : Int) (r : LR) (a : Int → Bool) (e : Bool) : Prop := ∃ b, agree n b a ∧ (∀ c, agree n c a → (met r.1 c = true ↔ agree r.2.1 c b)) ∧ sol r.2.2 b = e
def KidsS (n : Int) (r : List (List Int) × Int × List Int) (a : Int → Bool) (es : List Bool) : Prop := ∃ b, agree n b a ∧ (∀ c, agree n c a → (met r.1 c = true ↔ agree r.2.1 c b)) ∧ r.2.2.map (sol · b) = es
theorem kids_S {g : Fm → Int → LR} {B : Int} {t : Int → Bool} {ev : Fm → Bool} : ∀ (ks : List Fm) (n : Int) (a : Int → Bool), B ≤ n → agree B a t → (∀ k ∈ ks, ∀ n, B ≤ n → LitOK n (g k n) (nodes k)) →
    (∀ k ∈ ks, ∀ n a, B ≤ n → agree B a t → LitS n (g k n) a (ev k)) → KidsS n (kidsR g ks n) a (ks.map ev)
  | [], n, a, _, _, _, _ => ⟨a, agree_refl _ _, fun c hc => ⟨fun _ => hc, fun _ => rfl⟩, rfl⟩
  | x :: ks, n, a, hB, ha, hok, h => by
    obtain ⟨b1, p1, p2, p3⟩ := h x (by simp) n a hB ha
    have o1 := hok x (by simp) n hB
    have hB1 := Int.le_trans hB o1.up
    obtain ⟨b2, q1, q2, q3⟩ := kids_S ks (g x n).2.1 b1 hB1 (agree_trans (agree_mono p1 hB) ha) (fun k hk => hok k (by simp [hk])) (fun k hk => h k (by simp [hk]))
    have o2 := kids_OK ks (g x n).2.1 hB1 (fun k hk => hok k (by simp [hk]))
    refine ⟨b2, agree_trans (agree_mono q1 o1.up) p1, ?_, ?_⟩
    · intro c hc
      simp only [kidsR]
      rw [met_append, Bool.and_eq_true]
      constructor
      · rintro ⟨h1, h2⟩
        exact (q2 c ((p2 c hc).1 h1)).1 h2
      · intro h2
        have h1 : agree (g x n).2.1 c b1 := agree_trans (agree_mono h2 o2.up) q1
        exact ⟨(p2 c hc).2 h1, (q2 c h1).2 h2⟩
    · simp only [kidsR, List.map_cons, q3]
      rw [sol_agree q1 o1.lo o1.hi, p3]
theorem lit_S (B : Int) (h0 : 0 ≤ B) (t : List Bool) : ∀ (d : Nat) (f : Fm) (n : Int) (a : Int → Bool), nf d f → lowF B f → B ≤ n → agree B a (fun i => atomB i t) → LitS n (litR d f n) a (evalR d f t)
  | 0, _, _, _, h, _, _, _ => h.elim
  | d + 1, f, n, a, h, hl, hB, ha => by
    have hl' := (lowF_eq B f).1 hl
    have hlk := (lowL_iff B _).1 hl'.2
    rcases h with ⟨h3, hk, h1, h2⟩ | ⟨h4, _, x, hk, hx, _⟩ | ⟨h5, _, _, h60, hk⟩
    · have e : litR (d + 1) f n = ([], n, f.n) := if_pos h3
      rw [e]
      refine ⟨a, agree_refl _ _, fun c hc => ⟨fun _ => hc, fun _ => rfl⟩, ?_⟩
      show sol f.n a = _
      rw [sol_pos (by omega), ha _ (by omega) (hl'.1 h3)]
      show _ = (if f.op = 1 then _ else if f.op = 3 then _ else _)
      rw [if_neg (by omega), if_pos h3]
    · have e : litR (d + 1) f n = ((litR d x n).1, (litR d x n).2.1, 0 - (litR d x n).2.2) := by
        show (if f.op = 3 then _ else if f.op = 4 then _ else _) = _
        rw [if_neg (by omega), if_pos h4, hk]
      have o := lit_OK B h0 d x n hx (hlk x (by rw [hk]; simp)) hB
      obtain ⟨b, p1, p2, p3⟩ := lit_S B h0 t d x n a hx (hlk x (by rw [hk]; simp)) hB ha
      rw [e]
      refine ⟨b, p1, p2, ?_⟩
      show sol (0 - (litR d x n).2.2) b = _
      rw [sol_neg o.nz, p3]
      show _ = (if f.op = 1 then _ else if f.op = 3 then _ else if f.op = 4 then _ else _)
      rw [if_neg (by omega), if_neg (by omega), if_pos h4, hk]
    · have e : litR (d + 1) f n = ((kidsR (litR d) f.kids n).1 ++ gate (sgn f.op) ((kidsR (litR d) f.kids n).2.1 + 1) (kidsR (litR d) f.kids n).2.2, (kidsR (litR d) f.kids n).2.1 + 1, (kidsR (litR d) f.kids n).2.1 + 1) := by
        show (if f.op = 3 then _ else if f.op = 4 then _ else _) = _
        rw [if_neg (by omega), if_neg (by omega)]
      have o := kids_OK f.kids n hB (fun k hk' n hB => lit_OK B h0 d k n (hk k hk') (hlk k hk') hB)
      obtain ⟨b, p1, p2, p3⟩ := kids_S (ev := (evalR d · t)) f.kids n a hB ha (fun k hk' n hB => lit_OK B h0 d k n (hk k hk') (hlk k hk') hB) (fun k hk' n a hB ha => lit_S B h0 t d k n a (hk k hk') (hlk k hk') hB ha)
      rw [e]
      generalize kidsR (litR d) f.kids n = r at *
      have hup := o.up
      have hall : ∀ c, agree r.2.1 c b → (if sgn f.op = 1 then r.2.2.all (sol · c) else r.2.2.any (sol · c)) = evalR (d + 1) f t := by
        intro c hc
        have e1 : r.2.2.all (sol · c) = f.kids.all (evalR d · t) := by
          have h1 : r.2.2.all (sol · c) = (r.2.2.map (sol · b)).all id := by
            rw [List.all_map]
            exact all_congr fun k hk => sol_agree hc (o.vs k hk).2.1 (o.vs k hk).2.2
          rw [h1, p3, List.all_map]
          rfl
        have e2 : r.2.2.any (sol · c) = f.kids.any (evalR d · t) := by
          have h1 : r.2.2.any (sol · c) = (r.2.2.map (sol · b)).any id := by
            rw [List.any_map]
            exact any_congr fun k hk => sol_agree hc (o.vs k hk).2.1 (o.vs k hk).2.2
          rw [h1, p3, List.any_map]
          rfl
        rw [e1, e2]
        show _ = (if f.op = 1 then _ else if f.op = 3 then _ else if f.op = 4 then _ else if f.op = 5 then _ else if f.op = 6 then _ else _)
        unfold sgn
        rcases h5 with h5 | h5
        · rw [if_neg (by omega : ¬ f.op = 6), if_pos rfl, if_neg (by omega), if_neg (by omega), if_neg (by omega), if_pos h5]
        · rw [if_pos h5, if_neg (by omega), if_neg (by omega), if_neg (by omega), if_neg (by omega), if_neg (by omega), if_pos h5]
      refine ⟨fun i => if i = r.2.1 + 1 then evalR (d + 1) f t else b i, ?_, ?_, ?_⟩
      · intro i h1 h2
        show (if i = r.2.1 + 1 then _ else b i) = _
        rw [if_neg (by omega)]
        exact p1 i h1 h2
      · intro c hc
        show met (r.1 ++ gate _ _ _) c = true ↔ agree (r.2.1 + 1) c _
        rw [met_append, Bool.and_eq_true, gate_met (sgn_or _) (by omega) (fun k hk => (o.vs k hk).1)]
        constructor
        · rintro ⟨h1, h2⟩
          have hb := (p2 c hc).1 h1
          rw [hall c hb] at h2
          intro i i1 i2
          show _ = (if i = r.2.1 + 1 then _ else b i)
          by_cases hi : i = r.2.1 + 1
          · rw [if_pos hi, hi]
            exact eq_of_beq h2
          · rw [if_neg hi]
            exact hb i i1 (by omega)
        · intro h1
          have hb : agree r.2.1 c b := by
            intro i i1 i2
            have := h1 i i1 (by omega)
            rw [this]
            show (if i = r.2.1 + 1 then _ else b i) = _
            rw [if_neg (by omega)]
          refine ⟨(p2 c hc).2 hb, ?_⟩
          rw [hall c hb, h1 (r.2.1 + 1) (by omega) (Int.le_refl _)]
          show ((if r.2.1 + 1 = r.2.1 + 1 then _ else _) == _) = true
          rw [if_pos rfl]
          exact beq_self_eq_true _
      · show sol (r.2.1 + 1) _ = _
        rw [sol_pos (by omega)]
        show (if r.2.1 + 1 = r.2.1 + 1 then _ else _) = _
        rw [if_pos rfl]

/-- What is made of a formula. -/
def ofR (d : Nat) (f : Fm) (n : Int) : List (List Int) × Int :=
  if (simpleR d f).op = 1 then ([], n) else if (simpleR d f).op = 2 then ([[]], n)
  else ((litR d (simpleR d f) n).1 ++ [[(litR d (simpleR d f) n).2.2]], (litR d (simpleR d f) n).2.1)
structure OfOK (n : Int) (r : List (List Int) × Int) (N : Nat) : Prop where
  up : n ≤ r.2
  top : r.2 ≤ n + N
  cl : ∀ c ∈ r.1, c.length ≤ 61 ∧ ∀ v ∈ c, -r.2 ≤ v ∧ v ≤ r.2
  num : r.1.length ≤ 2 * N
theorem of_OK {B : Int} (h0 : 0 ≤ B) {d : Nat} {f : Fm} {n : Int} (hf : fits d f) (hm : mayR d f = true) (hl : lowF B f) (hB : B ≤ n) : OfOK n (ofR d f n) (nodes f) := by
  have hp := nodes_pos f
  have hs := simple_nodes B d f hf hl
  have hn := simple_nice d f hf hm
  unfold ofR
  by_cases c1 : (simpleR d f).op = 1
  · rw [if_pos c1]
    exact ⟨Int.le_refl _, by show n ≤ _; omega, fun c hc => (List.not_mem_nil hc).elim, by show 0 ≤ _; omega⟩
  rw [if_neg c1]
  by_cases c2 : (simpleR d f).op = 2
  · rw [if_pos c2]
    exact ⟨Int.le_refl _, by show n ≤ _; omega, fun c hc => by simp only [List.mem_singleton] at hc; subst hc; exact ⟨by simp, fun v hv => (List.not_mem_nil hv).elim⟩, by show 1 ≤ _; omega⟩
  rw [if_neg c2]
  have o := lit_OK B h0 d _ n (nice_3 hn c1 c2) hs.2 hB
  have a1 := o.up
  have a2 := o.top
  have a3 := o.num
  refine ⟨o.up, by show (litR d (simpleR d f) n).2.1 ≤ _; omega, ?_, ?_⟩
  · intro c hc
    rcases List.mem_append.1 hc with hc | hc
    · exact o.cl c hc
    · simp only [List.mem_singleton] at hc
      subst hc
      refine ⟨by simp, fun v hv => ?_⟩
      simp only [List.mem_singleton] at hv
      subst hv
      exact ⟨o.lo, o.hi⟩
  · show ((litR d (simpleR d f) n).1 ++ _).length ≤ _
    simp only [List.length_append, List.length_cons, List.length_nil]
    omega
theorem of_S {B : Int} (h0 : 0 ≤ B) (t : List Bool) {d : Nat} {f : Fm} {n : Int} (hf : fits d f) (hm : mayR d f = true) (hl : lowF B f) (hB : B ≤ n) (a : Int → Bool) (ha : agree B a (fun i => atomB i t)) :
    ∃ b, agree n b a ∧ ∀ c, agree n c a → (met (ofR d f n).1 c = true ↔ agree (ofR d f n).2 c b ∧ evalR d f t = true) := by
  have hs := simple_nodes B d f hf hl
  have hn := simple_nice d f hf hm
  have he := simple_eval t d f hf hm
  obtain ⟨e, rfl⟩ : ∃ e, d = e + 1 := by
    cases d with
    | zero => exact hf.elim
    | succ e => exact ⟨e, rfl⟩
  unfold ofR
  by_cases c1 : (simpleR (e + 1) f).op = 1
  · rw [if_pos c1, ← he]
    refine ⟨a, agree_refl _ _, fun c hc => ⟨fun _ => ⟨hc, ?_⟩, fun _ => rfl⟩⟩
    show (if (simpleR (e + 1) f).op = 1 then true else _) = true
    rw [if_pos c1]
  rw [if_neg c1]
  by_cases c2 : (simpleR (e + 1) f).op = 2
  · rw [if_pos c2, ← he]
    refine ⟨a, agree_refl _ _, fun c hc => ⟨fun h => by simp [met] at h, fun h => ?_⟩⟩
    have h2 : evalR (e + 1) (simpleR (e + 1) f) t = false := by
      show (if (simpleR (e + 1) f).op = 1 then true else if (simpleR (e + 1) f).op = 3 then _ else if (simpleR (e + 1) f).op = 4 then _ else if (simpleR (e + 1) f).op = 5 then _ else if (simpleR (e + 1) f).op = 6 then _ else false) = false
      rw [if_neg (by omega), if_neg (by omega), if_neg (by omega), if_neg (by omega), if_neg (by omega)]
    rw [h2] at h
    cases h.2
  rw [if_neg c2]
  have o := lit_OK B h0 (e + 1) _ n (nice_3 hn c1 c2) hs.2 hB
  obtain ⟨b, p1, p2, p3⟩ := lit_S B h0 t (e + 1) _ n a (nice_3 hn c1 c2) hs.2 hB ha
  rw [he] at p3
  refine ⟨b, p1, fun c hc => ?_⟩
  show met ((litR (e + 1) (simpleR (e + 1) f) n).1 ++ [[(litR (e + 1) (simpleR (e + 1) f) n).2.2]]) c = true ↔ agree (litR (e + 1) (simpleR (e + 1) f) n).2.1 c b ∧ _
  have hone : met [[(litR (e + 1) (simpleR (e + 1) f) n).2.2]] c = sol (litR (e + 1) (simpleR (e + 1) f) n).2.2 c := by simp [met]
  rw [met_append, Bool.and_eq_true, hone]
  constructor
  · rintro ⟨h1, h2⟩
    have hb := (p2 c hc).1 h1
    refine ⟨hb, ?_⟩
    rw [← p3, ← sol_agree hb o.lo o.hi]
    exact h2
  · rintro ⟨hb, h2⟩
    refine ⟨(p2 c hc).2 hb, ?_⟩
    rw [sol_agree hb o.lo o.hi, p3]
    exact h2

/-- Counting. -/
def cntX (p : Nat → Bool) : Nat → Nat
  | 0 => 0
  | x + 1 => cntX p x + (if p x = true then 1 else 0)
theorem cntX_le (p : Nat → Bool) : ∀ n, cntX p n ≤ n
  | 0 => Nat.le_refl _
  | n + 1 => by
    have := cntX_le p n
    simp only [cntX]
    split <;> omega
theorem cntX_one {p : Nat → Bool} {x0 : Nat} {e : Bool} : ∀ n, (∀ x, x < n → (p x = true ↔ x = x0 ∧ e = true)) → cntX p n = if x0 < n ∧ e = true then 1 else 0
  | 0, _ => by simp [cntX]
  | n + 1, h => by
    have ih := cntX_one n (fun x hx => h x (by omega))
    have hn := h n (by omega)
    simp only [cntX, ih]
    by_cases he : e = true
    · subst he
      by_cases hx : n = x0
      · rw [if_pos (hn.2 ⟨hx, rfl⟩), if_neg (by omega), if_pos ⟨by omega, rfl⟩]
      · rw [if_neg (fun q => hx (hn.1 q).1)]
        by_cases h2 : x0 < n
        · rw [if_pos ⟨h2, rfl⟩, if_pos ⟨by omega, rfl⟩]
        · rw [if_neg (fun q => h2 q.1), if_neg (fun q => by omega)]
    · rw [if_neg (fun q => he (hn.1 q).2), if_neg (fun q => he q.2), if_neg (fun q => he q.2)]
theorem bits_ex : ∀ (m : Nat) (p : Nat → Bool), ∃ x, x < 2 ^ m ∧ ∀ i, i < m → x.testBit i = p i
  | 0, p => ⟨0, by simp, fun i hi => by omega⟩
  | m + 1, p => by
    obtain ⟨x, h1, h2⟩ := bits_ex m (fun i => p (i + 1))
    refine ⟨2 * x + (p 0).toNat, ?_, ?_⟩
    · have : (p 0).toNat ≤ 1 := Bool.toNat_le _
      rw [Nat.pow_succ]
      omega
    · intro i hi
      cases i with
      | zero =>
        rw [Nat.testBit_zero]
        cases p 0 <;> simp [Nat.add_mod]
      | succ i =>
        rw [Nat.testBit_succ]
        have : (2 * x + (p 0).toNat) / 2 = x := by
          have : (p 0).toNat ≤ 1 := Bool.toNat_le _
          omega
        rw [this]
        exact h2 i (by omega)
theorem bits_eq {m x y : Nat} (hx : x < 2 ^ m) (hy : y < 2 ^ m) (h : ∀ i, i < m → x.testBit i = y.testBit i) : x = y := by
  apply Nat.eq_of_testBit_eq
  intro i
  by_cases hi : i < m
  · exact h i hi
  · rw [Nat.testBit_lt_two_pow (Nat.lt_of_lt_of_le hx (Nat.pow_le_pow_right (by omega) (by omega))), Nat.testBit_lt_two_pow (Nat.lt_of_lt_of_le hy (Nat.pow_le_pow_right (by omega) (by omega)))]

/-- Truths of atoms, then bits. -/
def asg (t : List Bool) (m x : Nat) : List Bool := (List.range 6).map (fun i => t.getD i false) ++ (List.range m).map (fun i => x.testBit i)
theorem asg_len (t : List Bool) (m x : Nat) : (asg t m x).length = 6 + m := by simp [asg]
theorem asg_low (t : List Bool) (m x : Nat) {i : Int} (h1 : 1 ≤ i) (h6 : i ≤ 6) : isB i (asg t m x) = atomB i t := by
  have hl := asg_len t m x
  have hg : (asg t m x).getD (i - 1).toNat false = t.getD (i - 1).toNat false := by
    have hi : (i - 1).toNat < 6 := by omega
    generalize (i - 1).toNat = j at hi
    simp [asg, List.getD_eq_getElem?_getD, List.getElem?_append, hi]
  unfold isB atomB
  rw [hg, decide_eq_true (by omega : (0 : Int) < i), decide_eq_true (by omega : i ≥ 1), decide_eq_true (by rw [hl]; omega : i ≤ ((asg t m x).length : Int))]
  by_cases h : i ≤ t.length
  · rw [decide_eq_true h]
  · rw [decide_eq_false h, List.getD_eq_getElem?_getD, List.getElem?_eq_none (by omega)]
    rfl
theorem asg_high (t : List Bool) (m x : Nat) {i : Nat} (h : i < m) : isB ((7 + i : Nat) : Int) (asg t m x) = x.testBit i := by
  have hl := asg_len t m x
  have hg : (asg t m x).getD (((7 + i : Nat) : Int) - 1).toNat false = x.testBit i := by
    have : (((7 + i : Nat) : Int) - 1).toNat = 6 + i := by omega
    rw [this]
    simp [asg, List.getD_eq_getElem?_getD, h]
  unfold isB
  rw [hg, decide_eq_true (by omega), decide_eq_true (by rw [hl]; omega)]
  rfl
theorem soB_sol {v : Int} (h : -9223372036854775808 < v ∧ v ≤ 9223372036854775807) (a : List Bool) : soB v a = sol v (fun i => isB i a) := by
  unfold soB sol
  by_cases h0 : v = 0
  · rw [if_pos h0, if_pos h0]
  rw [if_neg h0, if_neg h0]
  have : negI v = 0 - v := by
    unfold negI
    exact wrap_eq rfl (by omega) (by omega)
  rw [this]
theorem metB_met {l : List (List Int)} (h : ∀ c ∈ l, ∀ v ∈ c, -9223372036854775808 < v ∧ v ≤ 9223372036854775807) (a : List Bool) : metB l a = met l (fun i => isB i a) := by
  unfold metB met metC
  exact all_congr fun c hc => any_congr fun v hv => soB_sol (h c hc v hv) a

/-- One choice alone, just if the formula is so. -/
theorem count_ok (t : List Bool) {d : Nat} {f : Fm} {m : Nat} (hf : fits d f) (hm : mayR d f = true) (hl : lowF 6 f) (hn : (ofR d f 6).2 = 6 + m) (h64 : m < 1000) :
    cntX (fun x => metB (ofR d f 6).1 (asg t m x)) (2 ^ m) = if evalR d f t = true then 1 else 0 := by
  have o := of_OK (B := 6) (by omega) hf hm hl (Int.le_refl _)
  obtain ⟨b, hba, hb⟩ := of_S (B := 6) (by omega) t hf hm hl (Int.le_refl _) (fun i => atomB i t) (agree_refl _ _)
  obtain ⟨x0, hx0, hbit⟩ := bits_ex m (fun i => b ((7 + i : Nat) : Int))
  have key : ∀ x, x < 2 ^ m → (metB (ofR d f 6).1 (asg t m x) = true ↔ x = x0 ∧ evalR d f t = true) := by
    intro x hx
    rw [metB_met (fun c hc v hv => by have := (o.cl c hc).2 v hv; omega)]
    rw [hb _ (fun i h1 h2 => asg_low t m x h1 h2), hn]
    constructor
    · rintro ⟨h1, h2⟩
      refine ⟨?_, h2⟩
      refine bits_eq hx hx0 fun i hi => ?_
      rw [hbit i hi, ← h1 ((7 + i : Nat) : Int) (by omega) (by omega)]
      exact (asg_high t m x hi).symm
    · rintro ⟨rfl, h2⟩
      refine ⟨fun i h1 h3 => ?_, h2⟩
      by_cases h6 : i ≤ 6
      · show isB i _ = b i
        rw [asg_low t m x h1 h6]
        exact (hba i h1 h6).symm
      · have e : i = ((7 + (i - 7).toNat : Nat) : Int) := by omega
        rw [e]
        show isB _ _ = _
        rw [asg_high t m x (by omega), hbit _ (by omega)]
  rw [cntX_one _ key]
  by_cases he : evalR d f t = true
  · rw [if_pos ⟨hx0, he⟩, if_pos he]
  · rw [if_neg (fun q => he q.2), if_neg he]
end Go.Abs.A
