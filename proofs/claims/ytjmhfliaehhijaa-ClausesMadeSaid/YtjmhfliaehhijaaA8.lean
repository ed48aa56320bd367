import Derived.Test.YtjmhfliaehhijaaKont
import Derived.Test.YtjmhfliaehhijaaA7
set_option linter.unusedVariables false
set_option linter.unusedSimpArgs false
/-
  Formulas made simple: what holds of them.
-/
namespace Go.Abs.A
open Go Go.Abs

theorem mayR_mono : ∀ {d e : Nat} {f : Fm}, mayR d f = true → d ≤ e → mayR e f = true
  | 0, _, _, h, _ => by cases h
  | d + 1, 0, _, _, h => by omega
  | d + 1, e + 1, f, h, hle => by
    obtain ⟨h1, h2⟩ := mayR_parts h
    rw [mayR_go h1, List.all_eq_true]
    exact fun k hk => mayR_mono (h2 k hk) (by omega)
theorem all_congr {α : Type} {p q : α → Bool} {c : List α} (h : ∀ x ∈ c, p x = q x) : c.all p = c.all q := by
  induction c with
  | nil => rfl
  | cons x xs ih => simp only [List.all_cons, h x (by simp), ih (fun y hy => h y (by simp [hy]))]
theorem any_congr {α : Type} {p q : α → Bool} {c : List α} (h : ∀ x ∈ c, p x = q x) : c.any p = c.any q := by
  induction c with
  | nil => rfl
  | cons x xs ih => simp only [List.any_cons, h x (by simp), ih (fun y hy => h y (by simp [hy]))]
theorem evalR_mono (a : List Bool) : ∀ {d e : Nat} {f : Fm}, fits d f → d ≤ e → evalR e f a = evalR d f a
  | 0, _, _, h, _ => h.elim
  | d + 1, 0, _, _, h => by omega
  | d + 1, e + 1, .mk op n ks, h, hle => by
    have ih : ∀ k ∈ ks, evalR e k a = evalR d k a := fun k hk => evalR_mono a (h.2 k hk) (by omega)
    simp only [evalR, Fm.op_mk, Fm.n_mk, Fm.kids_mk]
    rw [all_congr ih, any_congr ih]
    match ks, ih with
    | [], _ => rfl
    | [k], ih =>
      simp only [ih k (by simp)]
      rfl
    | _ :: _ :: _, _ => rfl

def negR (k : Fm) : Fm :=
  if k.op = 1 then .mk 2 0 [] else if k.op = 2 then .mk 1 0 [] else if k.op = 4 then (match k.kids with | [x] => x | _ => k) else .mk 4 0 [k]
/-- The kids that stay, or nothing where one decides. -/
def rowL (S : Fm → Fm) (all one : Int) : List Fm → List Fm → Option (List Fm)
  | [], out => some out
  | k :: ks, out => if (S k).op = one then none else rowL S all one ks (if (S k).op = all then out else out ++ [S k])
def rowEnd (op all one : Int) : Option (List Fm) → Fm
  | none => .mk one 0 []
  | some [] => .mk all 0 []
  | some [x] => x
  | some (x :: y :: l) => .mk op 0 (x :: y :: l)
def simpleR : Nat → Fm → Fm
  | 0, f => f
  | d + 1, f =>
    if f.op = 4 then (match f.kids with | [k] => negR (simpleR d k) | _ => .mk 4 0 [])
    else if f.op = 5 then rowEnd 5 1 2 (rowL (simpleR d) 1 2 f.kids [])
    else if f.op = 6 then rowEnd 6 2 1 (rowL (simpleR d) 2 1 f.kids [])
    else if f.op = 3 then .mk 3 f.n []
    else .mk f.op 0 []
/-- Simple, and no constant. -/
def nf : Nat → Fm → Prop
  | 0, _ => False
  | d + 1, f => (f.op = 3 ∧ f.kids = [] ∧ 1 ≤ f.n ∧ f.n ≤ 1000) ∨ (f.op = 4 ∧ f.n = 0 ∧ ∃ x, f.kids = [x] ∧ nf d x ∧ x.op ≠ 4) ∨ ((f.op = 5 ∨ f.op = 6) ∧ f.n = 0 ∧ 2 ≤ f.kids.length ∧ f.kids.length ≤ 60 ∧ ∀ k ∈ f.kids, nf d k)
theorem nf_mono : ∀ {d e : Nat} {f : Fm}, nf d f → d ≤ e → nf e f
  | 0, _, _, h, _ => h.elim
  | d + 1, 0, _, _, h => by omega
  | d + 1, e + 1, f, h, hle => by
    rcases h with h | ⟨h1, h2, x, h3, h4, h5⟩ | ⟨h1, h2, h3, h4, h5⟩
    · exact .inl h
    · exact .inr (.inl ⟨h1, h2, x, h3, nf_mono h4 (by omega), h5⟩)
    · exact .inr (.inr ⟨h1, h2, h3, h4, fun k hk => nf_mono (h5 k hk) (by omega)⟩)
theorem nf_op {d : Nat} {f : Fm} (h : nf d f) : 3 ≤ f.op ∧ f.op ≤ 6 := by
  cases d with
  | zero => exact h.elim
  | succ d =>
    rcases h with h | h | h
    · omega
    · omega
    · omega
theorem nf_fits : ∀ {d : Nat} {f : Fm}, nf d f → fits d f
  | 0, _, h => h.elim
  | d + 1, f, h => by
    rcases h with ⟨_, h, _⟩ | ⟨h1, h2, x, h3, h4, h5⟩ | ⟨h1, h2, h3, h4, h5⟩
    · exact ⟨by rw [h]; simp, fun k hk => by rw [h] at hk; cases hk⟩
    · refine ⟨by rw [h3]; simp, fun k hk => ?_⟩
      rw [h3] at hk
      simp only [List.mem_singleton] at hk
      subst hk
      exact nf_fits h4
    · exact ⟨h4, fun k hk => nf_fits (h5 k hk)⟩
theorem nf_may : ∀ {d : Nat} {f : Fm}, nf d f → mayR d f = true
  | 0, _, h => h.elim
  | d + 1, f, h => by
    rcases h with ⟨h0, h, h1, h2⟩ | ⟨h1, h2, x, h3, h4, h5⟩ | ⟨h1, h2, h3, h4, h5⟩
    · rw [mayR_go ⟨by omega, by omega, fun q => by rw [h] at q; simp at q, by omega, by omega⟩, h]
      rfl
    · rw [mayR_go ⟨by omega, by omega, by omega, fun q => by rw [h3] at q; simp at q, by omega⟩, h3]
      simp only [List.all_cons, List.all_nil, Bool.and_true]
      exact nf_may h4
    · rw [mayR_go ⟨by omega, by omega, by omega, by omega, by omega⟩, List.all_eq_true]
      exact fun k hk => nf_may (h5 k hk)
def isC (f : Fm) : Prop := f = .mk 1 0 [] ∨ f = .mk 2 0 []
def nice (d : Nat) (f : Fm) : Prop := isC f ∨ nf d f
theorem nice_mono {d e : Nat} {f : Fm} (h : nice d f) (hle : d ≤ e) : nice e f := h.imp id (fun h => nf_mono h hle)
theorem nice_fits {d : Nat} {f : Fm} (h : nice (d + 1) f) : fits (d + 1) f := by
  rcases h with (rfl | rfl) | h
  · exact ⟨by simp [Fm.kids_mk], fun k hk => by simp [Fm.kids_mk] at hk⟩
  · exact ⟨by simp [Fm.kids_mk], fun k hk => by simp [Fm.kids_mk] at hk⟩
  · exact nf_fits h
theorem nice_1 {d : Nat} {f : Fm} (h : nice d f) (h1 : f.op = 1) : f = .mk 1 0 [] := by
  rcases h with (rfl | rfl) | h
  · rfl
  · simp [Fm.op_mk] at h1
  · have := nf_op h
    omega
theorem nice_2 {d : Nat} {f : Fm} (h : nice d f) (h1 : f.op = 2) : f = .mk 2 0 [] := by
  rcases h with (rfl | rfl) | h
  · simp [Fm.op_mk] at h1
  · rfl
  · have := nf_op h
    omega
theorem nice_3 {d : Nat} {f : Fm} (h : nice d f) (h1 : f.op ≠ 1) (h2 : f.op ≠ 2) : nf d f := by
  rcases h with (rfl | rfl) | h
  · exact absurd rfl h1
  · exact absurd rfl h2
  · exact h
theorem neg_nice {d : Nat} {k : Fm} (h : nice d k) : nice (d + 1) (negR k) := by
  unfold negR
  by_cases h1 : k.op = 1
  · rw [if_pos h1]
    exact .inl (.inr rfl)
  rw [if_neg h1]
  by_cases h2 : k.op = 2
  · rw [if_pos h2]
    exact .inl (.inl rfl)
  rw [if_neg h2]
  have hn := nice_3 h h1 h2
  by_cases h4 : k.op = 4
  · rw [if_pos h4]
    cases d with
    | zero => exact hn.elim
    | succ d =>
      rcases hn with h | ⟨_, _, x, h3, h5, _⟩ | h
      · omega
      · rw [h3]
        exact .inr (nf_mono h5 (by omega))
      · omega
  · rw [if_neg h4]
    exact .inr (.inr (.inl ⟨rfl, rfl, k, rfl, hn, h4⟩))
theorem rowL_eq (S : Fm → Fm) (all one : Int) : ∀ (ks out : List Fm), rowL S all one ks out = if ks.any (fun k => decide ((S k).op = one)) then none else some (out ++ (ks.map S).filter (fun s => !decide (s.op = all)))
  | [], out => by simp [rowL]
  | k :: ks, out => by
    simp only [rowL, List.any_cons, List.map_cons, List.filter_cons]
    by_cases h1 : (S k).op = one
    · simp [h1]
    · rw [if_neg h1, rowL_eq S all one ks, decide_eq_false h1, Bool.false_or]
      by_cases h2 : (S k).op = all
      · rw [if_pos h2, decide_eq_true h2]
        rfl
      · rw [if_neg h2, decide_eq_false h2]
        simp
theorem row_nice {d : Nat} {S : Fm → Fm} {op all one : Int} {ks : List Fm} (hS : ∀ k ∈ ks, nice d (S k)) (hop : op = 5 ∨ op = 6) (hao : (all = 1 ∧ one = 2) ∨ (all = 2 ∧ one = 1)) (hl : ks.length ≤ 60) : nice (d + 1) (rowEnd op all one (rowL S all one ks [])) := by
  rw [rowL_eq]
  have hc1 : isC (.mk one 0 []) := by
    rcases hao with ⟨_, rfl⟩ | ⟨_, rfl⟩
    · exact .inr rfl
    · exact .inl rfl
  have hc2 : isC (.mk all 0 []) := by
    rcases hao with ⟨rfl, _⟩ | ⟨rfl, _⟩
    · exact .inl rfl
    · exact .inr rfl
  by_cases h : ks.any (fun k => decide ((S k).op = one)) = true
  · rw [if_pos h]
    exact .inl hc1
  · rw [if_neg h, List.nil_append]
    have hno : ∀ k ∈ ks, (S k).op ≠ one := fun k hk e => h (List.any_eq_true.2 ⟨k, hk, decide_eq_true e⟩)
    have hf : ∀ s ∈ (ks.map S).filter (fun s => !decide (s.op = all)), nf d s := fun s hs => by
      obtain ⟨h1, h2⟩ := List.mem_filter.1 hs
      obtain ⟨k, hk, rfl⟩ := List.mem_map.1 h1
      have h3 : (S k).op ≠ all := by simpa using h2
      have h4 := hno k hk
      refine nice_3 (hS k hk) ?_ ?_
      · rcases hao with ⟨rfl, rfl⟩ | ⟨rfl, rfl⟩
        · exact h3
        · exact h4
      · rcases hao with ⟨rfl, rfl⟩ | ⟨rfl, rfl⟩
        · exact h4
        · exact h3
    have hlen : ((ks.map S).filter (fun s => !decide (s.op = all))).length ≤ 60 := by
      have := List.length_filter_le (fun s : Fm => !decide (s.op = all)) (ks.map S)
      simp at this
      omega
    generalize (ks.map S).filter (fun s => !decide (s.op = all)) = l at hf hlen
    match l, hf, hlen with
    | [], _, _ => exact .inl hc2
    | [x], hf, _ => exact .inr (nf_mono (hf x (by simp)) (by omega))
    | x :: y :: l, hf, hlen => exact .inr (.inr (.inr ⟨hop, rfl, by show 2 ≤ (x :: y :: l).length; simp, hlen, hf⟩))
theorem simple_nice : ∀ (d : Nat) (f : Fm), fits d f → mayR d f = true → nice d (simpleR d f)
  | 0, f, h, _ => h.elim
  | d + 1, f, hf, hm => by
    obtain ⟨⟨g1, g2, g3, g4, g5⟩, hk⟩ := mayR_parts hm
    have ih : ∀ k ∈ f.kids, nice d (simpleR d k) := fun k h => simple_nice d k (hf.2 k h) (hk k h)
    simp only [simpleR]
    by_cases c4 : f.op = 4
    · rw [if_pos c4]
      obtain ⟨k, hk1⟩ := kid0_of (show f.kids.length = 1 by omega)
      rw [hk1]
      exact neg_nice (ih k (by rw [hk1]; simp))
    rw [if_neg c4]
    by_cases c5 : f.op = 5
    · rw [if_pos c5]
      exact row_nice ih (.inl rfl) (.inl ⟨rfl, rfl⟩) hf.1
    rw [if_neg c5]
    by_cases c6 : f.op = 6
    · rw [if_pos c6]
      exact row_nice ih (.inr rfl) (.inr ⟨rfl, rfl⟩) hf.1
    rw [if_neg c6]
    by_cases c3 : f.op = 3
    · rw [if_pos c3]
      exact .inr (.inl ⟨rfl, rfl, show 1 ≤ f.n by omega, show f.n ≤ 1000 by omega⟩)
    rw [if_neg c3]
    have : f.op = 1 ∨ f.op = 2 := by omega
    rcases this with h | h
    · rw [h]
      exact .inl (.inl rfl)
    · rw [h]
      exact .inl (.inr rfl)

/-- What is simple stays as it is. -/
theorem rowL_id {S : Fm → Fm} {all one : Int} : ∀ (ks out : List Fm), (∀ k ∈ ks, S k = k ∧ k.op ≠ all ∧ k.op ≠ one) → rowL S all one ks out = some (out ++ ks)
  | [], out, _ => by simp [rowL]
  | k :: ks, out, h => by
    obtain ⟨h1, h2, h3⟩ := h k (by simp)
    simp only [rowL, h1, if_neg h3, if_neg h2]
    rw [rowL_id ks _ (fun x hx => h x (by simp [hx]))]
    simp
theorem simple_id : ∀ (d : Nat) (f : Fm), nf d f → simpleR d f = f
  | 0, f, h => h.elim
  | d + 1, .mk op n ks, h => by
    simp only [nf, Fm.op_mk, Fm.n_mk, Fm.kids_mk] at h
    simp only [simpleR, Fm.op_mk, Fm.n_mk, Fm.kids_mk]
    rcases h with ⟨rfl, rfl, _⟩ | ⟨rfl, rfl, x, rfl, h4, h5⟩ | ⟨h1, rfl, h3, h4, h5⟩
    · simp
    · have hop := nf_op h4
      simp only [if_true, simple_id d x h4]
      unfold negR
      rw [if_neg (by omega), if_neg (by omega), if_neg h5]
    · have hid : ∀ k ∈ ks, ∀ all one : Int, (all = 1 ∧ one = 2) ∨ (all = 2 ∧ one = 1) → simpleR d k = k ∧ k.op ≠ all ∧ k.op ≠ one := fun k hk all one hao => by
        have := nf_op (h5 k hk)
        exact ⟨simple_id d k (h5 k hk), by omega, by omega⟩
      match ks, h3, hid with
      | x :: y :: l, _, hid =>
        rcases h1 with rfl | rfl
        · show rowEnd 5 1 2 (rowL (simpleR d) 1 2 (x :: y :: l) []) = _
          rw [rowL_id _ _ (fun k hk => hid k hk 1 2 (.inl ⟨rfl, rfl⟩))]
          rfl
        · show rowEnd 6 2 1 (rowL (simpleR d) 2 1 (x :: y :: l) []) = _
          rw [rowL_id _ _ (fun k hk => hid k hk 2 1 (.inr ⟨rfl, rfl⟩))]
          rfl
theorem nice_id {d : Nat} {f : Fm} (h : nice (d + 1) f) : simpleR (d + 1) f = f := by
  rcases h with (rfl | rfl) | h
  · simp [simpleR, Fm.op_mk]
  · simp [simpleR, Fm.op_mk]
  · exact simple_id _ _ h

/-- It comes to the same. -/
theorem eval_neg {d : Nat} {k : Fm} {a : List Bool} (h : nice d k) (hd : 0 < d) : evalR (d + 1) (negR k) a = !evalR d k a := by
  obtain ⟨e, rfl⟩ : ∃ e, d = e + 1 := ⟨d - 1, by omega⟩
  unfold negR
  by_cases h1 : k.op = 1
  · rw [if_pos h1, nice_1 h h1]
    rfl
  rw [if_neg h1]
  by_cases h2 : k.op = 2
  · rw [if_pos h2, nice_2 h h2]
    rfl
  rw [if_neg h2]
  have hn := nice_3 h h1 h2
  by_cases h4 : k.op = 4
  · rw [if_pos h4]
    rcases hn with h | ⟨_, _, x, h3, h5, _⟩ | h
    · omega
    · rw [h3]
      show evalR (e + 2) x a = _
      have : evalR (e + 1) k a = !evalR e x a := by
        simp only [evalR, if_neg h1, if_neg (show ¬ k.op = 3 by omega), if_pos h4, h3]
      rw [this, evalR_mono a (nf_fits h5) (show e ≤ e + 2 by omega), Bool.not_not]
    · omega
  · rw [if_neg h4]
    rfl
theorem filter_all {p : Fm → Bool} {q : Fm → Bool} : ∀ (l : List Fm), (∀ x ∈ l, q x = false → p x = true) → (l.filter q).all p = l.all p
  | [], _ => rfl
  | x :: l, h => by
    have ih := filter_all l (fun y hy => h y (by simp [hy]))
    simp only [List.filter_cons, List.all_cons]
    by_cases hq : q x = true
    · simp [hq, ih]
    · have hq' : q x = false := by simpa using hq
      simp [hq', ih, h x (by simp) hq']
theorem filter_any {p : Fm → Bool} {q : Fm → Bool} : ∀ (l : List Fm), (∀ x ∈ l, q x = false → p x = false) → (l.filter q).any p = l.any p
  | [], _ => rfl
  | x :: l, h => by
    have ih := filter_any l (fun y hy => h y (by simp [hy]))
    simp only [List.filter_cons, List.any_cons]
    by_cases hq : q x = true
    · simp [hq, ih]
    · have hq' : q x = false := by simpa using hq
      simp [hq', ih, h x (by simp) hq']
theorem all_map {α β : Type} {f : α → β} {p : β → Bool} (l : List α) : (l.map f).all p = l.all (fun x => p (f x)) := by
  induction l with
  | nil => rfl
  | cons x xs ih => simp only [List.map_cons, List.all_cons, ih]
theorem any_map {α β : Type} {f : α → β} {p : β → Bool} (l : List α) : (l.map f).any p = l.any (fun x => p (f x)) := by
  induction l with
  | nil => rfl
  | cons x xs ih => simp only [List.map_cons, List.any_cons, ih]
theorem simple_eval (a : List Bool) : ∀ (d : Nat) (f : Fm), fits d f → mayR d f = true → evalR d (simpleR d f) a = evalR d f a
  | 0, f, h, _ => h.elim
  | d + 1, f, hf, hm => by
    obtain ⟨⟨g1, g2, g3, g4, g5⟩, hk⟩ := mayR_parts hm
    have hn : ∀ k ∈ f.kids, nice d (simpleR d k) := fun k h => simple_nice d k (hf.2 k h) (hk k h)
    have ih : ∀ k ∈ f.kids, evalR d (simpleR d k) a = evalR d k a := fun k h => simple_eval a d k (hf.2 k h) (hk k h)
    have hd0 : ∀ k ∈ f.kids, 0 < d := fun k h => by
      cases d with
      | zero => exact (hf.2 k h).elim
      | succ d => omega
    have hm1 : ∀ x : Fm, nf d x → evalR (d + 1) x a = evalR d x a := fun x hx => evalR_mono a (nf_fits hx) (by omega)
    simp only [simpleR]
    by_cases c4 : f.op = 4
    · rw [if_pos c4]
      obtain ⟨k, hk1⟩ := kid0_of (show f.kids.length = 1 by omega)
      have hkm : k ∈ f.kids := by rw [hk1]; simp
      rw [hk1]
      show evalR (d + 1) (negR (simpleR d k)) a = _
      rw [eval_neg (hn k hkm) (hd0 k hkm), ih k hkm]
      simp only [evalR, if_neg (show ¬ f.op = 1 by omega), if_neg (show ¬ f.op = 3 by omega), if_pos c4, hk1]
    rw [if_neg c4]
    by_cases c5 : f.op = 5
    · rw [if_pos c5]
      have hr : evalR (d + 1) f a = f.kids.all (fun k => evalR d (simpleR d k) a) := by
        rw [all_congr ih]
        simp only [evalR, if_neg (show ¬ f.op = 1 by omega), if_neg (show ¬ f.op = 3 by omega), if_neg c4, if_pos c5]
      rw [hr, rowL_eq]
      by_cases h : f.kids.any (fun k => decide ((simpleR d k).op = 2)) = true
      · rw [if_pos h]
        obtain ⟨k, hk1, hk2⟩ := List.any_eq_true.1 h
        have h2 := nice_2 (hn k hk1) (of_decide_eq_true hk2)
        obtain ⟨e, rfl⟩ : ∃ e, d = e + 1 := ⟨d - 1, by have := hd0 k hk1; omega⟩
        have h3 : evalR (e + 1) (simpleR (e + 1) k) a = false := by rw [h2]; rfl
        have h4 : f.kids.all (fun k => evalR (e + 1) (simpleR (e + 1) k) a) = false := by
          rw [Bool.eq_false_iff]
          intro hall
          have := List.all_eq_true.1 hall k hk1
          rw [h3] at this
          cases this
        rw [h4]
        rfl
      · rw [if_neg h, List.nil_append]
        have hno : ∀ k ∈ f.kids, (simpleR d k).op ≠ 2 := fun k hk e => h (List.any_eq_true.2 ⟨k, hk, decide_eq_true e⟩)
        have hf1 : ((f.kids.map (simpleR d)).filter (fun s => !decide (s.op = 1))).all (evalR d · a) = f.kids.all (fun k => evalR d (simpleR d k) a) := by
          rw [filter_all _ (fun x hx hq => ?_), all_map]
          obtain ⟨k, hk1, rfl⟩ := List.mem_map.1 hx
          have h1 : (simpleR d k).op = 1 := by simpa using hq
          obtain ⟨e, rfl⟩ : ∃ e, d = e + 1 := ⟨d - 1, by have := hd0 k hk1; omega⟩
          rw [nice_1 (hn k hk1) h1]
          rfl
        have hf2 : ∀ s ∈ (f.kids.map (simpleR d)).filter (fun s => !decide (s.op = 1)), nf d s := fun s hs => by
          obtain ⟨h1, h2⟩ := List.mem_filter.1 hs
          obtain ⟨k, hk1, rfl⟩ := List.mem_map.1 h1
          exact nice_3 (hn k hk1) (by simpa using h2) (hno k hk1)
        rw [← hf1]
        generalize (f.kids.map (simpleR d)).filter (fun s => !decide (s.op = 1)) = l at hf2
        match l, hf2 with
        | [], _ => rfl
        | [x], hf2 =>
          show evalR (d + 1) x a = _
          rw [hm1 x (hf2 x (by simp))]
          simp
        | x :: y :: l, _ => rfl
    rw [if_neg c5]
    by_cases c6 : f.op = 6
    · rw [if_pos c6]
      have hr : evalR (d + 1) f a = f.kids.any (fun k => evalR d (simpleR d k) a) := by
        rw [any_congr ih]
        simp only [evalR, if_neg (show ¬ f.op = 1 by omega), if_neg (show ¬ f.op = 3 by omega), if_neg c4, if_neg c5, if_pos c6]
      rw [hr, rowL_eq]
      by_cases h : f.kids.any (fun k => decide ((simpleR d k).op = 1)) = true
      · rw [if_pos h]
        obtain ⟨k, hk1, hk2⟩ := List.any_eq_true.1 h
        have h2 := nice_1 (hn k hk1) (of_decide_eq_true hk2)
        obtain ⟨e, rfl⟩ : ∃ e, d = e + 1 := ⟨d - 1, by have := hd0 k hk1; omega⟩
        have h3 : evalR (e + 1) (simpleR (e + 1) k) a = true := by rw [h2]; rfl
        have h4 : f.kids.any (fun k => evalR (e + 1) (simpleR (e + 1) k) a) = true := List.any_eq_true.2 ⟨k, hk1, h3⟩
        rw [h4]
        rfl
      · rw [if_neg h, List.nil_append]
        have hno : ∀ k ∈ f.kids, (simpleR d k).op ≠ 1 := fun k hk e => h (List.any_eq_true.2 ⟨k, hk, decide_eq_true e⟩)
        have hf1 : ((f.kids.map (simpleR d)).filter (fun s => !decide (s.op = 2))).any (evalR d · a) = f.kids.any (fun k => evalR d (simpleR d k) a) := by
          rw [filter_any _ (fun x hx hq => ?_), any_map]
          obtain ⟨k, hk1, rfl⟩ := List.mem_map.1 hx
          have h1 : (simpleR d k).op = 2 := by simpa using hq
          obtain ⟨e, rfl⟩ : ∃ e, d = e + 1 := ⟨d - 1, by have := hd0 k hk1; omega⟩
          rw [nice_2 (hn k hk1) h1]
          rfl
        have hf2 : ∀ s ∈ (f.kids.map (simpleR d)).filter (fun s => !decide (s.op = 2)), nf d s := fun s hs => by
          obtain ⟨h1, h2⟩ := List.mem_filter.1 hs
          obtain ⟨k, hk1, rfl⟩ := List.mem_map.1 h1
          exact nice_3 (hn k hk1) (hno k hk1) (by simpa using h2)
        rw [← hf1]
        generalize (f.kids.map (simpleR d)).filter (fun s => !decide (s.op = 2)) = l at hf2
        match l, hf2 with
        | [], _ => rfl
        | [x], hf2 =>
          show evalR (d + 1) x a = _
          rw [hm1 x (hf2 x (by simp))]
          simp
        | x :: y :: l, _ => rfl
    rw [if_neg c6]
    by_cases c3 : f.op = 3
    · rw [if_pos c3]
      simp [evalR, Fm.op_mk, Fm.n_mk, c3]
    rw [if_neg c3]
    have : f.op = 1 ∨ f.op = 2 := by omega
    rcases this with h | h
    · simp [evalR, Fm.op_mk, h]
    · simp [evalR, Fm.op_mk, h]
end Go.Abs.A
