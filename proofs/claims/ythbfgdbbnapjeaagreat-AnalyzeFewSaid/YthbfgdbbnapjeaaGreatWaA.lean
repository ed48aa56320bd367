/-
  A part of AnalyzeFew's proof.
-/
import Derived.Test.YthbfgdbbnapjeaaGreatTabW
import Derived.Test.YthbfgdbbnapjeaaGreatFast
set_option linter.unusedVariables false
set_option linter.unusedSimpArgs false
namespace Go.Abs.W
open Go Go.Abs
set_option maxRecDepth 100000
def exprA (op : Int) (v : List D) (nm : List UInt8) (kids : List (List D)) : List D := [.int .i64 op] ++ v ++ [.str nm, .sl kids none, .sl [] none]
def valA (k : Int) : List D := [.int .i64 k, .bool false, .int .i64 0, .str [], .str [], .str [], .sl [] none, .sl [] none]
end Go.Abs.W

namespace Go.Abs.W
open Go Go.Abs
set_option maxRecDepth 8000
theorem kid_at {ks : List Fm} {i : Nat} (h : i < ks.length) : (eFs ks)[i]? = some (eF ks[i]) := eFs_get (List.getElem?_eq_getElem h)
def bx (n t : Nat) (c : List D) : List (Option (List D)) := (List.replicate n none).set t (some c)
theorem foldl_take {α β : Type} {g : β → α → β} {b : β} {c : List α} {i : Nat} (h : i < c.length) : (c.take (i + 1)).foldl g b = g ((c.take i).foldl g b) c[i] := by
 rw [List.take_succ_eq_append_getElem h, List.foldl_append]
 rfl
theorem eFs_snoc (out : List Fm) (f : Fm) : eFs out ++ [eF f] = eFs (out ++ [f]) := by simp [eFs_map]
def headOK (f : Fm) : Prop := ¬ f.op < 1 ∧ ¬ f.op > 6 ∧ ¬ (f.op ≤ 3 ∧ f.kids.length > 0) ∧ ¬ (f.op = 4 ∧ f.kids.length ≠ 1) ∧ ¬ (f.op = 3 ∧ (f.n < 1 ∨ f.n > 1000))
instance (f : Fm) : Decidable (headOK f) := by unfold headOK; infer_instance
def mayR : Nat → Fm → Bool
 | 0, _ => false
 | d + 1, f => decide (headOK f) && f.kids.all (mayR d)
theorem mayR_go {d : Nat} {f : Fm} (h : headOK f) : mayR (d + 1) f = f.kids.all (mayR d) := by
 simp only [mayR, decide_eq_true h, Bool.true_and]
def atomB (n : Int) (a : List Bool) : Bool := decide (n ≥ 1) && decide (n ≤ a.length) && a.getD (n - 1).toNat false
def evalR : Nat → Fm → List Bool → Bool
 | 0, _, _ => false
 | d + 1, f, a =>
  if f.op = 1 then true
  else if f.op = 3 then atomB f.n a
  else if f.op = 4 then (match f.kids with | [k] => !evalR d k a | _ => false)
  else if f.op = 5 then f.kids.all (evalR d · a)
  else if f.op = 6 then f.kids.any (evalR d · a)
  else false
theorem kid0_of {f : Fm} (h : f.kids.length = 1) : ∃ k, f.kids = [k] := by
 match hk : f.kids, h with
 | [k], _ => exact ⟨k, rfl⟩
theorem kid0_get {f k : Fm} (h : f.kids = [k]) : (eFs f.kids)[0]? = some (eF k) := eFs_get (by rw [h]; rfl)
theorem mayR_parts {d : Nat} {f : Fm} (h : mayR (d + 1) f = true) : headOK f ∧ ∀ k ∈ f.kids, mayR d k = true := by
 simp only [mayR, Bool.and_eq_true, decide_eq_true_eq, List.all_eq_true] at h
 exact h
def atom0 (f : Fm) : Int := if f.op = 3 then (if 0 > f.n then 0 else f.n) else 0
def atomsR : Nat → Fm → Int
 | 0, _ => 0
 | d + 1, f => f.kids.foldl (fun n k => if atomsR d k > n then atomsR d k else n) (atom0 f)
theorem mayR_mono : ∀ {d e : Nat} {f : Fm}, mayR d f = true → d ≤ e → mayR e f = true
 | 0, _, _, h, _ => by cases h
 | d + 1, 0, _, _, h => by omega
 | d + 1, e + 1, f, h, hle => by
  obtain ⟨h1, h2⟩ := mayR_parts h
  rw [mayR_go h1, List.all_eq_true]
  exact fun k hk => mayR_mono (h2 k hk) om
theorem all_congr {α : Type} {p q : α → Bool} {c : List α} (h : ∀ x ∈ c, p x = q x) : c.all p = c.all q := by
 induction c with
 | nil => rfl
 | cons x xs ih => simp only [List.all_cons, h x (by simp), ih (fun y hy => h y (by simp [hy]))]
theorem any_congr {α : Type} {p q : α → Bool} {c : List α} (h : ∀ x ∈ c, p x = q x) : c.any p = c.any q := by
 induction c with
 | nil => rfl
 | cons x xs ih => simp only [List.any_cons, h x (by simp), ih (fun y hy => h y (by simp [hy]))]
theorem evalR_mono (a : List Bool) : ∀ {d e : Nat} {f : Fm}, fits d f → d ≤ e → evalR e f a = evalR d f a
 | 0, _, _, h, _ => h.elim
 | d + 1, 0, _, _, h => by omega
 | d + 1, e + 1, .mk op n ks, h, hle => by
  have ih : ∀ k ∈ ks, evalR e k a = evalR d k a := fun k hk => evalR_mono a (h.2 k hk) om
  simp only [evalR, Fm.op_mk, Fm.n_mk, Fm.kids_mk]
  rw [all_congr ih, any_congr ih]
  match ks, ih with
  | [], _ => rfl
  | [k], ih =>
   simp only [ih k (by simp)]
   rfl
  | _ :: _ :: _, _ => rfl
def negR (k : Fm) : Fm :=
 if k.op = 1 then .mk 2 0 [] else if k.op = 2 then .mk 1 0 [] else if k.op = 4 then (match k.kids with | [x] => x | _ => k) else .mk 4 0 [k]
def rowL (S : Fm → Fm) (all one : Int) : List Fm → List Fm → Option (List Fm)
 | [], out => some out
 | k :: ks, out => if (S k).op = one then none else rowL S all one ks (if (S k).op = all then out else out ++ [S k])
def rowEnd (op all one : Int) : Option (List Fm) → Fm
 | none => .mk one 0 []
 | some [] => .mk all 0 []
 | some [x] => x
 | some (x :: y :: l) => .mk op 0 (x :: y :: l)
def simpleR : Nat → Fm → Fm
 | 0, f => f
 | d + 1, f =>
  if f.op = 4 then (match f.kids with | [k] => negR (simpleR d k) | _ => .mk 4 0 [])
  else if f.op = 5 then rowEnd 5 1 2 (rowL (simpleR d) 1 2 f.kids [])
  else if f.op = 6 then rowEnd 6 2 1 (rowL (simpleR d) 2 1 f.kids [])
  else if f.op = 3 then .mk 3 f.n []
  else .mk f.op 0 []
def nf : Nat → Fm → Prop
 | 0, _ => False
 | d + 1, f => (f.op = 3 ∧ f.kids = [] ∧ 1 ≤ f.n ∧ f.n ≤ 1000) ∨ (f.op = 4 ∧ f.n = 0 ∧ ∃ x, f.kids = [x] ∧ nf d x ∧ x.op ≠ 4) ∨ ((f.op = 5 ∨ f.op = 6) ∧ f.n = 0 ∧ 2 ≤ f.kids.length ∧ f.kids.length ≤ 60 ∧ ∀ k ∈ f.kids, nf d k)
theorem nf_mono : ∀ {d e : Nat} {f : Fm}, nf d f → d ≤ e → nf e f
 | 0, _, _, h, _ => h.elim
 | d + 1, 0, _, _, h => by omega
 | d + 1, e + 1, f, h, hle => by
  rcases h with h | ⟨h1, h2, x, h3, h4, h5⟩ | ⟨h1, h2, h3, h4, h5⟩
  ·exact .inl h
  ·exact .inr (.inl ⟨h1, h2, x, h3, nf_mono h4 om, h5⟩)
  ·exact .inr (.inr ⟨h1, h2, h3, h4, fun k hk => nf_mono (h5 k hk) om⟩)
theorem nf_op {d : Nat} {f : Fm} (h : nf d f) : 3 ≤ f.op ∧ f.op ≤ 6 := by
 cases d with
 | zero => exact h.elim
 | succ d =>
  rcases h with h | h | h
  ·omega
  ·omega
  ·omega
theorem nf_fits : ∀ {d : Nat} {f : Fm}, nf d f → fits d f
 | 0, _, h => h.elim
 | d + 1, f, h => by
  rcases h with ⟨_, h, _⟩ | ⟨h1, h2, x, h3, h4, h5⟩ | ⟨h1, h2, h3, h4, h5⟩
  ·exact ⟨by rw [h]; simp, fun k hk => by rw [h] at hk; cases hk⟩
  ·refine ⟨by rw [h3]; simp, fun k hk => ?_⟩
   rw [h3] at hk
   simp only [List.mem_singleton] at hk
   subst hk
   exact nf_fits h4
  ·exact ⟨h4, fun k hk => nf_fits (h5 k hk)⟩
def isC (f : Fm) : Prop := f = .mk 1 0 [] ∨ f = .mk 2 0 []
def nice (d : Nat) (f : Fm) : Prop := isC f ∨ nf d f
theorem nice_1 {d : Nat} {f : Fm} (h : nice d f) (h1 : f.op = 1) : f = .mk 1 0 [] := by
 rcases h with (rfl | rfl) | h
 ·rfl
 ·simp [Fm.op_mk] at h1
 ·have := nf_op h
  omega
theorem nice_2 {d : Nat} {f : Fm} (h : nice d f) (h1 : f.op = 2) : f = .mk 2 0 [] := by
 rcases h with (rfl | rfl) | h
 ·simp [Fm.op_mk] at h1
 ·rfl
 ·have := nf_op h
  omega
theorem nice_3 {d : Nat} {f : Fm} (h : nice d f) (h1 : f.op ≠ 1) (h2 : f.op ≠ 2) : nf d f := by
 rcases h with (rfl | rfl) | h
 ·exact absurd rfl h1
 ·exact absurd rfl h2
 ·exact h
theorem neg_nice {d : Nat} {k : Fm} (h : nice d k) : nice (d + 1) (negR k) := by
 unfold negR
 by_cases h1 : k.op = 1
 ·rw [if_pos h1]
  exact .inl (.inr rfl)
 rw [if_neg h1]
 by_cases h2 : k.op = 2
 ·rw [if_pos h2]
  exact .inl (.inl rfl)
 rw [if_neg h2]
 have hn := nice_3 h h1 h2
 by_cases h4 : k.op = 4
 ·rw [if_pos h4]
  cases d with
  | zero => exact hn.elim
  | succ d =>
   rcases hn with h | ⟨_, _, x, h3, h5, _⟩ | h
   ·omega
   ·rw [h3]
    exact .inr (nf_mono h5 om)
   ·omega
 ·rw [if_neg h4]
  exact .inr (.inr (.inl ⟨rfl, rfl, k, rfl, hn, h4⟩))
theorem rowL_eq (S : Fm → Fm) (all one : Int) : ∀ (ks out : List Fm), rowL S all one ks out = if ks.any (fun k => decide ((S k).op = one)) then none else some (out ++ (ks.map S).filter (fun s => !decide (s.op = all)))
 | [], out => by simp [rowL]
 | k :: ks, out => by
  simp only [rowL, List.any_cons, List.map_cons, List.filter_cons]
  by_cases h1 : (S k).op = one
  ·simp [h1]
  ·rw [if_neg h1, rowL_eq S all one ks, decide_eq_false h1, Bool.false_or]
   by_cases h2 : (S k).op = all
   ·rw [if_pos h2, decide_eq_true h2]
    rfl
   ·rw [if_neg h2, decide_eq_false h2]
    simp
theorem row_nice {d : Nat} {S : Fm → Fm} {op all one : Int} {ks : List Fm} (hS : ∀ k ∈ ks, nice d (S k)) (hop : op = 5 ∨ op = 6) (hao : (all = 1 ∧ one = 2) ∨ (all = 2 ∧ one = 1)) (hl : ks.length ≤ 60) : nice (d + 1) (rowEnd op all one (rowL S all one ks [])) := by
 rw [rowL_eq]
 have hc1 : isC (.mk one 0 []) := by
  rcases hao with ⟨_, rfl⟩ | ⟨_, rfl⟩
  ·exact .inr rfl
  ·exact .inl rfl
 have hc2 : isC (.mk all 0 []) := by
  rcases hao with ⟨rfl, _⟩ | ⟨rfl, _⟩
  ·exact .inl rfl
  ·exact .inr rfl
 by_cases h : ks.any (fun k => decide ((S k).op = one)) = true
 ·rw [if_pos h]
  exact .inl hc1
 ·rw [if_neg h, List.nil_append]
  have hno : ∀ k ∈ ks, (S k).op ≠ one := fun k hk e => h (List.any_eq_true.2 ⟨k, hk, decide_eq_true e⟩)
  have hf : ∀ s ∈ (ks.map S).filter (fun s => !decide (s.op = all)), nf d s := fun s hs => by
   obtain ⟨h1, h2⟩ := List.mem_filter.1 hs
   obtain ⟨k, hk, rfl⟩ := List.mem_map.1 h1
   have h3 : (S k).op ≠ all := by simpa using h2
   have h4 := hno k hk
   refine nice_3 (hS k hk) ?_ ?_
   ·rcases hao with ⟨rfl, rfl⟩ | ⟨rfl, rfl⟩
    ·exact h3
    ·exact h4
   ·rcases hao with ⟨rfl, rfl⟩ | ⟨rfl, rfl⟩
    ·exact h4
    ·exact h3
  have hlen : ((ks.map S).filter (fun s => !decide (s.op = all))).length ≤ 60 := by
   have := List.length_filter_le (fun s : Fm => !decide (s.op = all)) (ks.map S)
   simp at this
   omega
  generalize (ks.map S).filter (fun s => !decide (s.op = all)) = l at hf hlen
  match l, hf, hlen with
  | [], _, _ => exact .inl hc2
  | [x], hf, _ => exact .inr (nf_mono (hf x (by simp)) om)
  | x :: y :: l, hf, hlen => exact .inr (.inr (.inr ⟨hop, rfl, by show 2 ≤ (x :: y :: l).length; simp, hlen, hf⟩))
theorem simple_nice : ∀ (d : Nat) (f : Fm), fits d f → mayR d f = true → nice d (simpleR d f)
 | 0, f, h, _ => h.elim
 | d + 1, f, hf, hm => by
  obtain ⟨⟨g1, g2, g3, g4, g5⟩, hk⟩ := mayR_parts hm
  have ih : ∀ k ∈ f.kids, nice d (simpleR d k) := fun k h => simple_nice d k (hf.2 k h) (hk k h)
  simp only [simpleR]
  by_cases c4 : f.op = 4
  ·rw [if_pos c4]
   obtain ⟨k, hk1⟩ := kid0_of (show f.kids.length = 1 by omega)
   rw [hk1]
   exact neg_nice (ih k (by rw [hk1]; simp))
  rw [if_neg c4]
  by_cases c5 : f.op = 5
  ·rw [if_pos c5]
   exact row_nice ih (.inl rfl) (.inl ⟨rfl, rfl⟩) hf.1
  rw [if_neg c5]
  by_cases c6 : f.op = 6
  ·rw [if_pos c6]
   exact row_nice ih (.inr rfl) (.inr ⟨rfl, rfl⟩) hf.1
  rw [if_neg c6]
  by_cases c3 : f.op = 3
  ·rw [if_pos c3]
   exact .inr (.inl ⟨rfl, rfl, show 1 ≤ f.n by omega, show f.n ≤ 1000 by omega⟩)
  rw [if_neg c3]
  have : f.op = 1 ∨ f.op = 2 := by omega
  rcases this with h | h
  ·rw [h]
   exact .inl (.inl rfl)
  ·rw [h]
   exact .inl (.inr rfl)
theorem eval_neg {d : Nat} {k : Fm} {a : List Bool} (h : nice d k) (hd : 0 < d) : evalR (d + 1) (negR k) a = !evalR d k a := by
 obtain ⟨e, rfl⟩ : ∃ e, d = e + 1 := ⟨d - 1, om⟩
 unfold negR
 by_cases h1 : k.op = 1
 ·rw [if_pos h1, nice_1 h h1]
  rfl
 rw [if_neg h1]
 by_cases h2 : k.op = 2
 ·rw [if_pos h2, nice_2 h h2]
  rfl
 rw [if_neg h2]
 have hn := nice_3 h h1 h2
 by_cases h4 : k.op = 4
 ·rw [if_pos h4]
  rcases hn with h | ⟨_, _, x, h3, h5, _⟩ | h
  ·omega
  ·rw [h3]
   show evalR (e + 2) x a = _
   have : evalR (e + 1) k a = !evalR e x a := by
    simp only [evalR, if_neg h1, if_neg (show ¬ k.op = 3 by omega), if_pos h4, h3]
   rw [this, evalR_mono a (nf_fits h5) (show e ≤ e + 2 by omega), Bool.not_not]
  ·omega
 ·rw [if_neg h4]
  rfl
theorem filter_all {p : Fm → Bool} {q : Fm → Bool} : ∀ (l : List Fm), (∀ x ∈ l, q x = false → p x = true) → (l.filter q).all p = l.all p
 | [], _ => rfl
 | x :: l, h => by
  have ih := filter_all l (fun y hy => h y (by simp [hy]))
  simp only [List.filter_cons, List.all_cons]
  by_cases hq : q x = true
  ·simp [hq, ih]
  ·have hq' : q x = false := by simpa using hq
   simp [hq', ih, h x (by simp) hq']
theorem filter_any {p : Fm → Bool} {q : Fm → Bool} : ∀ (l : List Fm), (∀ x ∈ l, q x = false → p x = false) → (l.filter q).any p = l.any p
 | [], _ => rfl
 | x :: l, h => by
  have ih := filter_any l (fun y hy => h y (by simp [hy]))
  simp only [List.filter_cons, List.any_cons]
  by_cases hq : q x = true
  ·simp [hq, ih]
  ·have hq' : q x = false := by simpa using hq
   simp [hq', ih, h x (by simp) hq']
theorem all_map {α β : Type} {f : α → β} {p : β → Bool} (l : List α) : (l.map f).all p = l.all (fun x => p (f x)) := by
 induction l with
 | nil => rfl
 | cons x xs ih => simp only [List.map_cons, List.all_cons, ih]
theorem any_map {α β : Type} {f : α → β} {p : β → Bool} (l : List α) : (l.map f).any p = l.any (fun x => p (f x)) := by
 induction l with
 | nil => rfl
 | cons x xs ih => simp only [List.map_cons, List.any_cons, ih]
theorem simple_eval (a : List Bool) : ∀ (d : Nat) (f : Fm), fits d f → mayR d f = true → evalR d (simpleR d f) a = evalR d f a
 | 0, f, h, _ => h.elim
 | d + 1, f, hf, hm => by
  obtain ⟨⟨g1, g2, g3, g4, g5⟩, hk⟩ := mayR_parts hm
  have hn : ∀ k ∈ f.kids, nice d (simpleR d k) := fun k h => simple_nice d k (hf.2 k h) (hk k h)
  have ih : ∀ k ∈ f.kids, evalR d (simpleR d k) a = evalR d k a := fun k h => simple_eval a d k (hf.2 k h) (hk k h)
  have hd0 : ∀ k ∈ f.kids, 0 < d := fun k h => by
   cases d with
   | zero => exact (hf.2 k h).elim
   | succ d => omega
  have hm1 : ∀ x : Fm, nf d x → evalR (d + 1) x a = evalR d x a := fun x hx => evalR_mono a (nf_fits hx) om
  simp only [simpleR]
  by_cases c4 : f.op = 4
  ·rw [if_pos c4]
   obtain ⟨k, hk1⟩ := kid0_of (show f.kids.length = 1 by omega)
   have hkm : k ∈ f.kids := by rw [hk1]; simp
   rw [hk1]
   show evalR (d + 1) (negR (simpleR d k)) a = _
   rw [eval_neg (hn k hkm) (hd0 k hkm), ih k hkm]
   simp only [evalR, if_neg (show ¬ f.op = 1 by omega), if_neg (show ¬ f.op = 3 by omega), if_pos c4, hk1]
  rw [if_neg c4]
  by_cases c5 : f.op = 5
  ·rw [if_pos c5]
   have hr : evalR (d + 1) f a = f.kids.all (fun k => evalR d (simpleR d k) a) := by
    rw [all_congr ih]
    simp only [evalR, if_neg (show ¬ f.op = 1 by omega), if_neg (show ¬ f.op = 3 by omega), if_neg c4, if_pos c5]
   rw [hr, rowL_eq]
   by_cases h : f.kids.any (fun k => decide ((simpleR d k).op = 2)) = true
   ·rw [if_pos h]
    obtain ⟨k, hk1, hk2⟩ := List.any_eq_true.1 h
    have h2 := nice_2 (hn k hk1) (of_decide_eq_true hk2)
    obtain ⟨e, rfl⟩ : ∃ e, d = e + 1 := ⟨d - 1, by have := hd0 k hk1; omega⟩
    have h3 : evalR (e + 1) (simpleR (e + 1) k) a = false := by rw [h2]; rfl
    have h4 : f.kids.all (fun k => evalR (e + 1) (simpleR (e + 1) k) a) = false := by
     rw [Bool.eq_false_iff]
     intro hall
     have := List.all_eq_true.1 hall k hk1
     rw [h3] at this
     cases this
    rw [h4]
    rfl
   ·rw [if_neg h, List.nil_append]
    have hno : ∀ k ∈ f.kids, (simpleR d k).op ≠ 2 := fun k hk e => h (List.any_eq_true.2 ⟨k, hk, decide_eq_true e⟩)
    have hf1 : ((f.kids.map (simpleR d)).filter (fun s => !decide (s.op = 1))).all (evalR d · a) = f.kids.all (fun k => evalR d (simpleR d k) a) := by
     rw [filter_all _ (fun x hx hq => ?_), all_map]
     obtain ⟨k, hk1, rfl⟩ := List.mem_map.1 hx
     have h1 : (simpleR d k).op = 1 := by simpa using hq
     obtain ⟨e, rfl⟩ : ∃ e, d = e + 1 := ⟨d - 1, by have := hd0 k hk1; omega⟩
     rw [nice_1 (hn k hk1) h1]
     rfl
    have hf2 : ∀ s ∈ (f.kids.map (simpleR d)).filter (fun s => !decide (s.op = 1)), nf d s := fun s hs => by
     obtain ⟨h1, h2⟩ := List.mem_filter.1 hs
     obtain ⟨k, hk1, rfl⟩ := List.mem_map.1 h1
     exact nice_3 (hn k hk1) (by simpa using h2) (hno k hk1)
    rw [← hf1]
    generalize (f.kids.map (simpleR d)).filter (fun s => !decide (s.op = 1)) = l at hf2
    match l, hf2 with
    | [], _ => rfl
    | [x], hf2 =>
     show evalR (d + 1) x a = _
     rw [hm1 x (hf2 x (by simp))]
     simp
    | x :: y :: l, _ => rfl
  rw [if_neg c5]
  by_cases c6 : f.op = 6
  ·rw [if_pos c6]
   have hr : evalR (d + 1) f a = f.kids.any (fun k => evalR d (simpleR d k) a) := by
    rw [any_congr ih]
    simp only [evalR, if_neg (show ¬ f.op = 1 by omega), if_neg (show ¬ f.op = 3 by omega), if_neg c4, if_neg c5, if_pos c6]
   rw [hr, rowL_eq]
   by_cases h : f.kids.any (fun k => decide ((simpleR d k).op = 1)) = true
   ·rw [if_pos h]
    obtain ⟨k, hk1, hk2⟩ := List.any_eq_true.1 h
    have h2 := nice_1 (hn k hk1) (of_decide_eq_true hk2)
    obtain ⟨e, rfl⟩ : ∃ e, d = e + 1 := ⟨d - 1, by have := hd0 k hk1; omega⟩
    have h3 : evalR (e + 1) (simpleR (e + 1) k) a = true := by rw [h2]; rfl
    have h4 : f.kids.any (fun k => evalR (e + 1) (simpleR (e + 1) k) a) = true := List.any_eq_true.2 ⟨k, hk1, h3⟩
    rw [h4]
    rfl
   ·rw [if_neg h, List.nil_append]
    have hno : ∀ k ∈ f.kids, (simpleR d k).op ≠ 1 := fun k hk e => h (List.any_eq_true.2 ⟨k, hk, decide_eq_true e⟩)
    have hf1 : ((f.kids.map (simpleR d)).filter (fun s => !decide (s.op = 2))).any (evalR d · a) = f.kids.any (fun k => evalR d (simpleR d k) a) := by
     rw [filter_any _ (fun x hx hq => ?_), any_map]
     obtain ⟨k, hk1, rfl⟩ := List.mem_map.1 hx
     have h1 : (simpleR d k).op = 2 := by simpa using hq
     obtain ⟨e, rfl⟩ : ∃ e, d = e + 1 := ⟨d - 1, by have := hd0 k hk1; omega⟩
     rw [nice_2 (hn k hk1) h1]
     rfl
    have hf2 : ∀ s ∈ (f.kids.map (simpleR d)).filter (fun s => !decide (s.op = 2)), nf d s := fun s hs => by
     obtain ⟨h1, h2⟩ := List.mem_filter.1 hs
     obtain ⟨k, hk1, rfl⟩ := List.mem_map.1 h1
     exact nice_3 (hn k hk1) (hno k hk1) (by simpa using h2)
    rw [← hf1]
    generalize (f.kids.map (simpleR d)).filter (fun s => !decide (s.op = 2)) = l at hf2
    match l, hf2 with
    | [], _ => rfl
    | [x], hf2 =>
     show evalR (d + 1) x a = _
     rw [hm1 x (hf2 x (by simp))]
     simp
    | x :: y :: l, _ => rfl
  rw [if_neg c6]
  by_cases c3 : f.op = 3
  ·rw [if_pos c3]
   simp [evalR, Fm.op_mk, Fm.n_mk, c3]
  rw [if_neg c3]
  have : f.op = 1 ∨ f.op = 2 := by omega
  rcases this with h | h
  ·simp [evalR, Fm.op_mk, h]
  ·simp [evalR, Fm.op_mk, h]
theorem eF_leaf (o n : Int) : eF (.mk o n []) = [.int .i64 o, .int .i64 n, .sl [] none] := by simp [eF, Fm.op_mk, Fm.n_mk, Fm.kids_mk, eFs_map]
theorem eF_one (o n : Int) (k : Fm) : eF (.mk o n [k]) = [.int .i64 o, .int .i64 n, .sl [eF k] none] := by simp [eF, Fm.op_mk, Fm.n_mk, Fm.kids_mk, eFs_map]
theorem drop_at {α : Type} {l : List α} {i : Nat} (h : i < l.length) : l.drop i = l[i] :: l.drop (i + 1) := (List.getElem_cons_drop h).symm
mutual
def nodes : Fm → Nat
 | .mk _ _ ks => nodesL ks + 1
def nodesL : List Fm → Nat
 | [] => 0
 | k :: ks => nodes k + nodesL ks
end
mutual
def lowF (B : Int) : Fm → Prop
 | .mk o n ks => (o = 3 → n ≤ B) ∧ lowL B ks
def lowL (B : Int) : List Fm → Prop
 | [] => True
 | k :: ks => lowF B k ∧ lowL B ks
end
theorem nodes_eq : ∀ f : Fm, nodes f = nodesL f.kids + 1
 | .mk _ _ _ => by simp [nodes, Fm.kids_mk]
theorem nodes_pos (f : Fm) : 1 ≤ nodes f := by rw [nodes_eq]; omega
theorem lowF_eq (B : Int) : ∀ f : Fm, lowF B f ↔ (f.op = 3 → f.n ≤ B) ∧ lowL B f.kids
 | .mk _ _ _ => by simp [lowF, Fm.kids_mk, Fm.op_mk, Fm.n_mk]
theorem lowL_iff (B : Int) : ∀ l : List Fm, lowL B l ↔ ∀ k ∈ l, lowF B k
 | [] => by simp [lowL]
 | k :: ks => by simp [lowL, lowL_iff B ks]
theorem nodesL_mem : ∀ {l : List Fm} {k : Fm}, k ∈ l → nodes k ≤ nodesL l
 | x :: l, k, h => by
  simp only [nodesL]
  rcases List.mem_cons.1 h with rfl | h
  ·omega
  ·have := nodesL_mem h
   omega
theorem nodesL_filter (p : Fm → Bool) : ∀ l : List Fm, nodesL (l.filter p) ≤ nodesL l
 | [] => Nat.le_refl _
 | x :: l => by
  have := nodesL_filter p l
  by_cases h : p x = true
  ·rw [List.filter_cons_of_pos h]
   simp only [nodesL]
   omega
  ·rw [List.filter_cons_of_neg h]
   simp only [nodesL]
   omega
theorem nodesL_map {S : Fm → Fm} : ∀ l : List Fm, (∀ k ∈ l, nodes (S k) ≤ nodes k) → nodesL (l.map S) ≤ nodesL l
 | [], _ => Nat.le_refl _
 | x :: l, h => by
  have := nodesL_map l (fun k hk => h k (by simp [hk]))
  have := h x (by simp)
  simp only [nodesL, List.map_cons]
  omega
theorem atoms_up (d : Nat) : ∀ (ks : List Fm) (b : Int), b ≤ ks.foldl (fun n k => if atomsR d k > n then atomsR d k else n) b ∧ ∀ k ∈ ks, atomsR d k ≤ ks.foldl (fun n k => if atomsR d k > n then atomsR d k else n) b
 | [], b => ⟨Int.le_refl _, fun k hk => by cases hk⟩
 | x :: ks, b => by
  have h := atoms_up d ks (if atomsR d x > b then atomsR d x else b)
  simp only [List.foldl_cons]
  have hb : b ≤ (if atomsR d x > b then atomsR d x else b) ∧ atomsR d x ≤ (if atomsR d x > b then atomsR d x else b) := by split <;> omega
  refine ⟨Int.le_trans hb.1 h.1, ?_⟩
  intro k hk
  rcases List.mem_cons.1 hk with rfl | hk
  ·exact Int.le_trans hb.2 h.1
  ·exact h.2 k hk
theorem atoms_low (B : Int) : ∀ (d : Nat) (f : Fm), fits d f → atomsR d f ≤ B → lowF B f
 | 0, _, h, _ => h.elim
 | d + 1, f, h, hB => by
  have hu := atoms_up d f.kids (atom0 f)
  have hB' : f.kids.foldl (fun n k => if atomsR d k > n then atomsR d k else n) (atom0 f) ≤ B := hB
  rw [lowF_eq, lowL_iff]
  refine ⟨fun h3 => ?_, fun k hk => atoms_low B d k (h.2 k hk) (Int.le_trans (hu.2 k hk) hB')⟩
  have : f.n ≤ atom0 f := by
   unfold atom0
   rw [if_pos h3]
   split <;> omega
  exact Int.le_trans this (Int.le_trans hu.1 hB')
theorem leaf_nodes (o n : Int) : nodes (.mk o n []) = 1 := by simp [nodes, nodesL]
theorem leaf_low {B o n : Int} (h : o = 3 → n ≤ B) : lowF B (.mk o n []) := by simp only [lowF, lowL, and_true]; exact h
theorem neg_nodes (B : Int) (s : Fm) : nodes (negR s) ≤ nodes s + 1 ∧ (lowF B s → lowF B (negR s)) := by
 have hp := nodes_pos s
 unfold negR
 split
 ·exact ⟨by rw [leaf_nodes]; omega, fun _ => leaf_low om⟩
 split
 ·exact ⟨by rw [leaf_nodes]; omega, fun _ => leaf_low om⟩
 split
 ·split
  ·rename_i x hx
   have : nodes x ≤ nodesL s.kids := nodesL_mem (by rw [hx]; simp)
   have := nodes_eq s
   refine ⟨om, fun h => ?_⟩
   have := (lowL_iff B _).1 ((lowF_eq B s).1 h).2 x (by rw [hx]; simp)
   exact this
  ·exact ⟨om, fun h => h⟩
 ·refine ⟨by simp [nodes, nodesL], fun h => ?_⟩
  simp only [lowF, lowL, and_true]
  exact ⟨om, h⟩
theorem end_nodes (B op all one : Int) (hop : op ≠ 3) (hall : all ≠ 3) (hone : one ≠ 3) (l : Option (List Fm)) (N : Nat) (hl : ∀ m, l = some m → nodesL m ≤ N ∧ lowL B m) : nodes (rowEnd op all one l) ≤ N + 1 ∧ lowF B (rowEnd op all one l) := by
 match l, hl with
 | none, _ => exact ⟨by simp [rowEnd, leaf_nodes], leaf_low om⟩
 | some [], _ => exact ⟨by simp [rowEnd, leaf_nodes], leaf_low om⟩
 | some [x], hl =>
  have := hl _ rfl
  simp only [nodesL, lowL, and_true, Nat.add_zero] at this
  exact ⟨by show nodes x ≤ _; omega, this.2⟩
 | some (x :: y :: l), hl =>
  have := hl _ rfl
  refine ⟨?_, ?_⟩
  ·show nodes (.mk op 0 (x :: y :: l)) ≤ _
   rw [nodes]
   omega
  ·show lowF B (.mk op 0 (x :: y :: l))
   rw [lowF]
   exact ⟨om, this.2⟩
theorem row_nodes (B op all one : Int) (hop : op ≠ 3) (hall : all ≠ 3) (hone : one ≠ 3) (S : Fm → Fm) (ks : List Fm) (h : ∀ k ∈ ks, nodes (S k) ≤ nodes k ∧ lowF B (S k)) : nodes (rowEnd op all one (rowL S all one ks [])) ≤ nodesL ks + 1 ∧ lowF B (rowEnd op all one (rowL S all one ks [])) := by
 refine end_nodes B op all one hop hall hone _ _ ?_
 intro m hm
 rw [rowL_eq] at hm
 split at hm
 ·cases hm
 ·simp only [List.nil_append, Option.some.injEq] at hm
  subst hm
  refine ⟨Nat.le_trans (nodesL_filter _ _) (nodesL_map ks (fun k hk => (h k hk).1)), ?_⟩
  rw [lowL_iff]
  intro k hk
  have := (List.mem_filter.1 hk).1
  obtain ⟨x, hx, rfl⟩ := List.mem_map.1 this
  exact (h x hx).2
theorem simple_nodes (B : Int) : ∀ (d : Nat) (f : Fm), fits d f → lowF B f → nodes (simpleR d f) ≤ nodes f ∧ lowF B (simpleR d f)
 | 0, _, h, _ => h.elim
 | d + 1, f, h, hl => by
  have hk : ∀ k ∈ f.kids, nodes (simpleR d k) ≤ nodes k ∧ lowF B (simpleR d k) := fun k hk => simple_nodes B d k (h.2 k hk) ((lowL_iff B _).1 ((lowF_eq B f).1 hl).2 k hk)
  have hn := nodes_eq f
  show nodes (if f.op = 4 then (match f.kids with | [k] => negR (simpleR d k) | _ => .mk 4 0 [])
   else if f.op = 5 then rowEnd 5 1 2 (rowL (simpleR d) 1 2 f.kids [])
   else if f.op = 6 then rowEnd 6 2 1 (rowL (simpleR d) 2 1 f.kids [])
   else if f.op = 3 then .mk 3 f.n []
   else .mk f.op 0 []) ≤ _ ∧ lowF B (if f.op = 4 then (match f.kids with | [k] => negR (simpleR d k) | _ => .mk 4 0 [])
   else if f.op = 5 then rowEnd 5 1 2 (rowL (simpleR d) 1 2 f.kids [])
   else if f.op = 6 then rowEnd 6 2 1 (rowL (simpleR d) 2 1 f.kids [])
   else if f.op = 3 then .mk 3 f.n []
   else .mk f.op 0 [])
  split
  ·match hks : f.kids, hk, hn with
   | [], _, hn => exact ⟨by rw [leaf_nodes]; omega, leaf_low om⟩
   | [k], hk, hn =>
    have h1 := hk k (by simp)
    have h2 := neg_nodes B (simpleR d k)
    simp only [nodesL] at hn
    exact ⟨by show nodes (negR _) ≤ _; omega, h2.2 h1.2⟩
   | _ :: _ :: _, _, hn => exact ⟨by show nodes (.mk 4 0 []) ≤ _; rw [leaf_nodes]; omega, leaf_low om⟩
  split
  ·have := row_nodes B 5 1 2 om om om (simpleR d) f.kids hk
   exact ⟨om, this.2⟩
  split
  ·have := row_nodes B 6 2 1 om om om (simpleR d) f.kids hk
   exact ⟨om, this.2⟩
  split
  ·rename_i h3
   exact ⟨by rw [leaf_nodes]; omega, leaf_low (fun _ => ((lowF_eq B f).1 hl).1 h3)⟩
  ·rename_i h3
   exact ⟨by rw [leaf_nodes]; omega, leaf_low (fun h => absurd h h3)⟩
def agree (n : Int) (a b : Int → Bool) : Prop := ∀ i, 1 ≤ i → i ≤ n → a i = b i
def sol (v : Int) (a : Int → Bool) : Bool := if v = 0 then false else (a (if v < 0 then 0 - v else v) == decide (0 < v))
def met (l : List (List Int)) (a : Int → Bool) : Bool := l.all fun c => c.any fun v => sol v a
theorem agree_refl (n : Int) (a : Int → Bool) : agree n a a := fun _ _ _ => rfl
theorem agree_trans {n : Int} {a b c : Int → Bool} (h : agree n a b) (h' : agree n b c) : agree n a c := fun i h1 h2 => (h i h1 h2).trans (h' i h1 h2)
theorem agree_mono {n m : Int} {a b : Int → Bool} (h : agree n a b) (hm : m ≤ n) : agree m a b := fun i h1 h2 => h i h1 om
theorem met_append (l m : List (List Int)) (a : Int → Bool) : met (l ++ m) a = (met l a && met m a) := by simp [met, List.all_append]
theorem sol_agree {n v : Int} {a b : Int → Bool} (h : agree n a b) (h1 : -n ≤ v) (h2 : v ≤ n) : sol v a = sol v b := by
 unfold sol
 by_cases hv : v = 0
 ·rw [if_pos hv, if_pos hv]
 ·rw [if_neg hv, if_neg hv, h _ (by split <;> omega) (by split <;> omega)]
theorem sol_neg {v : Int} (hv : v ≠ 0) (a : Int → Bool) : sol (0 - v) a = !sol v a := by
 unfold sol
 rcases Int.lt_or_gt_of_ne hv with h | h
 ·rw [if_neg om, if_neg hv, if_neg om, if_pos h, decide_eq_true (by omega : (0 : Int) < 0 - v), decide_eq_false (by omega : ¬ (0 : Int) < v)]
  cases a (0 - v) <;> rfl
 ·rw [if_neg om, if_neg hv, if_pos om, if_neg (by omega : ¬ v < 0), decide_eq_false (by omega : ¬ (0 : Int) < 0 - v), decide_eq_true (by omega : (0 : Int) < v)]
  have : 0 - (0 - v) = v := by omega
  rw [this]
  cases a v <;> rfl
theorem sol_pos {v : Int} (hv : 0 < v) (a : Int → Bool) : sol v a = a v := by
 unfold sol
 rw [if_neg om, if_neg (by omega : ¬ v < 0), decide_eq_true hv]
 cases a v <;> rfl
abbrev LR := List (List Int) × Int × Int
def kidsR (g : Fm → Int → LR) : List Fm → Int → List (List Int) × Int × List Int
 | [], n => ([], n, [])
 | k :: ks, n => ((g k n).1 ++ (kidsR g ks (g k n).2.1).1, (kidsR g ks (g k n).2.1).2.1, (g k n).2.2 :: (kidsR g ks (g k n).2.1).2.2)
theorem kidsR_snoc (g : Fm → Int → LR) (k : Fm) : ∀ (ks : List Fm) (n : Int), kidsR g (ks ++ [k]) n = ((kidsR g ks n).1 ++ (g k (kidsR g ks n).2.1).1, (g k (kidsR g ks n).2.1).2.1, (kidsR g ks n).2.2 ++ [(g k (kidsR g ks n).2.1).2.2])
 | [], n => by simp [kidsR]
 | x :: ks, n => by
  simp only [List.cons_append, kidsR, kidsR_snoc g k ks, List.append_assoc]
def sgn (op : Int) : Int := if op = 6 then -1 else 1
def gate (s v : Int) (ks : List Int) : List (List Int) := ks.map (fun k => [(0 - s) * v, s * k]) ++ [(s * v) :: ks.map fun k => (0 - s) * k]
def litR : Nat → Fm → Int → LR
 | 0, _, n => ([], n, 0)
 | d + 1, f, n =>
  if f.op = 3 then ([], n, f.n)
  else if f.op = 4 then (match f.kids with | k :: _ => ((litR d k n).1, (litR d k n).2.1, 0 - (litR d k n).2.2) | [] => ([], n, 0))
  else ((kidsR (litR d) f.kids n).1 ++ gate (sgn f.op) ((kidsR (litR d) f.kids n).2.1 + 1) (kidsR (litR d) f.kids n).2.2, (kidsR (litR d) f.kids n).2.1 + 1, (kidsR (litR d) f.kids n).2.1 + 1)
structure LitOK (n : Int) (r : LR) (N : Nat) : Prop where
 up : n ≤ r.2.1
 top : r.2.1 ≤ n + N
 nz : r.2.2 ≠ 0
 lo : -r.2.1 ≤ r.2.2
 hi : r.2.2 ≤ r.2.1
 cl : ∀ c ∈ r.1, c.length ≤ 61 ∧ ∀ v ∈ c, -r.2.1 ≤ v ∧ v ≤ r.2.1
 num : r.1.length + 1 ≤ 2 * N
structure KidsOK (n : Int) (r : List (List Int) × Int × List Int) (N m : Nat) : Prop where
 up : n ≤ r.2.1
 top : r.2.1 ≤ n + N
 vs : ∀ k ∈ r.2.2, k ≠ 0 ∧ -r.2.1 ≤ k ∧ k ≤ r.2.1
 cl : ∀ c ∈ r.1, c.length ≤ 61 ∧ ∀ v ∈ c, -r.2.1 ≤ v ∧ v ≤ r.2.1
 num : r.1.length + r.2.2.length ≤ 2 * N
 len : r.2.2.length = m
theorem kids_OK {g : Fm → Int → LR} {B : Int} : ∀ (ks : List Fm) (n : Int), B ≤ n → (∀ k ∈ ks, ∀ n, B ≤ n → LitOK n (g k n) (nodes k)) → KidsOK n (kidsR g ks n) (nodesL ks) ks.length
 | [], n, hB, _ => ⟨Int.le_refl _, by simp [kidsR, nodesL], fun k hk => by simp [kidsR] at hk, fun c hc => by simp [kidsR] at hc, by simp [kidsR], rfl⟩
 | x :: ks, n, hB, h => by
  have h1 := h x (by simp) n hB
  have h2 := kids_OK ks (g x n).2.1 (Int.le_trans hB h1.up) (fun k hk => h k (by simp [hk]))
  have a1 := h1.up
  have a2 := h1.top
  have a3 := h2.up
  have a4 := h2.top
  refine ⟨by simp only [kidsR]; omega, by simp only [kidsR, nodesL]; omega, ?_, ?_, ?_, ?_⟩
  ·intro k hk
   simp only [kidsR, List.mem_cons] at hk ⊢
   rcases hk with rfl | hk
   ·exact ⟨h1.nz, by have := h1.lo; omega, by have := h1.hi; omega⟩
   ·exact h2.vs k hk
  ·intro c hc
   simp only [kidsR, List.mem_append] at hc ⊢
   rcases hc with hc | hc
   ·refine ⟨(h1.cl c hc).1, fun v hv => ?_⟩
    have := (h1.cl c hc).2 v hv
    omega
   ·exact h2.cl c hc
  ·have := h1.num
   have := h2.num
   simp only [kidsR, List.length_append, List.length_cons, nodesL]
   omega
  ·simp only [kidsR, List.length_cons, h2.len]
theorem sgn_or (op : Int) : sgn op = 1 ∨ sgn op = -1 := by
 unfold sgn
 split
 ·exact .inr rfl
 ·exact .inl rfl
theorem gate_cl {s v n : Int} {ks : List Int} (hs : s = 1 ∨ s = -1) (hv : v = n + 1) (hn : 0 ≤ n) (h60 : ks.length ≤ 60) (hks : ∀ k ∈ ks, k ≠ 0 ∧ -n ≤ k ∧ k ≤ n) : ∀ c ∈ gate s v ks, c.length ≤ 61 ∧ ∀ x ∈ c, -v ≤ x ∧ x ≤ v := by
 intro c hc
 unfold gate at hc
 rcases List.mem_append.1 hc with hc | hc
 ·obtain ⟨k, hk, rfl⟩ := List.mem_map.1 hc
  have := hks k hk
  refine ⟨by simp, fun x hx => ?_⟩
  rcases hs with rfl | rfl
  ·simp only [List.mem_cons, List.not_mem_nil, or_false] at hx
   omega
  ·simp only [List.mem_cons, List.not_mem_nil, or_false] at hx
   omega
 ·simp only [List.mem_singleton] at hc
  subst hc
  refine ⟨by simp; omega, fun x hx => ?_⟩
  simp only [List.mem_cons, List.mem_map] at hx
  rcases hx with rfl | ⟨k, hk, rfl⟩
  ·rcases hs with rfl | rfl <;> omega
  ·have := hks k hk
   rcases hs with rfl | rfl <;> omega
theorem lit_OK (B : Int) (h0 : 0 ≤ B) : ∀ (d : Nat) (f : Fm) (n : Int), nf d f → lowF B f → B ≤ n → LitOK n (litR d f n) (nodes f)
 | 0, _, _, h, _, _ => h.elim
 | d + 1, f, n, h, hl, hB => by
  have hn := nodes_eq f
  have hl' := (lowF_eq B f).1 hl
  have hlk := (lowL_iff B _).1 hl'.2
  rcases h with ⟨h3, hk, h1, h2⟩ | ⟨h4, _, x, hk, hx, _⟩ | ⟨h5, _, _, h60, hk⟩
  ·have e : litR (d + 1) f n = ([], n, f.n) := if_pos h3
   have := hl'.1 h3
   rw [e]
   exact ⟨Int.le_refl _, by show n ≤ _; omega, by show f.n ≠ 0; omega, by show -n ≤ f.n; omega, by show f.n ≤ n; omega, fun c hc => (List.not_mem_nil hc).elim, by show 0 + 1 ≤ _; omega⟩
  ·have e : litR (d + 1) f n = ((litR d x n).1, (litR d x n).2.1, 0 - (litR d x n).2.2) := by
    show (if f.op = 3 then _ else if f.op = 4 then _ else _) = _
    rw [if_neg om, if_pos h4, hk]
   have r := lit_OK B h0 d x n hx (hlk x (by rw [hk]; simp)) hB
   rw [hk] at hn
   simp only [nodesL] at hn
   rw [e]
   have a1 := r.up
   have a2 := r.top
   have a3 := r.nz
   have a4 := r.lo
   have a5 := r.hi
   have a6 := r.num
   exact ⟨r.up, by show (litR d x n).2.1 ≤ _; omega, by show 0 - (litR d x n).2.2 ≠ 0; omega, by show -(litR d x n).2.1 ≤ 0 - (litR d x n).2.2; omega, by show 0 - (litR d x n).2.2 ≤ (litR d x n).2.1; omega, r.cl, by show (litR d x n).1.length + 1 ≤ _; omega⟩
  ·have e : litR (d + 1) f n = ((kidsR (litR d) f.kids n).1 ++ gate (sgn f.op) ((kidsR (litR d) f.kids n).2.1 + 1) (kidsR (litR d) f.kids n).2.2, (kidsR (litR d) f.kids n).2.1 + 1, (kidsR (litR d) f.kids n).2.1 + 1) := by
    show (if f.op = 3 then _ else if f.op = 4 then _ else _) = _
    rw [if_neg om, if_neg om]
   have r := kids_OK f.kids n hB (fun k hk' n hB => lit_OK B h0 d k n (hk k hk') (hlk k hk') hB)
   rw [e]
   have a1 := r.up
   have a2 := r.top
   have a3 := r.num
   have a4 := r.len
   refine ⟨by show n ≤ _ + 1; omega, by show _ + 1 ≤ _; omega, by show _ + 1 ≠ (0 : Int); omega, by show -(_ + 1) ≤ (kidsR (litR d) f.kids n).2.1 + 1; omega, Int.le_refl _, ?_, ?_⟩
   ·intro c hc
    rcases List.mem_append.1 hc with hc | hc
    ·refine ⟨(r.cl c hc).1, fun v hv => ?_⟩
     have := (r.cl c hc).2 v hv
     show -((kidsR (litR d) f.kids n).2.1 + 1) ≤ v ∧ v ≤ (kidsR (litR d) f.kids n).2.1 + 1
     omega
    ·exact gate_cl (sgn_or _) rfl om om r.vs c hc
   ·show ((kidsR (litR d) f.kids n).1 ++ gate _ _ _).length + 1 ≤ _
    simp only [gate, List.length_append, List.length_map, List.length_cons, List.length_nil]
    omega
theorem gate_met {s v : Int} {ks : List Int} (hs : s = 1 ∨ s = -1) (hv : 0 < v) (hks : ∀ k ∈ ks, k ≠ 0) (c : Int → Bool) : met (gate s v ks) c = (c v == (if s = 1 then ks.all (sol · c) else ks.any (sol · c))) := by
 have e1 : sol v c = c v := sol_pos hv c
 have e2 : sol (0 - v) c = !c v := by rw [sol_neg om, e1]
 have e3 : ∀ k ∈ ks, sol (0 - k) c = !sol k c := fun k hk => sol_neg (hks k hk) c
 rcases hs with rfl | rfl
 ·have g : gate 1 v ks = ks.map (fun k => [0 - v, k]) ++ [v :: ks.map fun k => 0 - k] := by
   unfold gate
   have q2 : ∀ k : Int, (0 - 1) * k = 0 - k := fun k => by omega
   simp only [q2, Int.one_mul]
  rw [g, if_pos rfl]
  have h1 : met (ks.map (fun k => [0 - v, k])) c = ks.all (fun k => !c v || sol k c) := by
   unfold met
   rw [List.all_map]
   refine all_congr fun k hk => ?_
   show (sol (0 - v) c || (sol k c || false)) = _
   rw [e2, Bool.or_false]
  have h2 : met [v :: ks.map fun k => 0 - k] c = (c v || !ks.all (sol · c)) := by
   unfold met
   simp only [List.all_cons, List.all_nil, Bool.and_true, List.any_cons, e1, List.any_map]
   congr 1
   rw [List.not_all_eq_any_not]
   exact any_congr fun k hk => e3 k hk
  rw [met_append, h1, h2]
  cases c v <;> simp
 ·have g : gate (-1) v ks = ks.map (fun k => [v, 0 - k]) ++ [(0 - v) :: ks.map fun k => k] := by
   unfold gate
   have q2 : ∀ k : Int, (0 - -1) * k = k := fun k => by omega
   have q3 : ∀ k : Int, -1 * k = 0 - k := fun k => by omega
   simp only [q2, q3]
  rw [g, if_neg om]
  have h1 : met (ks.map (fun k => [v, 0 - k])) c = ks.all (fun k => c v || !sol k c) := by
   unfold met
   rw [List.all_map]
   refine all_congr fun k hk => ?_
   show (sol v c || (sol (0 - k) c || false)) = _
   rw [e1, e3 k hk, Bool.or_false]
  have h2 : met [(0 - v) :: ks.map fun k => k] c = (!c v || ks.any (sol · c)) := by
   unfold met
   simp only [List.all_cons, List.all_nil, Bool.and_true, List.any_cons, e2, List.map_id']
  rw [met_append, h1, h2]
  cases c v
  ·simp [List.not_any_eq_all_not]
  ·simp
def LitS (n : Int) (r : LR) (a : Int → Bool) (e : Bool) : Prop := ∃ b, agree n b a ∧ (∀ c, agree n c a → (met r.1 c = true ↔ agree r.2.1 c b)) ∧ sol r.2.2 b = e
def KidsS (n : Int) (r : List (List Int) × Int × List Int) (a : Int → Bool) (es : List Bool) : Prop := ∃ b, agree n b a ∧ (∀ c, agree n c a → (met r.1 c = true ↔ agree r.2.1 c b)) ∧ r.2.2.map (sol · b) = es
theorem kids_S {g : Fm → Int → LR} {B : Int} {t : Int → Bool} {ev : Fm → Bool} : ∀ (ks : List Fm) (n : Int) (a : Int → Bool), B ≤ n → agree B a t → (∀ k ∈ ks, ∀ n, B ≤ n → LitOK n (g k n) (nodes k)) →
  (∀ k ∈ ks, ∀ n a, B ≤ n → agree B a t → LitS n (g k n) a (ev k)) → KidsS n (kidsR g ks n) a (ks.map ev)
 | [], n, a, _, _, _, _ => ⟨a, agree_refl _ _, fun c hc => ⟨fun _ => hc, fun _ => rfl⟩, rfl⟩
 | x :: ks, n, a, hB, ha, hok, h => by
  obtain ⟨b1, p1, p2, p3⟩ := h x (by simp) n a hB ha
  have o1 := hok x (by simp) n hB
  have hB1 := Int.le_trans hB o1.up
  obtain ⟨b2, q1, q2, q3⟩ := kids_S ks (g x n).2.1 b1 hB1 (agree_trans (agree_mono p1 hB) ha) (fun k hk => hok k (by simp [hk])) (fun k hk => h k (by simp [hk]))
  have o2 := kids_OK ks (g x n).2.1 hB1 (fun k hk => hok k (by simp [hk]))
  refine ⟨b2, agree_trans (agree_mono q1 o1.up) p1, ?_, ?_⟩
  ·intro c hc
   simp only [kidsR]
   rw [met_append, Bool.and_eq_true]
   constructor
   ·rintro ⟨h1, h2⟩
    exact (q2 c ((p2 c hc).1 h1)).1 h2
   ·intro h2
    have h1 : agree (g x n).2.1 c b1 := agree_trans (agree_mono h2 o2.up) q1
    exact ⟨(p2 c hc).2 h1, (q2 c h1).2 h2⟩
  ·simp only [kidsR, List.map_cons, q3]
   rw [sol_agree q1 o1.lo o1.hi, p3]
theorem lit_S (B : Int) (h0 : 0 ≤ B) (t : List Bool) : ∀ (d : Nat) (f : Fm) (n : Int) (a : Int → Bool), nf d f → lowF B f → B ≤ n → agree B a (fun i => atomB i t) → LitS n (litR d f n) a (evalR d f t)
 | 0, _, _, _, h, _, _, _ => h.elim
 | d + 1, f, n, a, h, hl, hB, ha => by
  have hl' := (lowF_eq B f).1 hl
  have hlk := (lowL_iff B _).1 hl'.2
  rcases h with ⟨h3, hk, h1, h2⟩ | ⟨h4, _, x, hk, hx, _⟩ | ⟨h5, _, _, h60, hk⟩
  ·have e : litR (d + 1) f n = ([], n, f.n) := if_pos h3
   rw [e]
   refine ⟨a, agree_refl _ _, fun c hc => ⟨fun _ => hc, fun _ => rfl⟩, ?_⟩
   show sol f.n a = _
   rw [sol_pos om, ha _ om (hl'.1 h3)]
   show _ = (if f.op = 1 then _ else if f.op = 3 then _ else _)
   rw [if_neg om, if_pos h3]
  ·have e : litR (d + 1) f n = ((litR d x n).1, (litR d x n).2.1, 0 - (litR d x n).2.2) := by
    show (if f.op = 3 then _ else if f.op = 4 then _ else _) = _
    rw [if_neg om, if_pos h4, hk]
   have o := lit_OK B h0 d x n hx (hlk x (by rw [hk]; simp)) hB
   obtain ⟨b, p1, p2, p3⟩ := lit_S B h0 t d x n a hx (hlk x (by rw [hk]; simp)) hB ha
   rw [e]
   refine ⟨b, p1, p2, ?_⟩
   show sol (0 - (litR d x n).2.2) b = _
   rw [sol_neg o.nz, p3]
   show _ = (if f.op = 1 then _ else if f.op = 3 then _ else if f.op = 4 then _ else _)
   rw [if_neg om, if_neg om, if_pos h4, hk]
  ·have e : litR (d + 1) f n = ((kidsR (litR d) f.kids n).1 ++ gate (sgn f.op) ((kidsR (litR d) f.kids n).2.1 + 1) (kidsR (litR d) f.kids n).2.2, (kidsR (litR d) f.kids n).2.1 + 1, (kidsR (litR d) f.kids n).2.1 + 1) := by
    show (if f.op = 3 then _ else if f.op = 4 then _ else _) = _
    rw [if_neg om, if_neg om]
   have o := kids_OK f.kids n hB (fun k hk' n hB => lit_OK B h0 d k n (hk k hk') (hlk k hk') hB)
   obtain ⟨b, p1, p2, p3⟩ := kids_S (ev := (evalR d · t)) f.kids n a hB ha (fun k hk' n hB => lit_OK B h0 d k n (hk k hk') (hlk k hk') hB) (fun k hk' n a hB ha => lit_S B h0 t d k n a (hk k hk') (hlk k hk') hB ha)
   rw [e]
   generalize kidsR (litR d) f.kids n = r at *
   have hup := o.up
   have hall : ∀ c, agree r.2.1 c b → (if sgn f.op = 1 then r.2.2.all (sol · c) else r.2.2.any (sol · c)) = evalR (d + 1) f t := by
    intro c hc
    have e1 : r.2.2.all (sol · c) = f.kids.all (evalR d · t) := by
     have h1 : r.2.2.all (sol · c) = (r.2.2.map (sol · b)).all id := by
      rw [List.all_map]
      exact all_congr fun k hk => sol_agree hc (o.vs k hk).2.1 (o.vs k hk).2.2
     rw [h1, p3, List.all_map]
     rfl
    have e2 : r.2.2.any (sol · c) = f.kids.any (evalR d · t) := by
     have h1 : r.2.2.any (sol · c) = (r.2.2.map (sol · b)).any id := by
      rw [List.any_map]
      exact any_congr fun k hk => sol_agree hc (o.vs k hk).2.1 (o.vs k hk).2.2
     rw [h1, p3, List.any_map]
     rfl
    rw [e1, e2]
    show _ = (if f.op = 1 then _ else if f.op = 3 then _ else if f.op = 4 then _ else if f.op = 5 then _ else if f.op = 6 then _ else _)
    unfold sgn
    rcases h5 with h5 | h5
    ·rw [if_neg (by omega : ¬ f.op = 6), if_pos rfl, if_neg om, if_neg om, if_neg om, if_pos h5]
    ·rw [if_pos h5, if_neg om, if_neg om, if_neg om, if_neg om, if_neg om, if_pos h5]
   refine ⟨fun i => if i = r.2.1 + 1 then evalR (d + 1) f t else b i, ?_, ?_, ?_⟩
   ·intro i h1 h2
    show (if i = r.2.1 + 1 then _ else b i) = _
    rw [if_neg om]
    exact p1 i h1 h2
   ·intro c hc
    show met (r.1 ++ gate _ _ _) c = true ↔ agree (r.2.1 + 1) c _
    rw [met_append, Bool.and_eq_true, gate_met (sgn_or _) om (fun k hk => (o.vs k hk).1)]
    constructor
    ·rintro ⟨h1, h2⟩
     have hb := (p2 c hc).1 h1
     rw [hall c hb] at h2
     intro i i1 i2
     show _ = (if i = r.2.1 + 1 then _ else b i)
     by_cases hi : i = r.2.1 + 1
     ·rw [if_pos hi, hi]
      exact eq_of_beq h2
     ·rw [if_neg hi]
      exact hb i i1 om
    ·intro h1
     have hb : agree r.2.1 c b := by
      intro i i1 i2
      have := h1 i i1 om
      rw [this]
      show (if i = r.2.1 + 1 then _ else b i) = _
      rw [if_neg om]
     refine ⟨(p2 c hc).2 hb, ?_⟩
     rw [hall c hb, h1 (r.2.1 + 1) om (Int.le_refl _)]
     show ((if r.2.1 + 1 = r.2.1 + 1 then _ else _) == _) = true
     rw [if_pos rfl]
     exact beq_self_eq_true _
   ·show sol (r.2.1 + 1) _ = _
    rw [sol_pos om]
    show (if r.2.1 + 1 = r.2.1 + 1 then _ else _) = _
    rw [if_pos rfl]
def ofR (d : Nat) (f : Fm) (n : Int) : List (List Int) × Int :=
 if (simpleR d f).op = 1 then ([], n) else if (simpleR d f).op = 2 then ([[]], n)
 else ((litR d (simpleR d f) n).1 ++ [[(litR d (simpleR d f) n).2.2]], (litR d (simpleR d f) n).2.1)
structure OfOK (n : Int) (r : List (List Int) × Int) (N : Nat) : Prop where
 up : n ≤ r.2
 top : r.2 ≤ n + N
 cl : ∀ c ∈ r.1, c.length ≤ 61 ∧ ∀ v ∈ c, -r.2 ≤ v ∧ v ≤ r.2
 num : r.1.length ≤ 2 * N
theorem of_OK {B : Int} (h0 : 0 ≤ B) {d : Nat} {f : Fm} {n : Int} (hf : fits d f) (hm : mayR d f = true) (hl : lowF B f) (hB : B ≤ n) : OfOK n (ofR d f n) (nodes f) := by
 have hp := nodes_pos f
 have hs := simple_nodes B d f hf hl
 have hn := simple_nice d f hf hm
 unfold ofR
 by_cases c1 : (simpleR d f).op = 1
 ·rw [if_pos c1]
  exact ⟨Int.le_refl _, by show n ≤ _; omega, fun c hc => (List.not_mem_nil hc).elim, by show 0 ≤ _; omega⟩
 rw [if_neg c1]
 by_cases c2 : (simpleR d f).op = 2
 ·rw [if_pos c2]
  exact ⟨Int.le_refl _, by show n ≤ _; omega, fun c hc => by simp only [List.mem_singleton] at hc; subst hc; exact ⟨by simp, fun v hv => (List.not_mem_nil hv).elim⟩, by show 1 ≤ _; omega⟩
 rw [if_neg c2]
 have o := lit_OK B h0 d _ n (nice_3 hn c1 c2) hs.2 hB
 have a1 := o.up
 have a2 := o.top
 have a3 := o.num
 refine ⟨o.up, by show (litR d (simpleR d f) n).2.1 ≤ _; omega, ?_, ?_⟩
 ·intro c hc
  rcases List.mem_append.1 hc with hc | hc
  ·exact o.cl c hc
  ·simp only [List.mem_singleton] at hc
   subst hc
   refine ⟨by simp, fun v hv => ?_⟩
   simp only [List.mem_singleton] at hv
   subst hv
   exact ⟨o.lo, o.hi⟩
 ·show ((litR d (simpleR d f) n).1 ++ _).length ≤ _
  simp only [List.length_append, List.length_cons, List.length_nil]
  omega
theorem of_S {B : Int} (h0 : 0 ≤ B) (t : List Bool) {d : Nat} {f : Fm} {n : Int} (hf : fits d f) (hm : mayR d f = true) (hl : lowF B f) (hB : B ≤ n) (a : Int → Bool) (ha : agree B a (fun i => atomB i t)) :
  ∃ b, agree n b a ∧ ∀ c, agree n c a → (met (ofR d f n).1 c = true ↔ agree (ofR d f n).2 c b ∧ evalR d f t = true) := by
 have hs := simple_nodes B d f hf hl
 have hn := simple_nice d f hf hm
 have he := simple_eval t d f hf hm
 obtain ⟨e, rfl⟩ : ∃ e, d = e + 1 := by
  cases d with
  | zero => exact hf.elim
  | succ e => exact ⟨e, rfl⟩
 unfold ofR
 by_cases c1 : (simpleR (e + 1) f).op = 1
 ·rw [if_pos c1, ← he]
  refine ⟨a, agree_refl _ _, fun c hc => ⟨fun _ => ⟨hc, ?_⟩, fun _ => rfl⟩⟩
  show (if (simpleR (e + 1) f).op = 1 then true else _) = true
  rw [if_pos c1]
 rw [if_neg c1]
 by_cases c2 : (simpleR (e + 1) f).op = 2
 ·rw [if_pos c2, ← he]
  refine ⟨a, agree_refl _ _, fun c hc => ⟨fun h => by simp [met] at h, fun h => ?_⟩⟩
  have h2 : evalR (e + 1) (simpleR (e + 1) f) t = false := by
   show (if (simpleR (e + 1) f).op = 1 then true else if (simpleR (e + 1) f).op = 3 then _ else if (simpleR (e + 1) f).op = 4 then _ else if (simpleR (e + 1) f).op = 5 then _ else if (simpleR (e + 1) f).op = 6 then _ else false) = false
   rw [if_neg om, if_neg om, if_neg om, if_neg om, if_neg om]
  rw [h2] at h
  cases h.2
 rw [if_neg c2]
 have o := lit_OK B h0 (e + 1) _ n (nice_3 hn c1 c2) hs.2 hB
 obtain ⟨b, p1, p2, p3⟩ := lit_S B h0 t (e + 1) _ n a (nice_3 hn c1 c2) hs.2 hB ha
 rw [he] at p3
 refine ⟨b, p1, fun c hc => ?_⟩
 show met ((litR (e + 1) (simpleR (e + 1) f) n).1 ++ [[(litR (e + 1) (simpleR (e + 1) f) n).2.2]]) c = true ↔ agree (litR (e + 1) (simpleR (e + 1) f) n).2.1 c b ∧ _
 have hone : met [[(litR (e + 1) (simpleR (e + 1) f) n).2.2]] c = sol (litR (e + 1) (simpleR (e + 1) f) n).2.2 c := by simp [met]
 rw [met_append, Bool.and_eq_true, hone]
 constructor
 ·rintro ⟨h1, h2⟩
  have hb := (p2 c hc).1 h1
  refine ⟨hb, ?_⟩
  rw [← p3, ← sol_agree hb o.lo o.hi]
  exact h2
 ·rintro ⟨hb, h2⟩
  refine ⟨(p2 c hc).2 hb, ?_⟩
  rw [sol_agree hb o.lo o.hi, p3]
  exact h2
end Go.Abs.W

namespace Go.Abs.W
open Go Go.Abs
set_option maxRecDepth 8000
attribute [local irreducible] callN runC evalOp
structure Scp where
 kind : Int
 ty : List UInt8
 uty : List UInt8
 uid : List UInt8
 slot : Bool
 list : List (List D)
structure Pol where
 id : List UInt8
 permit : Bool
 p : Scp
 a : Scp
 r : Scp
 conds : List (List D)
abbrev Scp.cells (s : Scp) : List D := [.int .i64 s.kind, .str s.ty, .str s.uty, .str s.uid, .bool s.slot, .sl s.list none]
abbrev eP (x : Pol) : List D := [.str x.id, .bool x.permit, .int .i64 x.p.kind, .str x.p.ty, .str x.p.uty, .str x.p.uid, .bool x.p.slot, .sl x.p.list none, .int .i64 x.a.kind, .str x.a.ty, .str x.a.uty, .str x.a.uid, .bool x.a.slot, .sl x.a.list none, .int .i64 x.r.kind, .str x.r.ty, .str x.r.uty, .str x.r.uid, .bool x.r.slot, .sl x.r.list none, .sl x.conds none]
def ePs (l : List Pol) : List (List D) := l.map eP
theorem pol_at {l : List Pol} {i : Nat} (h : i < l.length) : (ePs l)[i]? = some (eP l[i]) := by simp [ePs, h]
theorem permits_ok (n : Nat) (x : Pol) (σ : St) : callN T (n + 1) 20 [.agg (eP x)] σ = some (.bool x.permit, σ) := by
 refine call_of (m := m20) rfl rfl (by decide) (k_start ?_)
 unfold m20
 refine kq <| rn 2 ?_
 refine kD (k_skip_seq (kq ?_))
 refine rn 3 ?_
 refine kD (k_skip_seq (k_ret ?_))
 exact ⟨.inr rfl, kr, kr⟩
theorem forbids_ok (n : Nat) (x : Pol) (σ : St) : callN T (n + 1) 21 [.agg (eP x)] σ = some (.bool (!x.permit), σ) := by
 refine call_of (m := m21) rfl rfl (by decide) (k_start ?_)
 unfold m21
 refine kq <| rn 2 ?_
 refine kD (k_skip_seq (kq ?_))
 refine rn 4 ?_
 refine kD (k_skip_seq (k_ret ?_))
 exact ⟨.inr rfl, kr, kr⟩
theorem andA_ok (n : Nat) (l : List Fm) (o : Option Nat) (σ : St) : callN T (n + 1) 13 [.sl (eFs l) o] σ = some (.agg (eF (.mk 5 0 l)), σ) := by
 refine call_of (m := m13) rfl rfl (by decide) (k_start ?_)
 unfold m13
 refine kq <| rn 1 ?_
 refine kD (k_skip_seq (kq ?_))
 refine rn 3 ?_
 refine kD (k_skip_seq (k_ret ?_))
 exact ⟨.inr rfl, kr, kr⟩
theorem notA_ok (n : Nat) (f : Fm) (σ : St) : callN T (n + 1) 14 [.agg (eF f)] σ = some (.agg (eF (.mk 4 0 [f])), σ) := by
 rw [eF_one]
 refine call_of (m := m14) rfl rfl (by decide) (k_start ?_)
 unfold m14
 refine kq <| rn 2 ?_
 refine kD (k_skip_seq (kq ?_))
 refine rn 4 ?_
 refine kD (k_skip_seq (k_ret ?_))
 refine ⟨.inr rfl, kr, ?_⟩
 show _ = _
 kernel_rfl
def pickF (pr : Pol → Bool) : List Pol → List Fm → List Fm
 | x :: l, f :: fs => if pr x = true then f :: pickF pr l fs else pickF pr l fs
 | _, _ => []
theorem pickF_snoc (pr : Pol → Bool) : ∀ (l : List Pol) (fs : List Fm) (x : Pol) (f : Fm), l.length = fs.length → pickF pr (l ++ [x]) (fs ++ [f]) = pickF pr l fs ++ if pr x = true then [f] else []
 | [], [], x, f, _ => by simp [pickF]
 | y :: l, g :: fs, x, f, h => by
  simp only [List.cons_append, pickF]
  rw [pickF_snoc pr l fs x f (by simpa using h)]
  split <;> simp
 | [], _ :: _, _, _, h => by simp at h
 | _ :: _, [], _, _, h => by simp at h
theorem pickF_take (pr : Pol → Bool) {l : List Pol} {fs : List Fm} {i : Nat} (h : i < l.length) (h2 : i < fs.length) : pickF pr (l.take (i + 1)) (fs.take (i + 1)) = pickF pr (l.take i) (fs.take i) ++ if pr l[i] = true then [fs[i]] else [] := by
 rw [List.take_succ_eq_append_getElem h, List.take_succ_eq_append_getElem h2, pickF_snoc]
 simp only [List.length_take]
 omega
theorem pickF_cut (pr : Pol → Bool) : ∀ (l : List Pol) (fs : List Fm), l.length ≤ fs.length → pickF pr l (fs.take l.length) = pickF pr l fs
 | [], _, _ => by simp [pickF]
 | _ :: _, [], h => by simp at h
 | x :: l, f :: fs, h => by
  simp only [List.length_cons, List.take_succ_cons, pickF]
  rw [pickF_cut pr l fs (by simpa using h)]
theorem pickF_len (pr : Pol → Bool) : ∀ (l : List Pol) (fs : List Fm), (pickF pr l fs).length ≤ l.length
 | [], _ => by simp [pickF]
 | _ :: _, [] => by simp [pickF]
 | x :: l, f :: fs => by
  have := pickF_len pr l fs
  simp only [pickF]
  split <;> simp <;> omega
def f19 (l : List Pol) (fs : List Fm) (cf : Nat) (out : List (List D)) (i : Nat) : Fr := Fr.mk ([.junk, .sl (eFs fs) none, .func cf [], .junk, .junk, .junk, .lptr 6 0, .lptr 7 0, .junk, .junk, .junk, .sl (ePs l) none, .int .i64 (ePs l).length, .int .i64 i] ++ List.replicate 18 .junk)
 (((List.replicate 32 none).set 6 (some [.int .i64 0, .int .i64 0, .sl [] (some 69)])).set 7 (some [.int .i64 6, .int .i64 0, .sl out (some 69)])) []
theorem some_ok (n : Nat) (pr : Pol → Bool) (cf : Nat) (l : List Pol) (fs : List Fm) (o o2 : Option Nat) (σ : St) (hc : ∀ x ∈ l, callN T n cf ([.agg (eP x)] ++ []) [] = some (.bool (pr x), [])) (hl : l.length ≤ fs.length) (hn : l.length < n) (h60 : l.length ≤ 60) :
  callN T (n + 1) 19 [.sl (ePs l) o, .sl (eFs fs) o2, .func cf []] σ = some (.agg (eF (.mk 6 0 (pickF pr l fs))), σ) := by
 refine call_of (m := m19) rfl rfl (by decide) (k_start ?_)
 unfold m19
 have hpl : (ePs l).length = l.length := by simp [ePs]
 have h0 : pickF pr (l.take 0) (fs.take 0) = [] := by simp [pickF]
 refine kq <| rn 1 ?_
 refine kD (k_skip_seq (kq ?_))
 refine rn 3 ?_
 refine kD (k_skip_seq (kq (kq ?_)))
 refine rn 3 ?_
 refine kD (k_skip_seq (kZ ?_))
 refine k_loop (fun i : Nat => f19 l fs cf (eFs (pickF pr (l.take i) (fs.take i))) i) (fun _ => σ) (fun i => i ≤ l.length) (fun i => l.length - i) 0 (by rw [h0]; kernel_rfl) rfl (by simp) (by intro s hs; omega) ?_
 intro i hi
 have hlen := pickF_len pr (l.take i) (fs.take i)
 rw [List.length_take] at hlen
 by_cases hlt : i < l.length
 ·have hg := pol_at hlt
  have hk := kid_at (show i < fs.length by omega)
  have hcall := hc l[i] (List.getElem_mem hlt)
  have hnx := pickF_take pr hlt (show i < fs.length by omega)
  unfold l19_0
  generalize pickF pr (l.take i) (fs.take i) = out at *
  have hsn := eFs_snoc out fs[i]
  have hol := eFs_length out
  cases hp : pr l[i]
  ·rw [hp] at hcall hnx
   refine kq <| rn 1 ?_
   refine kD (k_skip_seq (kq ?_))
   refine rkn 14 (decide ((↑i : Int) < (↑(List.length (ePs l)) : Int))) true (decide_eq_true om) ?_
   refine kct (k_skip_seq (kq (kZ (kq ?_))))
   refine rn 1 <| runs_index (l) (eP) (o := none) (kd := IntKind.i64) (i) kr kr kr asm kr <| rn 4 ?_
   refine kD (k_skip_seq (kq ?_))
   refine rn 2 <| runs_callv (cf) ([]) ([.agg [.str (Pol.id l[i]), .bool (Pol.permit l[i]), .int .i64 (Scp.kind (Pol.p l[i])), .str (Scp.ty (Pol.p l[i])), .str (Scp.uty (Pol.p l[i])), .str (Scp.uid (Pol.p l[i])), .bool (Scp.slot (Pol.p l[i])), .sl (Scp.list (Pol.p l[i])) none, .int .i64 (Scp.kind (Pol.a l[i])), .str (Scp.ty (Pol.a l[i])), .str (Scp.uty (Pol.a l[i])), .str (Scp.uid (Pol.a l[i])), .bool (Scp.slot (Pol.a l[i])), .sl (Scp.list (Pol.a l[i])) none, .int .i64 (Scp.kind (Pol.r l[i])), .str (Scp.ty (Pol.r l[i])), .str (Scp.uty (Pol.r l[i])), .str (Scp.uid (Pol.r l[i])), .bool (Scp.slot (Pol.r l[i])), .sl (Scp.list (Pol.r l[i])) none, .sl (Pol.conds l[i]) none]]) ([.agg [.str (Pol.id l[i]), .bool (Pol.permit l[i]), .int .i64 (Scp.kind (Pol.p l[i])), .str (Scp.ty (Pol.p l[i])), .str (Scp.uty (Pol.p l[i])), .str (Scp.uid (Pol.p l[i])), .bool (Scp.slot (Pol.p l[i])), .sl (Scp.list (Pol.p l[i])) none, .int .i64 (Scp.kind (Pol.a l[i])), .str (Scp.ty (Pol.a l[i])), .str (Scp.uty (Pol.a l[i])), .str (Scp.uid (Pol.a l[i])), .bool (Scp.slot (Pol.a l[i])), .sl (Scp.list (Pol.a l[i])) none, .int .i64 (Scp.kind (Pol.r l[i])), .str (Scp.ty (Pol.r l[i])), .str (Scp.uty (Pol.r l[i])), .str (Scp.uid (Pol.r l[i])), .bool (Scp.slot (Pol.r l[i])), .sl (Scp.list (Pol.r l[i])) none, .sl (Pol.conds l[i]) none]]) kr kr kr kr kr kr (hcall) kr ?_
   refine kD (k_skip_seq (kcf (kY (k_skip_seq ?_))))
   refine rvW ((↑i : Int) + 1) ((i + 1 : Nat) : Int) wE <| rn 1 <| kD <| kR ?_
   exact ⟨i + 1, hlt, om, by rw [hnx]; simp only [Bool.false_eq_true, if_false, List.append_nil]; kernel_rfl, rfl⟩
  ·rw [hp] at hcall hnx
   refine kq <| rn 1 ?_
   refine kD (k_skip_seq (kq ?_))
   refine rkn 14 (decide ((↑i : Int) < (↑(List.length (ePs l)) : Int))) true (decide_eq_true om) ?_
   refine kct (k_skip_seq (kq (kZ (kq ?_))))
   refine rn 1 <| runs_index (l) (eP) (o := none) (kd := IntKind.i64) (i) kr kr kr asm kr <| rn 4 ?_
   refine kD (k_skip_seq (kq ?_))
   refine rn 2 <| runs_callv (cf) ([]) ([.agg [.str (Pol.id l[i]), .bool (Pol.permit l[i]), .int .i64 (Scp.kind (Pol.p l[i])), .str (Scp.ty (Pol.p l[i])), .str (Scp.uty (Pol.p l[i])), .str (Scp.uid (Pol.p l[i])), .bool (Scp.slot (Pol.p l[i])), .sl (Scp.list (Pol.p l[i])) none, .int .i64 (Scp.kind (Pol.a l[i])), .str (Scp.ty (Pol.a l[i])), .str (Scp.uty (Pol.a l[i])), .str (Scp.uid (Pol.a l[i])), .bool (Scp.slot (Pol.a l[i])), .sl (Scp.list (Pol.a l[i])) none, .int .i64 (Scp.kind (Pol.r l[i])), .str (Scp.ty (Pol.r l[i])), .str (Scp.uty (Pol.r l[i])), .str (Scp.uid (Pol.r l[i])), .bool (Scp.slot (Pol.r l[i])), .sl (Scp.list (Pol.r l[i])) none, .sl (Pol.conds l[i]) none]]) ([.agg [.str (Pol.id l[i]), .bool (Pol.permit l[i]), .int .i64 (Scp.kind (Pol.p l[i])), .str (Scp.ty (Pol.p l[i])), .str (Scp.uty (Pol.p l[i])), .str (Scp.uid (Pol.p l[i])), .bool (Scp.slot (Pol.p l[i])), .sl (Scp.list (Pol.p l[i])) none, .int .i64 (Scp.kind (Pol.a l[i])), .str (Scp.ty (Pol.a l[i])), .str (Scp.uty (Pol.a l[i])), .str (Scp.uid (Pol.a l[i])), .bool (Scp.slot (Pol.a l[i])), .sl (Scp.list (Pol.a l[i])) none, .int .i64 (Scp.kind (Pol.r l[i])), .str (Scp.ty (Pol.r l[i])), .str (Scp.uty (Pol.r l[i])), .str (Scp.uid (Pol.r l[i])), .bool (Scp.slot (Pol.r l[i])), .sl (Scp.list (Pol.r l[i])) none, .sl (Pol.conds l[i]) none]]) kr kr kr kr kr kr (hcall) kr ?_
   refine kD (k_skip_seq (kct ?_))
   refine rn 1 <| rgf (.sl (eFs out) (some 69)) (σ) <| rn 2 <| runs_indexL (eFs fs) (o := none) (kd := IntKind.i64) (i) _ kr kr kr asm kr <| rn 2 <| runs_append (eFs out) ([[D.int IntKind.i64 (Fm.op fs[i]), D.int IntKind.i64 (Fm.n fs[i]), D.sl (eFs (Fm.kids fs[i])) none]]) (eFs out ++ [[D.int IntKind.i64 (Fm.op fs[i]), D.int IntKind.i64 (Fm.n fs[i]), D.sl (eFs (Fm.kids fs[i])) none]]) kr kr kr kr (by simp [eFs_length, ints, eInt, rows, eInts, bools, eBool, trips, eTrip, i8s, u16s, u8s, acts, room]; omega) rfl <| rn 1 <| rgf .junk (σ) ?_
   refine kD (kY (k_skip_seq ?_))
   refine rvW ((↑i : Int) + 1) ((i + 1 : Nat) : Int) wE <| rn 1 <| kD <| kR ?_
   exact ⟨i + 1, hlt, om, by rw [hnx]; simp only [if_true]; rw [← hsn]; kernel_rfl, rfl⟩
 ·unfold l19_0
  obtain rfl : i = l.length := by omega
  have hw : pickF pr (l.take l.length) (fs.take l.length) = pickF pr l fs := by
   rw [List.take_length]
   exact pickF_cut pr l fs hl
  rw [hw]
  generalize pickF pr l fs = out at *
  refine kq <| rn 1 ?_
  refine kD (k_skip_seq (kq ?_))
  refine rkn 14 (decide ((↑(List.length l) : Int) < (↑(List.length (ePs l)) : Int))) false (decide_eq_false om) ?_
  refine kcf (k_exit_seq (k_exit_back (k_exit_hit rfl (k_skip_seq (kq ?_)))))
  refine rn 1 <| rgf .junk (σ) ?_
  refine kD (k_skip_seq (k_ret ?_))
  exact ⟨.inr rfl, kr, kr⟩
end Go.Abs.W

namespace Go.Abs.W
open Go Go.Abs
set_option maxRecDepth 100000
def refA : List D := [.int .i64 4, .bool false, .int .i64 0, .str [], .str [85], .str [120], .sl [] none, .sl [] none]
def exIs : List D := exprA 8 (valA 0) [] [exprA 2 (valA 0) [112, 114, 105, 110, 99, 105, 112, 97, 108] [], exprA 1 refA [] []]
def exA : List D := exprA 18 (valA 0) [97] [exprA 2 (valA 0) [99, 111, 110, 116, 101, 120, 116] []]
def bitN (p i : Nat) : Bool := Nat.beq (p / 2 ^ i % 2) 1
def scp0 : Scp := ⟨0, [], [], [], false, []⟩
def rowP (i : Nat) : Pol := ⟨[UInt8.ofNat (97 + i)], Nat.blt i 4, scp0, scp0, scp0, [.bool (bitN i 0) :: exIs, .bool (bitN i 1) :: exA]⟩
def at1 : List D := [.int .i64 1, .str [85], .str [120], .str [], .str [], .str [], .str []]
def at2 : List D := [.int .i64 6, .str [], .str [], .str [], .str [], .str [97], .str []]
def stF0 : St := [.map [], .cells [.sl [[.str [85], .sl [] none, .sl [] none]] none, .sl [[.str [118], .sl [] none, .sl [[.str [85]]] none, .sl [[.str [85]]] none, .sl [[.str [97], .int .i64 3, .str [], .sl [] none, .sl [] none, .bool false]] none]] none, .str [85], .str [118], .str [85], .sl [] (some 115), .map 0, .bool false]]
def stF2 : St := [.map [(.agg at1, .int .i64 1), (.agg at2, .int .i64 2)], .cells [.sl [[.str [85], .sl [] none, .sl [] none]] none, .sl [[.str [118], .sl [] none, .sl [[.str [85]]] none, .sl [[.str [85]]] none, .sl [[.str [97], .int .i64 3, .str [], .sl [] none, .sl [] none, .bool false]] none]] none, .str [85], .str [118], .str [85], .sl [at1, at2] (some 115), .map 0, .bool false]]
def stG : Nat → St
 | 0 => stF0
 | _ + 1 => stF2
def tkF (i : Nat) : Fm := .mk 5 0 [.mk 1 0 [], .mk 1 0 [], .mk 1 0 [], bif bitN i 0 then .mk 3 1 [] else .mk 4 0 [.mk 3 1 []], bif bitN i 1 then .mk 3 2 [] else .mk 4 0 [.mk 3 2 []]]
def tt : Fm := .mk 1 0 []
def a1 : Fm := .mk 3 1 []
def axF : List Fm := [.mk 6 0 [.mk 4 0 [a1], a1], .mk 6 0 [.mk 4 0 [.mk 5 0 [a1, tt]], a1], .mk 6 0 [.mk 4 0 [.mk 5 0 [tt, tt]], tt]]
end Go.Abs.W
