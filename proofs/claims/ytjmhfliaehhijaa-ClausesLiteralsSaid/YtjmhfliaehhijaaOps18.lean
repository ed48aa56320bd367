/-
  Code: sequences, choices, blocks, loops.
-/
import Derived.Test.YtjmhfliaehhijaaOps17
import Derived.LoopN
set_option linter.unusedVariables false
set_option linter.unusedSimpArgs false
namespace Go.Abs
open Go Go.RowKit

section
variable {P : Program} {g g' : Gh} {w w' : World} {fr fr' : Fr} {σ σ' : St} {a : Act} {o : Oper} {d : D} {cal : Cal} {q mu : Bool} {Q : Exit → Act → World → Prop}

theorem clearS_get (keep : List Nat) : ∀ (l : List D) (n i : Nat), (clearS keep n l)[i]? = (l[i]?).map fun d => if keep.contains (n + i) then keptD keep d else .junk
  | [], n, i => by simp [clearS]
  | d :: l, n, i => by
    cases i with
    | zero => simp [clearS]
    | succ i =>
      simp only [clearS, List.getElem?_cons_succ]
      rw [clearS_get keep l (n + 1) i]
      have : n + 1 + i = n + (i + 1) := by omega
      rw [this]

theorem clearB_get (keep : List Nat) : ∀ (l : List (Option (List D))) (n i : Nat), (clearB keep n l)[i]? = (l[i]?).map fun b => if keep.contains (n + i) then b else none
  | [], n, i => by simp [clearB]
  | d :: l, n, i => by
    cases i with
    | zero => simp [clearB]
    | succ i =>
      simp only [clearB, List.getElem?_cons_succ]
      rw [clearB_get keep l (n + 1) i]
      have : n + 1 + i = n + (i + 1) := by omega
      rw [this]

theorem clearS_len (keep : List Nat) : ∀ (l : List D) (n : Nat), (clearS keep n l).length = l.length
  | [], _ => rfl
  | _ :: l, n => by simp [clearS, clearS_len keep l]

theorem clearB_len (keep : List Nat) : ∀ (l : List (Option (List D))) (n : Nat), (clearB keep n l).length = l.length
  | [], _ => rfl
  | _ :: l, n => by simp [clearB, clearB_len keep l]

theorem Inv.clear (i : Inv P g w fr σ a) (keep : List Nat) : Inv P g w (fr.clear keep) σ a := by
  refine ⟨i.h, ⟨by simpa [Fr.clear, clearS_len] using i.s.size, by simpa [Fr.clear, clearS_len, clearB_len] using i.s.blen, fun t e ht => ?_, fun t cs ht => ?_⟩, i.d⟩
  · simp only [Fr.clear, clearS_get, Nat.zero_add, Option.map_eq_some_iff] at ht
    obtain ⟨e0, h1, h2⟩ := ht
    obtain ⟨v, q1, q2, q3, q4⟩ := i.s.slots t e0 h1
    by_cases hk : keep.contains t = true
    · rw [if_pos hk] at h2
      by_cases hl : ∃ s off, e0 = .lptr s off
      · obtain ⟨s, off, rfl⟩ := hl
        simp only [keptD] at h2
        split at h2
        · rename_i hs
          subst h2
          refine ⟨v, q1, q2, q3, fun s' off' e => ?_⟩
          cases e
          obtain ⟨cs, hc⟩ := q4 s off rfl
          refine ⟨cs, ?_⟩
          simp only [Fr.clear, clearB_get, Nat.zero_add, hc, Option.map_some, hs, if_true]
        · subst h2
          exact ⟨v, q1, .junk _, .of_ne rfl, fun s off e => by cases e⟩
      · have : keptD keep e0 = e0 := by
          cases e0 <;> first | rfl | exact absurd ⟨_, _, rfl⟩ hl
        rw [this] at h2
        subst h2
        exact ⟨v, q1, q2, q3, fun s off e => absurd ⟨s, off, e⟩ hl⟩
    · rw [if_neg hk] at h2
      subst h2
      exact ⟨v, q1, .junk _, .of_ne rfl, fun s off e => by cases e⟩
  · simp only [Fr.clear, clearB_get, Nat.zero_add, Option.map_eq_some_iff] at ht
    obtain ⟨b0, h1, h2⟩ := ht
    split at h2
    · subst h2
      exact i.s.boxes t cs h1
    · cases h2

def AE.exit' : AE → Exit
  | .normal => .normal
  | .exit id => .exit id
  | .ret => .ret

/-- Code: what the interpreter comes to, the model comes to. -/
theorem wp_code (hm : P.follows .mixedOrders = true) (hc : CalOK P cal) (hci : CalIn P cal) (keep : List Nat) (fuel : Nat) : ∀ (c : Code) {m : MCode} {ae : AE} {fr fr' : Fr} {σ σ' : St} {a : Act} {g : Gh} {w : World} {Q : Exit → Act → World → Prop},
    compC P false keep c = some m → runC cal fuel m fr σ = some (ae, fr', σ') → Inv P g w fr σ a → (∀ a' w' g', Ext g w g' w' → Inv P g' w' fr' σ' a' → Q ae.exit' a' w') → c.wp P Q a w := by
  intro c
  induction c with
  | skip =>
    intro m ae fr fr' σ σ' a g w Q hcomp hr i hn
    simp only [compC, Option.some.injEq] at hcomp
    subst hcomp
    simp only [runC, Option.some.injEq, Prod.mk.injEq] at hr
    obtain ⟨rfl, rfl, rfl⟩ := hr
    exact wp_skip (hn a w g (.refl g w) i)
  | region id ops draw =>
    intro m ae fr fr' σ σ' a g w Q hcomp hr i hn
    obtain ⟨quiet, ms, rfl⟩ : ∃ quiet ms, m = .region quiet ms := by
      simp only [compC] at hcomp
      repeat' split at hcomp
      all_goals first | (cases hcomp; done) | (cases hcomp; exact ⟨_, _, rfl⟩)
    simp only [runC, Option.map_eq_some_iff] at hr
    obtain ⟨⟨fr1, σ1⟩, h1, h2⟩ := hr
    cases h2
    exact wp_region_code hm hc hci hcomp h1 i hn
  | seq x y ihx ihy =>
    intro m ae fr fr' σ σ' a g w Q hcomp hr i hn
    simp only [compC] at hcomp
    split at hcomp
    · rename_i mx my hx hy
      cases hcomp
      simp only [runC] at hr
      split at hr
      · rename_i fr1 σ1 h1
        refine wp_seq (ihx hx h1 i (fun a1 w1 g1 e1 i1 => ?_))
        exact ihy hy hr i1 (fun a2 w2 g2 e2 i2 => hn a2 w2 g2 (e1.trans e2) i2)
      · rename_i hno
        refine wp_seq (ihx hx hr i (fun a1 w1 g1 e1 i1 => ?_))
        cases ae with
        | normal => exact absurd hr (hno _ _)
        | exit id => exact hn a1 w1 g1 e1 i1
        | ret => exact hn a1 w1 g1 e1 i1
    · cases hcomp
  | cond x c1 c2 ih1 ih2 =>
    intro m ae fr fr' σ σ' a g w Q hcomp hr i hn
    simp only [compC] at hcomp
    split at hcomp
    · rename_i x' m1 m2 hX h1 h2
      cases hcomp
      have hv := (val_ok i.s hX).1
      simp only [runC] at hr
      split at hr
      · rename_i hb
        rw [hb] at hv
        exact wp_cond_true (rep_bool hv) (ih1 h1 hr i hn)
      · rename_i hb
        rw [hb] at hv
        exact wp_cond_false (rep_bool hv) (ih2 h2 hr i hn)
      · cases hr
    · cases hcomp
  | block id c ih =>
    intro m ae fr fr' σ σ' a g w Q hcomp hr i hn
    simp only [compC, Option.map_eq_some_iff] at hcomp
    obtain ⟨m1, h1, rfl⟩ := hcomp
    simp only [runC] at hr
    split at hr
    · rename_i i' fr1 σ1 hr1
      refine wp_block (ih h1 hr1 i (fun a1 w1 g1 e1 i1 => ?_))
      simp only [AE.exit', Exit.inBlock]
      split at hr
      · rename_i hid
        cases hr
        rw [if_pos hid]
        exact hn a1 w1 g1 e1 i1
      · rename_i hid
        cases hr
        rw [if_neg hid]
        exact hn a1 w1 g1 e1 i1
    · rename_i hno
      refine wp_block (ih h1 hr i (fun a1 w1 g1 e1 i1 => ?_))
      cases ae with
      | normal => exact hn a1 w1 g1 e1 i1
      | exit id' => exact absurd hr (hno _ _ _)
      | ret => exact hn a1 w1 g1 e1 i1
  | loop c ih =>
    intro m ae fr fr' σ σ' a g w Q hcomp hr i hn
    simp only [compC, Option.map_eq_some_iff] at hcomp
    obtain ⟨m1, h1, rfl⟩ := hcomp
    simp only [runC] at hr
    have key : ∀ (n : Nat) (fr : Fr) (σ : St) (a : Act) (g : Gh) (w : World), iter (runC cal fuel m1) keep n fr σ = some (ae, fr', σ') → Inv P g w fr σ a →
        (∀ a' w' g', Ext g w g' w' → Inv P g' w' fr' σ' a' → Q ae.exit' a' w') → Code.rounds P c Q n a w := by
      intro n
      induction n with
      | zero => intro fr σ a g w h; cases h
      | succ n ihn =>
        intro fr σ a g w h i hn
        simp only [iter] at h
        rw [rounds_succ]
        split at h
        · rename_i fr1 σ1 h2
          exact ih h1 h2 (i.clear keep) (fun a1 w1 g1 e1 i1 => ihn fr1 σ1 a1 g1 w1 h i1 (fun a2 w2 g2 e2 i2 => hn a2 w2 g2 (e1.trans e2) i2))
        · rename_i hno
          refine ih h1 h (i.clear keep) (fun a1 w1 g1 e1 i1 => ?_)
          cases ae with
          | normal => exact absurd h (hno _ _)
          | exit id => exact hn a1 w1 g1 e1 i1
          | ret => exact hn a1 w1 g1 e1 i1
    exact wp_loop_rounds fuel (key fuel fr σ a g w hr i hn)
  | exit id =>
    intro m ae fr fr' σ σ' a g w Q hcomp hr i hn
    simp only [compC, Option.some.injEq] at hcomp
    subst hcomp
    simp only [runC, Option.some.injEq, Prod.mk.injEq] at hr
    obtain ⟨rfl, rfl, rfl⟩ := hr
    exact wp_exit (hn a w g (.refl g w) i)
  | ret =>
    intro m ae fr fr' σ σ' a g w Q hcomp hr i hn
    simp only [compC, Option.some.injEq] at hcomp
    subst hcomp
    simp only [runC, Option.some.injEq, Prod.mk.injEq] at hr
    obtain ⟨rfl, rfl, rfl⟩ := hr
    exact wp_ret (hn a w g (.refl g w) i)
  | _ =>
    intro m ae fr fr' σ σ' a g w Q hcomp
    simp [compC] at hcomp

end
end Go.Abs
