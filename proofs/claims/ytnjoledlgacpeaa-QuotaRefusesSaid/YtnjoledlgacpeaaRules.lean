import Derived.Test.YtnjoledlgacpeaaSem
import Derived.Laws.BitsLemmas
set_option linter.unusedVariables false
set_option linter.unusedSimpArgs false
namespace Go.Abs
open Go Go.Abs

def eInt (x : Int) : List D := [.int .i64 x]
def ints (c : List Int) : List (List D) := c.map eInt

/-- What a run comes to. -/
def Runs (r : RunR) (Q : AE → Fr → St → Prop) : Prop := ∃ ae fr σ, r = some (ae, fr, σ) ∧ Q ae fr σ

section
variable {cal : Cal} {fuel : Nat} {fr fr' : Fr} {σ σ' : St} {Q : AE → Fr → St → Prop}
theorem runs_region {q : Bool} {ops : List MOper} (h : runOps cal q ops fr σ = some (fr', σ')) (hq : Q .normal fr' σ') : Runs (runC cal fuel (.region q ops) fr σ) Q :=
  ⟨_, _, _, by simp only [runC, h, Option.map_some], hq⟩
theorem runs_done {q : Bool} (h : Q .normal fr σ) : Runs (runC cal fuel (.region q []) fr σ) Q := ⟨_, _, _, rfl, h⟩
theorem runs_op {q : Bool} {o : MOper} {ops : List MOper} {d : D} (hw : wantedD fr o.guard = some true) (he : evalOp cal q o.dst o.op fr σ = some (d, fr', σ')) (h : Runs (runC cal fuel (.region q ops) (fr'.put o.dst d) σ') Q) : Runs (runC cal fuel (.region q (o :: ops)) fr σ) Q := by
  obtain ⟨ae, fr2, σ2, h1, h2⟩ := h
  refine ⟨ae, fr2, σ2, ?_, h2⟩
  simp only [runC, runOps, runOp, hw, he] at h1 ⊢
  exact h1
theorem runs_not {q : Bool} {o : MOper} {ops : List MOper} (hw : wantedD fr o.guard = some false) (h : Runs (runC cal fuel (.region q ops) (fr.put o.dst .undef) σ) Q) : Runs (runC cal fuel (.region q (o :: ops)) fr σ) Q := by
  obtain ⟨ae, fr2, σ2, h1, h2⟩ := h
  refine ⟨ae, fr2, σ2, ?_, h2⟩
  simp only [runC, runOps, runOp, hw] at h1 ⊢
  exact h1
theorem ev_index {q : Bool} {dst : Option Nat} {x i : X} {es : List (List D)} {o : Option Nat} {k : IntKind} {n : Int} {e : List D} {esz : Nat} (hx : fr.val x = .sl es o) (hi : fr.val i = .int k n) (h0 : 0 ≤ n) (he : es[n.toNat]? = some e) (hl : e.length = esz) :
    evalOp cal q dst (.indexAddr esz x i) fr σ = some (.ref e, fr, σ) := by
  simp only [evalOp, hx, hi, intOf?, h0, if_true, he, hl]
theorem runs_seq {a b : MCode} (h : Runs (runC cal fuel a fr σ) (fun ae fr σ => match ae with | .normal => Runs (runC cal fuel b fr σ) Q | ae => Q ae fr σ)) : Runs (runC cal fuel (.seq a b) fr σ) Q := by
  obtain ⟨ae, fr1, σ1, h1, h2⟩ := h
  cases ae with
  | normal =>
    obtain ⟨ae2, fr2, σ2, h3, h4⟩ := h2
    exact ⟨ae2, fr2, σ2, by simp only [runC, h1, h3], h4⟩
  | exit id => exact ⟨_, _, _, by simp only [runC, h1], h2⟩
  | ret => exact ⟨_, _, _, by simp only [runC, h1], h2⟩
theorem runs_cond {x : X} {a b : MCode} {t : Bool} (hx : fr.val x = .bool t) (h : Runs (runC cal fuel (if t then a else b) fr σ) Q) : Runs (runC cal fuel (.cond x a b) fr σ) Q := by
  obtain ⟨ae, fr1, σ1, h1, h2⟩ := h
  cases t with
  | true => exact ⟨ae, fr1, σ1, by simp only [runC, hx]; exact h1, h2⟩
  | false => exact ⟨ae, fr1, σ1, by simp only [runC, hx]; exact h1, h2⟩
theorem runs_block {id : Nat} {c : MCode} (h : Runs (runC cal fuel c fr σ) (fun ae fr σ => match ae with | .exit i => if i = id then Q .normal fr σ else Q (.exit i) fr σ | ae => Q ae fr σ)) : Runs (runC cal fuel (.block id c) fr σ) Q := by
  obtain ⟨ae, fr1, σ1, h1, h2⟩ := h
  cases ae with
  | normal => exact ⟨_, _, _, by simp only [runC, h1], h2⟩
  | exit i =>
    simp only [] at h2
    by_cases hi : i = id
    · rw [if_pos hi] at h2
      exact ⟨_, _, _, by simp only [runC, h1, hi, if_true], h2⟩
    · rw [if_neg hi] at h2
      exact ⟨_, _, _, by simp only [runC, h1, hi, if_false], h2⟩
  | ret => exact ⟨_, _, _, by simp only [runC, h1], h2⟩
theorem runs_skip (h : Q .normal fr σ) : Runs (runC cal fuel .skip fr σ) Q := ⟨_, _, _, rfl, h⟩
theorem runs_exit {id : Nat} (h : Q (.exit id) fr σ) : Runs (runC cal fuel (.exit id) fr σ) Q := ⟨_, _, _, rfl, h⟩
theorem runs_ret (h : Q .ret fr σ) : Runs (runC cal fuel .ret fr σ) Q := ⟨_, _, _, rfl, h⟩

/-- A loop: J says what holds ahead of a round, of which so many are left. -/
theorem runs_loop {keep : List Nat} {c : MCode} (J : Nat → Fr → St → Prop) (k : Nat) (h0 : J k (fr.clear keep) σ) (hk : k < fuel)
    (round : ∀ k fr σ, J k fr σ → Runs (runC cal fuel c fr σ) (fun ae fr' σ' => match ae with | .normal => ∃ k', k' < k ∧ J k' (fr'.clear keep) σ' | ae => Q ae fr' σ')) : Runs (runC cal fuel (.loop keep c) fr σ) Q := by
  have key : ∀ (n k : Nat) (fr : Fr) (σ : St), J k (fr.clear keep) σ → k < n → Runs (iter (runC cal fuel c) keep n fr σ) Q := by
    intro n
    induction n with
    | zero => intro k fr σ _ h; omega
    | succ n ih =>
      intro k fr σ h hk
      obtain ⟨ae, fr1, σ1, h1, h2⟩ := round k _ _ h
      cases ae with
      | normal =>
        obtain ⟨k', hk', hJ⟩ := h2
        obtain ⟨ae2, fr2, σ2, h3, h4⟩ := ih k' fr1 σ1 hJ (by omega)
        exact ⟨ae2, fr2, σ2, by simp only [iter, h1, h3], h4⟩
      | exit i => exact ⟨_, _, _, by simp only [iter, h1], h2⟩
      | ret => exact ⟨_, _, _, by simp only [iter, h1], h2⟩
  exact key fuel k fr σ h0 hk

/-- A call, by its body. -/
theorem call_of {T : Table} {n f : Nat} {m : MFunc} {args : List D} {d : D} (hm : T f = some m) (hp : args.length = m.nparams) (hp2 : m.nparams ≤ m.ntmps)
    (h : Runs (runC (callN T n) n m.body (enterFr m args) σ) (fun ae fr σ1 => (ae = .normal ∨ ae = .ret) ∧ fr.defers = [] ∧ resultOf fr σ1 m.results = some (d, σ'))) : callN T (n + 1) f args σ = some (d, σ') := by
  obtain ⟨ae, fr, σ1, h1, h2, h3, h4⟩ := h
  have hb : runBody (callN T n) n m args σ = some (fr, σ1) := by
    unfold runBody
    rw [if_pos ⟨hp, hp2⟩, h1]
    rcases h2 with rfl | rfl <;> rfl
  simp only [callN, hm, hb, h3, List.isEmpty_nil, if_true]
  exact h4
end
end Go.Abs
