import Derived.Test.YtlmgngibnioljaaGreatSem
import Derived.Laws.BitsLemmas
import Derived.KernelRfl
import Derived.Test.YtlmgngibnioljaaGreatClone
set_option linter.unusedVariables false
set_option linter.unusedSimpArgs false
namespace Go.Abs
open Go Go.Abs

def eInt (x : Int) : List D := [.int .i64 x]
def ints (c : List Int) : List (List D) := c.map eInt

/-- What a run comes to. -/
def Runs (r : RunR) (Q : AE → Fr → St → Prop) : Prop := ∃ ae fr σ, r = some (ae, fr, σ) ∧ Q ae fr σ

section
variable {cal : Cal} {fuel : Nat} {fr fr' : Fr} {σ σ' : St} {Q : AE → Fr → St → Prop}
theorem runs_region {q : Bool} {ops : List MOper} (h : runOps cal q ops fr σ = some (fr', σ')) (hq : Q .normal fr' σ') : Runs (runC cal fuel (.region q ops) fr σ) Q :=
  ⟨_, _, _, by simp only [runC, h, Option.map_some], hq⟩
theorem runs_done {q : Bool} (h : Q .normal fr σ) : Runs (runC cal fuel (.region q []) fr σ) Q := ⟨_, _, _, rfl, h⟩
theorem runs_op {q : Bool} {o : MOper} {ops : List MOper} {d : D} (hw : wantedD fr o.guard = some true) (he : evalOp cal q o.dst o.op fr σ = some (d, fr', σ')) (h : Runs (runC cal fuel (.region q ops) (fr'.put o.dst d) σ') Q) : Runs (runC cal fuel (.region q (o :: ops)) fr σ) Q := by
  obtain ⟨ae, fr2, σ2, h1, h2⟩ := h
  refine ⟨ae, fr2, σ2, ?_, h2⟩
  simp only [runC, runOps, runOp, hw, he] at h1 ⊢
  exact h1
theorem runs_not {q : Bool} {o : MOper} {ops : List MOper} (hw : wantedD fr o.guard = some false) (h : Runs (runC cal fuel (.region q ops) (fr.put o.dst .undef) σ) Q) : Runs (runC cal fuel (.region q (o :: ops)) fr σ) Q := by
  obtain ⟨ae, fr2, σ2, h1, h2⟩ := h
  refine ⟨ae, fr2, σ2, ?_, h2⟩
  simp only [runC, runOps, runOp, hw] at h1 ⊢
  exact h1
theorem ev_index {q : Bool} {dst : Option Nat} {x i : X} {es : List (List D)} {o : Option Nat} {k : IntKind} {n : Int} {e : List D} {esz : Nat} (hx : fr.val x = .sl es o) (hi : fr.val i = .int k n) (h0 : 0 ≤ n) (he : es[n.toNat]? = some e) (hl : e.length = esz) :
    evalOp cal q dst (.indexAddr esz x i) fr σ = some (.ref e, fr, σ) := by
  simp only [evalOp, hx, hi, intOf?, h0, if_true, he, hl]
theorem runs_seq {a b : MCode} (h : Runs (runC cal fuel a fr σ) (fun ae fr σ => match ae with | .normal => Runs (runC cal fuel b fr σ) Q | ae => Q ae fr σ)) : Runs (runC cal fuel (.seq a b) fr σ) Q := by
  obtain ⟨ae, fr1, σ1, h1, h2⟩ := h
  cases ae with
  | normal =>
    obtain ⟨ae2, fr2, σ2, h3, h4⟩ := h2
    exact ⟨ae2, fr2, σ2, by simp only [runC, h1, h3], h4⟩
  | exit id => exact ⟨_, _, _, by simp only [runC, h1], h2⟩
  | ret => exact ⟨_, _, _, by simp only [runC, h1], h2⟩
theorem runs_cond {x : X} {a b : MCode} {t : Bool} (hx : fr.val x = .bool t) (h : Runs (runC cal fuel (if t then a else b) fr σ) Q) : Runs (runC cal fuel (.cond x a b) fr σ) Q := by
  obtain ⟨ae, fr1, σ1, h1, h2⟩ := h
  cases t with
  | true => exact ⟨ae, fr1, σ1, by simp only [runC, hx]; exact h1, h2⟩
  | false => exact ⟨ae, fr1, σ1, by simp only [runC, hx]; exact h1, h2⟩
theorem runs_block {id : Nat} {c : MCode} (h : Runs (runC cal fuel c fr σ) (fun ae fr σ => match ae with | .exit i => if i = id then Q .normal fr σ else Q (.exit i) fr σ | ae => Q ae fr σ)) : Runs (runC cal fuel (.block id c) fr σ) Q := by
  obtain ⟨ae, fr1, σ1, h1, h2⟩ := h
  cases ae with
  | normal => exact ⟨_, _, _, by simp only [runC, h1], h2⟩
  | exit i =>
    simp only [] at h2
    by_cases hi : i = id
    · rw [if_pos hi] at h2
      exact ⟨_, _, _, by simp only [runC, h1, hi, if_true], h2⟩
    · rw [if_neg hi] at h2
      exact ⟨_, _, _, by simp only [runC, h1, hi, if_false], h2⟩
  | ret => exact ⟨_, _, _, by simp only [runC, h1], h2⟩
theorem runs_skip (h : Q .normal fr σ) : Runs (runC cal fuel .skip fr σ) Q := ⟨_, _, _, rfl, h⟩
theorem runs_exit {id : Nat} (h : Q (.exit id) fr σ) : Runs (runC cal fuel (.exit id) fr σ) Q := ⟨_, _, _, rfl, h⟩
theorem runs_ret (h : Q .ret fr σ) : Runs (runC cal fuel .ret fr σ) Q := ⟨_, _, _, rfl, h⟩

/-- A loop: J says what holds ahead of a round, of which so many are left. -/
theorem runs_loop {keep : List Nat} {c : MCode} (J : Nat → Fr → St → Prop) (k : Nat) (h0 : J k (fr.clear keep) σ) (hk : k < fuel)
    (round : ∀ k fr σ, J k fr σ → Runs (runC cal fuel c fr σ) (fun ae fr' σ' => match ae with | .normal => ∃ k', k' < k ∧ J k' (fr'.clear keep) σ' | ae => Q ae fr' σ')) : Runs (runC cal fuel (.loop keep c) fr σ) Q := by
  have key : ∀ (n k : Nat) (fr : Fr) (σ : St), J k (fr.clear keep) σ → k < n → Runs (iter (runC cal fuel c) keep n fr σ) Q := by
    intro n
    induction n with
    | zero => intro k fr σ _ h; omega
    | succ n ih =>
      intro k fr σ h hk
      obtain ⟨ae, fr1, σ1, h1, h2⟩ := round k _ _ h
      cases ae with
      | normal =>
        obtain ⟨k', hk', hJ⟩ := h2
        obtain ⟨ae2, fr2, σ2, h3, h4⟩ := ih k' fr1 σ1 hJ (by omega)
        exact ⟨ae2, fr2, σ2, by simp only [iter, h1, h3], h4⟩
      | exit i => exact ⟨_, _, _, by simp only [iter, h1], h2⟩
      | ret => exact ⟨_, _, _, by simp only [iter, h1], h2⟩
  exact key fuel k fr σ h0 hk

/-- A call, by its body. -/
theorem call_of {T : Table} {n f : Nat} {m : MFunc} {args : List D} {d : D} (hm : T f = some m) (hp : args.length = m.nparams) (hp2 : m.nparams ≤ m.ntmps)
    (h : Runs (runC (callN T n) n m.body (enterFr m args) σ) (fun ae fr σ1 => (ae = .normal ∨ ae = .ret) ∧ fr.defers = [] ∧ resultOf fr σ1 m.results = some (d, σ'))) : callN T (n + 1) f args σ = some (d, σ') := by
  obtain ⟨ae, fr, σ1, h1, h2, h3, h4⟩ := h
  have hb : runBody (callN T n) n m args σ = some (fr, σ1) := by
    unfold runBody
    rw [if_pos ⟨hp, hp2⟩, h1]
    rcases h2 with rfl | rfl <;> rfl
  simp only [callN, hm, hb, h3, List.isEmpty_nil, if_true]
  exact h4
end
end Go.Abs

/-
  Rules for the machine code's runs, with what is left to do kept on a stack.
-/
namespace Go.Abs
open Go Go.Abs

inductive KF where
  | seq (c : MCode)
  | block (id : Nat)
  | back (P : Fr → St → Prop)

def kont (cal : Cal) (fuel : Nat) : List KF → (AE → Fr → St → Prop) → AE → Fr → St → Prop
  | [], Q, ae, fr, σ => Q ae fr σ
  | .seq b :: k, Q, ae, fr, σ =>
    match ae with
    | .normal => Runs (runC cal fuel b fr σ) (kont cal fuel k Q)
    | ae => kont cal fuel k Q ae fr σ
  | .block id :: k, Q, ae, fr, σ =>
    match ae with
    | .exit i => if i = id then kont cal fuel k Q .normal fr σ else kont cal fuel k Q (.exit i) fr σ
    | ae => kont cal fuel k Q ae fr σ
  | .back P :: k, Q, ae, fr, σ =>
    match ae with
    | .normal => P fr σ
    | ae => kont cal fuel k Q ae fr σ

section
variable {cal : Cal} {fuel : Nat} {k : List KF} {fr fr' : Fr} {σ σ' : St} {Q : AE → Fr → St → Prop} {R : AE → Fr → St → Prop}

theorem k_start {c : MCode} (h : Runs (runC cal fuel c fr σ) (kont cal fuel [] Q)) : Runs (runC cal fuel c fr σ) Q := by
  obtain ⟨ae, fr, σ, h1, h2⟩ := h
  exact ⟨ae, fr, σ, h1, h2⟩
theorem k_seq {a b : MCode} (h : Runs (runC cal fuel a fr σ) (kont cal fuel (.seq b :: k) Q)) : Runs (runC cal fuel (.seq a b) fr σ) (kont cal fuel k Q) := by
  refine runs_seq ?_
  obtain ⟨ae, fr1, σ1, h1, h2⟩ := h
  refine ⟨ae, fr1, σ1, h1, ?_⟩
  cases ae <;> exact h2
theorem k_block {id : Nat} {c : MCode} (h : Runs (runC cal fuel c fr σ) (kont cal fuel (.block id :: k) Q)) : Runs (runC cal fuel (.block id c) fr σ) (kont cal fuel k Q) := by
  refine runs_block ?_
  obtain ⟨ae, fr1, σ1, h1, h2⟩ := h
  refine ⟨ae, fr1, σ1, h1, ?_⟩
  cases ae <;> exact h2
theorem k_skip_seq {b : MCode} (h : Runs (runC cal fuel b fr σ) (kont cal fuel k Q)) : Runs (runC cal fuel .skip fr σ) (kont cal fuel (.seq b :: k) Q) := runs_skip h
theorem k_skip_block {id : Nat} (h : Runs (runC cal fuel .skip fr σ) (kont cal fuel k Q)) : Runs (runC cal fuel .skip fr σ) (kont cal fuel (.block id :: k) Q) := by
  obtain ⟨ae, fr1, σ1, h1, h2⟩ := h
  cases h1
  exact runs_skip h2
theorem k_skip_back {P : Fr → St → Prop} (h : P fr σ) : Runs (runC cal fuel .skip fr σ) (kont cal fuel (.back P :: k) Q) := runs_skip h
theorem k_skip_nil (h : Q .normal fr σ) : Runs (runC cal fuel .skip fr σ) (kont cal fuel [] Q) := runs_skip h
theorem k_exit_seq {i : Nat} {b : MCode} (h : Runs (runC cal fuel (.exit i) fr σ) (kont cal fuel k Q)) : Runs (runC cal fuel (.exit i) fr σ) (kont cal fuel (.seq b :: k) Q) := by
  obtain ⟨ae, fr1, σ1, h1, h2⟩ := h
  cases h1
  exact runs_exit h2
theorem k_exit_back {i : Nat} {P : Fr → St → Prop} (h : Runs (runC cal fuel (.exit i) fr σ) (kont cal fuel k Q)) : Runs (runC cal fuel (.exit i) fr σ) (kont cal fuel (.back P :: k) Q) := by
  obtain ⟨ae, fr1, σ1, h1, h2⟩ := h
  cases h1
  exact runs_exit h2
theorem k_exit_hit {i id : Nat} (hi : i = id) (h : Runs (runC cal fuel .skip fr σ) (kont cal fuel k Q)) : Runs (runC cal fuel (.exit i) fr σ) (kont cal fuel (.block id :: k) Q) := by
  obtain ⟨ae, fr1, σ1, h1, h2⟩ := h
  cases h1
  refine runs_exit ?_
  show (if i = id then _ else _)
  rw [if_pos hi]
  exact h2
theorem k_exit_miss {i id : Nat} (hi : i ≠ id) (h : Runs (runC cal fuel (.exit i) fr σ) (kont cal fuel k Q)) : Runs (runC cal fuel (.exit i) fr σ) (kont cal fuel (.block id :: k) Q) := by
  obtain ⟨ae, fr1, σ1, h1, h2⟩ := h
  cases h1
  refine runs_exit ?_
  show (if i = id then _ else _)
  rw [if_neg hi]
  exact h2
theorem k_exit_nil {i : Nat} (h : Q (.exit i) fr σ) : Runs (runC cal fuel (.exit i) fr σ) (kont cal fuel [] Q) := runs_exit h
theorem kont_ret : ∀ (k : List KF), Q .ret fr σ → kont cal fuel k Q .ret fr σ
  | [], h => h
  | .seq _ :: k, h => kont_ret k h
  | .block _ :: k, h => kont_ret k h
  | .back _ :: k, h => kont_ret k h
theorem k_ret (h : Q .ret fr σ) : Runs (runC cal fuel .ret fr σ) (kont cal fuel k Q) := runs_ret (kont_ret k h)
theorem k_done {q : Bool} (h : Runs (runC cal fuel .skip fr σ) R) : Runs (runC cal fuel (.region q []) fr σ) R := by
  obtain ⟨ae, fr1, σ1, h1, h2⟩ := h
  cases h1
  exact ⟨_, _, _, rfl, h2⟩
theorem k_alt {q : Bool} {os ms : List MOper} {alts : List (Bool × List MOper)} {pre : List (List Nat)} (h : Runs (runC cal fuel (.region q os) fr σ) R) : Runs (runC cal fuel (.regionQ ((q, os) :: alts) ms pre) fr σ) R := by
  obtain ⟨ae, fr1, σ1, h1, h2⟩ := h
  refine ⟨ae, fr1, σ1, ?_, h2⟩
  simp only [runC, runAlts, Option.map_eq_some_iff] at h1 ⊢
  obtain ⟨⟨fr2, σ2⟩, h3, h4⟩ := h1
  rw [h3]
  cases h4
  rfl
theorem k_alt2 {q q2 : Bool} {os os2 ms : List MOper} {alts : List (Bool × List MOper)} {pre : List (List Nat)} (h0 : runOps cal q os fr σ = none) (h : Runs (runC cal fuel (.region q2 os2) fr σ) R) : Runs (runC cal fuel (.regionQ ((q, os) :: (q2, os2) :: alts) ms pre) fr σ) R := by
  obtain ⟨ae, fr1, σ1, h1, h2⟩ := h
  refine ⟨ae, fr1, σ1, ?_, h2⟩
  simp only [runC, runAlts, h0, Option.map_eq_some_iff] at h1 ⊢
  obtain ⟨⟨fr2, σ2⟩, h3, h4⟩ := h1
  rw [h3]
  cases h4
  rfl
theorem k_cond_t {x : X} {a b : MCode} (hx : fr.val x = .bool true) (h : Runs (runC cal fuel a fr σ) R) : Runs (runC cal fuel (.cond x a b) fr σ) R := runs_cond (t := true) hx h
theorem k_cond_f {x : X} {a b : MCode} (hx : fr.val x = .bool false) (h : Runs (runC cal fuel b fr σ) R) : Runs (runC cal fuel (.cond x a b) fr σ) R := runs_cond (t := false) hx h

/-- A loop, whose frames and stores are told by a state. -/
theorem k_loop {S : Type} (F : S → Fr) (G : S → St) (I : S → Prop) (μ : S → Nat) (s0 : S) {keep : List Nat} {c : MCode} (hf : fr.clear keep = F s0) (hg : σ = G s0) (hi : I s0) (hm : ∀ s, I s → μ s < fuel)
    (round : ∀ s, I s → Runs (runC cal fuel c (F s) (G s)) (kont cal fuel (.back (fun fr' σ' => ∃ s', I s' ∧ μ s' < μ s ∧ fr'.clear keep = F s' ∧ σ' = G s') :: k) Q)) : Runs (runC cal fuel (.loop keep c) fr σ) (kont cal fuel k Q) := by
  refine runs_loop (fun m fr σ => ∃ s, I s ∧ μ s = m ∧ fr = F s ∧ σ = G s) (μ s0) ⟨s0, hi, rfl, hf, hg⟩ (hm s0 hi) ?_
  rintro m fr σ ⟨s, hI, rfl, rfl, rfl⟩
  obtain ⟨ae, fr1, σ1, h1, h2⟩ := round s hI
  refine ⟨ae, fr1, σ1, h1, ?_⟩
  cases ae with
  | normal =>
    obtain ⟨s', h3, h4, h5, h6⟩ := h2
    exact ⟨μ s', h4, s', h3, rfl, h5, h6⟩
  | exit i => exact h2
  | ret => exact h2

theorem set_self : ∀ (l : List D) (t : Nat), l.set t (l.getD t .junk) = l
  | [], _ => rfl
  | d :: l, 0 => rfl
  | d :: l, t + 1 => by
    show d :: l.set t (l.getD t .junk) = d :: l
    rw [set_self l t]

/-- What is known of a slot. -/
theorem runs_know {c : MCode} (t : Nat) {d d' : D} (ht : fr.at t = d) (hd : d = d') (h : Runs (runC cal fuel c (fr.set t d') σ) R) : Runs (runC cal fuel c fr σ) R := by
  subst hd ht
  have : fr.set t (fr.at t) = fr := by
    unfold Fr.set Fr.at
    rw [set_self]
  rwa [this] at h

theorem runs_v {q : Bool} {dst : Option Nat} {op : MOp} {g : Option (Nat × Bool)} {ops : List MOper} (d' : D) (hw : wantedD fr g = some true) (he : evalOp cal q dst op fr σ = some (d', fr, σ)) (h : Runs (runC cal fuel (.region q ops) (fr.put dst d') σ) R) : Runs (runC cal fuel (.region q (⟨dst, op, g⟩ :: ops)) fr σ) R := runs_op hw he h
theorem runs_ve {q : Bool} {dst : Option Nat} {op : MOp} {g : Option (Nat × Bool)} {ops : List MOper} (d d' : D) (hd : d = d') (hw : wantedD fr g = some true) (he : evalOp cal q dst op fr σ = some (d, fr, σ)) (h : Runs (runC cal fuel (.region q ops) (fr.put dst d') σ) R) : Runs (runC cal fuel (.region q (⟨dst, op, g⟩ :: ops)) fr σ) R := by
  subst hd
  exact runs_op hw he h
theorem runs_g {q : Bool} {dst : Option Nat} {op : MOp} {g : Option (Nat × Bool)} {ops : List MOper} (d' : D) (fr' : Fr) (σ' : St) (hw : wantedD fr g = some true) (he : evalOp cal q dst op fr σ = some (d', fr', σ')) (h : Runs (runC cal fuel (.region q ops) (fr'.put dst d') σ') R) : Runs (runC cal fuel (.region q (⟨dst, op, g⟩ :: ops)) fr σ) R := runs_op hw he h
theorem runs_no {q : Bool} {dst : Option Nat} {op : MOp} {g : Option (Nat × Bool)} {ops : List MOper} (hw : wantedD fr g = some false) (h : Runs (runC cal fuel (.region q ops) (fr.put dst .undef) σ) R) : Runs (runC cal fuel (.region q (⟨dst, op, g⟩ :: ops)) fr σ) R := runs_not hw h
theorem runs_steal {q : Bool} {dst : Option Nat} {t : Nat} {g : Option (Nat × Bool)} {ops : List MOper} (d : D) (hw : wantedD fr g = some true) (hd : fr.at t = d) (h : Runs (runC cal fuel (.region q ops) ((fr.set t d.strip).put dst d) σ) R) : Runs (runC cal fuel (.region q (⟨dst, .move (.tmp t) true, g⟩ :: ops)) fr σ) R := by
  subst hd
  exact runs_op hw rfl h
theorem runs_assign {q : Bool} {dst : Option Nat} {t : Nat} {g : Option (Nat × Bool)} {ops : List MOper} (d : D) (hw : wantedD fr g = some true) (hd : fr.at t = d) (h : Runs (runC cal fuel (.region q ops) ((fr.set t d.strip).put dst d) σ) R) : Runs (runC cal fuel (.region q (⟨dst, .assign (.tmp t), g⟩ :: ops)) fr σ) R := by
  subst hd
  exact runs_op hw rfl h
theorem set_at {fr : Fr} {t : Nat} {d : D} (hd : fr.at t = d) (hs : d.strip = d) : fr.set t d.strip = fr := by
  subst hd
  rw [hs]
  unfold Fr.set Fr.at
  rw [set_self]
theorem runs_steal0 {q : Bool} {dst : Option Nat} {t : Nat} {g : Option (Nat × Bool)} {ops : List MOper} (d : D) (hw : wantedD fr g = some true) (hd : fr.at t = d) (hs : d.strip = d) (h : Runs (runC cal fuel (.region q ops) (fr.put dst d) σ) R) : Runs (runC cal fuel (.region q (⟨dst, .move (.tmp t) true, g⟩ :: ops)) fr σ) R := by
  refine runs_steal d hw hd ?_
  rw [set_at hd hs]
  exact h
theorem runs_assign0 {q : Bool} {dst : Option Nat} {t : Nat} {g : Option (Nat × Bool)} {ops : List MOper} (d : D) (hw : wantedD fr g = some true) (hd : fr.at t = d) (hs : d.strip = d) (h : Runs (runC cal fuel (.region q ops) (fr.put dst d) σ) R) : Runs (runC cal fuel (.region q (⟨dst, .assign (.tmp t), g⟩ :: ops)) fr σ) R := by
  refine runs_assign d hw hd ?_
  rw [set_at hd hs]
  exact h
theorem runs_append {q : Bool} {dst : Option Nat} {t e esz bytes : Nat} {y : X} {g : Option (Nat × Bool)} {ops : List MOper} (xs ys zs : List (List D)) (hw : wantedD fr g = some true) (hd : fr.at t = .sl xs (some e)) (hy : elems σ (fr.val y) = some ys) (hz : (ys.all fun y => y.length == esz) = true)
    (hb : (xs.length + ys.length) * bytes ≤ room ∧ xs.length + ys.length < 4611686018427387904) (hzs : xs ++ ys = zs)
    (h : Runs (runC cal fuel (.region q ops) ((fr.set t (.sl xs none)).put dst (.sl zs (some e))) σ) R) : Runs (runC cal fuel (.region q (⟨dst, .append e esz bytes false (.tmp t) y, g⟩ :: ops)) fr σ) R := by
  subst hzs
  refine runs_op (d := .sl (xs ++ ys) (some e)) (fr' := fr.set t (.sl xs none)) (σ' := σ) hw ?_ h
  simp only [evalOp, hy, hz, if_true, Bool.false_eq_true, if_false, Fr.take, hd, D.strip, true_and]
  rw [if_pos hb]
theorem ev_call {dst : Option Nat} {f : Nat} {args : List X} {ds ds' : List D} {r : D} {fr1 : Fr} (hp : fr.promoteAll σ args = some (ds, fr1, σ)) (hq : ds.all pureArg = true) (hs : snap σ ds = some (ds', [])) {σc : St} (hc : cal f ds' [] = some (r, σc)) {r' : D} (hf : freeze σc r = some r') :
    evalOp cal false dst (.call f args) fr σ = some (r', fr1, σ) := by
  simp only [evalOp, Bool.false_eq_true, if_false, hp, doCall, hq, if_true, hs, hc, hf, List.isEmpty_nil, Bool.true_or, Option.map_some]
theorem runs_call {dst : Option Nat} {f : Nat} {args : List X} {g : Option (Nat × Bool)} {ops : List MOper} (ds : List D) (hw : wantedD fr g = some true) (hp : fr.promoteAll σ args = some (ds, fr, σ)) (hq : ds.all pureArg = true) (hs : snap σ ds = some (ds, [])) {r : D} {σc : St} (hc : cal f ds [] = some (r, σc)) (hf : freeze σc r = some r)
    (h : Runs (runC cal fuel (.region false ops) (fr.put dst r) σ) R) : Runs (runC cal fuel (.region false (⟨dst, .call f args, g⟩ :: ops)) fr σ) R :=
  runs_op hw (ev_call hp hq hs hc hf) h
theorem runs_index {q : Bool} {dst : Option Nat} {esz : Nat} {x i : X} {g : Option (Nat × Bool)} {ops : List MOper} {α : Type} (c : List α) (f : α → List D) {o : Option Nat} {kd : IntKind} (j : Nat) (hw : wantedD fr g = some true) (hx : fr.val x = .sl (c.map f) o) (hi : fr.val i = .int kd (j : Int)) (hj : j < c.length) (hl : (f c[j]).length = esz)
    (h : Runs (runC cal fuel (.region q ops) (fr.put dst (.ref (f c[j]))) σ) R) : Runs (runC cal fuel (.region q (⟨dst, .indexAddr esz x i, g⟩ :: ops)) fr σ) R := by
  refine runs_op hw ?_ h
  exact ev_index hx hi (Int.natCast_nonneg j) (by simp [hj]) hl
end

section
variable {cal : Cal} {fuel : Nat} {k : List KF} {fr fr' : Fr} {σ σ' : St} {R : AE → Fr → St → Prop}
/-- The frame that an operation leaves. -/
def frOf : Option (D × Fr × St) → Fr
  | some r => r.2.1
  | none => ⟨[], [], []⟩
theorem runs_gs {q : Bool} {dst : Option Nat} {op : MOp} {g : Option (Nat × Bool)} {ops : List MOper} (d' : D) (σ' : St) (hw : wantedD fr g = some true) (he : evalOp cal q dst op fr σ = some (d', fr, σ')) (h : Runs (runC cal fuel (.region q ops) (fr.put dst d') σ') R) : Runs (runC cal fuel (.region q (⟨dst, op, g⟩ :: ops)) fr σ) R := runs_op hw he h
theorem runs_gf {q : Bool} {dst : Option Nat} {op : MOp} {g : Option (Nat × Bool)} {ops : List MOper} (d' : D) (σ' : St) (hw : wantedD fr g = some true) (he : (evalOp cal q dst op fr σ).map (fun r => (r.1, r.2.2)) = some (d', σ')) (h : Runs (runC cal fuel (.region q ops) ((frOf (evalOp cal q dst op fr σ)).put dst d') σ') R) : Runs (runC cal fuel (.region q (⟨dst, op, g⟩ :: ops)) fr σ) R := by
  cases hr : evalOp cal q dst op fr σ with
  | none => rw [hr] at he; cases he
  | some r =>
    obtain ⟨d, fr1, σ1⟩ := r
    rw [hr] at he h
    simp only [Option.map_some, Option.some.injEq, Prod.mk.injEq] at he
    obtain ⟨rfl, rfl⟩ := he
    exact runs_op hw hr h
theorem runs_hit {q : Bool} {dst : Option Nat} {kk : Nat} {z : List D} {x i : X} {g : Option (Nat × Bool)} {ops : List MOper} (o : Nat) (es : List (D × D)) (kv v : D) (hw : wantedD fr g = some true) (hx : fr.val x = .map o) (ho : σ[o]? = some (.map es)) (hi : fr.val i = kv) (hk : keyD kk kv = true) (hf : findKey kk kv es = some (some v))
    (h : Runs (runC cal fuel (.region q ops) (fr.put dst v) σ) R) : Runs (runC cal fuel (.region q (⟨dst, .lookup kk false z x i false, g⟩ :: ops)) fr σ) R := by
  refine runs_op hw ?_ h
  simp only [evalOp, mapOf, hx, ho, hi, hk, hf, if_true, Bool.false_eq_true, if_false]
theorem runs_miss {q : Bool} {dst : Option Nat} {kk : Nat} {z : D} {x i : X} {g : Option (Nat × Bool)} {ops : List MOper} (o : Nat) (es : List (D × D)) (kv : D) (hw : wantedD fr g = some true) (hx : fr.val x = .map o) (ho : σ[o]? = some (.map es)) (hi : fr.val i = kv) (hk : keyD kk kv = true) (hf : findKey kk kv es = some none)
    (h : Runs (runC cal fuel (.region q ops) (fr.put dst z.strip) σ) R) : Runs (runC cal fuel (.region q (⟨dst, .lookup kk false [z] x i false, g⟩ :: ops)) fr σ) R := by
  refine runs_op hw ?_ h
  simp only [evalOp, mapOf, hx, ho, hi, hk, hf, if_true, Bool.false_eq_true, if_false, List.isEmpty_nil]
theorem runs_hit2 {q : Bool} {dst : Option Nat} {kk : Nat} {z : List D} {x i : X} {g : Option (Nat × Bool)} {ops : List MOper} (o : Nat) (es : List (D × D)) (kv v : D) (hw : wantedD fr g = some true) (hx : fr.val x = .map o) (ho : σ[o]? = some (.map es)) (hi : fr.val i = kv) (hk : keyD kk kv = true) (hf : findKey kk kv es = some (some v))
    (h : Runs (runC cal fuel (.region q ops) (fr.put dst (.tup [v, .bool true])) σ) R) : Runs (runC cal fuel (.region q (⟨dst, .lookup kk false z x i true, g⟩ :: ops)) fr σ) R := by
  refine runs_op hw ?_ h
  simp only [evalOp, mapOf, hx, ho, hi, hk, hf, if_true, Bool.false_eq_true, if_false]
theorem runs_miss2 {q : Bool} {dst : Option Nat} {kk : Nat} {z : D} {x i : X} {g : Option (Nat × Bool)} {ops : List MOper} (o : Nat) (es : List (D × D)) (kv : D) (hw : wantedD fr g = some true) (hx : fr.val x = .map o) (ho : σ[o]? = some (.map es)) (hi : fr.val i = kv) (hk : keyD kk kv = true) (hf : findKey kk kv es = some none)
    (h : Runs (runC cal fuel (.region q ops) (fr.put dst (.tup [z.strip, .bool false])) σ) R) : Runs (runC cal fuel (.region q (⟨dst, .lookup kk false [z] x i true, g⟩ :: ops)) fr σ) R := by
  refine runs_op hw ?_ h
  simp only [evalOp, mapOf, hx, ho, hi, hk, hf, if_true, Bool.false_eq_true, if_false, List.isEmpty_nil]
theorem runs_update {q : Bool} {dst : Option Nat} {kk : Nat} {m i x : X} {g : Option (Nat × Bool)} {ops : List MOper} (o : Nat) (es es' : List (D × D)) (kv v : D) (hw : wantedD fr g = some true) (hx : fr.val m = .map o) (ho : σ[o]? = some (.map es)) (hi : fr.val i = kv) (hv : fr.val x = v) (hk : keyD kk kv = true) (hn : v.notL = true) (hf : putKey kk kv v es = some es')
    (h : Runs (runC cal fuel (.region q ops) (fr.put dst .junk) (σ.set o (.map es'))) R) : Runs (runC cal fuel (.region q (⟨dst, .mapUpdate kk m i x, g⟩ :: ops)) fr σ) R := by
  refine runs_op hw ?_ h
  simp only [evalOp, mapOf, hx, ho, hi, hv, hk, hn, hf, and_self, if_true, Option.map_some]
theorem runs_call_st {dst : Option Nat} {f : Nat} {args : List X} {g : Option (Nat × Bool)} {ops : List MOper} (ds : List D) (hw : wantedD fr g = some true) (hp : fr.promoteAll σ args = some (ds, fr, σ)) (hq : ds.all pureArg = false) (hn : ds.all D.notL = true) {r : D} {σ' : St} (hc : cal f ds σ = some (r, σ'))
    (h : Runs (runC cal fuel (.region false ops) (fr.put dst r) σ') R) : Runs (runC cal fuel (.region false (⟨dst, .call f args, g⟩ :: ops)) fr σ) R := by
  refine runs_op hw ?_ h
  simp only [evalOp, Bool.false_eq_true, if_false, hp, doCall, hq, hn, hc, if_true, Option.map_some]
theorem runs_callQ {dst : Option Nat} {f : Nat} {args : List X} {g : Option (Nat × Bool)} {ops : List MOper} (ds : List D) (hw : wantedD fr g = some true) (hp : (args.map fun x => (fr.val x).deep) = ds) (hq : ds.all pureArg = true) (hs : snap σ ds = some (ds, [])) {r : D} {σc : St} (hc : cal f ds [] = some (r, σc)) (hf : freeze σc r = some r)
    (h : Runs (runC cal fuel (.region true ops) (fr.put dst r) σ) R) : Runs (runC cal fuel (.region true (⟨dst, .call f args, g⟩ :: ops)) fr σ) R := by
  subst hp
  refine runs_op hw ?_ h
  simp only [evalOp, if_true, doCallQ, hq, hs, hc, hf, List.isEmpty_nil, Bool.true_or, Option.map_some]
theorem runs_callv_st {dst : Option Nat} {x : X} {args : List X} {g : Option (Nat × Bool)} {ops : List MOper} (f : Nat) (caps ds as : List D) (hw : wantedD fr g = some true) (hx : fr.val x = .func f caps) (hp : fr.promoteAll σ args = some (ds, fr, σ)) (has : ds ++ caps = as) (hq : as.all pureArg = false) (hn : as.all D.notL = true) {r : D} {σ' : St} (hc : cal f as σ = some (r, σ'))
    (h : Runs (runC cal fuel (.region false ops) (fr.put dst r) σ') R) : Runs (runC cal fuel (.region false (⟨dst, .callv x args, g⟩ :: ops)) fr σ) R := by
  subst has
  refine runs_op hw ?_ h
  simp only [evalOp, Bool.false_eq_true, if_false, hx, hp, doCall, hq, hn, hc, if_true, Option.map_some]
theorem runs_callv {dst : Option Nat} {x : X} {args : List X} {g : Option (Nat × Bool)} {ops : List MOper} (f : Nat) (caps ds as : List D) (hw : wantedD fr g = some true) (hx : fr.val x = .func f caps) (hp : fr.promoteAll σ args = some (ds, fr, σ)) (has : ds ++ caps = as) (hq : as.all pureArg = true) (hs : snap σ as = some (as, [])) {r : D} {σc : St} (hc : cal f as [] = some (r, σc)) (hf : freeze σc r = some r)
    (h : Runs (runC cal fuel (.region false ops) (fr.put dst r) σ) R) : Runs (runC cal fuel (.region false (⟨dst, .callv x args, g⟩ :: ops)) fr σ) R := by
  subst has
  refine runs_op hw ?_ h
  simp only [evalOp, Bool.false_eq_true, if_false, hx, hp, doCall, hq, hs, hc, hf, if_true, List.isEmpty_nil, Bool.true_or, Option.map_some]
end

theorem runs_slice2 {cal : Cal} {fuel : Nat} {fr : Fr} {σ : St} {R : AE → Fr → St → Prop} {q : Bool} {dst : Option Nat} {esz : Nat} {x : X} {lo hi : Option X} {g : Option (Nat × Bool)} {ops : List MOper} (es r : List (List D)) {o : Option Nat} {k1 k2 : IntKind} (l h : Nat) (hw : wantedD fr g = some true) (hx : fr.val x = .sl es o) (hlo : fr.optVal lo = some (.int k1 (l : Int))) (hhi : fr.optVal hi = some (.int k2 (h : Int))) (hc : l ≤ h ∧ h ≤ es.length) (ha : (es.all fun e => e.length == esz) = true) (hr : (es.drop l).take (h - l) = r)
    (hn : Runs (runC cal fuel (.region q ops) (fr.put dst (.sl r none)) σ) R) : Runs (runC cal fuel (.region q (⟨dst, .slice esz x lo hi, g⟩ :: ops)) fr σ) R := by
  subst hr
  refine runs_op hw ?_ hn
  have h1 : loD (fr.optVal lo) = some l := by rw [hlo]; simp [loD, intOf?]
  have h2 : hiD es.length (fr.optVal hi) = some h := by rw [hhi]; simp [hiD, intOf?]
  simp only [evalOp, hx, h1, h2]
  rw [if_pos ⟨hc.1, hc.2, ha⟩]
section
variable {cal : Cal} {fuel : Nat} {fr : Fr} {σ : St} {R : AE → Fr → St → Prop}
theorem rv {q : Bool} {dst : Option Nat} {op : MOp} {g : Option (Nat × Bool)} {ops : List MOper} (d' : D) (h : Runs (runC cal fuel (.region q ops) (fr.put dst d') σ) R) (hw : wantedD fr g = some true := by kernel_rfl) (he : evalOp cal q dst op fr σ = some (d', fr, σ) := by kernel_rfl) : Runs (runC cal fuel (.region q (⟨dst, op, g⟩ :: ops)) fr σ) R := runs_v d' hw he h
theorem rve {q : Bool} {dst : Option Nat} {op : MOp} {g : Option (Nat × Bool)} {ops : List MOper} (d d' : D) (hd : d = d') (h : Runs (runC cal fuel (.region q ops) (fr.put dst d') σ) R) (hw : wantedD fr g = some true := by kernel_rfl) (he : evalOp cal q dst op fr σ = some (d, fr, σ) := by kernel_rfl) : Runs (runC cal fuel (.region q (⟨dst, op, g⟩ :: ops)) fr σ) R := runs_ve d d' hd hw he h
theorem rgs {q : Bool} {dst : Option Nat} {op : MOp} {g : Option (Nat × Bool)} {ops : List MOper} (d' : D) (σ' : St) (h : Runs (runC cal fuel (.region q ops) (fr.put dst d') σ') R) (hw : wantedD fr g = some true := by kernel_rfl) (he : evalOp cal q dst op fr σ = some (d', fr, σ') := by kernel_rfl) : Runs (runC cal fuel (.region q (⟨dst, op, g⟩ :: ops)) fr σ) R := runs_gs d' σ' hw he h
theorem rgf {q : Bool} {dst : Option Nat} {op : MOp} {g : Option (Nat × Bool)} {ops : List MOper} (d' : D) (σ' : St) (h : Runs (runC cal fuel (.region q ops) ((frOf (evalOp cal q dst op fr σ)).put dst d') σ') R) (hw : wantedD fr g = some true := by kernel_rfl) (he : (evalOp cal q dst op fr σ).map (fun r => (r.1, r.2.2)) = some (d', σ') := by kernel_rfl) : Runs (runC cal fuel (.region q (⟨dst, op, g⟩ :: ops)) fr σ) R := runs_gf d' σ' hw he h
theorem rs0 {q : Bool} {dst : Option Nat} {t : Nat} {g : Option (Nat × Bool)} {ops : List MOper} (d : D) (h : Runs (runC cal fuel (.region q ops) (fr.put dst d) σ) R) (hw : wantedD fr g = some true := by kernel_rfl) (hd : fr.at t = d := by kernel_rfl) (hs : d.strip = d := by kernel_rfl) : Runs (runC cal fuel (.region q (⟨dst, .move (.tmp t) true, g⟩ :: ops)) fr σ) R := runs_steal0 d hw hd hs h
theorem ra0 {q : Bool} {dst : Option Nat} {t : Nat} {g : Option (Nat × Bool)} {ops : List MOper} (d : D) (h : Runs (runC cal fuel (.region q ops) (fr.put dst d) σ) R) (hw : wantedD fr g = some true := by kernel_rfl) (hd : fr.at t = d := by kernel_rfl) (hs : d.strip = d := by kernel_rfl) : Runs (runC cal fuel (.region q (⟨dst, .assign (.tmp t), g⟩ :: ops)) fr σ) R := runs_assign0 d hw hd hs h
theorem rno {q : Bool} {dst : Option Nat} {op : MOp} {g : Option (Nat × Bool)} {ops : List MOper} (h : Runs (runC cal fuel (.region q ops) (fr.put dst .undef) σ) R) (hw : wantedD fr g = some false := by kernel_rfl) : Runs (runC cal fuel (.region q (⟨dst, op, g⟩ :: ops)) fr σ) R := runs_no hw h
theorem kct {x : X} {a b : MCode} (h : Runs (runC cal fuel a fr σ) R) (hx : fr.val x = .bool true := by kernel_rfl) : Runs (runC cal fuel (.cond x a b) fr σ) R := k_cond_t hx h
theorem kcf {x : X} {a b : MCode} (h : Runs (runC cal fuel b fr σ) R) (hx : fr.val x = .bool false := by kernel_rfl) : Runs (runC cal fuel (.cond x a b) fr σ) R := k_cond_f hx h
theorem rkn {c : MCode} (t : Nat) (b b' : Bool) (hb : b = b') (h : Runs (runC cal fuel c (fr.set t (.bool b')) σ) R) (ht : fr.at t = .bool b := by kernel_rfl) : Runs (runC cal fuel c fr σ) R := runs_know t ht (congrArg D.bool hb) h
end
theorem wrap_eq {n m : Int} (h : n = m) (h0 : -9223372036854775808 ≤ m) (h1 : m ≤ 9223372036854775807) : IntKind.i64.wrap n = m := by
  subst h
  rw [IntKind.wrap_i64]
  omega
def eInts (c : List Int) : List D := [.sl (ints c) none]
def rows (l : List (List Int)) : List (List D) := l.map eInts
def eBool (b : Bool) : List D := [.bool b]
def bools (l : List Bool) : List (List D) := l.map eBool
def eTrip (t : Int × Int × Int) : List D := [.int .i64 t.1, .int .i64 t.2.1, .int .i64 t.2.2]
def i8s (l : List Int) : List (List D) := l.map fun n => [.int .i8 n]
def trips (l : List (Int × Int × Int)) : List (List D) := l.map eTrip

section
variable {cal : Cal} {fuel : Nat} {fr : Fr} {σ : St} {R : AE → Fr → St → Prop}
theorem runs_indexI {q : Bool} {dst : Option Nat} {esz : Nat} {x i : X} {g : Option (Nat × Bool)} {ops : List MOper} {α : Type} (c : List α) (f : α → List D) {o : Option Nat} {kd : IntKind} (j : Int) (hw : wantedD fr g = some true) (hx : fr.val x = .sl (c.map f) o) (hi : fr.val i = .int kd j) (h0 : 0 ≤ j) (hj : j.toNat < c.length) (hl : (f c[j.toNat]).length = esz)
    (h : Runs (runC cal fuel (.region q ops) (fr.put dst (.ref (f c[j.toNat]))) σ) R) : Runs (runC cal fuel (.region q (⟨dst, .indexAddr esz x i, g⟩ :: ops)) fr σ) R := by
  refine runs_op hw ?_ h
  exact ev_index hx hi h0 (by simp [hj]) hl
end
end Go.Abs

/-
  What an argument is, by its type: Lean's own data.
-/
namespace Go.Abs
open Go
variable {P : Program}

theorem argOf_one {t : TypeId} {x : D} (h : ArgOf P t x) (hn : ∀ fs, P.underlying t ≠ some (.struct fs)) (hn2 : ∀ n e, P.underlying t ≠ some (.array n e)) : Wf P t [x] := by
  unfold ArgOf at h
  split at h
  · rename_i fs hu
    exact absurd hu (hn fs)
  · rename_i n e hu
    exact absurd hu (hn2 n e)
  · exact h

theorem list_of {α : Type} {f : α → List D} {Q : α → Prop} {e : TypeId} : ∀ (es : List (List D)), (∀ x, Wf P e x → ∃ v, x = f v ∧ Q v) → (∀ x ∈ es, Wf P e x) → ∃ c : List α, es = c.map f ∧ ∀ v ∈ c, Q v
  | [], _, _ => ⟨[], rfl, fun _ h => by cases h⟩
  | x :: es, h, hw => by
    obtain ⟨v, rfl, hv⟩ := h x (hw _ (by simp))
    obtain ⟨c, rfl, hc⟩ := list_of es h (fun y hy => hw y (by simp [hy]))
    refine ⟨v :: c, rfl, fun w hw => ?_⟩
    rcases List.mem_cons.1 hw with rfl | h
    · exact hv
    · exact hc w h

theorem wf_sl {α : Type} {f : α → List D} {Q : α → Prop} {t e : TypeId} {x : D} (ht : P.underlying t = some (.slice e)) (he : ∀ x, Wf P e x → ∃ v, x = f v ∧ Q v) (h : Wf P t [x]) : ∃ c : List α, x = .sl (c.map f) none ∧ c.length ≤ maxLen ∧ ∀ v ∈ c, Q v := by
  generalize hx : [x] = l at h
  cases h with
  | bool hu b => rw [ht] at hu; cases hu
  | int hu n hw => rw [ht] at hu; cases hu
  | str hu s hs => rw [ht] at hu; cases hu
  | slice hu es hl hes =>
    rw [ht] at hu
    cases hu
    simp only [List.cons.injEq, and_true] at hx
    subst hx
    obtain ⟨c, rfl, hc⟩ := list_of es he hes
    exact ⟨c, rfl, by simpa using hl, hc⟩
  | struct hu parts hl hf => rw [ht] at hu; cases hu
  | array hu _ _ _ => rw [ht] at hu; cases hu

def InI64 (n : Int) : Prop := -9223372036854775808 ≤ n ∧ n ≤ 9223372036854775807

theorem wf_i64 {t : TypeId} {l : List D} (ht : P.underlying t = some (.int .i64)) (h : Wf P t l) : ∃ n, l = eInt n ∧ InI64 n := by
  cases h with
  | bool hu b => rw [ht] at hu; cases hu
  | int hu n hw =>
    rw [ht] at hu
    cases hu
    have h1 : IntKind.i64.min = -9223372036854775808 := rfl
    have h2 : IntKind.i64.max = 9223372036854775807 := rfl
    simp only [Lit.wf, Bool.and_eq_true, decide_eq_true_eq, h1, h2] at hw
    exact ⟨n, rfl, hw⟩
  | str hu s hs => rw [ht] at hu; cases hu
  | slice hu es hl hes => rw [ht] at hu; cases hu
  | struct hu parts hl hf => rw [ht] at hu; cases hu
  | array hu _ _ _ => rw [ht] at hu; cases hu

theorem wf_u16 {t : TypeId} {l : List D} (ht : P.underlying t = some (.int .u16)) (h : Wf P t l) : ∃ n, l = [.int .u16 n] ∧ 0 ≤ n ∧ n ≤ 65535 := by
  cases h with
  | bool hu b => rw [ht] at hu; cases hu
  | int hu n hw =>
    rw [ht] at hu
    cases hu
    have h1 : IntKind.u16.min = 0 := rfl
    have h2 : IntKind.u16.max = 65535 := rfl
    simp only [Lit.wf, Bool.and_eq_true, decide_eq_true_eq, h1, h2] at hw
    exact ⟨n, rfl, hw⟩
  | str hu s hs => rw [ht] at hu; cases hu
  | slice hu es hl hes => rw [ht] at hu; cases hu
  | struct hu parts hl hf => rw [ht] at hu; cases hu
  | array hu _ _ _ => rw [ht] at hu; cases hu
theorem arg_u16 {t : TypeId} {x : D} (ht : P.underlying t = some (.int .u16)) (h : ArgOf P t x) : ∃ n, x = .int .u16 n ∧ 0 ≤ n ∧ n ≤ 65535 := by
  obtain ⟨n, h1, h2⟩ := wf_u16 ht (argOf_one h (fun fs hu => by rw [ht] at hu; cases hu) (fun n e hu => by rw [ht] at hu; cases hu))
  simp only [List.cons.injEq, and_true] at h1
  exact ⟨n, h1, h2⟩
theorem wf_i8 {t : TypeId} {l : List D} (ht : P.underlying t = some (.int .i8)) (h : Wf P t l) : ∃ n, l = [.int .i8 n] ∧ -128 ≤ n ∧ n ≤ 127 := by
  cases h with
  | bool hu b => rw [ht] at hu; cases hu
  | int hu n hw =>
    rw [ht] at hu
    cases hu
    have h1 : IntKind.i8.min = -128 := rfl
    have h2 : IntKind.i8.max = 127 := rfl
    simp only [Lit.wf, Bool.and_eq_true, decide_eq_true_eq, h1, h2] at hw
    exact ⟨n, rfl, hw⟩
  | str hu s hs => rw [ht] at hu; cases hu
  | slice hu es hl hes => rw [ht] at hu; cases hu
  | struct hu parts hl hf => rw [ht] at hu; cases hu
  | array hu _ _ _ => rw [ht] at hu; cases hu
theorem wf_u8 {t : TypeId} {l : List D} (ht : P.underlying t = some (.int .u8)) (h : Wf P t l) : ∃ n, l = [.int .u8 n] ∧ 0 ≤ n ∧ n ≤ 255 := by
  cases h with
  | bool hu b => rw [ht] at hu; cases hu
  | int hu n hw =>
    rw [ht] at hu
    cases hu
    have h1 : IntKind.u8.min = 0 := rfl
    have h2 : IntKind.u8.max = 255 := rfl
    simp only [Lit.wf, Bool.and_eq_true, decide_eq_true_eq, h1, h2] at hw
    exact ⟨n, rfl, hw⟩
  | str hu s hs => rw [ht] at hu; cases hu
  | slice hu es hl hes => rw [ht] at hu; cases hu
  | struct hu parts hl hf => rw [ht] at hu; cases hu
  | array hu _ _ _ => rw [ht] at hu; cases hu
theorem wf_bool {t : TypeId} {l : List D} (ht : P.underlying t = some .bool) (h : Wf P t l) : ∃ b, l = [.bool b] := by
  cases h with
  | bool hu b => exact ⟨b, rfl⟩
  | int hu n hw => rw [ht] at hu; cases hu
  | str hu s hs => rw [ht] at hu; cases hu
  | slice hu es hl hes => rw [ht] at hu; cases hu
  | struct hu parts hl hf => rw [ht] at hu; cases hu
  | array hu _ _ _ => rw [ht] at hu; cases hu

/-- An argument that is a number. -/
theorem arg_i64 {t : TypeId} {x : D} (ht : P.underlying t = some (.int .i64)) (h : ArgOf P t x) : ∃ n, x = .int .i64 n ∧ InI64 n := by
  obtain ⟨n, h1, h2⟩ := wf_i64 ht (argOf_one h (fun fs hu => by rw [ht] at hu; cases hu) (fun n e hu => by rw [ht] at hu; cases hu))
  simp only [eInt, List.cons.injEq, and_true] at h1
  exact ⟨n, h1, h2⟩

/-- An argument that is a row of numbers. -/
theorem arg_ints {t e : TypeId} {x : D} (ht : P.underlying t = some (.slice e)) (he : P.underlying e = some (.int .i64)) (h : ArgOf P t x) : ∃ a, x = .sl (ints a) none ∧ a.length ≤ maxLen ∧ ∀ n ∈ a, InI64 n :=
  wf_sl ht (fun l hl => wf_i64 he hl) (argOf_one h (fun fs hu => by rw [ht] at hu; cases hu) (fun n e hu => by rw [ht] at hu; cases hu))

/-- An argument that is a row of rows of numbers. -/
theorem wf_ints {t e : TypeId} {l : List D} (ht : P.underlying t = some (.slice e)) (he : P.underlying e = some (.int .i64)) (h : Wf P t l) : ∃ a, l = eInts a ∧ a.length ≤ maxLen ∧ ∀ n ∈ a, InI64 n := by
  have hl : ∃ x, l = [x] := by
    cases h with
    | bool hu b => exact ⟨_, rfl⟩
    | int hu n hw => exact ⟨_, rfl⟩
    | str hu s hs => exact ⟨_, rfl⟩
    | slice hu es hl hes => exact ⟨_, rfl⟩
    | struct hu parts hl hf => rw [ht] at hu; cases hu
    | array hu _ _ _ => rw [ht] at hu; cases hu
  obtain ⟨x, rfl⟩ := hl
  obtain ⟨c, rfl, h1, h2⟩ := wf_sl ht (fun l hl => wf_i64 he hl) h
  exact ⟨c, rfl, h1, h2⟩
theorem arg_rows {t e q : TypeId} {x : D} (ht : P.underlying t = some (.slice e)) (he : P.underlying e = some (.slice q)) (hq : P.underlying q = some (.int .i64)) (h : ArgOf P t x) : ∃ l, x = .sl (rows l) none ∧ l.length ≤ maxLen ∧ ∀ c ∈ l, c.length ≤ maxLen ∧ ∀ n ∈ c, InI64 n :=
  wf_sl ht (fun l hl => wf_ints he hq hl) (argOf_one h (fun fs hu => by rw [ht] at hu; cases hu) (fun n e hu => by rw [ht] at hu; cases hu))
theorem arg_bools {t e : TypeId} {x : D} (ht : P.underlying t = some (.slice e)) (he : P.underlying e = some .bool) (h : ArgOf P t x) : ∃ l, x = .sl (bools l) none ∧ l.length ≤ maxLen ∧ ∀ b ∈ l, True :=
  wf_sl ht (fun l hl => let ⟨b, hb⟩ := wf_bool he hl; ⟨b, hb, trivial⟩) (argOf_one h (fun fs hu => by rw [ht] at hu; cases hu) (fun n e hu => by rw [ht] at hu; cases hu))
theorem map_three {α β : Type} {f : α → β} {l : List α} {x y z : β} (h : l.map f = [x, y, z]) : ∃ a b c, l = [a, b, c] ∧ f a = x ∧ f b = y ∧ f c = z := by
  match l, h with
  | [a, b, c], h =>
    simp only [List.map_cons, List.map_nil, List.cons.injEq, and_true] at h
    exact ⟨a, b, c, rfl, h.1, h.2.1, h.2.2⟩
theorem wf_trip {t i : TypeId} {fs : Array Field} {l : List D} (ht : P.underlying t = some (.struct fs)) (hf : fs.toList.map (·.type) = [i, i, i]) (hi : P.underlying i = some (.int .i64)) (h : Wf P t l) : ∃ s, l = eTrip s ∧ (InI64 s.1 ∧ InI64 s.2.1 ∧ InI64 s.2.2) := by
  cases h with
  | bool hu b => rw [ht] at hu; cases hu
  | int hu n hw => rw [ht] at hu; cases hu
  | str hu s hs => rw [ht] at hu; cases hu
  | slice hu es hl hes => rw [ht] at hu; cases hu
  | struct hu parts hl hp =>
    rw [ht] at hu
    cases hu
    generalize fs.toList = fl at hf hl hp
    obtain ⟨a, b, c, rfl, h1, h2, h3⟩ := map_three hf
    match parts, hl with
    | [p0, p1, p2], _ =>
      obtain ⟨n0, rfl, w0⟩ := wf_i64 (by rw [h1]; exact hi) (hp 0 a p0 rfl rfl)
      obtain ⟨n1, rfl, w1⟩ := wf_i64 (by rw [h2]; exact hi) (hp 1 b p1 rfl rfl)
      obtain ⟨n2, rfl, w2⟩ := wf_i64 (by rw [h3]; exact hi) (hp 2 c p2 rfl rfl)
      exact ⟨(n0, n1, n2), rfl, w0, w1, w2⟩
  | array hu parts hl hp => rw [ht] at hu; cases hu
theorem arg_i8s {t e : TypeId} {x : D} (ht : P.underlying t = some (.slice e)) (he : P.underlying e = some (.int .i8)) (h : ArgOf P t x) : ∃ l, x = .sl (i8s l) none ∧ l.length ≤ maxLen ∧ ∀ n ∈ l, -128 ≤ n ∧ n ≤ 127 :=
  wf_sl (f := fun n => [.int .i8 n]) ht (fun l hl => wf_i8 he hl) (argOf_one h (fun fs hu => by rw [ht] at hu; cases hu) (fun n e hu => by rw [ht] at hu; cases hu))
theorem arg_u8 {t : TypeId} {x : D} (ht : P.underlying t = some (.int .u8)) (h : ArgOf P t x) : ∃ n, x = .int .u8 n ∧ 0 ≤ n ∧ n ≤ 255 := by
  obtain ⟨n, h1, h2⟩ := wf_u8 ht (argOf_one h (fun fs hu => by rw [ht] at hu; cases hu) (fun n e hu => by rw [ht] at hu; cases hu))
  simp only [List.cons.injEq, and_true] at h1
  exact ⟨n, h1, h2⟩
/-- An array of truths. -/
theorem arg_barr {t e : TypeId} {n : Nat} {x : D} (ht : P.underlying t = some (.array n e)) (he : P.underlying e = some .bool) (h : ArgOf P t x) : ∃ l : List Bool, x = .agg (l.map .bool) ∧ l.length = n := by
  unfold ArgOf at h
  rw [ht] at h
  obtain ⟨ds, rfl, hw⟩ := h
  cases hw with
  | bool hu b => rw [ht] at hu; cases hu
  | int hu n hw => rw [ht] at hu; cases hu
  | str hu s hs => rw [ht] at hu; cases hu
  | slice hu es hl hes => rw [ht] at hu; cases hu
  | struct hu parts hl hp => rw [ht] at hu; cases hu
  | array hu parts hl hp =>
    rw [ht] at hu
    cases hu
    have : ∀ parts : List (List D), (∀ p ∈ parts, Wf P e p) → ∃ l : List Bool, parts.flatten = l.map .bool ∧ l.length = parts.length := by
      intro parts
      induction parts with
      | nil => exact fun _ => ⟨[], rfl, rfl⟩
      | cons p parts ih =>
        intro hp
        obtain ⟨b, rfl⟩ := wf_bool he (hp p (by simp))
        obtain ⟨l, h1, h2⟩ := ih (fun q hq => hp q (by simp [hq]))
        exact ⟨b :: l, by simp [h1], by simp [h2]⟩
    obtain ⟨l, h1, h2⟩ := this parts hp
    exact ⟨l, by rw [h1], by rw [h2, hl]⟩
theorem arg_trips {t e i : TypeId} {fs : Array Field} {x : D} (ht : P.underlying t = some (.slice e)) (he : P.underlying e = some (.struct fs)) (hf : fs.toList.map (·.type) = [i, i, i]) (hi : P.underlying i = some (.int .i64)) (h : ArgOf P t x) :
    ∃ l, x = .sl (trips l) none ∧ l.length ≤ maxLen ∧ ∀ s ∈ l, InI64 s.1 ∧ InI64 s.2.1 ∧ InI64 s.2.2 :=
  wf_sl ht (fun l hl => wf_trip he hf hi hl) (argOf_one h (fun fs hu => by rw [ht] at hu; cases hu) (fun n e hu => by rw [ht] at hu; cases hu))

/-- An argument that is a truth. -/
theorem arg_bool {t : TypeId} {x : D} (ht : P.underlying t = some .bool) (h : ArgOf P t x) : ∃ b, x = .bool b := by
  obtain ⟨b, h1⟩ := wf_bool ht (argOf_one h (fun fs hu => by rw [ht] at hu; cases hu) (fun n e hu => by rw [ht] at hu; cases hu))
  simp only [List.cons.injEq, and_true] at h1
  exact ⟨b, h1⟩
theorem args_two {t0 t1 : TypeId} {xs : List D} (h : ArgsOf P [t0, t1] xs) : ∃ x0 x1, xs = [x0, x1] ∧ ArgOf P t0 x0 ∧ ArgOf P t1 x1 := by
  match xs, h with
  | [x0, x1], h => exact ⟨x0, x1, rfl, h.1, h.2.1⟩
theorem args_three {t0 t1 t2 : TypeId} {xs : List D} (h : ArgsOf P [t0, t1, t2] xs) : ∃ x0 x1 x2, xs = [x0, x1, x2] ∧ ArgOf P t0 x0 ∧ ArgOf P t1 x1 ∧ ArgOf P t2 x2 := by
  match xs, h with
  | [x0, x1, x2], h => exact ⟨x0, x1, x2, rfl, h.1, h.2.1, h.2.2.1⟩
theorem args_one {t0 : TypeId} {xs : List D} (h : ArgsOf P [t0] xs) : ∃ x0, xs = [x0] ∧ ArgOf P t0 x0 := by
  match xs, h with
  | [x0], h => exact ⟨x0, rfl, h.1⟩
end Go.Abs
