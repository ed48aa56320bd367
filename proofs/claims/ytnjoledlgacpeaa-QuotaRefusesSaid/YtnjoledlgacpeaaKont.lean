import Derived.Test.YtnjoledlgacpeaaRules
import Derived.KernelRfl
import Derived.Laws.BitsLemmas
set_option linter.unusedVariables false
set_option linter.unusedSimpArgs false
/-
  Rules for the machine code's runs, with what is left to do kept on a stack.
-/
namespace Go.Abs
open Go Go.Abs

inductive KF where
  | seq (c : MCode)
  | block (id : Nat)
  | back (P : Fr → St → Prop)

def kont (cal : Cal) (fuel : Nat) : List KF → (AE → Fr → St → Prop) → AE → Fr → St → Prop
  | [], Q, ae, fr, σ => Q ae fr σ
  | .seq b :: k, Q, ae, fr, σ =>
    match ae with
    | .normal => Runs (runC cal fuel b fr σ) (kont cal fuel k Q)
    | ae => kont cal fuel k Q ae fr σ
  | .block id :: k, Q, ae, fr, σ =>
    match ae with
    | .exit i => if i = id then kont cal fuel k Q .normal fr σ else kont cal fuel k Q (.exit i) fr σ
    | ae => kont cal fuel k Q ae fr σ
  | .back P :: k, Q, ae, fr, σ =>
    match ae with
    | .normal => P fr σ
    | ae => kont cal fuel k Q ae fr σ

section
variable {cal : Cal} {fuel : Nat} {k : List KF} {fr fr' : Fr} {σ σ' : St} {Q : AE → Fr → St → Prop} {R : AE → Fr → St → Prop}

theorem k_start {c : MCode} (h : Runs (runC cal fuel c fr σ) (kont cal fuel [] Q)) : Runs (runC cal fuel c fr σ) Q := by
  obtain ⟨ae, fr, σ, h1, h2⟩ := h
  exact ⟨ae, fr, σ, h1, h2⟩
theorem k_seq {a b : MCode} (h : Runs (runC cal fuel a fr σ) (kont cal fuel (.seq b :: k) Q)) : Runs (runC cal fuel (.seq a b) fr σ) (kont cal fuel k Q) := by
  refine runs_seq ?_
  obtain ⟨ae, fr1, σ1, h1, h2⟩ := h
  refine ⟨ae, fr1, σ1, h1, ?_⟩
  cases ae <;> exact h2
theorem k_block {id : Nat} {c : MCode} (h : Runs (runC cal fuel c fr σ) (kont cal fuel (.block id :: k) Q)) : Runs (runC cal fuel (.block id c) fr σ) (kont cal fuel k Q) := by
  refine runs_block ?_
  obtain ⟨ae, fr1, σ1, h1, h2⟩ := h
  refine ⟨ae, fr1, σ1, h1, ?_⟩
  cases ae <;> exact h2
theorem k_skip_seq {b : MCode} (h : Runs (runC cal fuel b fr σ) (kont cal fuel k Q)) : Runs (runC cal fuel .skip fr σ) (kont cal fuel (.seq b :: k) Q) := runs_skip h
theorem k_skip_block {id : Nat} (h : Runs (runC cal fuel .skip fr σ) (kont cal fuel k Q)) : Runs (runC cal fuel .skip fr σ) (kont cal fuel (.block id :: k) Q) := by
  obtain ⟨ae, fr1, σ1, h1, h2⟩ := h
  cases h1
  exact runs_skip h2
theorem k_skip_back {P : Fr → St → Prop} (h : P fr σ) : Runs (runC cal fuel .skip fr σ) (kont cal fuel (.back P :: k) Q) := runs_skip h
theorem k_skip_nil (h : Q .normal fr σ) : Runs (runC cal fuel .skip fr σ) (kont cal fuel [] Q) := runs_skip h
theorem k_exit_seq {i : Nat} {b : MCode} (h : Runs (runC cal fuel (.exit i) fr σ) (kont cal fuel k Q)) : Runs (runC cal fuel (.exit i) fr σ) (kont cal fuel (.seq b :: k) Q) := by
  obtain ⟨ae, fr1, σ1, h1, h2⟩ := h
  cases h1
  exact runs_exit h2
theorem k_exit_back {i : Nat} {P : Fr → St → Prop} (h : Runs (runC cal fuel (.exit i) fr σ) (kont cal fuel k Q)) : Runs (runC cal fuel (.exit i) fr σ) (kont cal fuel (.back P :: k) Q) := by
  obtain ⟨ae, fr1, σ1, h1, h2⟩ := h
  cases h1
  exact runs_exit h2
theorem k_exit_hit {i id : Nat} (hi : i = id) (h : Runs (runC cal fuel .skip fr σ) (kont cal fuel k Q)) : Runs (runC cal fuel (.exit i) fr σ) (kont cal fuel (.block id :: k) Q) := by
  obtain ⟨ae, fr1, σ1, h1, h2⟩ := h
  cases h1
  refine runs_exit ?_
  show (if i = id then _ else _)
  rw [if_pos hi]
  exact h2
theorem k_exit_miss {i id : Nat} (hi : i ≠ id) (h : Runs (runC cal fuel (.exit i) fr σ) (kont cal fuel k Q)) : Runs (runC cal fuel (.exit i) fr σ) (kont cal fuel (.block id :: k) Q) := by
  obtain ⟨ae, fr1, σ1, h1, h2⟩ := h
  cases h1
  refine runs_exit ?_
  show (if i = id then _ else _)
  rw [if_neg hi]
  exact h2
theorem k_exit_nil {i : Nat} (h : Q (.exit i) fr σ) : Runs (runC cal fuel (.exit i) fr σ) (kont cal fuel [] Q) := runs_exit h
theorem kont_ret : ∀ (k : List KF), Q .ret fr σ → kont cal fuel k Q .ret fr σ
  | [], h => h
  | .seq _ :: k, h => kont_ret k h
  | .block _ :: k, h => kont_ret k h
  | .back _ :: k, h => kont_ret k h
theorem k_ret (h : Q .ret fr σ) : Runs (runC cal fuel .ret fr σ) (kont cal fuel k Q) := runs_ret (kont_ret k h)
theorem k_done {q : Bool} (h : Runs (runC cal fuel .skip fr σ) R) : Runs (runC cal fuel (.region q []) fr σ) R := by
  obtain ⟨ae, fr1, σ1, h1, h2⟩ := h
  cases h1
  exact ⟨_, _, _, rfl, h2⟩
theorem k_cond_t {x : X} {a b : MCode} (hx : fr.val x = .bool true) (h : Runs (runC cal fuel a fr σ) R) : Runs (runC cal fuel (.cond x a b) fr σ) R := runs_cond (t := true) hx h
theorem k_cond_f {x : X} {a b : MCode} (hx : fr.val x = .bool false) (h : Runs (runC cal fuel b fr σ) R) : Runs (runC cal fuel (.cond x a b) fr σ) R := runs_cond (t := false) hx h

/-- A loop, whose frames and stores are told by a state. -/
theorem k_loop {S : Type} (F : S → Fr) (G : S → St) (I : S → Prop) (μ : S → Nat) (s0 : S) {keep : List Nat} {c : MCode} (hf : fr.clear keep = F s0) (hg : σ = G s0) (hi : I s0) (hm : ∀ s, I s → μ s < fuel)
    (round : ∀ s, I s → Runs (runC cal fuel c (F s) (G s)) (kont cal fuel (.back (fun fr' σ' => ∃ s', I s' ∧ μ s' < μ s ∧ fr'.clear keep = F s' ∧ σ' = G s') :: k) Q)) : Runs (runC cal fuel (.loop keep c) fr σ) (kont cal fuel k Q) := by
  refine runs_loop (fun m fr σ => ∃ s, I s ∧ μ s = m ∧ fr = F s ∧ σ = G s) (μ s0) ⟨s0, hi, rfl, hf, hg⟩ (hm s0 hi) ?_
  rintro m fr σ ⟨s, hI, rfl, rfl, rfl⟩
  obtain ⟨ae, fr1, σ1, h1, h2⟩ := round s hI
  refine ⟨ae, fr1, σ1, h1, ?_⟩
  cases ae with
  | normal =>
    obtain ⟨s', h3, h4, h5, h6⟩ := h2
    exact ⟨μ s', h4, s', h3, rfl, h5, h6⟩
  | exit i => exact h2
  | ret => exact h2

theorem set_self : ∀ (l : List D) (t : Nat), l.set t (l.getD t .junk) = l
  | [], _ => rfl
  | d :: l, 0 => rfl
  | d :: l, t + 1 => by
    show d :: l.set t (l.getD t .junk) = d :: l
    rw [set_self l t]

/-- What is known of a slot. -/
theorem runs_know {c : MCode} (t : Nat) {d d' : D} (ht : fr.at t = d) (hd : d = d') (h : Runs (runC cal fuel c (fr.set t d') σ) R) : Runs (runC cal fuel c fr σ) R := by
  subst hd ht
  have : fr.set t (fr.at t) = fr := by
    unfold Fr.set Fr.at
    rw [set_self]
  rwa [this] at h

theorem runs_v {q : Bool} {dst : Option Nat} {op : MOp} {g : Option (Nat × Bool)} {ops : List MOper} (d' : D) (hw : wantedD fr g = some true) (he : evalOp cal q dst op fr σ = some (d', fr, σ)) (h : Runs (runC cal fuel (.region q ops) (fr.put dst d') σ) R) : Runs (runC cal fuel (.region q (⟨dst, op, g⟩ :: ops)) fr σ) R := runs_op hw he h
theorem runs_ve {q : Bool} {dst : Option Nat} {op : MOp} {g : Option (Nat × Bool)} {ops : List MOper} (d d' : D) (hd : d = d') (hw : wantedD fr g = some true) (he : evalOp cal q dst op fr σ = some (d, fr, σ)) (h : Runs (runC cal fuel (.region q ops) (fr.put dst d') σ) R) : Runs (runC cal fuel (.region q (⟨dst, op, g⟩ :: ops)) fr σ) R := by
  subst hd
  exact runs_op hw he h
theorem runs_g {q : Bool} {dst : Option Nat} {op : MOp} {g : Option (Nat × Bool)} {ops : List MOper} (d' : D) (fr' : Fr) (σ' : St) (hw : wantedD fr g = some true) (he : evalOp cal q dst op fr σ = some (d', fr', σ')) (h : Runs (runC cal fuel (.region q ops) (fr'.put dst d') σ') R) : Runs (runC cal fuel (.region q (⟨dst, op, g⟩ :: ops)) fr σ) R := runs_op hw he h
theorem runs_no {q : Bool} {dst : Option Nat} {op : MOp} {g : Option (Nat × Bool)} {ops : List MOper} (hw : wantedD fr g = some false) (h : Runs (runC cal fuel (.region q ops) (fr.put dst .undef) σ) R) : Runs (runC cal fuel (.region q (⟨dst, op, g⟩ :: ops)) fr σ) R := runs_not hw h
theorem runs_steal {q : Bool} {dst : Option Nat} {t : Nat} {g : Option (Nat × Bool)} {ops : List MOper} (d : D) (hw : wantedD fr g = some true) (hd : fr.at t = d) (h : Runs (runC cal fuel (.region q ops) ((fr.set t d.strip).put dst d) σ) R) : Runs (runC cal fuel (.region q (⟨dst, .move (.tmp t) true, g⟩ :: ops)) fr σ) R := by
  subst hd
  exact runs_op hw rfl h
theorem runs_assign {q : Bool} {dst : Option Nat} {t : Nat} {g : Option (Nat × Bool)} {ops : List MOper} (d : D) (hw : wantedD fr g = some true) (hd : fr.at t = d) (h : Runs (runC cal fuel (.region q ops) ((fr.set t d.strip).put dst d) σ) R) : Runs (runC cal fuel (.region q (⟨dst, .assign (.tmp t), g⟩ :: ops)) fr σ) R := by
  subst hd
  exact runs_op hw rfl h
theorem set_at {fr : Fr} {t : Nat} {d : D} (hd : fr.at t = d) (hs : d.strip = d) : fr.set t d.strip = fr := by
  subst hd
  rw [hs]
  unfold Fr.set Fr.at
  rw [set_self]
theorem runs_steal0 {q : Bool} {dst : Option Nat} {t : Nat} {g : Option (Nat × Bool)} {ops : List MOper} (d : D) (hw : wantedD fr g = some true) (hd : fr.at t = d) (hs : d.strip = d) (h : Runs (runC cal fuel (.region q ops) (fr.put dst d) σ) R) : Runs (runC cal fuel (.region q (⟨dst, .move (.tmp t) true, g⟩ :: ops)) fr σ) R := by
  refine runs_steal d hw hd ?_
  rw [set_at hd hs]
  exact h
theorem runs_assign0 {q : Bool} {dst : Option Nat} {t : Nat} {g : Option (Nat × Bool)} {ops : List MOper} (d : D) (hw : wantedD fr g = some true) (hd : fr.at t = d) (hs : d.strip = d) (h : Runs (runC cal fuel (.region q ops) (fr.put dst d) σ) R) : Runs (runC cal fuel (.region q (⟨dst, .assign (.tmp t), g⟩ :: ops)) fr σ) R := by
  refine runs_assign d hw hd ?_
  rw [set_at hd hs]
  exact h
theorem runs_append {q : Bool} {dst : Option Nat} {t e esz bytes : Nat} {y : X} {g : Option (Nat × Bool)} {ops : List MOper} (xs ys zs : List (List D)) (hw : wantedD fr g = some true) (hd : fr.at t = .sl xs (some e)) (hy : elems σ (fr.val y) = some ys) (hz : (ys.all fun y => y.length == esz) = true)
    (hb : (xs.length + ys.length) * bytes ≤ room ∧ xs.length + ys.length < 4611686018427387904) (hzs : xs ++ ys = zs)
    (h : Runs (runC cal fuel (.region q ops) ((fr.set t (.sl xs none)).put dst (.sl zs (some e))) σ) R) : Runs (runC cal fuel (.region q (⟨dst, .append e esz bytes false (.tmp t) y, g⟩ :: ops)) fr σ) R := by
  subst hzs
  refine runs_op (d := .sl (xs ++ ys) (some e)) (fr' := fr.set t (.sl xs none)) (σ' := σ) hw ?_ h
  simp only [evalOp, hy, hz, if_true, Bool.false_eq_true, if_false, Fr.take, hd, D.strip, true_and]
  rw [if_pos hb]
theorem ev_call {dst : Option Nat} {f : Nat} {args : List X} {ds ds' : List D} {r : D} {fr1 : Fr} (hp : fr.promoteAll σ args = some (ds, fr1, σ)) (hq : ds.all pureArg = true) (hs : snap σ ds = some (ds', [])) {σc : St} (hc : cal f ds' [] = some (r, σc)) {r' : D} (hf : freeze σc r = some r') :
    evalOp cal false dst (.call f args) fr σ = some (r', fr1, σ) := by
  simp only [evalOp, Bool.false_eq_true, if_false, hp, doCall, hq, if_true, hs, hc, hf, List.isEmpty_nil, Bool.true_or, Option.map_some]
theorem runs_call {dst : Option Nat} {f : Nat} {args : List X} {g : Option (Nat × Bool)} {ops : List MOper} (ds : List D) (hw : wantedD fr g = some true) (hp : fr.promoteAll σ args = some (ds, fr, σ)) (hq : ds.all pureArg = true) (hs : snap σ ds = some (ds, [])) {r : D} {σc : St} (hc : cal f ds [] = some (r, σc)) (hf : freeze σc r = some r)
    (h : Runs (runC cal fuel (.region false ops) (fr.put dst r) σ) R) : Runs (runC cal fuel (.region false (⟨dst, .call f args, g⟩ :: ops)) fr σ) R :=
  runs_op hw (ev_call hp hq hs hc hf) h
theorem runs_index {q : Bool} {dst : Option Nat} {esz : Nat} {x i : X} {g : Option (Nat × Bool)} {ops : List MOper} {α : Type} (c : List α) (f : α → List D) {o : Option Nat} {kd : IntKind} (j : Nat) (hw : wantedD fr g = some true) (hx : fr.val x = .sl (c.map f) o) (hi : fr.val i = .int kd (j : Int)) (hj : j < c.length) (hl : (f c[j]).length = esz)
    (h : Runs (runC cal fuel (.region q ops) (fr.put dst (.ref (f c[j]))) σ) R) : Runs (runC cal fuel (.region q (⟨dst, .indexAddr esz x i, g⟩ :: ops)) fr σ) R := by
  refine runs_op hw ?_ h
  exact ev_index hx hi (Int.natCast_nonneg j) (by simp [hj]) hl
end

section
variable {cal : Cal} {fuel : Nat} {k : List KF} {fr fr' : Fr} {σ σ' : St} {R : AE → Fr → St → Prop}
/-- The frame that an operation leaves. -/
def frOf : Option (D × Fr × St) → Fr
  | some r => r.2.1
  | none => ⟨[], [], []⟩
theorem runs_gs {q : Bool} {dst : Option Nat} {op : MOp} {g : Option (Nat × Bool)} {ops : List MOper} (d' : D) (σ' : St) (hw : wantedD fr g = some true) (he : evalOp cal q dst op fr σ = some (d', fr, σ')) (h : Runs (runC cal fuel (.region q ops) (fr.put dst d') σ') R) : Runs (runC cal fuel (.region q (⟨dst, op, g⟩ :: ops)) fr σ) R := runs_op hw he h
theorem runs_gf {q : Bool} {dst : Option Nat} {op : MOp} {g : Option (Nat × Bool)} {ops : List MOper} (d' : D) (σ' : St) (hw : wantedD fr g = some true) (he : (evalOp cal q dst op fr σ).map (fun r => (r.1, r.2.2)) = some (d', σ')) (h : Runs (runC cal fuel (.region q ops) ((frOf (evalOp cal q dst op fr σ)).put dst d') σ') R) : Runs (runC cal fuel (.region q (⟨dst, op, g⟩ :: ops)) fr σ) R := by
  cases hr : evalOp cal q dst op fr σ with
  | none => rw [hr] at he; cases he
  | some r =>
    obtain ⟨d, fr1, σ1⟩ := r
    rw [hr] at he h
    simp only [Option.map_some, Option.some.injEq, Prod.mk.injEq] at he
    obtain ⟨rfl, rfl⟩ := he
    exact runs_op hw hr h
theorem runs_hit {q : Bool} {dst : Option Nat} {kk : Nat} {z : List D} {x i : X} {g : Option (Nat × Bool)} {ops : List MOper} (o : Nat) (es : List (D × D)) (kv v : D) (hw : wantedD fr g = some true) (hx : fr.val x = .map o) (ho : σ[o]? = some (.map es)) (hi : fr.val i = kv) (hk : keyD kk kv = true) (hf : findKey kk kv es = some (some v))
    (h : Runs (runC cal fuel (.region q ops) (fr.put dst v) σ) R) : Runs (runC cal fuel (.region q (⟨dst, .lookup kk false z x i false, g⟩ :: ops)) fr σ) R := by
  refine runs_op hw ?_ h
  simp only [evalOp, hx, ho, hi, hk, hf, if_true, Bool.false_eq_true, if_false]
theorem runs_miss {q : Bool} {dst : Option Nat} {kk : Nat} {z : D} {x i : X} {g : Option (Nat × Bool)} {ops : List MOper} (o : Nat) (es : List (D × D)) (kv : D) (hw : wantedD fr g = some true) (hx : fr.val x = .map o) (ho : σ[o]? = some (.map es)) (hi : fr.val i = kv) (hk : keyD kk kv = true) (hf : findKey kk kv es = some none)
    (h : Runs (runC cal fuel (.region q ops) (fr.put dst z.strip) σ) R) : Runs (runC cal fuel (.region q (⟨dst, .lookup kk false [z] x i false, g⟩ :: ops)) fr σ) R := by
  refine runs_op hw ?_ h
  simp only [evalOp, hx, ho, hi, hk, hf, if_true, Bool.false_eq_true, if_false, List.isEmpty_nil]
theorem runs_hit2 {q : Bool} {dst : Option Nat} {kk : Nat} {z : List D} {x i : X} {g : Option (Nat × Bool)} {ops : List MOper} (o : Nat) (es : List (D × D)) (kv v : D) (hw : wantedD fr g = some true) (hx : fr.val x = .map o) (ho : σ[o]? = some (.map es)) (hi : fr.val i = kv) (hk : keyD kk kv = true) (hf : findKey kk kv es = some (some v))
    (h : Runs (runC cal fuel (.region q ops) (fr.put dst (.tup [v, .bool true])) σ) R) : Runs (runC cal fuel (.region q (⟨dst, .lookup kk false z x i true, g⟩ :: ops)) fr σ) R := by
  refine runs_op hw ?_ h
  simp only [evalOp, hx, ho, hi, hk, hf, if_true, Bool.false_eq_true, if_false]
theorem runs_miss2 {q : Bool} {dst : Option Nat} {kk : Nat} {z : D} {x i : X} {g : Option (Nat × Bool)} {ops : List MOper} (o : Nat) (es : List (D × D)) (kv : D) (hw : wantedD fr g = some true) (hx : fr.val x = .map o) (ho : σ[o]? = some (.map es)) (hi : fr.val i = kv) (hk : keyD kk kv = true) (hf : findKey kk kv es = some none)
    (h : Runs (runC cal fuel (.region q ops) (fr.put dst (.tup [z.strip, .bool false])) σ) R) : Runs (runC cal fuel (.region q (⟨dst, .lookup kk false [z] x i true, g⟩ :: ops)) fr σ) R := by
  refine runs_op hw ?_ h
  simp only [evalOp, hx, ho, hi, hk, hf, if_true, Bool.false_eq_true, if_false, List.isEmpty_nil]
theorem runs_update {q : Bool} {dst : Option Nat} {kk : Nat} {m i x : X} {g : Option (Nat × Bool)} {ops : List MOper} (o : Nat) (es es' : List (D × D)) (kv v : D) (hw : wantedD fr g = some true) (hx : fr.val m = .map o) (ho : σ[o]? = some (.map es)) (hi : fr.val i = kv) (hv : fr.val x = v) (hk : keyD kk kv = true) (hn : v.notL = true) (hf : putKey kk kv v es = some es')
    (h : Runs (runC cal fuel (.region q ops) (fr.put dst .junk) (σ.set o (.map es'))) R) : Runs (runC cal fuel (.region q (⟨dst, .mapUpdate kk m i x, g⟩ :: ops)) fr σ) R := by
  refine runs_op hw ?_ h
  simp only [evalOp, hx, ho, hi, hv, hk, hn, hf, and_self, if_true, Option.map_some]
theorem runs_call_st {dst : Option Nat} {f : Nat} {args : List X} {g : Option (Nat × Bool)} {ops : List MOper} (ds : List D) (hw : wantedD fr g = some true) (hp : fr.promoteAll σ args = some (ds, fr, σ)) (hq : ds.all pureArg = false) (hn : ds.all D.notL = true) {r : D} {σ' : St} (hc : cal f ds σ = some (r, σ'))
    (h : Runs (runC cal fuel (.region false ops) (fr.put dst r) σ') R) : Runs (runC cal fuel (.region false (⟨dst, .call f args, g⟩ :: ops)) fr σ) R := by
  refine runs_op hw ?_ h
  simp only [evalOp, Bool.false_eq_true, if_false, hp, doCall, hq, hn, hc, if_true, Option.map_some]
theorem runs_callQ {dst : Option Nat} {f : Nat} {args : List X} {g : Option (Nat × Bool)} {ops : List MOper} (ds : List D) (hw : wantedD fr g = some true) (hp : (args.map fun x => (fr.val x).deep) = ds) (hq : ds.all pureArg = true) (hs : snap σ ds = some (ds, [])) {r : D} {σc : St} (hc : cal f ds [] = some (r, σc)) (hf : freeze σc r = some r)
    (h : Runs (runC cal fuel (.region true ops) (fr.put dst r) σ) R) : Runs (runC cal fuel (.region true (⟨dst, .call f args, g⟩ :: ops)) fr σ) R := by
  subst hp
  refine runs_op hw ?_ h
  simp only [evalOp, if_true, doCallQ, hq, hs, hc, hf, List.isEmpty_nil, Bool.true_or, Option.map_some]
theorem runs_callv_st {dst : Option Nat} {x : X} {args : List X} {g : Option (Nat × Bool)} {ops : List MOper} (f : Nat) (caps ds as : List D) (hw : wantedD fr g = some true) (hx : fr.val x = .func f caps) (hp : fr.promoteAll σ args = some (ds, fr, σ)) (has : ds ++ caps = as) (hq : as.all pureArg = false) (hn : as.all D.notL = true) {r : D} {σ' : St} (hc : cal f as σ = some (r, σ'))
    (h : Runs (runC cal fuel (.region false ops) (fr.put dst r) σ') R) : Runs (runC cal fuel (.region false (⟨dst, .callv x args, g⟩ :: ops)) fr σ) R := by
  subst has
  refine runs_op hw ?_ h
  simp only [evalOp, Bool.false_eq_true, if_false, hx, hp, doCall, hq, hn, hc, if_true, Option.map_some]
theorem runs_callv {dst : Option Nat} {x : X} {args : List X} {g : Option (Nat × Bool)} {ops : List MOper} (f : Nat) (caps ds as : List D) (hw : wantedD fr g = some true) (hx : fr.val x = .func f caps) (hp : fr.promoteAll σ args = some (ds, fr, σ)) (has : ds ++ caps = as) (hq : as.all pureArg = true) (hs : snap σ as = some (as, [])) {r : D} {σc : St} (hc : cal f as [] = some (r, σc)) (hf : freeze σc r = some r)
    (h : Runs (runC cal fuel (.region false ops) (fr.put dst r) σ) R) : Runs (runC cal fuel (.region false (⟨dst, .callv x args, g⟩ :: ops)) fr σ) R := by
  subst has
  refine runs_op hw ?_ h
  simp only [evalOp, Bool.false_eq_true, if_false, hx, hp, doCall, hq, hs, hc, hf, if_true, List.isEmpty_nil, Bool.true_or, Option.map_some]
end

theorem runs_slice2 {cal : Cal} {fuel : Nat} {fr : Fr} {σ : St} {R : AE → Fr → St → Prop} {q : Bool} {dst : Option Nat} {esz : Nat} {x : X} {lo hi : Option X} {g : Option (Nat × Bool)} {ops : List MOper} (es r : List (List D)) {o : Option Nat} {k1 k2 : IntKind} (l h : Nat) (hw : wantedD fr g = some true) (hx : fr.val x = .sl es o) (hlo : fr.optVal lo = some (.int k1 (l : Int))) (hhi : fr.optVal hi = some (.int k2 (h : Int))) (hc : l ≤ h ∧ h ≤ es.length) (ha : (es.all fun e => e.length == esz) = true) (hr : (es.drop l).take (h - l) = r)
    (hn : Runs (runC cal fuel (.region q ops) (fr.put dst (.sl r none)) σ) R) : Runs (runC cal fuel (.region q (⟨dst, .slice esz x lo hi, g⟩ :: ops)) fr σ) R := by
  subst hr
  refine runs_op hw ?_ hn
  have h1 : loD (fr.optVal lo) = some l := by rw [hlo]; simp [loD, intOf?]
  have h2 : hiD es.length (fr.optVal hi) = some h := by rw [hhi]; simp [hiD, intOf?]
  simp only [evalOp, hx, h1, h2]
  rw [if_pos ⟨hc.1, hc.2, ha⟩]
section
variable {cal : Cal} {fuel : Nat} {fr : Fr} {σ : St} {R : AE → Fr → St → Prop}
theorem rv {q : Bool} {dst : Option Nat} {op : MOp} {g : Option (Nat × Bool)} {ops : List MOper} (d' : D) (h : Runs (runC cal fuel (.region q ops) (fr.put dst d') σ) R) (hw : wantedD fr g = some true := by kernel_rfl) (he : evalOp cal q dst op fr σ = some (d', fr, σ) := by kernel_rfl) : Runs (runC cal fuel (.region q (⟨dst, op, g⟩ :: ops)) fr σ) R := runs_v d' hw he h
theorem rve {q : Bool} {dst : Option Nat} {op : MOp} {g : Option (Nat × Bool)} {ops : List MOper} (d d' : D) (hd : d = d') (h : Runs (runC cal fuel (.region q ops) (fr.put dst d') σ) R) (hw : wantedD fr g = some true := by kernel_rfl) (he : evalOp cal q dst op fr σ = some (d, fr, σ) := by kernel_rfl) : Runs (runC cal fuel (.region q (⟨dst, op, g⟩ :: ops)) fr σ) R := runs_ve d d' hd hw he h
theorem rgs {q : Bool} {dst : Option Nat} {op : MOp} {g : Option (Nat × Bool)} {ops : List MOper} (d' : D) (σ' : St) (h : Runs (runC cal fuel (.region q ops) (fr.put dst d') σ') R) (hw : wantedD fr g = some true := by kernel_rfl) (he : evalOp cal q dst op fr σ = some (d', fr, σ') := by kernel_rfl) : Runs (runC cal fuel (.region q (⟨dst, op, g⟩ :: ops)) fr σ) R := runs_gs d' σ' hw he h
theorem rgf {q : Bool} {dst : Option Nat} {op : MOp} {g : Option (Nat × Bool)} {ops : List MOper} (d' : D) (σ' : St) (h : Runs (runC cal fuel (.region q ops) ((frOf (evalOp cal q dst op fr σ)).put dst d') σ') R) (hw : wantedD fr g = some true := by kernel_rfl) (he : (evalOp cal q dst op fr σ).map (fun r => (r.1, r.2.2)) = some (d', σ') := by kernel_rfl) : Runs (runC cal fuel (.region q (⟨dst, op, g⟩ :: ops)) fr σ) R := runs_gf d' σ' hw he h
theorem rs0 {q : Bool} {dst : Option Nat} {t : Nat} {g : Option (Nat × Bool)} {ops : List MOper} (d : D) (h : Runs (runC cal fuel (.region q ops) (fr.put dst d) σ) R) (hw : wantedD fr g = some true := by kernel_rfl) (hd : fr.at t = d := by kernel_rfl) (hs : d.strip = d := by kernel_rfl) : Runs (runC cal fuel (.region q (⟨dst, .move (.tmp t) true, g⟩ :: ops)) fr σ) R := runs_steal0 d hw hd hs h
theorem ra0 {q : Bool} {dst : Option Nat} {t : Nat} {g : Option (Nat × Bool)} {ops : List MOper} (d : D) (h : Runs (runC cal fuel (.region q ops) (fr.put dst d) σ) R) (hw : wantedD fr g = some true := by kernel_rfl) (hd : fr.at t = d := by kernel_rfl) (hs : d.strip = d := by kernel_rfl) : Runs (runC cal fuel (.region q (⟨dst, .assign (.tmp t), g⟩ :: ops)) fr σ) R := runs_assign0 d hw hd hs h
theorem rno {q : Bool} {dst : Option Nat} {op : MOp} {g : Option (Nat × Bool)} {ops : List MOper} (h : Runs (runC cal fuel (.region q ops) (fr.put dst .undef) σ) R) (hw : wantedD fr g = some false := by kernel_rfl) : Runs (runC cal fuel (.region q (⟨dst, op, g⟩ :: ops)) fr σ) R := runs_no hw h
theorem kct {x : X} {a b : MCode} (h : Runs (runC cal fuel a fr σ) R) (hx : fr.val x = .bool true := by kernel_rfl) : Runs (runC cal fuel (.cond x a b) fr σ) R := k_cond_t hx h
theorem kcf {x : X} {a b : MCode} (h : Runs (runC cal fuel b fr σ) R) (hx : fr.val x = .bool false := by kernel_rfl) : Runs (runC cal fuel (.cond x a b) fr σ) R := k_cond_f hx h
theorem rkn {c : MCode} (t : Nat) (b b' : Bool) (hb : b = b') (h : Runs (runC cal fuel c (fr.set t (.bool b')) σ) R) (ht : fr.at t = .bool b := by kernel_rfl) : Runs (runC cal fuel c fr σ) R := runs_know t ht (congrArg D.bool hb) h
end
theorem wrap_eq {n m : Int} (h : n = m) (h0 : -9223372036854775808 ≤ m) (h1 : m ≤ 9223372036854775807) : IntKind.i64.wrap n = m := by
  subst h
  rw [IntKind.wrap_i64]
  omega
def eInts (c : List Int) : List D := [.sl (ints c) none]
def rows (l : List (List Int)) : List (List D) := l.map eInts
def eBool (b : Bool) : List D := [.bool b]
def bools (l : List Bool) : List (List D) := l.map eBool
def eTrip (t : Int × Int × Int) : List D := [.int .i64 t.1, .int .i64 t.2.1, .int .i64 t.2.2]
def i8s (l : List Int) : List (List D) := l.map fun n => [.int .i8 n]
def trips (l : List (Int × Int × Int)) : List (List D) := l.map eTrip

section
variable {cal : Cal} {fuel : Nat} {fr : Fr} {σ : St} {R : AE → Fr → St → Prop}
theorem runs_indexI {q : Bool} {dst : Option Nat} {esz : Nat} {x i : X} {g : Option (Nat × Bool)} {ops : List MOper} {α : Type} (c : List α) (f : α → List D) {o : Option Nat} {kd : IntKind} (j : Int) (hw : wantedD fr g = some true) (hx : fr.val x = .sl (c.map f) o) (hi : fr.val i = .int kd j) (h0 : 0 ≤ j) (hj : j.toNat < c.length) (hl : (f c[j.toNat]).length = esz)
    (h : Runs (runC cal fuel (.region q ops) (fr.put dst (.ref (f c[j.toNat]))) σ) R) : Runs (runC cal fuel (.region q (⟨dst, .indexAddr esz x i, g⟩ :: ops)) fr σ) R := by
  refine runs_op hw ?_ h
  exact ev_index hx hi h0 (by simp [hj]) hl
end
end Go.Abs
