import Derived.Test.YtnjoledlgacpeaaTold
import Derived.KernelRfl
import Derived.Test.YtnjoledlgacpeaaRows
set_option linter.unusedVariables false
set_option linter.unusedSimpArgs false
/-
  The line of a node: the iterator over it, whatever the rounds do.
-/
namespace Go.Abs.C
open Go Go.Abs Go.RowKit Go.Proofs Go.Proofs.Ytnjoledlgacpeaa
theorem hmix : Try.prog.follows .mixedOrders = true := by kernel_rfl

/-! parts of codes -/
def sqA : Code → Code
  | .seq a _ => a
  | c => c
def sqB : Code → Code
  | .seq _ b => b
  | c => c
def inB : Code → Code
  | .block _ c => c
  | .loop c => c
  | c => c
def opsB : Code → Array Oper
  | .region _ ops _ => ops
  | _ => #[]
noncomputable def b38 : Code := (Try.f38.body).getD .skip
noncomputable def L38 : Code := inB (inB (sqB b38))
noncomputable def K38 : Code := inB (sqA (sqB L38))
theorem body38 : Try.f38.body = some (.seq (sqA b38) (.block 0 (.loop (.seq (sqA L38) (.seq (.block 1 (.seq (.region 3 (opsB (sqA K38)) false) (sqB K38))) (sqB (sqB L38))))))) := by kernel_rfl
def c38_0 : List MOper := [⟨some 5, .load false 1 (.tmp 1) false, none⟩,
    ⟨some 6, .nilCheck (.tmp 5), none⟩,
    ⟨some 7, .fieldAddr 0 (.tmp 6), none⟩,
    ⟨some 8, .load false 1 (.tmp 7) false, none⟩,
    ⟨some 9, .load false 1 (.tmp 2) false, none⟩,
    ⟨some 10, .lookup 1 false [.nilp] (.tmp 8) (.tmp 9) false, none⟩,
    ⟨some 4, .assign (.tmp 10), none⟩]
def c38_1 : MCode := .seq (.region false [⟨some 11, .move (.tmp 4) false, none⟩,
    ⟨some 12, .eqn true (.tmp 11), none⟩])
   (.cond (.tmp 12) .skip (.exit 0))
def c38_3 : List MOper := [⟨some 22, .move (.tmp 0) false, none⟩,
    ⟨some 23, .move (.tmp 4) false, none⟩,
    ⟨some 24, .callv (.tmp 22) [(.tmp 23)], none⟩,
    ⟨some 25, .un .not (.tmp 24), none⟩]
def c38_2 : List MOper := [⟨some 13, .load false 1 (.tmp 1) false, none⟩,
    ⟨some 14, .nilCheck (.tmp 13), none⟩,
    ⟨some 15, .fieldAddr 0 (.tmp 14), none⟩,
    ⟨some 16, .load false 1 (.tmp 15) false, none⟩,
    ⟨some 17, .move (.tmp 4) false, none⟩,
    ⟨some 18, .nilCheck (.tmp 17), none⟩,
    ⟨some 19, .fieldAddr 1 (.tmp 18), none⟩,
    ⟨some 20, .load false 1 (.tmp 19) false, none⟩,
    ⟨some 21, .lookup 1 false [.nilp] (.tmp 16) (.tmp 20) false, none⟩,
    ⟨some 4, .assign (.tmp 21), none⟩]
set_option maxRecDepth 100000 in
theorem comp0 : compC Try.prog false [] (sqA b38) = some (.region false c38_0) := by kernel_rfl
set_option maxRecDepth 100000 in
theorem comp1 : compC Try.prog false [] (sqA L38) = some c38_1 := by kernel_rfl
set_option maxRecDepth 100000 in
theorem comp2 : compC Try.prog false [] (sqB (sqB L38)) = some (.region false c38_2) := by kernel_rfl
set_option maxRecDepth 100000 in
theorem comp3 : compC Try.prog false [] (sqB K38) = some (.cond (.tmp 25) .ret .skip) := by kernel_rfl
set_option maxRecDepth 100000 in
theorem comp4 : compOpers Try.prog false (opsB (sqA K38)).toList (opsB (sqA K38)).toList = some c38_3 := by kernel_rfl
noncomputable def op38 (i : Nat) : Oper := ((opsB (sqA K38)).toList[i]?).getD { dst := none, op := .move (.tmp 0), type := 0, pos := "", after := #[], guard := none }
theorem ops38 : (opsB (sqA K38)).toList = [op38 0, op38 1, op38 2, op38 3] := by kernel_rfl

/-- The iterator's frame. -/
def fr38 (y : Value) (pt pn : Nat) (c : D) : Fr := ⟨[.val y, .ptr pt 0, .ptr pn 0, .junk, c, .junk, .junk, .junk, .junk, .junk, .junk, .junk, .junk, .junk, .junk, .junk, .junk, .junk, .junk, .junk, .junk, .junk, .junk, .junk, .junk, .junk], [none, none, none, none, none, none, none, none, none, none, none, none, none, none, none, none, none, none, none, none, none, none, none, none, none, none], []⟩
theorem fr38_still (y : Value) (pt pn : Nat) {c : D} (h : stillD c = true) : (fr38 y pt pn c).isStill = true := by
  simp only [Fr.isStill, fr38, List.all_cons, List.all_nil, h]
  rfl
theorem mapAt_some {σ : St} {o k : Nat} {es : List (D × D)} (h : mapAt σ o k = some es) : ∃ cs m, σ[o]? = some (.cells cs) ∧ cs[k]? = some (.map m) ∧ σ[m]? = some (.map es) := by
  unfold mapAt at h
  split at h <;> first | (cases h; done) | skip
  rename_i cs h1
  split at h <;> first | (cases h; done) | skip
  rename_i m h2
  split at h <;> first | (cases h; done) | skip
  rename_i es' h3
  cases h
  exact ⟨cs, m, h1, h2, h3⟩
theorem ptrAt_some {σ : St} {p o : Nat} (h : ptrAt σ p = some o) : ∃ cs, σ[p]? = some (.cells (.ptr o 0 :: cs)) := by
  unfold ptrAt at h
  split at h <;> first | (cases h; done) | skip
  rename_i o' cs h1
  cases h
  exact ⟨cs, h1⟩
theorem strAt_some {σ : St} {p k : Nat} {s : List UInt8} (h : strAt σ p k = some s) : ∃ cs, σ[p]? = some (.cells cs) ∧ cs[k]? = some (.str s) := by
  unfold strAt at h
  split at h <;> first | (cases h; done) | skip
  rename_i cs h1
  split at h <;> first | (cases h; done) | skip
  rename_i s' h2
  cases h
  exact ⟨cs, h1, h2⟩
theorem nodeOf_some {σ : St} {o : Nat} {s : List UInt8} {d : D} (h : nodeOf σ o s = some d) : ∃ cs m es r, σ[o]? = some (.cells cs) ∧ cs[0]? = some (.map m) ∧ σ[m]? = some (.map es) ∧ findKey 1 (.str s) es = some r ∧ d = r.getD .nilp := by
  unfold nodeOf at h
  split at h <;> first | (cases h; done) | skip
  rename_i es h1
  rw [Option.map_eq_some_iff] at h
  obtain ⟨r, h2, rfl⟩ := h
  obtain ⟨cs, m, q1, q2, q3⟩ := mapAt_some h1
  exact ⟨cs, m, es, r, q1, q2, q3, h2, rfl⟩
def NodeD (d : D) : Prop := d = .nilp ∨ ∃ nd, d = .ptr nd 0
theorem NodeD.still {d : D} (h : NodeD d) : stillD d = true := by rcases h with rfl | ⟨nd, rfl⟩ <;> rfl
theorem reg0_run (cal : Cal) (fuel : Nat) {σ : St} (y : Value) {pt pn : Nat} {d : D} (h : startL σ pt pn = some d) (hd : NodeD d) :
    ∃ fr, runC cal fuel (.region false c38_0) (fr38 y pt pn .junk) σ = some (.normal, fr, σ) ∧ fr.clear [0, 1, 2, 4] = fr38 y pt pn d := by
  unfold startL at h
  split at h <;> first | (cases h; done) | skip
  rename_i o s h1 h2
  obtain ⟨c1, h1⟩ := ptrAt_some h1
  obtain ⟨c2, h2, h2'⟩ := strAt_some h2
  obtain ⟨cs, m, es, r, h3, h4, h5, h6, rfl⟩ := nodeOf_some h
  obtain ⟨c0, rfl⟩ : ∃ c, cs = .map m :: c := by
    cases cs with
    | nil => simp at h4
    | cons x c => simp at h4; exact ⟨c, by rw [h4]⟩
  obtain ⟨c3, rfl⟩ : ∃ c, c2 = .str s :: c := by
    cases c2 with
    | nil => simp at h2'
    | cons x c => simp at h2'; exact ⟨c, by rw [h2']⟩
  cases r with
  | none =>
    refine ⟨_, by simp [runC, c38_0, fr38, runOps, runOp, wantedD, evalOp, Fr.val, Fr.at, Fr.put, Fr.set, Fr.take, cellsAt, D.strip, h1, h2, h3, h5, h6, keyD]; rfl, ?_⟩
    rfl
  | some v =>
    rcases hd with hd | ⟨nd, hd⟩ <;> (simp only [Option.getD_some] at hd; subst hd)
    · refine ⟨_, by simp [runC, c38_0, fr38, runOps, runOp, wantedD, evalOp, Fr.val, Fr.at, Fr.put, Fr.set, Fr.take, cellsAt, D.strip, h1, h2, h3, h5, h6, keyD]; rfl, ?_⟩
      rfl
    · refine ⟨_, by simp [runC, c38_0, fr38, runOps, runOp, wantedD, evalOp, Fr.val, Fr.at, Fr.put, Fr.set, Fr.take, cellsAt, D.strip, h1, h2, h3, h5, h6, keyD]; rfl, ?_⟩
      rfl
theorem reg1_nil (cal : Cal) (fuel : Nat) (σ : St) (y : Value) (pt pn : Nat) :
    ∃ fr, runC cal fuel c38_1 (fr38 y pt pn .nilp) σ = some (.exit 0, fr, σ) ∧ fr.defers = [] := ⟨_, rfl, rfl⟩
theorem reg1_ptr (cal : Cal) (fuel : Nat) (σ : St) (y : Value) (pt pn nd : Nat) :
    ∃ fr, runC cal fuel c38_1 (fr38 y pt pn (.ptr nd 0)) σ = some (.normal, fr, σ) ∧ fr.clear [0, 1, 2, 4] = fr38 y pt pn (.ptr nd 0) := ⟨_, rfl, rfl⟩
theorem reg2_run (cal : Cal) (fuel : Nat) {σ : St} (y : Value) {pt pn nd : Nat} {d : D} (h : stepL σ pt nd = some d) (hd : NodeD d) :
    ∃ fr, runC cal fuel (.region false c38_2) (fr38 y pt pn (.ptr nd 0)) σ = some (.normal, fr, σ) ∧ fr.clear [0, 1, 2, 4] = fr38 y pt pn d := by
  unfold stepL at h
  split at h <;> first | (cases h; done) | skip
  rename_i o s h1 h2
  obtain ⟨c1, h1⟩ := ptrAt_some h1
  obtain ⟨c2, h2, h2'⟩ := strAt_some h2
  obtain ⟨cs, m, es, r, h3, h4, h5, h6, rfl⟩ := nodeOf_some h
  obtain ⟨c0, rfl⟩ : ∃ c, cs = .map m :: c := by
    cases cs with
    | nil => simp at h4
    | cons x c => simp at h4; exact ⟨c, by rw [h4]⟩
  obtain ⟨c4, c3, rfl⟩ : ∃ c4 c, c2 = c4 :: .str s :: c := by
    cases c2 with
    | nil => simp at h2'
    | cons x c =>
      cases c with
      | nil => simp at h2'
      | cons z c => simp at h2'; exact ⟨x, c, by rw [h2']⟩
  cases r with
  | none =>
    refine ⟨_, by simp [runC, c38_2, fr38, runOps, runOp, wantedD, evalOp, Fr.val, Fr.at, Fr.put, Fr.set, Fr.take, cellsAt, D.strip, h1, h2, h3, h5, h6, keyD]; rfl, ?_⟩
    rfl
  | some v =>
    rcases hd with hd | ⟨nd, hd⟩ <;> (simp only [Option.getD_some] at hd; subst hd)
    · refine ⟨_, by simp [runC, c38_2, fr38, runOps, runOp, wantedD, evalOp, Fr.val, Fr.at, Fr.put, Fr.set, Fr.take, cellsAt, D.strip, h1, h2, h3, h5, h6, keyD]; rfl, ?_⟩
      rfl
    · refine ⟨_, by simp [runC, c38_2, fr38, runOps, runOp, wantedD, evalOp, Fr.val, Fr.at, Fr.put, Fr.set, Fr.take, cellsAt, D.strip, h1, h2, h3, h5, h6, keyD]; rfl, ?_⟩
      rfl

section
variable {g g' : Gh} {w w' : World} {σ σ' : St} {a : Act} {Q : Exit → Act → World → Prop}
theorem lineIt_some {round : D → St → Option (AE × St)} {pt n : Nat} {c : D} {σ σ' : St} {ae : AE} (h : lineIt round pt n c σ = some (ae, σ')) : ∃ k, n = k + 1 ∧
    ((c = .nilp ∧ ae = .normal ∧ σ' = σ) ∨ ∃ nd, c = .ptr nd 0 ∧ ((∃ σ1 d, round (.ptr nd 0) σ = some (.normal, σ1) ∧ stepL σ1 pt nd = some d ∧ lineIt round pt k d σ1 = some (ae, σ')) ∨ (ae ≠ .normal ∧ round (.ptr nd 0) σ = some (ae, σ')))) := by
  cases n with
  | zero => cases h
  | succ k =>
    refine ⟨k, rfl, ?_⟩
    cases c with
    | nilp =>
      simp only [lineIt, Option.some.injEq, Prod.mk.injEq] at h
      exact .inl ⟨rfl, h.1.symm, h.2.symm⟩
    | ptr nd off =>
      cases off with
      | succ off => cases h
      | zero =>
        refine .inr ⟨nd, rfl, ?_⟩
        simp only [lineIt] at h
        split at h
        · rename_i σ1 h1
          split at h
          · rename_i d h2
            exact .inl ⟨σ1, d, h1, h2, h⟩
          · cases h
        · rename_i hno
          refine .inr ⟨fun e => ?_, h⟩
          subst e
          exact hno _ h
    | _ => cases h
theorem lineIt_node {round : D → St → Option (AE × St)} {pt n : Nat} {c : D} {σ : St} {r : AE × St} (h : lineIt round pt n c σ = some r) : NodeD c := by
  obtain ⟨ae, σ'⟩ := r
  obtain ⟨k, _, h | ⟨nd, h, _⟩⟩ := lineIt_some h
  · exact .inl h.1
  · exact .inr ⟨nd, h⟩
/-- What is known of the loop's record between two rounds. -/
structure Rec (P : Program) (g : Gh) (w : World) (l : Nat) (r : Loop) (fr : Fr) : Prop where
  at_ : w.heap[l]? = some (.loop r)
  ω : g.ω l = .other
  base : g.base = []
  s : SInv P g w fr r.tmps
theorem Rec.later {P : Program} {l : Nat} {r : Loop} {fr : Fr} (hs : fr.isStill = true) (h : Rec P g w l r fr) (e : Ext g w g' w') : Rec P g' w' l r fr := by
  obtain ⟨k1, k2⟩ := e.blk l (Array.getElem?_eq_some_iff.1 h.at_).1 (by rw [h.ω]; rfl)
  exact ⟨k1.trans h.at_, k2.trans h.ω, e.base.trans h.base, h.s.later hs e.le⟩
theorem leftL_normal {r : Loop} (h1 : r.state = .ready) (h2 : r.pending = none) : leftL r .normal = r := by
  cases r
  simp only at h1 h2
  subst h1 h2
  rfl
theorem inv_still {P : Program} {fr : Fr} (hs : fr.isStill = true) (i : Inv P g w fr σ a) (hle : g.Le g') (h : HInv P g' w' σ') (hb : g'.base = g.base) : Inv P g' w' fr σ' a :=
  ⟨h, i.s.later hs hle, i.d.mono hle hb⟩

theorem loop38 {frO : Fr} {p : Nat} {ma mb : MCode} (hsO : frO.isStill = true) {l : Nat} {r : Loop} (hst : r.state = .ready) (hpe : r.pending = none) (hp : r.params = #[p]) (ha : CodeR Try.prog r.assign ma) (hb : CodeR Try.prog r.body mb) {pt pn : Nat} {ae : AE} {σ' : St} :
    ∀ (n : Nat) {c : D} {σ : St} {g : Gh} {w : World} {a : Act}, lineIt (roundR ma mb frO p) pt n c σ = some (ae, σ') → Inv Try.prog g w (fr38 (.func (.yield l) #[] #[]) pt pn c) σ a → Rec Try.prog g w l r frO →
      (∀ a' w2 g2, ExtBut (fun b => b = l) g w g2 w2 → HInv Try.prog g2 w2 σ' → w2.heap[l]? = some (.loop (leftL r ae)) → a'.defers = [] → Q (.exit 0) a' w2 ∧ Q .ret a' w2) →
      Code.roundsIn Fence.wide 0 Try.prog (.seq (sqA L38) (.seq (.block 1 (.seq (.region 3 (opsB (sqA K38)) false) (sqB K38))) (sqB (sqB L38)))) Q n a w
  | 0, c, σ, g, w, a, h, _, _, _ => by cases h
  | n + 1, c, σ, g, w, a, h, i, hR, hQ => by
    rw [roundsIn_succ]
    have hbase := hR.base
    have hds : ∀ {fr : Fr} {σ : St} {g1 : Gh} {w1 : World} {a1 : Act}, Inv Try.prog g1 w1 fr σ a1 → g1.base = g.base → fr.defers = [] → a1.defers = [] := fun i1 e hd => defers_nil i1 (e.trans hbase) (by rw [hd]; rfl)
    obtain ⟨k, hk, hcase⟩ := lineIt_some h
    obtain rfl : n = k := by omega
    rcases hcase with ⟨rfl, rfl, rfl⟩ | ⟨nd, rfl, hcase⟩
    · -- the end of the line
      obtain ⟨fr1, h1, h2⟩ := reg1_nil noCal 0 σ' (.func (.yield l) #[] #[]) pt pn
      refine wpIn_seq (wide_code hmix noCal_ok noCal_in comp1 0 h1 i (fun a1 w1 g1 e1 i1 => ?_))
      exact (hQ a1 w1 g1 e1.but i1.h (by rw [leftL_normal hst hpe]; exact (hR.later hsO e1).at_) (hds i1 e1.base h2)).1
    · -- a node
      obtain ⟨fr1, h1, h2⟩ := reg1_ptr noCal 0 σ (.func (.yield l) #[] #[]) pt pn nd
      refine wpIn_seq (wide_code hmix noCal_ok noCal_in comp1 0 h1 i (fun a1 w1 g1 e1 i1 => ?_))
      replace i1 := i1.clear [0, 1, 2, 4]
      rw [h2] at i1
      have hR1 := hR.later hsO e1
      refine wpIn_seq (wpIn_block (wpIn_seq (wpIn_region_list ?_)))
      rw [ops38]
      have hnd : ∀ o ∈ [op38 0, op38 1, op38 2, op38 3], ∀ c, o.op ≠ .defer c := by
        rw [← ops38]
        exact noDefer_of (by kernel_rfl)
      have hc2 : (op38 2).op = .call { callee := .value (.tmp 22), args := #[.tmp 23], argTypes := #[66] } ∧ (op38 2).guard = none ∧ (op38 2).dst = some 24 := ⟨by kernel_rfl, by kernel_rfl, by kernel_rfl⟩
      have hc0 : compOper Try.prog false (opsB (sqA K38)).toList (op38 0) = some ⟨some 22, .move (.tmp 0) false, none⟩ := by kernel_rfl
      have hc1 : compOper Try.prog false (opsB (sqA K38)).toList (op38 1) = some ⟨some 23, .move (.tmp 4) false, none⟩ := by kernel_rfl
      have hc3 : compOper Try.prog false (opsB (sqA K38)).toList (op38 3) = some ⟨some 25, .un .not (.tmp 24), none⟩ := by kernel_rfl
      refine wide_op (q := false) noCal_ok noCal_in (hnd _ (by simp)) hc0 (fr' := (fr38 (.func (.yield l) #[] #[]) pt pn (.ptr nd 0)).put (some 22) (.val (.func (.yield l) #[] #[]))) (σ' := σ) (by rfl) i1 (fun a2 w2 g2 e2 i2 => ?_)
      have hR2 := hR1.later hsO e2
      refine wide_op (q := false) noCal_ok noCal_in (hnd _ (by simp)) hc1 (fr' := ((fr38 (.func (.yield l) #[] #[]) pt pn (.ptr nd 0)).put (some 22) (.val (.func (.yield l) #[] #[]))).put (some 23) (.ptr nd 0)) (σ' := σ) (by rfl) i2 (fun a3 w3 g3 e3 i3 => ?_)
      have hR3 := hR2.later hsO e3
      have v22 : a3.eval (.tmp 22) = .func (.yield l) #[] #[] := by
        have := (val_ok i3.s (x := .tmp 22) (X := .tmp 22) rfl).1
        generalize a3.eval (.tmp 22) = v at this
        cases this
        rfl
      have v23 := (val_ok i3.s (x := .tmp 23) (X := .tmp 23) rfl).1
      obtain ⟨ae1, σ1, hround, hthen⟩ : ∃ ae1 σ1, roundR ma mb frO p (.ptr nd 0) σ = some (ae1, σ1) ∧ ((ae1 = .normal ∧ ∃ d, stepL σ1 pt nd = some d ∧ lineIt (roundR ma mb frO p) pt n d σ1 = some (ae, σ')) ∨ (ae1 ≠ .normal ∧ ae1 = ae ∧ σ1 = σ')) := by
        rcases hcase with ⟨σ1, d, q1, q2, q3⟩ | ⟨q1, q2⟩
        · exact ⟨_, _, q1, .inl ⟨rfl, d, q2, q3⟩⟩
        · exact ⟨_, _, q2, .inr ⟨q1, rfl, rfl⟩⟩
      unfold roundR at hround
      split at hround <;> first | (cases hround; done) | skip
      rename_i frA σA hA
      rw [Option.map_eq_some_iff] at hround
      obtain ⟨⟨aeB, frB, σB⟩, hB, hpair⟩ := hround
      cases hpair
      have hrnd := round_ok (n := 0 - 1) noCal_ok noCal_in hR3.at_ hst hR3.ω hp hR3.s hsO i3.h hR3.base v23 (d := .ptr nd 0) rfl ha hb hA hB
      refine wide_yield hc2.1 rfl rfl hc2.2.1 v22 hR3.at_ (by rw [hp]; rfl) hrnd (fun e w4 ⟨he, g4, e4, h4, hl4⟩ => ⟨_, he, ?_⟩)
      rw [hc2.2.2]
      have i4 := inv_still (by rfl) i3 e4.le h4 e4.base
      have hω4 : g4.ω l = .other := ((e4.blk l (Array.getElem?_eq_some_iff.1 hR3.at_).1 (by rw [hR3.ω]; rfl)).2).trans hR3.ω
      have i5 := i4.put (some 24) (v := .bool aeB.jump.isNone) (d := .bool aeB.jump.isNone) (.bool _) (fun _ _ => .of_ne rfl) (fun s off e => by cases e)
      have e14 := ((e1.but.trans e2.but).trans e3.but).trans e4
      refine wide_op (q := false) noCal_ok noCal_in (hnd _ (by simp)) hc3 (fr' := ((((fr38 (.func (.yield l) #[] #[]) pt pn (.ptr nd 0)).put (some 22) (.val (.func (.yield l) #[] #[]))).put (some 23) (.ptr nd 0)).put (some 24) (.bool aeB.jump.isNone)).put (some 25) (.bool (!aeB.jump.isNone))) (σ' := σB) (by rfl) i5 (fun a6 w6 g6 e6 i6 => ?_)
      have hl6 : w6.heap[l]? = some (.loop (leftL r aeB)) := (e6.blk l (Array.getElem?_eq_some_iff.1 hl4).1 (by rw [hω4]; rfl)).1.trans hl4
      have hω6 : g6.ω l = .other := (e6.blk l (Array.getElem?_eq_some_iff.1 hl4).1 (by rw [hω4]; rfl)).2.trans hω4
      have e16 := e14.trans (e6.but (X := fun b => b = l))
      unfold wpListIn
      rcases hthen with ⟨rfl, d, q2, q3⟩ | ⟨q1, rfl, rfl⟩
      · -- on
        refine wide_code hmix noCal_ok noCal_in comp3 0 (fr' := _) (ae := .normal) (σ' := σB) (by rfl) i6 (fun a7 w7 g7 e7 i7 => ?_)
        have hl7 : w7.heap[l]? = some (.loop r) := by
          rw [leftL_normal hst hpe] at hl6
          exact (e7.blk l (Array.getElem?_eq_some_iff.1 hl6).1 (by rw [hω6]; rfl)).1.trans hl6
        have hω7 : g7.ω l = .other := (e7.blk l (Array.getElem?_eq_some_iff.1 hl6).1 (by rw [hω6]; rfl)).2.trans hω6
        have e17 := e16.trans (e7.but (X := fun b => b = l))
        replace i7 := i7.clear [0, 1, 2, 4]
        have hclr : ∀ b, ((((((fr38 (.func (.yield l) #[] #[]) pt pn (.ptr nd 0)).put (some 22) (.val (.func (.yield l) #[] #[]))).put (some 23) (.ptr nd 0)).put (some 24) (.bool b)).put (some 25) (.bool (!b)))).clear [0, 1, 2, 4] = fr38 (.func (.yield l) #[] #[]) pt pn (.ptr nd 0) := fun b => rfl
        rw [hclr] at i7
        obtain ⟨frC, hC1, hC2⟩ := reg2_run noCal 0 (.func (.yield l) #[] #[]) (pn := pn) q2 (lineIt_node q3)
        refine wide_code hmix noCal_ok noCal_in comp2 0 hC1 i7 (fun a8 w8 g8 e8 i8 => ?_)
        replace i8 := i8.clear [0, 1, 2, 4]
        rw [hC2] at i8
        have hR8 : Rec Try.prog g8 w8 l r frO := (Rec.mk hl7 hω7 (e17.base.trans hbase) (hR.s.later hsO e17.le)).later hsO e8
        have e18 := e17.trans (e8.but (X := fun b => b = l))
        exact loop38 hsO hst hpe hp ha hb n q3 i8 hR8 (fun a' w' g' e h hl hd => hQ a' w' g' (e18.trans e) h hl hd)
      · -- the round has left
        have hb : aeB.jump.isNone = false := by cases aeB <;> first | exact absurd rfl q1 | rfl
        rw [hb] at i6
        refine wide_code hmix noCal_ok noCal_in comp3 0 (fr' := _) (ae := .ret) (σ' := σB) (by rfl) i6 (fun a7 w7 g7 e7 i7 => ?_)
        have hl7 := (e7.blk l (Array.getElem?_eq_some_iff.1 hl6).1 (by rw [hω6]; rfl)).1.trans hl6
        exact (hQ a7 w7 g7 (e16.trans e7.but) i7.h hl7 (hds i7 ((e16.trans (e7.but (X := fun b => b = l))).base) rfl)).2
end
end Go.Abs.C

/-
  The line of a node: the statement that ranges over it; using something, and letting go of it.
-/
namespace Go.Abs.C
open Go Go.Abs Go.RowKit Go.Proofs Go.Proofs.Ytnjoledlgacpeaa

theorem ent38 : Enters Try.prog 38 := ⟨Try.f38, _, Try.func38, body38, by kernel_rfl⟩
theorem res38 : Try.f38.results = #[] := by kernel_rfl
theorem nt38 : Try.f38.ntmps = 26 := by kernel_rfl
theorem clr38 (y : Value) (pt pn : Nat) (c : D) : (fr38 y pt pn c).clear [0, 1, 2, 4] = fr38 y pt pn (keptD [0, 1, 2, 4] c) := rfl
theorem line_calls {frO : Fr} {p : Nat} {ma mb : MCode} (hsO : frO.isStill = true) {l : Nat} {r : Loop} (hst : r.state = .ready) (hpe : r.pending = none) (hp : r.params = #[p]) (ha : CodeR Try.prog r.assign ma) (hb : CodeR Try.prog r.body mb) {pt pn : Nat}
    {d : D} {σ σ' : St} {ae : AE} {g : Gh} {w : World} {vs : Array Value} (h0 : startL σ pt pn = some d) (hL : lineIt (roundR ma mb frO p) pt 1000 d σ = some (ae, σ')) (hR : Rec Try.prog g w l r frO) (hi : HInv Try.prog g w σ)
    (hvs : AllRep (Rep g) vs.toList [.ptr pt 0, .ptr pn 0]) :
    CallsIn Fence.wide 0 Try.prog 38 (#[.func (.yield l) #[] #[]] ++ vs) w (fun e w2 => (∃ v, e = .returned v) ∧ ∃ g2 ae' σ2, ExtBut (fun b => b = l) g w g2 w2 ∧ HInv Try.prog g2 w2 σ2 ∧ w2.heap[l]? = some (.loop (leftL r ae')) ∧ (ae' = ae ∧ σ2 = σ')) := by
  have hbase := hR.base
  have hr : AllRep (Rep g) (#[Value.func (.yield l) #[] #[]] ++ vs).toList [.val (.func (.yield l) #[] #[]), .ptr pt 0, .ptr pn 0] := by
    refine ⟨by have := hvs.1; simp at this ⊢; exact this, fun i v d h1 h2 => ?_⟩
    cases i with
    | zero => simp at h1 h2; subst h1 h2; exact .val _
    | succ i =>
      simp only [Array.toList_append, List.cons_append, List.nil_append, List.getElem?_cons_succ] at h1 h2
      exact hvs.2 i v d h1 h2
  have i0 := enter_inv (m := ⟨3, 26, [], .skip⟩) (nt := 26) rfl hi hbase hr rfl rfl (show (3 : Nat) ≤ 26 by decide)
  rw [show enterFr ⟨3, 26, [], .skip⟩ [.val (.func (.yield l) #[] #[]), .ptr pt 0, .ptr pn 0] = fr38 (.func (.yield l) #[] #[]) pt pn .junk from rfl] at i0
  refine callsIn_of_wp (fn := Try.f38) Try.func38 body38 trivial ?_ rfl
  rw [nt38]
  obtain ⟨fr0, h1, h2⟩ := reg0_run noCal 0 (.func (.yield l) #[] #[]) (pn := pn) h0 (lineIt_node hL)
  refine wpIn_seq (wide_code hmix noCal_ok noCal_in comp0 0 h1 i0 (fun a1 w1 g1 e1 i1 => ?_))
  replace i1 := i1.clear [0, 1, 2, 4]
  rw [h2] at i1
  refine wpIn_block (wpIn_loop_rounds 1000 (loop38 hsO hst hpe hp ha hb 1000 hL i1 (hR.later hsO e1) (fun a' w2 g2 e2 h3 h4 h5 => ?_)))
  have fin : bodyPost Try.prog Try.f38 (fun e w2 => (∃ v, e = .returned v) ∧ ∃ g2 ae' σ2, ExtBut (fun b => b = l) g w g2 w2 ∧ HInv Try.prog g2 w2 σ2 ∧ w2.heap[l]? = some (.loop (leftL r ae')) ∧ (ae' = ae ∧ σ2 = σ')) .ret a' w2 := by
    refine ⟨h5, .tuple #[], ?_, ⟨_, rfl⟩, g2, ae, σ', e1.but.trans e2, h3, h4, rfl, rfl⟩
    simp [results, res38]
  exact ⟨fin, fin⟩

theorem lineN_ok {ts : List Nat} {t p : Nat} {assign body : Code} {ma mb : MCode} (ha : CodeR Try.prog assign ma) (hb : CodeR Try.prog body mb) :
    CodeM Try.prog (.rangeFunc (.tmp t) #[p] assign body) (.nat (lineN 38 ts t p ma mb)) := by
  intro cal fuel hc hci ae fr fr' σ σ' a g w Q hr i hn
  simp only [runC] at hr
  unfold lineN at hr
  split at hr <;> first | (cases hr; done) | skip
  rename_i fr1 σ1 hpr
  split at hr <;> first | (cases hr; done) | skip
  rename_i hs
  split at hr <;> first | (cases hr; done) | skip
  rename_i f pt pn hat
  split at hr <;> first | (cases hr; done) | skip
  rename_i hf
  subst hf
  split at hr <;> first | (cases hr; done) | skip
  rename_i d hstart
  rw [Option.map_eq_some_iff] at hr
  obtain ⟨⟨ae0, σ0⟩, hL, hpair⟩ := hr
  simp only [Prod.mk.injEq] at hpair
  obtain ⟨rfl, rfl, rfl⟩ := hpair
  obtain ⟨g1, e1, i1⟩ := promoteL_ok ts hpr i
  replace i1 := i1.still
  have hv := (val_ok i1.s (x := .tmp t) (X := .tmp t) rfl).1
  have hval : fr1.still.val (.tmp t) = .func 38 [.ptr pt 0, .ptr pn 0] := by
    simp only [Fr.val, hat]
    rfl
  rw [hval] at hv
  obtain ⟨vs, hvv, hvs⟩ : ∃ vs : Array Value, a.eval (.tmp t) = .func (.func 38) #[] vs ∧ AllRep (Rep g1) vs.toList [.ptr pt 0, .ptr pn 0] := by
    generalize a.eval (.tmp t) = v at hv
    cases hv with
    | func f vs ds hl hR hp => exact ⟨vs, rfl, hl, hR⟩
  refine rangeFunc_ok i1 hs hvv ent38 (fun ae' σ2 => ae' = ae0 ∧ σ2 = σ0) ?_ ?_
  · intro fn g2 w2 l r h1 h2 h3 h4 h5 h6 h7 h8 h9 h10 h11 h12 _
    subst h5 h6
    exact line_calls hs h2 h3 h4 ha hb hstart hL ⟨h8, h9, h10, by rw [h7]; exact i1.s.later hs h12⟩ h11 (hvs.mono h12 rfl)
  · rintro ae' σ2 a' w' g' ⟨rfl, rfl⟩ e2 i2
    exact hn a' w' g' (e1.m.trans e2) i2
end Go.Abs.C

/-
  Using something, and letting go of it: machine code, of which the ranges over a node's line are told by a function.
-/
namespace Go.Abs.C
open Go Go.Abs Go.RowKit Go.Proofs Go.Proofs.Ytnjoledlgacpeaa
def rfA : Code → Code
  | .rangeFunc _ _ a _ => a
  | c => c
def rfB : Code → Code
  | .rangeFunc _ _ _ b => b
  | c => c
def cdA : Code → Code
  | .cond _ a _ => a
  | c => c
noncomputable def b13 : Code := (Try.f13.body).getD .skip
noncomputable def b14 : Code := (Try.f14.body).getD .skip

def p13_a : MCode :=
   (.region false [⟨some 7, .box (.tmp 3), none⟩,
    ⟨some 8, .alloc [(.int .i64 (0))], none⟩])

def p13_ba : MCode :=
   (.seq (.region false [⟨some 13, .move (.tmp 0) false, none⟩,
    ⟨some 14, .eqn false (.tmp 13), none⟩,
    ⟨some 15, .move (.tmp 14) false, none⟩,
    ⟨some 16, .move (.tmp 2) false, some (15, false)⟩,
    ⟨some 17, .bin .eql (.tmp 16) (.const (.str [])), some (15, false)⟩,
    ⟨some 18, .pick (.tmp 15) (.const (.bool true)) (.tmp 17), none⟩,
    ⟨some 19, .move (.tmp 18) false, none⟩,
    ⟨some 20, .load false 1 (.tmp 7) false, some (19, false)⟩,
    ⟨some 21, .bin .lss (.tmp 20) (.const (.int .i64 (1))), some (19, false)⟩,
    ⟨some 22, .pick (.tmp 19) (.const (.bool true)) (.tmp 21), none⟩])
   (.cond (.tmp 22) (.seq (.region false [⟨none, .store 1 (.tmp 8) (.const (.int .i64 (1))), none⟩])
   .ret) .skip))

def p13_bba : MCode :=
   (.seq (.region false [⟨some 23, .move (.tmp 0) false, none⟩,
    ⟨some 24, .nilCheck (.tmp 23), none⟩,
    ⟨some 25, .fieldAddr 0 (.tmp 24), none⟩,
    ⟨some 26, .load false 1 (.tmp 25) false, none⟩,
    ⟨some 27, .move (.tmp 1) false, none⟩,
    ⟨some 28, .lookup 1 false [.nilp] (.tmp 26) (.tmp 27) false, none⟩,
    ⟨some 29, .eqn false (.tmp 28), none⟩])
   (.cond (.tmp 29) (.seq (.region false [⟨none, .store 1 (.tmp 8) (.const (.int .i64 (60))), none⟩])
   .ret) .skip))

def p13_bbba : MCode :=
   (.seq (.region false [⟨some 31, .move (.tmp 0) false, none⟩,
    ⟨some 32, .nilCheck (.tmp 31), none⟩,
    ⟨some 33, .fieldAddr 1 (.tmp 32), none⟩,
    ⟨some 34, .load false 1 (.tmp 33) false, none⟩,
    ⟨some 35, .move (.tmp 2) false, none⟩,
    ⟨some 36, .lookup 1 true [(.str []), (.str []), (.int .i64 (0))] (.tmp 34) (.tmp 35) true, none⟩,
    ⟨some 30, .move (.tmp 36) false, none⟩,
    ⟨some 37, .extract (.tmp 30) 0, none⟩,
    ⟨some 38, .extract (.tmp 30) 1, none⟩,
    ⟨some 9, .alloc [(.str []), (.str []), (.int .i64 (0))], none⟩,
    ⟨none, .store 3 (.tmp 9) (.tmp 37), none⟩,
    ⟨some 10, .assign (.tmp 38), none⟩])
   (.seq (.region false [⟨some 39, .move (.tmp 10) false, none⟩])
   (.cond (.tmp 39) (.seq (.region false [⟨none, .store 1 (.tmp 8) (.const (.int .i64 (13))), none⟩])
   .ret) .skip)))

def p13_bbbbaa : MCode :=
   (.region false [⟨some 40, .move (.tmp 0) false, none⟩,
    ⟨some 41, .move (.tmp 1) false, none⟩,
    ⟨some 42, .call 24 [(.tmp 40), (.tmp 41)], none⟩])

def p13_bbbbabki : MCode :=
   (.region false [⟨some 11, .assign (.tmp 43), none⟩])

def p13_bbbbabkj : MCode :=
   (.block 1 (.seq (.region false [⟨some 44, .load false 1 (.tmp 7) false, none⟩,
    ⟨some 45, .move (.tmp 11) false, none⟩,
    ⟨some 46, .nilCheck (.tmp 45), none⟩,
    ⟨some 47, .fieldAddr 2 (.tmp 46), none⟩,
    ⟨some 48, .load false 1 (.tmp 47) false, none⟩,
    ⟨some 49, .move (.tmp 11) false, none⟩,
    ⟨some 50, .nilCheck (.tmp 49), none⟩,
    ⟨some 51, .fieldAddr 3 (.tmp 50), none⟩,
    ⟨some 52, .load false 1 (.tmp 51) false, none⟩,
    ⟨some 53, .bin .sub (.tmp 48) (.tmp 52), none⟩,
    ⟨some 54, .bin .gtr (.tmp 44) (.tmp 53), none⟩])
   (.cond (.tmp 54) (.seq (.region false [⟨none, .store 1 (.tmp 8) (.const (.int .i64 (61))), none⟩])
   .ret) .skip)))

def p13_bbbbbaa : MCode :=
   (.region false [⟨some 55, .move (.tmp 0) false, none⟩,
    ⟨some 56, .move (.tmp 1) false, none⟩,
    ⟨some 57, .call 24 [(.tmp 55), (.tmp 56)], none⟩])

def p13_bbbbbabki : MCode :=
   (.region false [⟨some 12, .assign (.tmp 58), none⟩])

def p13_bbbbbabkj : MCode :=
   (.block 3 (.region false [⟨some 59, .move (.tmp 12) false, none⟩,
    ⟨some 60, .nilCheck (.tmp 59), none⟩,
    ⟨some 61, .fieldAddr 3 (.tmp 60), none⟩,
    ⟨some 62, .load false 1 (.tmp 61) false, none⟩,
    ⟨some 63, .load false 1 (.tmp 7) false, none⟩,
    ⟨some 64, .bin .add (.tmp 62) (.tmp 63), none⟩,
    ⟨some 65, .nilCheck (.tmp 59), none⟩,
    ⟨some 66, .fieldAddr 3 (.tmp 65), none⟩,
    ⟨none, .store 1 (.tmp 66) (.tmp 64), none⟩]))

def p13_bbbbbb : MCode :=
   (.seq (.region false [⟨some 67, .move (.tmp 0) false, none⟩,
    ⟨some 68, .nilCheck (.tmp 67), none⟩,
    ⟨some 69, .fieldAddr 1 (.tmp 68), none⟩,
    ⟨some 70, .load false 1 (.tmp 69) false, none⟩,
    ⟨some 71, .move (.tmp 2) false, none⟩,
    ⟨some 72, .move (.tmp 2) false, none⟩,
    ⟨some 73, .move (.tmp 1) false, none⟩,
    ⟨some 74, .load false 1 (.tmp 7) false, none⟩,
    ⟨some 75, .build [(.str []), (.str []), (.int .i64 (0))] [(0, 1, (.tmp 72)), (1, 1, (.tmp 73)), (2, 1, (.tmp 74))], none⟩,
    ⟨none, .mapUpdate 1 (.tmp 70) (.tmp 71) (.tmp 75), none⟩])
   (.seq (.region false [⟨none, .store 1 (.tmp 8) (.const (.int .i64 (0))), none⟩])
   .ret))

def p14_a : MCode :=
   (.region false [⟨some 4, .assign (.const (.int .i64 (0))), none⟩])

def p14_ba : MCode :=
   (.seq (.region false [⟨some 8, .move (.tmp 0) false, none⟩,
    ⟨some 9, .eqn false (.tmp 8), none⟩])
   (.cond (.tmp 9) (.seq (.region false [⟨some 4, .assign (.const (.int .i64 (1))), none⟩])
   .ret) .skip))

def p14_bba : MCode :=
   (.region false [⟨some 11, .move (.tmp 0) false, none⟩,
    ⟨some 12, .nilCheck (.tmp 11), none⟩,
    ⟨some 13, .fieldAddr 1 (.tmp 12), none⟩,
    ⟨some 14, .load false 1 (.tmp 13) false, none⟩,
    ⟨some 15, .move (.tmp 1) false, none⟩,
    ⟨some 16, .lookup 1 true [(.str []), (.str []), (.int .i64 (0))] (.tmp 14) (.tmp 15) true, none⟩,
    ⟨some 10, .move (.tmp 16) false, none⟩,
    ⟨some 17, .extract (.tmp 10) 0, none⟩,
    ⟨some 18, .extract (.tmp 10) 1, none⟩,
    ⟨some 5, .alloc [(.str []), (.str []), (.int .i64 (0))], none⟩,
    ⟨none, .store 3 (.tmp 5) (.tmp 17), none⟩,
    ⟨some 6, .assign (.tmp 18), none⟩])

def p14_bbba : MCode :=
   (.seq (.region false [⟨some 19, .move (.tmp 6) false, none⟩,
    ⟨some 20, .un .not (.tmp 19), none⟩])
   (.cond (.tmp 20) (.seq (.region false [⟨some 4, .assign (.const (.int .i64 (60))), none⟩])
   .ret) .skip))

def p14_bbbbaa : MCode :=
   (.region false [⟨some 21, .move (.tmp 0) false, none⟩,
    ⟨some 22, .fieldAddr 1 (.tmp 5), none⟩,
    ⟨some 23, .load false 1 (.tmp 22) false, none⟩,
    ⟨some 24, .call 24 [(.tmp 21), (.tmp 23)], none⟩])

def p14_bbbbabki : MCode :=
   (.region false [⟨some 7, .assign (.tmp 25), none⟩])

def p14_bbbbabkj : MCode :=
   (.block 1 (.region false [⟨some 26, .move (.tmp 7) false, none⟩,
    ⟨some 27, .nilCheck (.tmp 26), none⟩,
    ⟨some 28, .fieldAddr 3 (.tmp 27), none⟩,
    ⟨some 29, .load false 1 (.tmp 28) false, none⟩,
    ⟨some 30, .fieldAddr 2 (.tmp 5), none⟩,
    ⟨some 31, .load false 1 (.tmp 30) false, none⟩,
    ⟨some 32, .bin .sub (.tmp 29) (.tmp 31), none⟩,
    ⟨some 33, .nilCheck (.tmp 26), none⟩,
    ⟨some 34, .fieldAddr 3 (.tmp 33), none⟩,
    ⟨none, .store 1 (.tmp 34) (.tmp 32), none⟩]))

def p14_bbbbb : MCode :=
   (.seq (.region false [⟨some 35, .move (.tmp 0) false, none⟩,
    ⟨some 36, .nilCheck (.tmp 35), none⟩,
    ⟨some 37, .fieldAddr 1 (.tmp 36), none⟩,
    ⟨some 38, .load false 1 (.tmp 37) false, none⟩,
    ⟨some 39, .move (.tmp 1) false, none⟩,
    ⟨none, .delete 1 (.tmp 38) (.tmp 39), none⟩])
   (.seq (.region false [⟨some 4, .assign (.const (.int .i64 (0))), none⟩])
   .ret))

set_option maxRecDepth 100000 in
theorem comp13_a : compC Try.prog false [] (sqA b13) = some p13_a := by kernel_rfl

set_option maxRecDepth 100000 in
theorem comp13_ba : compC Try.prog false [] (sqA (sqB b13)) = some p13_ba := by kernel_rfl

set_option maxRecDepth 100000 in
theorem comp13_bba : compC Try.prog false [] (sqA (sqB (sqB b13))) = some p13_bba := by kernel_rfl

set_option maxRecDepth 100000 in
theorem comp13_bbba : compC Try.prog false [] (sqA (sqB (sqB (sqB b13)))) = some p13_bbba := by kernel_rfl

set_option maxRecDepth 100000 in
theorem comp13_bbbbaa : compC Try.prog false [] (sqA (sqA (sqB (sqB (sqB (sqB b13)))))) = some p13_bbbbaa := by kernel_rfl

set_option maxRecDepth 100000 in
theorem comp13_bbbbabki : compC Try.prog false [] (rfA (inB (sqB (sqA (sqB (sqB (sqB (sqB b13)))))))) = some p13_bbbbabki := by kernel_rfl

set_option maxRecDepth 100000 in
theorem comp13_bbbbbaa : compC Try.prog false [] (sqA (sqA (sqB (sqB (sqB (sqB (sqB b13))))))) = some p13_bbbbbaa := by kernel_rfl

set_option maxRecDepth 100000 in
theorem comp13_bbbbbabki : compC Try.prog false [] (rfA (inB (sqB (sqA (sqB (sqB (sqB (sqB (sqB b13))))))))) = some p13_bbbbbabki := by kernel_rfl

set_option maxRecDepth 100000 in
theorem comp13_bbbbbb : compC Try.prog false [] (sqB (sqB (sqB (sqB (sqB (sqB b13)))))) = some p13_bbbbbb := by kernel_rfl

set_option maxRecDepth 100000 in
theorem comp14_a : compC Try.prog false [] (sqA b14) = some p14_a := by kernel_rfl

set_option maxRecDepth 100000 in
theorem comp14_ba : compC Try.prog false [] (sqA (sqB b14)) = some p14_ba := by kernel_rfl

set_option maxRecDepth 100000 in
theorem comp14_bba : compC Try.prog false [] (sqA (sqB (sqB b14))) = some p14_bba := by kernel_rfl

set_option maxRecDepth 100000 in
theorem comp14_bbba : compC Try.prog false [] (sqA (sqB (sqB (sqB b14)))) = some p14_bbba := by kernel_rfl

set_option maxRecDepth 100000 in
theorem comp14_bbbbaa : compC Try.prog false [] (sqA (sqA (sqB (sqB (sqB (sqB b14)))))) = some p14_bbbbaa := by kernel_rfl

set_option maxRecDepth 100000 in
theorem comp14_bbbbabki : compC Try.prog false [] (rfA (inB (sqB (sqA (sqB (sqB (sqB (sqB b14)))))))) = some p14_bbbbabki := by kernel_rfl

set_option maxRecDepth 100000 in
theorem comp14_bbbbb : compC Try.prog false [] (sqB (sqB (sqB (sqB (sqB b14))))) = some p14_bbbbb := by kernel_rfl


/-! codes within rounds -/
def okR : Code → Bool
  | .skip => true
  | .ret => true
  | .exit _ => true
  | .region _ ops _ => noDefer ops
  | .seq a b => okR a && okR b
  | .cond _ a b => okR a && okR b
  | .block _ c => okR c
  | _ => false
theorem codeR_comp {P : Program} {mu : Bool} {keep : List Nat} (hm : P.follows .mixedOrders = true) : ∀ (c : Code) (m : MCode), compC P mu keep c = some m → okR c = true → CodeR P c m
  | .skip, m, h, _ => by
    simp only [compC, Option.some.injEq] at h
    subst h
    exact codeR_skip
  | .ret, m, h, _ => by
    simp only [compC, Option.some.injEq] at h
    subst h
    exact codeR_ret
  | .exit id, m, h, _ => by
    simp only [compC, Option.some.injEq] at h
    subst h
    exact codeR_exit
  | .region id ops draw, m, h, ho => codeR_region hm h ho
  | .seq a b, m, h, ho => by
    simp only [okR, Bool.and_eq_true] at ho
    simp only [compC] at h
    split at h <;> first | (cases h; done) | skip
    rename_i ma mb h1 h2
    cases h
    exact codeR_seq (codeR_comp hm a _ h1 ho.1) (codeR_comp hm b _ h2 ho.2)
  | .cond x a b, m, h, ho => by
    simp only [okR, Bool.and_eq_true] at ho
    simp only [compC] at h
    split at h <;> first | (cases h; done) | skip
    rename_i x' ma mb h0 h1 h2
    cases h
    exact codeR_cond h0 (codeR_comp hm a _ h1 ho.1) (codeR_comp hm b _ h2 ho.2)
  | .block id c, m, h, ho => by
    simp only [okR] at ho
    simp only [compC, Option.map_eq_some_iff] at h
    obtain ⟨mc, h1, rfl⟩ := h
    exact codeR_block (codeR_comp hm c _ h1 ho)

theorem okR13_bbbbabki : okR (rfA (inB (sqB (sqA (sqB (sqB (sqB (sqB b13)))))))) = true := by kernel_rfl

set_option maxRecDepth 100000 in
theorem comp13_bbbbabkj : compC Try.prog false [] (rfB (inB (sqB (sqA (sqB (sqB (sqB (sqB b13)))))))) = some p13_bbbbabkj := by kernel_rfl

theorem okR13_bbbbabkj : okR (rfB (inB (sqB (sqA (sqB (sqB (sqB (sqB b13)))))))) = true := by kernel_rfl

theorem okR13_bbbbbabki : okR (rfA (inB (sqB (sqA (sqB (sqB (sqB (sqB (sqB b13))))))))) = true := by kernel_rfl

set_option maxRecDepth 100000 in
theorem comp13_bbbbbabkj : compC Try.prog false [] (rfB (inB (sqB (sqA (sqB (sqB (sqB (sqB (sqB b13))))))))) = some p13_bbbbbabkj := by kernel_rfl

theorem okR13_bbbbbabkj : okR (rfB (inB (sqB (sqA (sqB (sqB (sqB (sqB (sqB b13))))))))) = true := by kernel_rfl

theorem okR14_bbbbabki : okR (rfA (inB (sqB (sqA (sqB (sqB (sqB (sqB b14)))))))) = true := by kernel_rfl

set_option maxRecDepth 100000 in
theorem comp14_bbbbabkj : compC Try.prog false [] (rfB (inB (sqB (sqA (sqB (sqB (sqB (sqB b14)))))))) = some p14_bbbbabkj := by kernel_rfl

theorem okR14_bbbbabkj : okR (rfB (inB (sqB (sqA (sqB (sqB (sqB (sqB b14)))))))) = true := by kernel_rfl

/-- 'Reserve' -/
def m13 : MFunc :=
  ⟨4, 76, [.cell 8 false 1],
   (.seq p13_a (.seq p13_ba (.seq p13_bba (.seq p13_bbba (.seq (.seq p13_bbbbaa (.block 0 (.nat (lineN 38 [7, 8, 9] 42 43 p13_bbbbabki p13_bbbbabkj)))) (.seq (.seq p13_bbbbbaa (.block 2 (.nat (lineN 38 [] 57 58 p13_bbbbbabki p13_bbbbbabkj)))) p13_bbbbbb))))))⟩
set_option maxRecDepth 100000 in
theorem body13 : Try.f13.body = some (.seq (sqA b13) (.seq (sqA (sqB b13)) (.seq (sqA (sqB (sqB b13))) (.seq (sqA (sqB (sqB (sqB b13)))) (.seq (.seq (sqA (sqA (sqB (sqB (sqB (sqB b13)))))) (.block 0 (.rangeFunc (.tmp 42) #[43] (rfA (inB (sqB (sqA (sqB (sqB (sqB (sqB b13)))))))) (rfB (inB (sqB (sqA (sqB (sqB (sqB (sqB b13))))))))))) (.seq (.seq (sqA (sqA (sqB (sqB (sqB (sqB (sqB b13))))))) (.block 2 (.rangeFunc (.tmp 57) #[58] (rfA (inB (sqB (sqA (sqB (sqB (sqB (sqB (sqB b13))))))))) (rfB (inB (sqB (sqA (sqB (sqB (sqB (sqB (sqB b13)))))))))))) (sqB (sqB (sqB (sqB (sqB (sqB b13)))))))))))) := by kernel_rfl
theorem good13 : GoodT Try.prog 13 m13 :=
  goodT_of Try.func13 body13 (by kernel_rfl) (by kernel_rfl) rfl (codeM_seq (codeM_comp hmix comp13_a) (codeM_seq (codeM_comp hmix comp13_ba) (codeM_seq (codeM_comp hmix comp13_bba) (codeM_seq (codeM_comp hmix comp13_bbba) (codeM_seq (codeM_seq (codeM_comp hmix comp13_bbbbaa) (codeM_block (lineN_ok (codeR_comp hmix _ _ comp13_bbbbabki okR13_bbbbabki) (codeR_comp hmix _ _ comp13_bbbbabkj okR13_bbbbabkj)))) (codeM_seq (codeM_seq (codeM_comp hmix comp13_bbbbbaa) (codeM_block (lineN_ok (codeR_comp hmix _ _ comp13_bbbbbabki okR13_bbbbbabki) (codeR_comp hmix _ _ comp13_bbbbbabkj okR13_bbbbbabkj)))) (codeM_comp hmix comp13_bbbbbb)))))))

/-- 'Release' -/
def m14 : MFunc :=
  ⟨2, 40, [.tmp 4],
   (.seq p14_a (.seq p14_ba (.seq p14_bba (.seq p14_bbba (.seq (.seq p14_bbbbaa (.block 0 (.nat (lineN 38 [5] 24 25 p14_bbbbabki p14_bbbbabkj)))) p14_bbbbb)))))⟩
set_option maxRecDepth 100000 in
theorem body14 : Try.f14.body = some (.seq (sqA b14) (.seq (sqA (sqB b14)) (.seq (sqA (sqB (sqB b14))) (.seq (sqA (sqB (sqB (sqB b14)))) (.seq (.seq (sqA (sqA (sqB (sqB (sqB (sqB b14)))))) (.block 0 (.rangeFunc (.tmp 24) #[25] (rfA (inB (sqB (sqA (sqB (sqB (sqB (sqB b14)))))))) (rfB (inB (sqB (sqA (sqB (sqB (sqB (sqB b14))))))))))) (sqB (sqB (sqB (sqB (sqB b14)))))))))) := by kernel_rfl
theorem good14 : GoodT Try.prog 14 m14 :=
  goodT_of Try.func14 body14 (by kernel_rfl) (by kernel_rfl) rfl (codeM_seq (codeM_comp hmix comp14_a) (codeM_seq (codeM_comp hmix comp14_ba) (codeM_seq (codeM_comp hmix comp14_bba) (codeM_seq (codeM_comp hmix comp14_bbba) (codeM_seq (codeM_seq (codeM_comp hmix comp14_bbbbaa) (codeM_block (lineN_ok (codeR_comp hmix _ _ comp14_bbbbabki okR14_bbbbabki) (codeR_comp hmix _ _ comp14_bbbbabkj okR14_bbbbabkj)))) (codeM_comp hmix comp14_bbbbb))))))

end Go.Abs.C
