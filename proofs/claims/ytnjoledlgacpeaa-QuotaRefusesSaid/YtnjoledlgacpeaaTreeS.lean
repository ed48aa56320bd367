import Derived.Test.YtnjoledlgacpeaaTreeQ
import Derived.Test.YtnjoledlgacpeaaShapes
set_option linter.unusedVariables false
set_option linter.unusedSimpArgs false
/-
  What the operations of a tree come to, as plain data: what is used at a node is the sum of what is held at and below it.
-/
namespace Go.Abs.C
open Go Go.Abs
/-- What is used at a node. -/
def sumAt (np : List (Nm × Nm)) (name : Nm) : List HeldR → Int
  | [] => 0
  | h :: hs => (if name ∈ lineP np h.node then h.amount else 0) + sumAt np name hs
def hasR (rs : List NodeR) (s : Nm) : Bool := (rs.find? (·.name == s)).isSome
def bumpQ (rs : List NodeR) (names : List Nm) (n : Int) : List NodeR := rs.map fun r => if r.name ∈ names then { r with used := r.used + n } else r
structure PInv (rs : List NodeR) (hs : List HeldR) : Prop where
  g : Grown (npR rs)
  u : ∀ r ∈ rs, r.used = sumAt (npR rs) r.name hs ∧ r.used ≤ r.limit ∧ r.limit ≤ 9223372036854775807
  h : ∀ h ∈ hs, 1 ≤ h.amount ∧ hasR rs h.node = true
  d : (hs.map (·.id)).Nodup
theorem sumAt_append (np : List (Nm × Nm)) (name : Nm) (a b : List HeldR) : sumAt np name (a ++ b) = sumAt np name a + sumAt np name b := by
  induction a with
  | nil => simp [sumAt]
  | cons h a ih => simp only [List.cons_append, sumAt, ih]; omega
theorem sumAt_perm {np : List (Nm × Nm)} {name : Nm} {a b : List HeldR} (h : a.Perm b) : sumAt np name a = sumAt np name b := by
  induction h with
  | nil => rfl
  | cons x _ ih => simp only [sumAt, ih]
  | swap x y l => simp only [sumAt]; omega
  | trans _ _ h1 h2 => exact h1.trans h2
theorem sumAt_nonneg {np : List (Nm × Nm)} {name : Nm} : ∀ {hs : List HeldR}, (∀ h ∈ hs, 1 ≤ h.amount) → 0 ≤ sumAt np name hs
  | [], _ => by simp [sumAt]
  | h :: hs, hh => by
    have ih := sumAt_nonneg (np := np) (name := name) fun x hx => hh x (List.mem_cons_of_mem _ hx)
    have := hh h (by simp)
    simp only [sumAt]
    split <;> omega
/-- A part of what is held uses no more. -/
theorem sumAt_take {np : List (Nm × Nm)} {name : Nm} {hs : List HeldR} (h : ∀ h ∈ hs, 1 ≤ h.amount) (j : Nat) : 0 ≤ sumAt np name (hs.take j) ∧ sumAt np name (hs.take j) ≤ sumAt np name hs := by
  have h1 := sumAt_nonneg (np := np) (name := name) (hs := hs.take j) fun x hx => h x (List.mem_of_mem_take hx)
  have h2 := sumAt_nonneg (np := np) (name := name) (hs := hs.drop j) fun x hx => h x (List.mem_of_mem_drop hx)
  have h3 := sumAt_append np name (hs.take j) (hs.drop j)
  rw [List.take_append_drop] at h3
  omega
theorem lookP_has (rs : List NodeR) (s : Nm) : (lookP (npR rs) s).isSome = hasR rs s := by
  induction rs with
  | nil => rfl
  | cons r rs ih =>
    simp only [lookP, npR, hasR, List.map_cons, List.find?_cons] at ih ⊢
    cases r.name == s with
    | true => rfl
    | false => exact ih
theorem hasR_false {rs : List NodeR} {s : Nm} (h : hasR rs s = false) : ∀ r ∈ rs, r.name ≠ s := by
  intro r hr
  unfold hasR at h
  rw [Option.isSome_eq_false_iff, Option.isNone_iff_eq_none, List.find?_eq_none] at h
  have := h r hr
  simpa using this
theorem hasR_mem {rs : List NodeR} {r : NodeR} (h : r ∈ rs) : hasR rs r.name = true := by
  cases hh : hasR rs r.name with
  | true => rfl
  | false => exact absurd rfl (hasR_false hh r h)
theorem lineP_old {np : List (Nm × Nm)} (hg : Grown np) {name parent : Nm} (h1 : name ≠ []) (h2 : lookP np name = none) (h3 : parent = [] ∨ (lookP np parent).isSome = true) {s : Nm} (hs : s = [] ∨ (lookP np s).isSome = true) : lineP (np ++ [(name, parent)]) s = lineP np s := by
  unfold lineP
  rw [(path_old hg h1 h2 _ s hs).1, List.length_append]
  exact (lineP_eq hg (by simp) s).1
theorem npR_append (a b : List NodeR) : npR (a ++ b) = npR a ++ npR b := by simp [npR]
/-- Adding. -/
def addQ (rs : List NodeR) (a b : Nm) (n : Int) : Int := if a = [] ∨ n < 0 then 1 else if hasR rs a = true then 13 else if b ≠ [] ∧ hasR rs b = false then 60 else 0
theorem PInv.add {rs : List NodeR} {hs : List HeldR} (I : PInv rs hs) {a b : Nm} {n : Int} (h1 : a ≠ []) (h2 : 0 ≤ n) (hn : n ≤ 9223372036854775807) (h3 : hasR rs a = false) (h4 : b = [] ∨ hasR rs b = true) : PInv (rs ++ [⟨a, b, n, 0⟩]) hs := by
  have l1 : lookP (npR rs) a = none := by
    have := lookP_has rs a
    rw [h3] at this
    simpa using this
  have l2 : b = [] ∨ (lookP (npR rs) b).isSome = true := by rw [lookP_has]; exact h4
  have hs1 : ∀ name, sumAt (npR (rs ++ [⟨a, b, n, 0⟩])) name hs = sumAt (npR rs) name hs := by
    intro name
    have : ∀ l : List HeldR, (∀ h ∈ l, hasR rs h.node = true) → sumAt (npR (rs ++ [⟨a, b, n, 0⟩])) name l = sumAt (npR rs) name l := by
      intro l
      induction l with
      | nil => exact fun _ => rfl
      | cons h l ih =>
        intro hl
        simp only [sumAt]
        rw [ih fun x hx => hl x (List.mem_cons_of_mem _ hx), npR_append]
        have : lineP (npR rs ++ npR [⟨a, b, n, 0⟩]) h.node = lineP (npR rs) h.node := lineP_old I.g h1 l1 l2 (.inr (by rw [lookP_has]; exact hl h (by simp)))
        rw [this]
    exact this hs fun h hh => (I.h h hh).2
  refine ⟨?_, fun r hr => ?_, fun h hh => ?_, I.d⟩
  · rw [npR_append]
    exact Grown.snoc I.g h1 l1 l2
  · rw [hs1]
    rcases List.mem_append.1 hr with hr | hr
    · exact I.u r hr
    · simp only [List.mem_singleton] at hr
      subst hr
      refine ⟨?_, h2, hn⟩
      have : ∀ l : List HeldR, sumAt (npR rs) a l = 0 := by
        intro l
        induction l with
        | nil => rfl
        | cons h l ih =>
          simp only [sumAt, ih]
          rw [if_neg]
          · rfl
          · intro hm
            have := path_mem _ _ _ hm
            rw [l1] at this
            cases this
      exact (this hs).symm
  · refine ⟨(I.h h hh).1, ?_⟩
    have := (I.h h hh).2
    unfold hasR at this ⊢
    rw [List.find?_append]
    simp [this]
theorem npR_bumpQ (rs : List NodeR) (names : List Nm) (n : Int) : npR (bumpQ rs names n) = npR rs := by
  simp only [npR, bumpQ, List.map_map]
  refine List.map_congr_left fun r _ => ?_
  simp only [Function.comp]
  split <;> rfl
theorem hasR_np {rs rs' : List NodeR} (h : npR rs' = npR rs) (s : Nm) : hasR rs' s = hasR rs s := by rw [← lookP_has, ← lookP_has, h]
theorem bumpQ_mem {rs : List NodeR} {names : List Nm} {n : Int} {r : NodeR} (h : r ∈ bumpQ rs names n) : ∃ q ∈ rs, r = if q.name ∈ names then { q with used := q.used + n } else q := by
  obtain ⟨q, hq, e⟩ := List.mem_map.1 h
  exact ⟨q, hq, e.symm⟩
/-- Reserving. -/
theorem PInv.res {rs : List NodeR} {hs : List HeldR} (I : PInv rs hs) {node id : Nm} {n : Int} (h1 : 1 ≤ n) (h2 : hasR rs node = true) (h3 : findH hs id = none) (h4 : ∀ r ∈ rs, r.name ∈ lineP (npR rs) node → n ≤ r.limit - r.used) : PInv (bumpQ rs (lineP (npR rs) node) n) (hs ++ [⟨id, node, n⟩]) := by
  refine ⟨by rw [npR_bumpQ]; exact I.g, fun r hr => ?_, fun h hh => ?_, ?_⟩
  · obtain ⟨q, hq, rfl⟩ := bumpQ_mem hr
    obtain ⟨u1, u2, u3⟩ := I.u q hq
    rw [npR_bumpQ]
    by_cases hm : q.name ∈ lineP (npR rs) node
    · rw [if_pos hm]
      have := h4 q hq hm
      refine ⟨?_, by simp only []; omega, u3⟩
      simp only [sumAt_append, sumAt]
      rw [if_pos hm]
      omega
    · rw [if_neg hm]
      refine ⟨?_, u2, u3⟩
      simp only [sumAt_append, sumAt]
      rw [if_neg hm]
      omega
  · rw [hasR_np (npR_bumpQ _ _ _)]
    rcases List.mem_append.1 hh with hh | hh
    · exact I.h h hh
    · simp only [List.mem_singleton] at hh
      subst hh
      exact ⟨h1, h2⟩
  · rw [List.map_append, List.nodup_append]
    refine ⟨I.d, by simp, fun x hx y hy => ?_⟩
    simp only [List.map_cons, List.map_nil, List.mem_singleton] at hy
    subst hy
    obtain ⟨h, hh, rfl⟩ := List.mem_map.1 hx
    unfold findH at h3
    rw [List.find?_eq_none] at h3
    have := h3 h hh
    simpa using this
theorem sumAt_del (np : List (Nm × Nm)) (name : Nm) {id : Nm} {y : HeldR} : ∀ {hs : List HeldR}, (hs.map (·.id)).Nodup → findH hs id = some y → sumAt np name hs = (if name ∈ lineP np y.node then y.amount else 0) + sumAt np name (delH hs id)
  | [], _, h => by cases h
  | h :: hs, hn, hf => by
    simp only [List.map_cons, List.nodup_cons] at hn
    simp only [findH, List.find?_cons] at hf
    by_cases e : h.id = id
    · have e1 : (h.id == id) = true := by simpa using e
      rw [e1] at hf
      have hy : h = y := Option.some.inj hf
      subst hy
      have : delH (h :: hs) id = hs := by
        simp only [delH, List.filter_cons, e1, Bool.not_true, Bool.false_eq_true, if_false]
        rw [List.filter_eq_self]
        intro x hx
        have : x.id ≠ id := by
          intro e2
          exact hn.1 (List.mem_map.2 ⟨x, hx, e2.trans e.symm⟩)
        simpa using this
      rw [this]
      rfl
    · have e1 : (h.id == id) = false := by simpa using e
      rw [e1] at hf
      have ih := sumAt_del np name (hs := hs) hn.2 hf
      have : delH (h :: hs) id = h :: delH hs id := by simp [delH, e]
      rw [this]
      simp only [sumAt]
      omega
theorem delH_sub {hs : List HeldR} {id : Nm} : (delH hs id).Sublist hs := List.filter_sublist
/-- Letting go. -/
theorem PInv.rel {rs : List NodeR} {hs : List HeldR} (I : PInv rs hs) {id : Nm} {y : HeldR} (h : findH hs id = some y) : PInv (bumpQ rs (lineP (npR rs) y.node) (-y.amount)) (delH hs id) := by
  have ha := (I.h y (List.mem_of_find?_eq_some h)).1
  refine ⟨by rw [npR_bumpQ]; exact I.g, fun r hr => ?_, fun x hx => ?_, I.d.sublist (delH_sub.map _)⟩
  · obtain ⟨q, hq, rfl⟩ := bumpQ_mem hr
    obtain ⟨u1, u2, u3⟩ := I.u q hq
    rw [npR_bumpQ]
    have hs := sumAt_del (npR rs) q.name I.d h
    by_cases hm : q.name ∈ lineP (npR rs) y.node
    · rw [if_pos hm] at hs ⊢
      refine ⟨by simp only []; omega, by simp only []; omega, u3⟩
    · rw [if_neg hm] at hs ⊢
      exact ⟨by omega, u2, u3⟩
  · rw [hasR_np (npR_bumpQ _ _ _)]
    exact I.h x (delH_sub.subset hx)
theorem npR_setR (rs : List NodeR) (name : Nm) (n : Int) : npR (setR rs name fun r => { r with limit := n }) = npR rs := by
  simp only [npR, setR, List.map_map]
  refine List.map_congr_left fun r _ => ?_
  simp only [Function.comp]
  split <;> rfl
/-- A new limit. -/
theorem PInv.lim {rs : List NodeR} {hs : List HeldR} (I : PInv rs hs) {name : Nm} {n : Int} (hn : n ≤ 9223372036854775807) (h : ∀ r ∈ rs, r.name = name → r.used ≤ n) : PInv (setR rs name fun r => { r with limit := n }) hs := by
  refine ⟨by rw [npR_setR]; exact I.g, fun r hr => ?_, fun x hx => ?_, I.d⟩
  · obtain ⟨q, hq, e⟩ := List.mem_map.1 hr
    obtain ⟨u1, u2, u3⟩ := I.u q hq
    rw [npR_setR]
    by_cases hm : q.name = name
    · rw [if_pos hm] at e
      subst e
      exact ⟨u1, h q hq hm, hn⟩
    · rw [if_neg hm] at e
      subst e
      exact ⟨u1, u2, u3⟩
  · rw [hasR_np (npR_setR _ _ _)]
    exact I.h x hx
/-- The last that bears a name tells the parent. -/
def upF (l : List NodeR) (s : Nm) : Nm := l.foldl (fun up r => if r.name = s then r.parent else up) []
theorem upF_take (l : List NodeR) (s : Nm) (m : Nat) (h : m < l.length) : upF (l.take (m + 1)) s = if l[m].name = s then l[m].parent else upF (l.take m) s := by
  unfold upF
  rw [List.take_succ_eq_append_getElem h, List.foldl_append]
  rfl
theorem grown_names {np : List (Nm × Nm)} (h : Grown np) : (np.map (·.1)).Nodup := by
  induction h with
  | nil => simp
  | snoc h h1 h2 h3 ih =>
    rw [List.map_append, List.nodup_append]
    refine ⟨ih, by simp, fun x hx y hy => ?_⟩
    simp only [List.map_cons, List.map_nil, List.mem_singleton] at hy
    subst hy
    obtain ⟨p, hp, rfl⟩ := List.mem_map.1 hx
    unfold lookP at h2
    rw [Option.map_eq_none_iff, List.find?_eq_none] at h2
    simpa using h2 p hp
theorem lookP_mem {rs : List NodeR} (hn : (rs.map (·.name)).Nodup) {r : NodeR} (h : r ∈ rs) : lookP (npR rs) r.name = some r.parent := by
  induction rs with
  | nil => cases h
  | cons q rs ih =>
    simp only [List.map_cons, List.nodup_cons] at hn
    simp only [lookP, npR, List.map_cons, List.find?_cons]
    rcases List.mem_cons.1 h with rfl | h
    · simp
    · have : (q.name == r.name) = false := by
        have : q.name ≠ r.name := fun e => hn.1 (List.mem_map.2 ⟨r, h, e.symm⟩)
        simpa using this
      rw [this]
      exact ih hn.2 h
theorem upF_none : ∀ {l : List NodeR} {s : Nm}, (∀ r ∈ l, r.name ≠ s) → ∀ u : Nm, l.foldl (fun up r => if r.name = s then r.parent else up) u = u
  | [], _, _, _ => rfl
  | r :: l, s, h, u => by
    rw [List.foldl_cons, if_neg (h r (by simp))]
    exact upF_none (fun x hx => h x (List.mem_cons_of_mem _ hx)) u
theorem upF_all {rs l : List NodeR} (hp : l.Perm rs) (hn : (rs.map (·.name)).Nodup) (s : Nm) : upF l s = (lookP (npR rs) s).getD [] := by
  have hl : (l.map (·.name)).Nodup := (hp.map _).nodup_iff.2 hn
  have key : ∀ (l : List NodeR) (u : Nm), (l.map (·.name)).Nodup → ∀ r ∈ l, r.name = s → l.foldl (fun up r => if r.name = s then r.parent else up) u = r.parent := by
    intro l
    induction l with
    | nil => intro _ _ r h; cases h
    | cons q l ih =>
      intro u hn r hr e
      simp only [List.map_cons, List.nodup_cons] at hn
      rw [List.foldl_cons]
      rcases List.mem_cons.1 hr with rfl | hr
      · rw [if_pos e]
        exact upF_none (fun x hx e2 => hn.1 (List.mem_map.2 ⟨x, hx, e2.trans e.symm⟩)) _
      · exact ih _ hn.2 r hr e
  cases hh : hasR rs s with
  | false =>
    have h1 : lookP (npR rs) s = none := by
      have := lookP_has rs s
      rw [hh] at this
      simpa using this
    rw [h1]
    exact upF_none (fun r hr => hasR_false hh r (hp.subset hr)) []
  | true =>
    unfold hasR at hh
    obtain ⟨r, hr⟩ := Option.isSome_iff_exists.1 hh
    have hm := List.mem_of_find?_eq_some hr
    have he : r.name = s := by simpa using List.find?_some hr
    rw [← he, lookP_mem hn hm, he]
    exact key l [] hl r (hp.symm.subset hm) he
theorem mem_path_step {np : List (Nm × Nm)} (hg : Grown np) {k : Nat} {s name : Nm} (h : s ≠ name) : name ∈ pathP np (k + 1) s ↔ name ∈ pathP np k ((lookP np s).getD []) := by
  simp only [pathP]
  cases hl : lookP np s with
  | some p =>
    simp only [List.mem_cons, Option.getD_some]
    constructor
    · rintro (e | e)
      · exact absurd e.symm h
      · exact e
    · exact .inr
  | none =>
    simp only [Option.getD_none, List.not_mem_nil, false_iff]
    cases k with
    | zero => simp [pathP]
    | succ k => simp [pathP, hg.empty]
theorem mem_path_here {np : List (Nm × Nm)} {k : Nat} {s : Nm} (h : (lookP np s).isSome = true) : s ∈ pathP np (k + 1) s := by
  obtain ⟨p, hp⟩ := Option.isSome_iff_exists.1 h
  simp [pathP, hp]
theorem mem_path_empty {np : List (Nm × Nm)} (hg : Grown np) (k : Nat) (name : Nm) : name ∉ pathP np k [] := by
  cases k with
  | zero => simp [pathP]
  | succ k => simp [pathP, hg.empty]
theorem sumAt_snoc (np : List (Nm × Nm)) (name : Nm) (hs : List HeldR) (j : Nat) (h : j < hs.length) : sumAt np name (hs.take (j + 1)) = sumAt np name (hs.take j) + if name ∈ lineP np hs[j].node then hs[j].amount else 0 := by
  rw [List.take_succ_eq_append_getElem h, sumAt_append]
  simp [sumAt]
end Go.Abs.C

/-
  The operations in the interpreter come to the plain ones.
-/
namespace Go.Abs.C
open Go Go.Abs
attribute [local irreducible] callN runC evalOp
theorem findN_has (ns : List NodeX) (s : Nm) : (findN ns s).isSome = hasR (ns.map (·.r)) s := by
  have := findN_map ns s
  unfold hasR
  rw [← this, Option.isSome_map]
theorem findN_no {ns : List NodeX} {s : Nm} (h : hasR (ns.map (·.r)) s = false) : findN ns s = none := by
  rw [← findN_has] at h
  simpa using h
theorem np_map (ns : List NodeX) : npOf ns = npR (ns.map (·.r)) := np_recs rfl
structure QInv (σ : St) (ot om oh : Nat) (ns : List NodeX) (hs : List HeldR) : Prop where
  L : Lay σ ot om oh ns hs
  p : PInv (ns.map (·.r)) hs
  k : ns.length < 900 ∧ hs.length < 900
/-- What is new lies behind what was there. -/
def NewB (σ : St) (ot om oh : Nat) (ns ns' : List NodeX) : Prop := ∀ o, Mine ot om oh ns' o → Mine ot om oh ns o ∨ σ.length ≤ o
theorem NewB.refl (σ : St) (ot om oh : Nat) (ns : List NodeX) : NewB σ ot om oh ns ns := fun _ h => .inl h
def resBad (rs : List NodeR) (node : Nm) (n : Int) : Bool := rs.any fun r => decide (r.name ∈ lineP (npR rs) node) && decide (r.limit - r.used < n)
def resQ (rs : List NodeR) (hs : List HeldR) (node id : Nm) (n : Int) : Int := if id = [] ∨ n < 1 then 1 else if hasR rs node = false then 60 else if (findH hs id).isSome = true then 13 else if resBad rs node n = true then 61 else 0
def limQ (rs : List NodeR) (name : Nm) (n : Int) : Int := if n < 0 then 1 else match rs.find? (·.name == name) with | none => 60 | some r => if n < r.used then 61 else 0
/-- An operation's outcome. -/
structure Out (σ : St) (ot om oh : Nat) (ns : List NodeX) (σ' : St) (ns' : List NodeX) (hs' : List HeldR) : Prop where
  L : Lay σ' ot om oh ns' hs'
  k : KeptS (Mine ot om oh ns) σ σ'
  b : NewB σ ot om oh ns ns'
theorem used_range {rs : List NodeR} {hs : List HeldR} (I : PInv rs hs) {r : NodeR} (h : r ∈ rs) : 0 ≤ r.used ∧ r.used ≤ r.limit ∧ r.limit ≤ 9223372036854775807 := by
  obtain ⟨u1, u2, u3⟩ := I.u r h
  have := sumAt_nonneg (np := npR rs) (name := r.name) fun x hx => (I.h x hx).1
  omega
theorem q_add {σ : St} {ot om oh : Nat} {ns : List NodeX} {hs : List HeldR} (I : QInv σ ot om oh ns hs) (n : Nat) (a b : Nm) (v : Int) (hv : v ≤ 9223372036854775807) :
    ∃ σ' ns', callN T (n + 1) 12 [.ptr ot 0, .str a, .str b, .int .i64 v] σ = some (.int .i64 (addQ (ns.map (·.r)) a b v), σ') ∧ Out σ ot om oh ns σ' ns' hs ∧ PInv (ns'.map (·.r)) hs ∧ ns'.map (·.r) = (if addQ (ns.map (·.r)) a b v = 0 then ns.map (·.r) ++ [⟨a, b, v, 0⟩] else ns.map (·.r)) ∧ ns'.length ≤ ns.length + 1 := by
  obtain ⟨L, p, _⟩ := I
  have same : ∀ e : Int, e ≠ 0 → addQ (ns.map (·.r)) a b v = e → callN T (n + 1) 12 [.ptr ot 0, .str a, .str b, .int .i64 v] σ = some (.int .i64 e, σ) → ∃ σ' ns', callN T (n + 1) 12 [.ptr ot 0, .str a, .str b, .int .i64 v] σ = some (.int .i64 (addQ (ns.map (·.r)) a b v), σ') ∧ Out σ ot om oh ns σ' ns' hs ∧ PInv (ns'.map (·.r)) hs ∧ ns'.map (·.r) = (if addQ (ns.map (·.r)) a b v = 0 then ns.map (·.r) ++ [⟨a, b, v, 0⟩] else ns.map (·.r)) ∧ ns'.length ≤ ns.length + 1 := by
    intro e he hq hc
    rw [hq]
    exact ⟨σ, ns, hc, ⟨L, KeptS.refl _ _, NewB.refl _ _ _ _ _⟩, p, by rw [if_neg he], by omega⟩
  by_cases c1 : a = [] ∨ v < 0
  · exact same 1 (by decide) (by unfold addQ; rw [if_pos c1]) (add_arg n a b v c1)
  · have c1' := c1
    rw [not_or] at c1'
    by_cases c2 : hasR (ns.map (·.r)) a = true
    · exact same 13 (by decide) (by unfold addQ; rw [if_neg c1, if_pos c2]) (add_twice L n a b v c1'.1 (by omega) (by rw [findN_has]; exact c2))
    · have c2' : hasR (ns.map (·.r)) a = false := by simpa using c2
      by_cases c3 : b ≠ [] ∧ hasR (ns.map (·.r)) b = false
      · exact same 60 (by decide) (by unfold addQ; rw [if_neg c1, if_neg c2, if_pos c3]) (add_node L n a b v c1'.1 (by omega) (findN_no c2') c3.1 (findN_no c3.2))
      · have hq : addQ (ns.map (·.r)) a b v = 0 := by unfold addQ; rw [if_neg c1, if_neg c2, if_neg c3]
        have hb : b = [] ∨ hasR (ns.map (·.r)) b = true := by
          by_cases hb : b = []
          · exact .inl hb
          · right
            cases hh : hasR (ns.map (·.r)) b with
            | true => rfl
            | false => exact absurd ⟨hb, hh⟩ c3
        rw [hq]
        have hadd := add_good L n a b v c1'.1 (by omega) (findN_no c2') (by rw [findN_has]; exact hb)
        have La := L.add a b v (findN_no c2')
        have hr : (ns ++ [⟨σ.length, ⟨a, b, v, 0⟩⟩] : List NodeX).map (·.r) = ns.map (·.r) ++ [⟨a, b, v, 0⟩] := by simp
        refine ⟨_, _, hadd, ⟨La, add_kept σ ot om oh ns a b v, fun o ho => ?_⟩, ?_, ?_, by simp⟩
        · rcases ho with h | h | h | ⟨x, hx, rfl⟩
          · exact .inl (.inl h)
          · exact .inl (.inr (.inl h))
          · exact .inl (.inr (.inr (.inl h)))
          · rcases List.mem_append.1 hx with hx | hx
            · exact .inl (.inr (.inr (.inr ⟨x, hx, rfl⟩)))
            · simp only [List.mem_singleton] at hx
              subst hx
              exact .inr (Nat.le_refl _)
        · rw [hr]
          exact p.add c1'.1 (by omega) hv c2' hb
        · rw [hr, if_pos rfl]
theorem any_bad {ns : List NodeX} {hs : List HeldR} (p : PInv (ns.map (·.r)) hs) (node : Nm) (v : Int) : anyN ns (badR v) (lineP (npOf ns) node) = resBad (ns.map (·.r)) node v := by
  rw [any_recs rfl, np_map]
  generalize hrs : ns.map (·.r) = rs at p
  have hn : (rs.map (·.name)).Nodup := by
    have := grown_names p.g
    unfold npR at this
    rw [List.map_map] at this
    exact this
  have hb : ∀ r ∈ rs, badR v r = decide (r.limit - r.used < v) := fun r hr => by
    obtain ⟨h1, h2, h3⟩ := used_range p hr
    exact badR_small (by omega) (by omega)
  unfold anyR resBad
  rw [Bool.eq_iff_iff, List.any_eq_true, List.any_eq_true]
  constructor
  · rintro ⟨s, hs1, hs2⟩
    cases hf : rs.find? (·.name == s) with
    | none => rw [hf] at hs2; simp at hs2
    | some r =>
      rw [hf] at hs2
      have hm := List.mem_of_find?_eq_some hf
      have he : r.name = s := by simpa using List.find?_some hf
      simp only [Option.map_some, Option.getD_some] at hs2
      refine ⟨r, hm, ?_⟩
      rw [hb r hm] at hs2
      rw [he]
      simp only [hs1, decide_true, Bool.true_and]
      exact hs2
  · rintro ⟨r, hr1, hr2⟩
    simp only [Bool.and_eq_true, decide_eq_true_eq] at hr2
    refine ⟨r.name, hr2.1, ?_⟩
    have hf : rs.find? (·.name == r.name) = some r := by
      cases hf : rs.find? (·.name == r.name) with
      | none =>
        rw [List.find?_eq_none] at hf
        exact absurd (by simp) (hf r hr1)
      | some q =>
        have hm := List.mem_of_find?_eq_some hf
        have he : q.name = r.name := by simpa using List.find?_some hf
        rw [keys_inj (key := fun w : NodeR => w.name) hn hm hr1 he]
    rw [hf]
    simp only [Option.map_some, Option.getD_some]
    rw [hb r hr1]
    exact decide_eq_true hr2.2
theorem bump_more {rs : List NodeR} (names : List Nm) (v : Int) (h : ∀ r ∈ rs, r.name ∈ names → -9223372036854775808 ≤ r.used + v ∧ r.used + v ≤ 9223372036854775807) : bumpR rs names (moreR v) = bumpQ rs names v := by
  unfold bumpR bumpQ
  refine List.map_congr_left fun r hr => ?_
  by_cases hm : r.name ∈ names
  · rw [if_pos hm, if_pos hm]
    unfold moreR
    rw [wrap_small _ (h r hr hm).1 (h r hr hm).2]
  · rw [if_neg hm, if_neg hm]
theorem bump_less {rs : List NodeR} (names : List Nm) (v : Int) (h : ∀ r ∈ rs, r.name ∈ names → -9223372036854775808 ≤ r.used - v ∧ r.used - v ≤ 9223372036854775807) : bumpR rs names (lessR v) = bumpQ rs names (-v) := by
  unfold bumpR bumpQ
  refine List.map_congr_left fun r hr => ?_
  by_cases hm : r.name ∈ names
  · rw [if_pos hm, if_pos hm]
    unfold lessR
    rw [wrap_small _ (h r hr hm).1 (h r hr hm).2]
    congr 1
  · rw [if_neg hm, if_neg hm]
theorem new_bump {σ : St} {ot om oh : Nat} {ns : List NodeX} {names : List Nm} {f : NodeR → NodeR} : NewB σ ot om oh ns (bumpN ns names f) := fun _ h => .inl (mine_bump h)
theorem q_res {σ : St} {ot om oh : Nat} {ns : List NodeX} {hs : List HeldR} (I : QInv σ ot om oh ns hs) (n : Nat) (node id : Nm) (v : Int) :
    ∃ σ' ns' hs', callN T (n + 2) 13 [.ptr ot 0, .str node, .str id, .int .i64 v] σ = some (.int .i64 (resQ (ns.map (·.r)) hs node id v), σ') ∧ Out σ ot om oh ns σ' ns' hs' ∧ PInv (ns'.map (·.r)) hs' ∧ ns'.map (·.r) = (if resQ (ns.map (·.r)) hs node id v = 0 then bumpQ (ns.map (·.r)) (lineP (npR (ns.map (·.r))) node) v else ns.map (·.r)) ∧ hs' = (if resQ (ns.map (·.r)) hs node id v = 0 then hs ++ [⟨id, node, v⟩] else hs) ∧ ns'.length = ns.length ∧ hs'.length ≤ hs.length + 1 := by
  obtain ⟨L, p, hk, _⟩ := I
  have hg : Grown (npOf ns) := by rw [np_map]; exact p.g
  have same : ∀ (e : Int) (σ' : St), e ≠ 0 → resQ (ns.map (·.r)) hs node id v = e → callN T (n + 2) 13 [.ptr ot 0, .str node, .str id, .int .i64 v] σ = some (.int .i64 e, σ') → Lay σ' ot om oh ns hs → KeptS (Mine ot om oh ns) σ σ' → ∃ σ' ns' hs', callN T (n + 2) 13 [.ptr ot 0, .str node, .str id, .int .i64 v] σ = some (.int .i64 (resQ (ns.map (·.r)) hs node id v), σ') ∧ Out σ ot om oh ns σ' ns' hs' ∧ PInv (ns'.map (·.r)) hs' ∧ ns'.map (·.r) = (if resQ (ns.map (·.r)) hs node id v = 0 then bumpQ (ns.map (·.r)) (lineP (npR (ns.map (·.r))) node) v else ns.map (·.r)) ∧ hs' = (if resQ (ns.map (·.r)) hs node id v = 0 then hs ++ [⟨id, node, v⟩] else hs) ∧ ns'.length = ns.length ∧ hs'.length ≤ hs.length + 1 := by
    intro e σ' he hq hc hL hK
    rw [hq]
    exact ⟨σ', ns, hs, hc, ⟨hL, hK, NewB.refl _ _ _ _ _⟩, p, by rw [if_neg he], by rw [if_neg he], rfl, by omega⟩
  by_cases c1 : id = [] ∨ v < 1
  · exact same 1 σ (by decide) (by unfold resQ; rw [if_pos c1]) (res_arg (n + 1) node id v c1) L (KeptS.refl _ _)
  · have c1' := c1
    rw [not_or] at c1'
    by_cases c2 : hasR (ns.map (·.r)) node = false
    · exact same 60 σ (by decide) (by unfold resQ; rw [if_neg c1, if_pos c2]) (res_node L (n + 1) node id v c1'.1 (by omega) (findN_no c2)) L (KeptS.refl _ _)
    · have c2' : hasR (ns.map (·.r)) node = true := by simpa using c2
      have c2s := c2'
      rw [← findN_has] at c2'
      obtain ⟨x, hx⟩ := Option.isSome_iff_exists.1 c2'
      by_cases c3 : (findH hs id).isSome = true
      · obtain ⟨y, hy⟩ := Option.isSome_iff_exists.1 c3
        exact same 13 σ (by decide) (by unfold resQ; rw [if_neg c1, if_neg c2, if_pos c3]) (res_twice L (n + 1) node id v c1'.1 (by omega) hx hy) L (KeptS.refl _ _)
      · have c3' : findH hs id = none := by simpa using c3
        by_cases c4 : resBad (ns.map (·.r)) node v = true
        · obtain ⟨σ', h1, h2, h3⟩ := res_full L hg hk n node id v c1'.1 (by omega) hx c3' (by rw [any_bad p]; exact c4)
          exact same 61 σ' (by decide) (by unfold resQ; rw [if_neg c1, if_neg c2, if_neg c3, if_pos c4]) h1 h2 h3
        · have c4' : resBad (ns.map (·.r)) node v = false := by simpa using c4
          obtain ⟨σ', h1, h2, h3⟩ := res_good L hg hk n node id v c1'.1 (by omega) hx c3' (by rw [any_bad p]; exact c4')
          have hq : resQ (ns.map (·.r)) hs node id v = 0 := by unfold resQ; rw [if_neg c1, if_neg c2, if_neg c3, if_neg c4]
          have hgood : ∀ r ∈ ns.map (·.r), r.name ∈ lineP (npR (ns.map (·.r))) node → v ≤ r.limit - r.used := by
            intro r hr hm
            unfold resBad at c4'
            rw [List.any_eq_false] at c4'
            have := c4' r hr
            simp only [hm, decide_true, Bool.true_and, decide_eq_true_eq] at this
            omega
          have hr : (usedAt ns node v).map (·.r) = bumpQ (ns.map (·.r)) (lineP (npR (ns.map (·.r))) node) v := by
            unfold usedAt
            rw [bump_recs rfl, np_map, bump_more]
            intro r hr hm
            have h4 := hgood r hr hm
            obtain ⟨h5, h6, h7⟩ := used_range p hr
            omega
          rw [hq]
          refine ⟨σ', _, _, h1, ⟨h2, h3, new_bump⟩, ?_, by rw [if_pos rfl, hr], by rw [if_pos rfl], by simp [usedAt, bumpN], by simp⟩
          rw [hr]
          exact p.res (by omega) c2s c3' hgood
theorem q_rel {σ : St} {ot om oh : Nat} {ns : List NodeX} {hs : List HeldR} (I : QInv σ ot om oh ns hs) (n : Nat) (id : Nm) :
    ∃ σ' ns' hs' e, callN T (n + 2) 14 [.ptr ot 0, .str id] σ = some (.int .i64 e, σ') ∧ Out σ ot om oh ns σ' ns' hs' ∧ PInv (ns'.map (·.r)) hs' ∧ e = (if (findH hs id).isSome = true then 0 else 60) ∧ ns'.map (·.r) = (match findH hs id with | some y => bumpQ (ns.map (·.r)) (lineP (npR (ns.map (·.r))) y.node) (-y.amount) | none => ns.map (·.r)) ∧ hs' = delH hs id ∧ ns'.length = ns.length ∧ hs'.length ≤ hs.length := by
  obtain ⟨L, p, hk, _⟩ := I
  have hg : Grown (npOf ns) := by rw [np_map]; exact p.g
  cases hf : findH hs id with
  | none =>
    have hd : delH hs id = hs := by
      unfold delH
      rw [List.filter_eq_self]
      unfold findH at hf
      rw [List.find?_eq_none] at hf
      intro x hx
      simpa using hf x hx
    exact ⟨σ, ns, hs, 60, rel_node L (n + 1) id hf, ⟨L, KeptS.refl _ _, NewB.refl _ _ _ _ _⟩, p, rfl, rfl, hd.symm, rfl, Nat.le_refl _⟩
  | some y =>
    obtain ⟨σ', h1, h2, h3⟩ := rel_good L hg hk n id hf
    have hr : (freedAt ns y.node y.amount).map (·.r) = bumpQ (ns.map (·.r)) (lineP (npR (ns.map (·.r))) y.node) (-y.amount) := by
      unfold freedAt
      rw [bump_recs rfl, np_map, bump_less]
      intro r hr hm
      obtain ⟨h5, h6, h7⟩ := used_range p hr
      obtain ⟨u1, _, _⟩ := p.u r hr
      have h8 := sumAt_del (npR (ns.map (·.r))) r.name p.d hf
      rw [if_pos hm] at h8
      have h9 := sumAt_nonneg (np := npR (ns.map (·.r))) (name := r.name) (hs := delH hs id) fun x hx => (p.h x (delH_sub.subset hx)).1
      have h10 := (p.h y (List.mem_of_find?_eq_some hf)).1
      omega
    refine ⟨σ', _, _, 0, h1, ⟨h2, h3, new_bump⟩, ?_, rfl, hr, rfl, by simp [freedAt, bumpN], delH_sub.length_le⟩
    rw [hr]
    exact p.rel hf
theorem q_lim {σ : St} {ot om oh : Nat} {ns : List NodeX} {hs : List HeldR} (I : QInv σ ot om oh ns hs) (n : Nat) (name : Nm) (v : Int) (hv : v ≤ 9223372036854775807) :
    ∃ σ' ns', callN T (n + 1) 15 [.ptr ot 0, .str name, .int .i64 v] σ = some (.int .i64 (limQ (ns.map (·.r)) name v), σ') ∧ Out σ ot om oh ns σ' ns' hs ∧ PInv (ns'.map (·.r)) hs ∧ ns'.map (·.r) = (if limQ (ns.map (·.r)) name v = 0 then setR (ns.map (·.r)) name (fun r => { r with limit := v }) else ns.map (·.r)) ∧ ns'.length = ns.length := by
  obtain ⟨L, p, hk, _⟩ := I
  have same : ∀ e : Int, e ≠ 0 → limQ (ns.map (·.r)) name v = e → callN T (n + 1) 15 [.ptr ot 0, .str name, .int .i64 v] σ = some (.int .i64 e, σ) → ∃ σ' ns', callN T (n + 1) 15 [.ptr ot 0, .str name, .int .i64 v] σ = some (.int .i64 (limQ (ns.map (·.r)) name v), σ') ∧ Out σ ot om oh ns σ' ns' hs ∧ PInv (ns'.map (·.r)) hs ∧ ns'.map (·.r) = (if limQ (ns.map (·.r)) name v = 0 then setR (ns.map (·.r)) name (fun r => { r with limit := v }) else ns.map (·.r)) ∧ ns'.length = ns.length := by
    intro e he hq hc
    rw [hq]
    exact ⟨σ, ns, hc, ⟨L, KeptS.refl _ _, NewB.refl _ _ _ _ _⟩, p, by rw [if_neg he], rfl⟩
  by_cases c1 : v < 0
  · exact same 1 (by decide) (by unfold limQ; rw [if_pos c1]) (lim_arg n name v c1)
  · have hfm := findN_map ns name
    cases hf : findN ns name with
    | none =>
      rw [hf] at hfm
      exact same 60 (by decide) (by unfold limQ; rw [if_neg c1, ← hfm]; rfl) (lim_node L n name v (by omega) hf)
    | some x =>
      rw [hf] at hfm
      by_cases c2 : v < x.r.used
      · exact same 61 (by decide) (by unfold limQ; rw [if_neg c1, ← hfm]; exact if_pos c2) (lim_quota L n name v (by omega) hf c2)
      · have hq : limQ (ns.map (·.r)) name v = 0 := by unfold limQ; rw [if_neg c1, ← hfm]; exact if_neg c2
        rw [hq]
        have hr : (setN ns name fun r => { r with limit := v }).map (·.r) = setR (ns.map (·.r)) name (fun r => { r with limit := v }) := set_recs rfl _ _
        have hmine : Mine ot om oh ns x.o := .inr (.inr (.inr ⟨x, (findN_mem hf).1, rfl⟩))
        refine ⟨_, _, lim_good L n name v (by omega) hf (by omega), ⟨L.turn hf (fun r => { r with limit := v }) (fun _ => rfl), KeptS.set _ hmine, fun o ho => .inl (mine_set ho)⟩, ?_, by rw [if_pos rfl, hr], by simp [setN]⟩
        rw [hr]
        refine p.lim hv fun r hm he => ?_
        obtain ⟨y, hy, rfl⟩ := List.mem_map.1 hm
        have : y = x := keys_inj (key := fun w : NodeX => w.r.name) L.names hy (findN_mem hf).1 (by rw [he, (findN_mem hf).2])
        subst this
        omega
end Go.Abs.C
