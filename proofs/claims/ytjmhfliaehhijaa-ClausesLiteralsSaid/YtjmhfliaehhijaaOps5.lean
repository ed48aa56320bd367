/-
  Whose a block is: tags that are renamed, variables' memory that is dropped, made, handed over.
-/
import Derived.Test.YtjmhfliaehhijaaOps4
set_option linter.unusedVariables false
set_option linter.unusedSimpArgs false
namespace Go.Abs
open Go Go.RowKit

section
variable {P : Program} {g g' : Gh} {w w' : World} {fr fr' : Fr} {σ σ' : St} {a : Act} {o : Oper} {d : D} {cal : Cal} {q mu : Bool} {ops : List Oper}

def Gh.rename (g : Gh) (f : Tag → Tag) : Gh := { g with ω := fun b => f (g.ω b) }

theorem Gh.rename_le (g : Gh) (f : Tag → Tag) : g.Le (g.rename f) := ⟨fun _ _ _ h => h, Nat.le_refl _, fun _ _ => rfl, fun _ _ => rfl⟩

theorem Keep.rename (g : Gh) (w : World) (f : Tag → Tag) : Keep g w (g.rename f) w (fun b => f (g.ω b) ≠ g.ω b) :=
  ⟨g.rename_le f, Nat.le_refl _, fun _ _ hc => ⟨rfl, by simpa [Gh.rename] using hc, fun _ => rfl⟩⟩

theorem Inv.rename (i : Inv P g w fr σ a) (f : Tag → Tag) (hf : ∀ t, f t ≠ t → ¬ claims fr σ t) : Inv P (g.rename f) w fr σ a :=
  i.keep (Keep.rename g w f) (fun _ hc => hf _ hc) (fun _ _ _ => rfl) i.h.imm rfl

theorem Ext.rename (g : Gh) (w : World) (f : Tag → Tag) (hf : ∀ t, f t ≠ t → t.mine = true) : Ext g w (g.rename f) w :=
  Ext.of_keep (Keep.rename g w f) (fun _ hc _ => hf _ hc) rfl rfl rfl

theorem Own.rename {tag : Tag} {v : Value} {d : D} (h : Own P g w tag v d) (f : Tag → Tag) : Own P (g.rename f) w (f tag) v d := by
  intro es e hd
  rcases h es e hd with h0 | ⟨i, xs, h1, h2, h3, h4, h5⟩
  · exact .inl h0
  exact .inr ⟨i, xs, h1, h2, h3, h4, fun b hb => ⟨by simp [Gh.rename, (h5 b hb).1], (h5 b hb).2⟩⟩

theorem Rep.rename {v : Value} {d : D} (h : Rep g v d) (f : Tag → Tag) : Rep (g.rename f) v d := h.mono (g.rename_le f) (fun _ _ _ => rfl)

/-- One place's copy is weakened. -/
theorem Inv.weaken (i : Inv P g w fr σ a) (t : Nat) {d' : D} (h : ∀ v, Rep g v (fr.at t) → Rep g v d') (hs : d'.strip = d') (hl : ∀ s off, d' = .lptr s off → fr.at t = .lptr s off) : Inv P g w (fr.set t d') σ a := by
  refine ⟨i.h, ⟨by simpa [Fr.set] using i.s.size, by simpa [Fr.set] using i.s.blen, fun k e hk => ?_, i.s.boxes⟩, i.d⟩
  simp only [Fr.set] at hk
  rw [list_set_get] at hk
  split at hk
  · rename_i hc
    obtain ⟨rfl, hlt⟩ := hc
    cases hk
    rcases at_cases fr k with h1 | ⟨h1, _⟩
    · obtain ⟨v, q1, q2, q3, q4⟩ := i.s.slots k _ h1
      exact ⟨v, q1, h v q2, .of_ne hs, fun s off e => q4 s off (hl s off e)⟩
    · omega
  · exact i.s.slots k e hk

theorem Inv.stripAt (i : Inv P g w fr σ a) (t : Nat) : Inv P g w (fr.set t (fr.at t).strip) σ a :=
  i.weaken t (fun _ h => h.strip) (strip_strip _) (fun s off e => by revert e; cases fr.at t <;> simp [D.strip])

theorem at_set_same (fr : Fr) (t : Nat) (d : D) (h : t < fr.slots.length) : (fr.set t d).at t = d := by
  simp [Fr.at, Fr.set, List.getD, h]

theorem no_sbuf (fr : Fr) (σ : St) (t : Nat) {d : D} (hd : d.strip = d) : ¬ claims (fr.set t d) σ (.sbuf t) := by
  rintro ⟨es, e, h⟩
  simp only [Fr.set] at h
  rw [list_set_get] at h
  split at h
  · cases h; simp [D.strip] at hd
  · rename_i hc
    have hlt := (List.getElem?_eq_some_iff.1 h).1
    exact hc ⟨rfl, by simpa using hlt⟩

/-- A value is taken out of its place. -/
theorem take_ok (i : Inv P g w fr σ a) {x : Operand} {x' : X} (hX : compX x = some x') (tag : Tag) :
    ∃ g', Ext g w g' w ∧ Inv P g' w (fr.take x').2 σ a ∧ Rep g' (a.eval x) (fr.take x').1 ∧ Own P g' w tag (a.eval x) (fr.take x').1 ∧
      (∀ s off, (fr.take x').1 = .lptr s off → ∃ cs, fr.boxes[s]? = some (some cs)) ∧ (fr.take x').2.boxes = fr.boxes ∧ (fr.take x').2.slots.length = fr.slots.length ∧ g'.n = g.n ∧ g'.β = g.β ∧ g'.I = g.I := by
  cases x with
  | tmp t =>
    simp only [compX, Option.some.injEq] at hX
    subst hX
    simp only [Fr.take]
    let f : Tag → Tag := fun s => if s = .sbuf t then tag else s
    have hfne : ∀ s, f s ≠ s → s = .sbuf t := fun s h => by
      by_cases hs : s = .sbuf t
      · exact hs
      · simp [f, hs] at h
    have i1 := i.stripAt t
    have i2 := i1.rename f (fun s hs => by rw [hfne s hs]; exact no_sbuf fr σ t (strip_strip _))
    refine ⟨g.rename f, Ext.rename g w f (fun s hs => by rw [hfne s hs]; rfl), i2, ?_, ?_, ?_, rfl, by simp [Fr.set], rfl, rfl, rfl⟩
    · rcases at_cases fr t with h | ⟨h, hj⟩
      · obtain ⟨v, h1, h2, h3, h4⟩ := i.s.slots t _ h
        simp only [Act.eval]
        rw [show a.tmps.getD t undef = v by simp [h1]]
        exact h2.rename f
      · rw [hj]; exact .junk _
    · rcases at_cases fr t with h | ⟨h, hj⟩
      · obtain ⟨v, h1, h2, h3, h4⟩ := i.s.slots t _ h
        simp only [Act.eval]
        rw [show a.tmps.getD t undef = v by simp [h1]]
        have := h3.rename f
        simpa [f] using this
      · rw [hj]; exact .of_ne rfl
    · intro s off e
      rcases at_cases fr t with h | ⟨h, hj⟩
      · obtain ⟨v, h1, h2, h3, h4⟩ := i.s.slots t _ h
        exact h4 s off e
      · rw [hj] at e; cases e
  | const v =>
    simp only [compX, Option.map_eq_some_iff] at hX
    obtain ⟨d, hd, rfl⟩ := hX
    obtain ⟨h1, h2, h3⟩ := constD_rep (g := g) hd
    exact ⟨g, .refl g w, i, h1, .of_ne h2, fun s off e => by simp only [Fr.take] at e; subst e; simp [D.notL] at h3, rfl, rfl, rfl, rfl, rfl⟩
  | func f =>
    simp only [compX, Option.some.injEq] at hX
    subst hX
    exact ⟨g, .refl g w, i, .func _ _ _ rfl (by simp) rfl, .of_ne rfl, fun s off e => by simp [Fr.take] at e, rfl, rfl, rfl, rfl, rfl⟩
  | global n => simp [compX] at hX

theorem snd_take {x : Operand} (hop : o.op = .move x ∨ o.op = .assign x) {x' : X} (hX : compX x = some x')
    (he : (fr.take x') = (d, fr')) (hσ : σ' = σ) (i : Inv P g w fr σ a) : Snd P g w a o fr' σ' d := by
  subst hσ
  intro next Q hn
  have hrun : (execOp a.eval o).run P w = .ok (.value (a.eval x)) w := by
    rcases hop with h | h <;> (simp only [execOp, h]; rfl)
  refine wp_value hrun ?_
  obtain ⟨g1, h1, h2, h3, h4, h5, h6, _⟩ := take_ok i hX (match o.dst with | some t => .sbuf t | none => .sbuf 0)
  rw [he] at h2 h3 h4 h5 h6
  refine hn _ _ g1 h1 (h2.put o.dst h3 (fun t ht => by rw [ht] at h4; exact h4) (fun s off e => by rw [h6]; exact h5 s off e))

theorem snd_moveCopy {x : Operand} (hop : o.op = .move x) {x' : X} (hX : compX x = some x')
    (he : evalOp cal q o.dst (.move x' false) fr σ = some (d, fr', σ')) (i : Inv P g w fr σ a) : Snd P g w a o fr' σ' d := by
  simp only [evalOp, Bool.false_eq_true, if_false] at he
  cases he
  exact snd_same i (v := a.eval x) (by simp only [execOp, hop]; rfl) (val_ok i.s hX)

theorem snd_assignNil {e : TypeId} (hop : o.op = .assign (.const (.slice none 0 0))) (hok : ownOK P (.sl [] (some e)) = true)
    (he : evalOp cal q o.dst (.assign (.const (.sl [] (some e)))) fr σ = some (d, fr', σ')) (i : Inv P g w fr σ a) : Snd P g w a o fr' σ' d := by
  simp only [evalOp, Fr.take] at he
  cases he
  intro next Q hn
  have hrun : (execOp a.eval o).run P w = .ok (.value (.slice none 0 0)) w := by simp only [execOp, hop]; rfl
  refine wp_value hrun (hn _ _ g (.refl g w) (i.put o.dst ?_ ?_ (fun s off e => by cases e)))
  · exact .sl none 0 0 0 0 0 [] _ (fun _ _ => undef) rfl (Nat.le_refl _) (fun _ => rfl) (fun h => absurd rfl h) (by simp) (by simp) (by simp)
  · intro t _ es e' hd
    cases hd
    simp only [ownOK] at hok
    cases hi : P.info? e with
    | none => simp [hi] at hok
    | some inf =>
      simp [hi] at hok
      exact .inl ⟨rfl, rfl⟩

/-! zero values -/
theorem matchD_rep {v : Value} {d : D} (h : matchD v d = true) : Rep g v d ∧ (∀ es e, d = .sl es (some e) → es = [] ∧ v = .slice none 0 0) := by
  unfold matchD at h
  split at h
  · exact ⟨.junk _, fun es e hd => by cases hd⟩
  · simp at h; subst h; exact ⟨.bool _, fun es e hd => by cases hd⟩
  · simp at h; obtain ⟨rfl, rfl⟩ := h; exact ⟨.int _ _, fun es e hd => by cases hd⟩
  · rename_i s
    have hs : s.data.toList = [] := by
      have h1 : s.size = 0 := by simpa using h
      rw [← bytes_size] at h1
      exact List.eq_nil_of_length_eq_zero h1
    have := Rep.str (g := g) s
    rw [hs] at this
    exact ⟨this, fun es e hd => by cases hd⟩
  · exact ⟨.nilp, fun es e hd => by cases hd⟩
  · exact ⟨.nilm, fun es e hd => by cases hd⟩
  · exact ⟨.nilf, fun es e hd => by cases hd⟩
  · exact ⟨.sl none 0 0 0 0 0 [] _ (fun _ _ => undef) rfl (Nat.le_refl _) (fun _ => rfl) (fun h => absurd rfl h) (by simp) (by simp) (by simp), fun es e hd => by cases hd; exact ⟨rfl, rfl⟩⟩
  · cases h

theorem matchAll_rep : ∀ {vs : List Value} {ds : List D}, matchAll vs ds = true → AllRep (Rep g) vs ds ∧ ∀ (j : Nat) (v : Value) (d : D), vs[j]? = some v → ds[j]? = some d → ∀ es e, d = .sl es (some e) → es = [] ∧ v = .slice none 0 0
  | [], [], _ => ⟨⟨rfl, fun i v d h => by simp at h⟩, fun j v d h => by simp at h⟩
  | [], _ :: _, h => by simp [matchAll] at h
  | _ :: _, [], h => by simp [matchAll] at h
  | v :: vs, d :: ds, h => by
    simp only [matchAll, Bool.and_eq_true] at h
    obtain ⟨h1, h2⟩ := matchD_rep (g := g) h.1
    obtain ⟨h3, h4⟩ := matchAll_rep h.2
    refine ⟨⟨by simpa using h3.1, fun i u e k1 k2 => ?_⟩, fun i u e k1 k2 => ?_⟩
    · cases i with
      | zero => simp at k1 k2; subst k1 k2; exact h1
      | succ i => exact h3.2 i u e (by simpa using k1) (by simpa using k2)
    · cases i with
      | zero => simp at k1 k2; subst k1 k2; exact h2
      | succ i => exact h4 i u e (by simpa using k1) (by simpa using k2)

/-- The own part of a nil slice. -/
theorem own_nil {tag : Tag} {v : Value} {d : D} (hok : ownOK P d = true) (h : ∀ es e, d = .sl es (some e) → es = [] ∧ v = .slice none 0 0) : Own P g w tag v d := by
  intro es e hd
  obtain ⟨rfl, rfl⟩ := h es e hd
  subst hd
  simp only [ownOK] at hok
  cases hi : P.info? e with
  | none => simp [hi] at hok
  | some inf =>
    simp [hi] at hok
    exact .inl ⟨rfl, rfl⟩

theorem zeroOf_ok {t : TypeId} {z : List D} (h : zeroOf P t = some z) : ∃ zv, (P.info? t).bind (·.zero) = some zv ∧ AllRep (Rep g) zv.cells.toList z ∧ z.all D.pure1 = true ∧
    ∀ (j : Nat) (v : Value) (d : D), zv.cells.toList[j]? = some v → z[j]? = some d → ownOK P d = true ∧ ∀ es e, d = .sl es (some e) → es = [] ∧ v = .slice none 0 0 := by
  unfold zeroOf at h
  split at h
  · rename_i zv hz
    split at h
    · rename_i hc
      cases h
      simp only [Bool.and_eq_true] at hc
      obtain ⟨h1, h2⟩ := matchAll_rep (g := g) hc.1.1
      exact ⟨zv, hz, h1, hc.1.2, fun j v d k1 k2 => ⟨all_get hc.2 k2, h2 j v d k1 k2⟩⟩
    · cases h
  · cases h

theorem zeroValue_run {t : TypeId} {zv : Value} (h : (P.info? t).bind (·.zero) = some zv) : (zeroValue t).run P w = .ok zv w := by
  cases hi : P.info? t with
  | none => simp [hi] at h
  | some inf => simp [hi] at h; simp [zeroValue, typeInfo, hi, h]


/-! variables' memory -/
theorem boxAt_some {t : Nat} {cs : List D} (h : fr.boxAt t = some cs) : fr.boxes[t]? = some (some cs) := by
  unfold Fr.boxAt at h
  cases hb : fr.boxes[t]? with
  | none => simp [hb] at h
  | some b => simp [hb] at h; rw [h]

theorem boxAt_none {t : Nat} (h : fr.boxAt t = none) : ∀ cs, fr.boxes[t]? ≠ some (some cs) := by
  intro cs hc
  simp [Fr.boxAt, hc] at h

/-- A variable's memory is forgotten. -/
def Fr.drop (fr : Fr) (t : Nat) (k : D → D) : Fr := { fr with slots := fr.slots.map k, boxes := fr.boxes.set t none }

theorem box_set_none {t s : Nat} {cs : List D} (h : (fr.boxes.set t none)[s]? = some (some cs)) : s ≠ t ∧ fr.boxes[s]? = some (some cs) := by
  rw [list_set_get] at h
  split at h
  · cases h
  · rename_i hc
    refine ⟨fun e => hc ⟨e, ?_⟩, h⟩
    subst e
    exact (List.getElem?_eq_some_iff.1 h).1

theorem Inv.dropBox (i : Inv P g w fr σ a) (t : Nat) : Inv P g w (fr.drop t (killL t)) σ a := by
  refine ⟨i.h, ⟨by simpa [Fr.drop] using i.s.size, by simpa [Fr.drop] using i.s.blen, fun k e hk => ?_, fun s cs hb => ?_⟩, i.d⟩
  · simp only [Fr.drop, List.getElem?_map, Option.map_eq_some_iff] at hk
    obtain ⟨e0, h1, rfl⟩ := hk
    obtain ⟨v, q1, q2, q3, q4⟩ := i.s.slots k e0 h1
    by_cases hl : ∃ off, e0 = .lptr t off
    · obtain ⟨off, rfl⟩ := hl
      simp only [killL, if_true]
      exact ⟨v, q1, .junk _, .of_ne rfl, fun s off e => by cases e⟩
    · have hkeep : killL t e0 = e0 := by
        cases e0 <;> try rfl
        rename_i s off
        simp only [killL]
        rw [if_neg]
        rintro rfl
        exact hl ⟨_, rfl⟩
      rw [hkeep]
      refine ⟨v, q1, q2, q3, fun s off e => ?_⟩
      obtain ⟨cs, hc⟩ := q4 s off e
      refine ⟨cs, ?_⟩
      simp only [Fr.drop]
      rw [list_set_get, if_neg]
      · exact hc
      · rintro ⟨rfl, _⟩
        exact hl ⟨off, e⟩
  · obtain ⟨_, h⟩ := box_set_none hb
    exact i.s.boxes s cs h

theorem Inv.dropNone (i : Inv P g w fr σ a) {t : Nat} (hn : fr.boxAt t = none) : Inv P g w (fr.setBox t none) σ a := by
  refine ⟨i.h, ⟨by simpa [Fr.setBox] using i.s.size, by simpa [Fr.setBox] using i.s.blen, fun k e hk => ?_, fun s cs hb => ?_⟩, i.d⟩
  · obtain ⟨v, q1, q2, q3, q4⟩ := i.s.slots k e hk
    refine ⟨v, q1, q2, q3, fun s off e => ?_⟩
    obtain ⟨cs, hc⟩ := q4 s off e
    refine ⟨cs, ?_⟩
    simp only [Fr.setBox]
    rw [list_set_get, if_neg]
    · exact hc
    · rintro ⟨rfl, _⟩
      exact boxAt_none hn cs hc
  · obtain ⟨_, h⟩ := box_set_none hb
    exact i.s.boxes s cs h

theorem no_box {t : Nat} (hn : ∀ cs, fr.boxes[t]? ≠ some (some cs)) : ∀ tag, (tag = .box t ∨ ∃ j, tag = .bbuf t j) → ¬ claims fr σ tag := by
  rintro tag (rfl | ⟨j, rfl⟩)
  · rintro ⟨cs, h⟩; exact hn cs h
  · rintro ⟨cs, es, e, h, _⟩; exact hn cs h

theorem heap_new (w : World) (ob : Go.Obj) : (w.alloc ob).heap[w.heap.size]? = some ob := by
  show (w.heap.push ob)[w.heap.size]? = _
  simp

theorem heap_old (w : World) (ob : Go.Obj) {b : Nat} (h : b < w.heap.size) : (w.alloc ob).heap[b]? = w.heap[b]? := by
  show (w.heap.push ob)[b]? = _
  rw [Array.getElem?_push, if_neg (by omega)]

/-- A new block, not yet anybody's. -/
def Gh.tagAt (g : Gh) (b : Nat) (tag : Tag) : Gh := { g with ω := fun x => if x = b then tag else g.ω x }

theorem imm_lt {σ : St} (h : HInv P g w σ) {b off : Nat} {v : Value} (hv : g.I b off = some v) : b < w.heap.size :=
  World.block_lt_of_cell? w ⟨b, off, none⟩ (h.imm b off v hv)

theorem imm_none {σ : St} (h : HInv P g w σ) {b : Nat} (hb : w.heap.size ≤ b) (off : Nat) : g.I b off = none := by
  cases hi : g.I b off with
  | none => rfl
  | some v => exact absurd (imm_lt h hi) (by omega)

theorem Keep.alloc (g : Gh) (w : World) (ob : Go.Obj) (tag : Tag) : Keep g w (g.tagAt w.heap.size tag) (w.alloc ob) (fun _ => False) :=
  ⟨⟨fun _ _ _ h => h, Nat.le_refl _, fun _ _ => rfl, fun _ _ => rfl⟩, by simp, fun b hb _ => ⟨heap_old w ob hb, by simp [Gh.tagAt, Nat.ne_of_lt hb], fun _ => rfl⟩⟩

theorem imm_alloc {σ : St} (h : HInv P g w σ) (ob : Go.Obj) (b off : Nat) (v : Value) (hv : g.I b off = some v) : (w.alloc ob).cell? ⟨b, off, none⟩ = some v := by
  rw [World.cell?_alloc_lt]
  · exact h.imm b off v hv
  · exact imm_lt h hv

theorem Inv.alloc (i : Inv P g w fr σ a) (ob : Go.Obj) (tag : Tag) : Inv P (g.tagAt w.heap.size tag) (w.alloc ob) fr σ a :=
  i.keep (Keep.alloc g w ob tag) (fun _ hc => hc.elim) (fun _ _ _ => rfl) (imm_alloc i.h ob) rfl

theorem Ext.alloc (g : Gh) (w : World) (ob : Go.Obj) (tag : Tag) : Ext g w (g.tagAt w.heap.size tag) (w.alloc ob) :=
  Ext.of_keep (Keep.alloc g w ob tag) (fun _ hc => hc.elim) rfl rfl rfl

/-- A new variable's own block. -/
def Gh.boxAt (g : Gh) (t b : Nat) : Gh := { g with β := fun x => if x = t then b else g.β x }

theorem Inv.newβ (i : Inv P g w fr σ a) {t : Nat} (hn : ∀ cs, fr.boxes[t]? ≠ some (some cs)) (b : Nat) : Inv P (g.boxAt t b) w fr σ a :=
  i.keep (C := fun _ => False) ⟨⟨fun _ _ _ h => h, Nat.le_refl _, fun _ _ => rfl, fun _ _ => rfl⟩, Nat.le_refl _, fun _ _ _ => ⟨rfl, rfl, fun _ => rfl⟩⟩ (fun _ hc => hc.elim)
    (fun s cs hb => by simp only [Gh.boxAt]; rw [if_neg]; rintro rfl; exact hn cs hb) i.h.imm rfl

theorem Ext.newβ (g : Gh) (w : World) (t b : Nat) : Ext g w (g.boxAt t b) w :=
  ⟨⟨fun _ _ _ h => h, Nat.le_refl _, fun _ _ => rfl, fun _ _ => rfl⟩, rfl, rfl, rfl, Nat.le_refl _, fun _ _ _ => ⟨rfl, rfl⟩, fun _ _ _ h => .inl h⟩

/-- The frame behind a new variable. -/
theorem Inv.newBox (i : Inv P g w fr σ a) (t : Nat) (arr : Array Value) (ty : TypeId) {cs : List D} (hc : ∀ g', g.Le g' → AllRep (Rep g') arr.toList cs) (hp : cs.all D.plain = true)
    (ho : ∀ (j : Nat) (v : Value) (d : D), arr.toList[j]? = some v → cs[j]? = some d → ∀ g' w', Own P g' w' (.bbuf t j) v d) :
    ∃ g', Ext g w g' (w.alloc (.cells arr ty)) ∧ Inv P g' (w.alloc (.cells arr ty)) (fr.newBox t cs) σ a ∧ g'.β t = w.heap.size := by
  -- the elder variable is forgotten
  have key : ∀ fr1 : Fr, Inv P g w fr1 σ a → (∀ cs, fr1.boxes[t]? ≠ some (some cs)) → fr1.boxes[t]? ≠ none ∨ True →
      ∃ g', Ext g w g' (w.alloc (.cells arr ty)) ∧ Inv P g' (w.alloc (.cells arr ty)) (fr1.setBox t (some cs)) σ a ∧ g'.β t = w.heap.size := by
    intro fr1 i1 hn _
    have i2 := (i1.alloc (.cells arr ty) (.box t)).newβ hn w.heap.size
    refine ⟨_, (Ext.alloc g w (.cells arr ty) (.box t)).trans (Ext.newβ _ _ t w.heap.size), ?_, by simp [Gh.boxAt]⟩
    refine ⟨i2.h, ⟨by simpa [Fr.setBox] using i2.s.size, by simpa [Fr.setBox] using i2.s.blen, fun k e hk => ?_, fun s cs' hb => ?_⟩, i2.d⟩
    · obtain ⟨v, q1, q2, q3, q4⟩ := i2.s.slots k e hk
      refine ⟨v, q1, q2, q3, fun s off e => ?_⟩
      obtain ⟨cs0, hc0⟩ := q4 s off e
      refine ⟨cs0, ?_⟩
      simp only [Fr.setBox]
      rw [list_set_get, if_neg]
      · exact hc0
      · rintro ⟨rfl, _⟩
        exact hn cs0 hc0
    · simp only [Fr.setBox] at hb
      rw [list_set_get] at hb
      split at hb
      · rename_i hst
        obtain ⟨rfl, _⟩ := hst
        cases hb
        refine ⟨by simp [Gh.boxAt, Gh.tagAt], arr.size, arr, ty, by simp only [Gh.boxAt, if_true]; exact heap_new w _, rfl, fun off => imm_none i1.h (Nat.le_of_eq (by simp [Gh.boxAt])) off, fun j d hd => ?_⟩
        have hle : g.Le ((g.tagAt w.heap.size (.box s)).boxAt s w.heap.size) := ⟨fun _ _ _ h => h, Nat.le_refl _, fun _ _ => rfl, fun _ _ => rfl⟩
        obtain ⟨v, hv, hr⟩ := (hc _ hle).get hd
        exact ⟨all_get hp hd, v, by simpa using hv, hr, ho j v d hv hd _ _⟩
      · exact i2.s.boxes s cs' hb
  unfold Fr.newBox
  split
  · rename_i hn
    exact key fr i (boxAt_none hn) (.inr trivial)
  · have := key (fr.drop t (killL t)) (i.dropBox t) (fun cs hc => (box_set_none hc).1 rfl) (.inr trivial)
    simpa [Fr.drop, Fr.setBox] using this

theorem newBox_len (fr : Fr) (t : Nat) (cs : List D) : (fr.newBox t cs).slots.length = fr.slots.length := by
  unfold Fr.newBox
  split <;> simp [Fr.setBox]

theorem newBox_at (fr : Fr) (hb : fr.boxes.length = fr.slots.length) (t : Nat) (cs : List D) (ht : t < fr.slots.length) : (fr.newBox t cs).boxes[t]? = some (some cs) := by
  unfold Fr.newBox
  split <;> simp [Fr.setBox, hb, ht]

theorem Inv.putBox {t : Nat} {cs : List D} (i : Inv P g w (fr.newBox t cs) σ a) (hb : fr.boxes.length = fr.slots.length) {b : Nat} (hβ : g.β t = b) :
    Inv P g w ((fr.newBox t cs).put (some t) (.lptr t 0)) σ (a.put (some t) (.pointer (some ⟨b, 0, none⟩))) := by
  rcases Nat.lt_or_ge t fr.slots.length with h | h
  · refine i.put (some t) (by rw [← hβ]; exact .lptr t 0) (fun _ _ => .of_ne rfl) (fun s off e => ?_)
    cases e
    exact ⟨cs, newBox_at fr hb t cs h⟩
  · have h1 : (fr.newBox t cs).put (some t) (.lptr t 0) = fr.newBox t cs := by
      simp only [Fr.put, Fr.set]
      rw [List.set_eq_of_length_le (by rw [newBox_len]; exact h)]
    have h2 : a.put (some t) (.pointer (some ⟨b, 0, none⟩)) = a := by
      simp only [Act.put]
      rw [Array.setIfInBounds_eq_of_size_le (by rw [i.s.size, newBox_len]; exact h)]
    rw [h1, h2]
    exact i

theorem snd_alloc {ty : TypeId} (hop : o.op = .alloc ty) {z : List D} (hz : zeroOf P ty = some z)
    (he : evalOp cal q o.dst (.alloc z) fr σ = some (d, fr', σ')) (i : Inv P g w fr σ a) : Snd P g w a o fr' σ' d := by
  simp only [evalOp] at he
  split at he
  · rename_i t ht
    cases he
    intro next Q hn
    obtain ⟨zv, h1, h2, h3, h4⟩ := zeroOf_ok (g := g) hz
    have hrun : (execOp a.eval o).run P w = .ok (.value (.pointer (some ⟨w.heap.size, 0, none⟩))) (w.alloc (.cells zv.cells ty)) := by
      simp only [execOp, hop]
      refine run_vmap' ?_
      unfold Instr.alloc
      rw [run_bo (zeroValue_run h1)]
      rfl
    obtain ⟨g', e1, e2, e3⟩ := i.newBox t zv.cells ty (cs := z) (fun g' _ => (zeroOf_ok (g := g') hz).elim fun zv' h => by
        have : zv' = zv := by have := h.1; rw [h1] at this; exact (Option.some.inj this).symm
        rw [← this]; exact h.2.1) (List.all_eq_true.2 fun x hx => plain_of_pure1 (List.all_eq_true.1 h3 x hx))
      (fun j v d k1 k2 g' w' => own_nil (h4 j v d k1 k2).1 (h4 j v d k1 k2).2)
    refine wp_value hrun (hn _ _ g' e1 ?_)
    rw [ht]
    exact e2.putBox i.s.blen e3
  · cases he

theorem snd_box {ty : TypeId} {x : Operand} (hop : o.op = .box ty x) {x' : X} (hX : compX x = some x')
    (he : evalOp cal q o.dst (.box x') fr σ = some (d, fr', σ')) (i : Inv P g w fr σ a) : Snd P g w a o fr' σ' d := by
  have hv := val_ok i.s hX
  simp only [evalOp] at he
  split at he
  · rename_i t ht
    split at he
    · rename_i hp
      cases he
      intro next Q hn
      have hrun : (execOp a.eval o).run P w = .ok (.value (.pointer (some ⟨w.heap.size, 0, none⟩))) (w.alloc (.cells (a.eval x).cells ty)) := by
        simp only [execOp, hop]
        exact run_vmap' rfl
      have hnotl : ∀ t off, fr.val x' = .lptr t off → False := fun t off e => by rw [e] at hp; simp [D.cells, D.plain] at hp
      obtain ⟨g', e1, e2, e3⟩ := i.newBox t (a.eval x).cells ty (cs := (fr.val x').raw) (fun g' hle => (hv.1.mono hle (fun t off e => (hnotl t off e).elim)).raws hp)
        (raw_plain hp)
        (fun j v d k1 k2 g' w' => own_rawS hv.1 (val_strip fr x') j v d k1 k2)
      refine wp_value hrun (hn _ _ g' e1 ?_)
      rw [ht]
      exact e2.putBox i.s.blen e3
    · cases he
  · cases he

end
end Go.Abs
