import Derived.Test.YtnjoledlgacpeaaRep
import Derived.Calls
set_option linter.unusedVariables false
set_option linter.unusedSimpArgs false
/-
  The invariant that ties the interpreter's frame and store to the model's temporaries and memory; what it keeps when memory grows.
-/
namespace Go.Abs
open Go Go.RowKit

def Own (P : Program) (g : Gh) (w : World) (tag : Tag) (v : Value) (d : D) : Prop :=
  ∀ (es : List (List D)) (e : Nat), d = .sl es (some e) → (es = [] ∧ v = .slice none 0 0) ∨ ∃ i xs, P.info? e = some i ∧ 0 < i.size ∧ (∀ x ∈ es, x.length = i.size) ∧ w.ownsRow 0 e i.size v es.length xs ∧
    ∀ b, v.ownBlock = some b → g.ω b = tag ∧ ∀ off, es.length * i.size ≤ off → g.I b off = none

theorem Own.of_strip {P : Program} {g : Gh} {w : World} {tag : Tag} {v : Value} {d : D} : Own P g w tag v d.strip := by
  intro es e h; cases d <;> simp [D.strip] at h

theorem Own.of_ne {P : Program} {g : Gh} {w : World} {tag : Tag} {v : Value} {d : D} (h : d.strip = d) : Own P g w tag v d := by
  rw [← h]; exact .of_strip

def Blk (P : Program) (g : Gh) (w : World) (b sz : Nat) (tag : Nat → Tag) (cs : List D) : Prop :=
  ∃ arr ty, w.heap[b]? = some (.cells arr ty (0, 0)) ∧ arr.size = sz ∧ (∀ off, g.I b off = none) ∧
    ∀ (j : Nat) (d : D), cs[j]? = some d → d.plain = true ∧ ∃ v, arr[j]? = some v ∧ Rep g v d ∧ Own P g w (tag j) v d

theorem raw_len (d : D) : d.raw.length = d.cells.length := by cases d <;> simp [D.raw, D.cells]
theorem raw_plain {d : D} (h : d.cells.all D.plain = true) : d.raw.all D.plain = true := by
  cases d with
  | agg cs =>
    refine List.all_eq_true.2 fun x hx => ?_
    obtain ⟨y, hy, rfl⟩ := List.mem_map.1 (show x ∈ cs.map D.ripe from hx)
    have := List.all_eq_true.1 h y.strip (List.mem_map.2 ⟨y, hy, rfl⟩)
    cases y <;> simp_all [D.ripe, D.strip, D.plain]
  | _ => exact h
theorem Rep.ripe {g : Gh} {v : Value} {d : D} (h : Rep g v d) : Rep g v d.ripe := by
  cases h with
  | nils e => exact Rep.nil _
  | sl a len cap b off esz es own V hl hc hn ha he hI hR => exact .sl a len cap b off esz es none V hl hc hn ha he hI hR
  | _ => constructor <;> assumption
theorem own_ripe {P : Program} {g g0 : Gh} {w : World} {tag : Tag} {v : Value} {d : D} (h : Rep g0 v d) : Own P g w tag v d.ripe := by
  cases h with
  | nils e => exact fun es e' hd => by cases hd; exact .inl ⟨rfl, rfl⟩
  | sl a len cap b off esz es own V hl hc hn ha he hI hR => exact Own.of_strip (d := .sl es own)
  | _ => exact .of_ne rfl
theorem Rep.raws {g : Gh} {v : Value} {d : D} (h : Rep g v d) (hp : d.cells.all D.plain = true) : AllRep (Rep g) v.cells.toList d.raw := by
  cases d with
  | agg ds =>
    cases h with
    | agg vs _ hl hR hq =>
      refine ⟨by simpa [D.raw, Value.cells] using hl, fun i v d h1 h2 => ?_⟩
      simp only [D.raw, List.getElem?_map, Option.map_eq_some_iff] at h2
      obtain ⟨d0, h2, rfl⟩ := h2
      exact (hR i v d0 h1 h2).ripe
  | _ => exact h.cells hp
theorem own_raw {P : Program} {g : Gh} {w : World} {tag : Nat → Tag} {v : Value} {d : D} (h : Rep g v d) (ho : Own P g w (tag 0) v d) (hp : d.cells.all D.plain = true) (j : Nat) (u : Value) (e : D) (hj : v.cells.toList[j]? = some u) (hej : d.raw[j]? = some e) : Own P g w (tag j) u e := by
  cases d with
  | agg ds =>
    cases h with
    | agg vs _ hl hR hq =>
      simp only [D.raw, List.getElem?_map, Option.map_eq_some_iff] at hej
      obtain ⟨d0, h2, rfl⟩ := hej
      exact own_ripe (hR j u d0 (by simpa [Value.cells] using hj) h2)
  | _ =>
    have hj0 : j = 0 := by
      have := (List.getElem?_eq_some_iff.1 hej).1
      simp [D.raw] at this
      exact this
    subst hj0
    simp only [D.raw, List.getElem?_cons_zero, Option.some.injEq] at hej
    subst hej
    have hone : v.cells = #[v] := h.cells_one (by simpa [D.cells] using hp)
    rw [hone] at hj
    simp at hj
    subst hj
    exact ho

theorem own_rawS {P : Program} {g g0 : Gh} {w : World} {tag : Tag} {v : Value} {d : D} (h : Rep g0 v d) (hs : d.strip = d) (j : Nat) (u : Value) (e : D) (hj : v.cells.toList[j]? = some u) (hej : d.raw[j]? = some e) : Own P g w tag u e := by
  cases d with
  | agg ds =>
    cases h with
    | agg vs _ hl hR hq =>
      simp only [D.raw, List.getElem?_map, Option.map_eq_some_iff] at hej
      obtain ⟨d0, h2, rfl⟩ := hej
      exact own_ripe (hR j u d0 (by simpa [Value.cells] using hj) h2)
  | _ =>
    have hj0 : j = 0 := by
      have := (List.getElem?_eq_some_iff.1 hej).1
      simp [D.raw] at this
      exact this
    subst hj0
    simp only [D.raw, List.getElem?_cons_zero, Option.some.injEq] at hej
    subst hej
    exact .of_ne hs
theorem val_strip (fr : Fr) (x : X) : (fr.val x).strip = fr.val x := by cases x <;> exact strip_strip _

def MapRep (g : Gh) (ents : List MapEntry) (es : List (D × D)) : Prop :=
  ents.length = es.length ∧ ∀ (i : Nat) (e : MapEntry) (kd : D × D), ents[i]? = some e → es[i]? = some kd → Rep g e.key kd.1 ∧ Rep g e.val kd.2 ∧ kd.1.notL = true ∧ kd.2.notL = true ∧ kd.2.strip = kd.2

/-- The stamps of a map's entries. -/
def Born (ents : Array MapEntry) (clock : Nat) : Prop := (∀ e ∈ ents.toList, e.born < clock) ∧ (ents.toList.map (·.born)).Nodup

structure HInv (P : Program) (g : Gh) (w : World) (σ : St) : Prop where
  imm : ∀ (b off : Nat) (v : Value), g.I b off = some v → w.cell? ⟨b, off, none⟩ = some v
  n : g.n = σ.length
  cells : ∀ (o : Nat) (cs : List D), σ[o]? = some (.cells cs) → g.ω (g.μ o) = .obj o ∧ Blk P g w (g.μ o) (g.sz o) (.obuf o) cs
  maps : ∀ (o : Nat) (es : List (D × D)), σ[o]? = some (.map es) → g.ω (g.μ o) = .obj o ∧ ∃ ents clock, w.heap[g.μ o]? = some (.map ents clock) ∧ MapRep g ents.toList es ∧ Born ents clock
  rows : ∀ (o e : Nat) (cs : List D), σ[o]? = some (.cells cs) → σ[o + 1]? = some (.row e) → ∃ arr, w.heap[g.μ o]? = some (.cells arr e (0, 0))

structure SInv (P : Program) (g : Gh) (w : World) (fr : Fr) (tm : Array Value) : Prop where
  size : tm.size = fr.slots.length
  blen : fr.boxes.length = fr.slots.length
  slots : ∀ (t : Nat) (d : D), fr.slots[t]? = some d → ∃ v, tm[t]? = some v ∧ Rep g v d ∧ Own P g w (.sbuf t) v d ∧ ∀ s off, d = .lptr s off → ∃ cs, fr.boxes[s]? = some (some cs)
  boxes : ∀ (t : Nat) (cs : List D), fr.boxes[t]? = some (some cs) → g.ω (g.β t) = .box t ∧ ∃ sz, Blk P g w (g.β t) sz (.bbuf t) cs

/-- The deferred calls of the frame. -/
def DefRep (g : Gh) (ds : List Deferred) (fs : List (D × List D)) : Prop :=
  ds.length = fs.length ∧ ∀ (i : Nat) (d : Deferred) (f : D × List D), ds[i]? = some d → fs[i]? = some f →
    ∃ fn caps, d.target = .fn (.func fn) caps ∧ ∃ cd, f.1 = .func fn cd ∧ Rep g (.func (.func fn) #[] caps) f.1 ∧ AllRep (Rep g) d.args.toList f.2 ∧ f.2.all D.notL = true

/-- .. above what lies below. -/
def DefOK (g : Gh) (ds : List Deferred) (fs : List (D × List D)) : Prop := ∃ l, ds = l ++ g.base ∧ DefRep g l fs

structure Inv (P : Program) (g : Gh) (w : World) (fr : Fr) (σ : St) (a : Act) : Prop where
  h : HInv P g w σ
  s : SInv P g w fr a.tmps
  d : DefOK g a.defers fr.defers

/-- What is claimed of a block with that tag. -/
def claims (fr : Fr) (σ : St) : Tag → Prop
  | .sbuf t => ∃ es e, fr.slots[t]? = some (.sl es (some e))
  | .box t => ∃ cs, fr.boxes[t]? = some (some cs)
  | .bbuf t j => ∃ cs es e, fr.boxes[t]? = some (some cs) ∧ cs[j]? = some (.sl es (some e))
  | .obj o => (∃ cs, σ[o]? = some (.cells cs)) ∨ ∃ es, σ[o]? = some (.map es)
  | .obuf o j => ∃ cs es e, σ[o]? = some (.cells cs) ∧ cs[j]? = some (.sl es (some e))
  | _ => False

structure Keep (g : Gh) (w : World) (g' : Gh) (w' : World) (C : Nat → Prop) : Prop where
  le : g.Le g'
  size : w.heap.size ≤ w'.heap.size
  blk : ∀ b, b < w.heap.size → ¬ C b → w'.heap[b]? = w.heap[b]? ∧ g'.ω b = g.ω b ∧ ∀ off, g'.I b off = g.I b off

theorem lt_of_heap {w : World} {b : Nat} {o : Go.Obj} (h : w.heap[b]? = some o) : b < w.heap.size := (Array.getElem?_eq_some_iff.1 h).1

theorem ownsRow_same {w w' : World} {e sz n : Nat} {v : Value} {xs : List Value} (h : w.ownsRow 0 e sz v n xs)
    (hb : ∀ b, v.ownBlock = some b → b < w.heap.size → w'.heap[b]? = w.heap[b]?) : w'.ownsRow 0 e sz v n xs := by
  refine ⟨h.1, ?_⟩
  rcases h.2 with h2 | ⟨b, cap, cur, rfl, h3, h4, h5⟩
  · exact .inl h2
  · exact .inr ⟨b, cap, cur, rfl, h3, (hb b rfl (lt_of_heap h4)).trans h4, h5⟩

theorem ownsRow_lt {w : World} {e sz n : Nat} {v : Value} {xs : List Value} (h : w.ownsRow 0 e sz v n xs) {b : Nat} (hb : v.ownBlock = some b) : b < w.heap.size := (h.lt b hb).2

section
variable {P : Program} {g g' : Gh} {w w' : World} {C : Nat → Prop}

theorem Own.keep {tag : Tag} {v : Value} {d : D} (h : Own P g w tag v d) (k : Keep g w g' w' C)
    (hC : ∀ b es e, d = .sl es (some e) → C b → g.ω b ≠ tag) : Own P g' w' tag v d := by
  intro es e hd
  rcases h es e hd with h0 | ⟨i, xs, h1, h2, h3, h4, h5⟩
  · exact .inl h0
  refine .inr ?_
  have hn : ∀ b, v.ownBlock = some b → b < w.heap.size ∧ ¬ C b := fun b hb => ⟨ownsRow_lt h4 hb, fun hc => hC b es e hd hc (h5 b hb).1⟩
  refine ⟨i, xs, h1, h2, h3, ownsRow_same h4 (fun b hb hl => (k.blk b hl (hn b hb).2).1), fun b hb => ?_⟩
  obtain ⟨q1, q2, q3⟩ := k.blk b (hn b hb).1 (hn b hb).2
  exact ⟨q2.trans (h5 b hb).1, fun off ho => (q3 off).trans ((h5 b hb).2 off ho)⟩

theorem Blk.keep {b sz : Nat} {tag : Nat → Tag} {cs : List D} (h : Blk P g w b sz tag cs) (k : Keep g w g' w' C) (hb : ¬ C b)
    (hC : ∀ j es e, cs[j]? = some (.sl es (some e)) → ∀ b, C b → g.ω b ≠ tag j) : Blk P g' w' b sz tag cs := by
  obtain ⟨arr, ty, h1, h2, h3, h4⟩ := h
  obtain ⟨q1, _, q3⟩ := k.blk b (lt_of_heap h1) hb
  refine ⟨arr, ty, q1.trans h1, h2, fun off => (q3 off).trans (h3 off), fun j d hd => ?_⟩
  obtain ⟨hp, v, hv, hr, ho⟩ := h4 j d hd
  exact ⟨hp, v, hv, hr.mono k.le (fun t off e => by subst e; simp [D.plain] at hp), ho.keep k (fun b' es e hde => by subst hde; exact hC j es e hd b')⟩

theorem MapRep.mono {ents : List MapEntry} {es : List (D × D)} (h : MapRep g ents es) (k : g.Le g') : MapRep g' ents es :=
  ⟨h.1, fun i e kd h1 h2 => by
    obtain ⟨a, b, c, d, x⟩ := h.2 i e kd h1 h2
    exact ⟨a.mono k (fun t off q => by rw [q] at c; simp [D.notL] at c), b.mono k (fun t off q => by rw [q] at d; simp [D.notL] at d), c, d, x⟩⟩

theorem DefRep.mono {ds : List Deferred} {fs : List (D × List D)} (h : DefRep g ds fs) (k : g.Le g') : DefRep g' ds fs :=
  ⟨h.1, fun i d f h1 h2 => by
    obtain ⟨fn, caps, a, cd, b, c, e, x⟩ := h.2 i d f h1 h2
    refine ⟨fn, caps, a, cd, b, c.mono k (fun t off q => by rw [b] at q; cases q), ⟨e.1, fun i v d q1 q2 => (e.2 i v d q1 q2).mono k (fun t off q => by rw [q] at q2; have := all_get x q2; simp [D.notL] at this)⟩, x⟩⟩

theorem DefOK.mono {ds : List Deferred} {fs : List (D × List D)} (h : DefOK g ds fs) (k : g.Le g') (hb : g'.base = g.base := by rfl) : DefOK g' ds fs := by
  obtain ⟨l, h1, h2⟩ := h
  exact ⟨l, by rw [hb]; exact h1, h2.mono k⟩

theorem HInv.cells_keep {σ : St} (h : HInv P g w σ) (k : Keep g w g' w' C) {fr : Fr} (hC : ∀ b, C b → ¬ claims fr σ (g.ω b)) (o : Nat) (cs : List D) (ho : σ[o]? = some (.cells cs)) :
    g'.ω (g'.μ o) = .obj o ∧ Blk P g' w' (g'.μ o) (g'.sz o) (.obuf o) cs := by
  obtain ⟨h1, h2⟩ := h.cells o cs ho
  have hlt : o < g.n := by rw [h.n]; exact (List.getElem?_eq_some_iff.1 ho).1
  have hnc : ¬ C (g.μ o) := fun hc => hC _ hc (by rw [h1]; exact .inl ⟨cs, ho⟩)
  have hb : g.μ o < w.heap.size := by obtain ⟨arr, ty, q, _⟩ := h2; exact lt_of_heap q
  rw [k.le.μ o hlt, k.le.sz o hlt]
  refine ⟨(k.blk _ hb hnc).2.1.trans h1, h2.keep k hnc (fun j es e hj b hc he => hC b hc (by rw [he]; exact ⟨cs, es, e, ho, hj⟩))⟩

theorem HInv.maps_keep {σ : St} (h : HInv P g w σ) (k : Keep g w g' w' C) {fr : Fr} (hC : ∀ b, C b → ¬ claims fr σ (g.ω b)) (o : Nat) (es : List (D × D)) (ho : σ[o]? = some (.map es)) :
    g'.ω (g'.μ o) = .obj o ∧ ∃ ents clock, w'.heap[g'.μ o]? = some (.map ents clock) ∧ MapRep g' ents.toList es ∧ Born ents clock := by
  obtain ⟨h1, ents, clock, h2, h3, h4⟩ := h.maps o es ho
  have hlt : o < g.n := by rw [h.n]; exact (List.getElem?_eq_some_iff.1 ho).1
  have hnc : ¬ C (g.μ o) := fun hc => hC _ hc (by rw [h1]; exact .inr ⟨es, ho⟩)
  rw [k.le.μ o hlt]
  obtain ⟨q1, q2, _⟩ := k.blk _ (lt_of_heap h2) hnc
  exact ⟨q2.trans h1, ents, clock, q1.trans h2, h3.mono k.le, h4⟩

theorem HInv.rows_keep {σ : St} (h : HInv P g w σ) (k : Keep g w g' w' C) {fr : Fr} (hC : ∀ b, C b → ¬ claims fr σ (g.ω b)) (o e : Nat) (cs : List D) (ho : σ[o]? = some (.cells cs)) (hr : σ[o + 1]? = some (.row e)) :
    ∃ arr, w'.heap[g'.μ o]? = some (.cells arr e (0, 0)) := by
  obtain ⟨h1, _⟩ := h.cells o cs ho
  obtain ⟨arr, h2⟩ := h.rows o e cs ho hr
  have hlt : o < g.n := by rw [h.n]; exact (List.getElem?_eq_some_iff.1 ho).1
  have hnc : ¬ C (g.μ o) := fun hc => hC _ hc (by rw [h1]; exact .inl ⟨cs, ho⟩)
  rw [k.le.μ o hlt]
  exact ⟨arr, (k.blk _ (lt_of_heap h2) hnc).1.trans h2⟩
/-- One object more that is no mark. -/
theorem rows_snoc {σ : St} {ob : Obj} {Q : Nat → Nat → List D → Prop} (hob : ∀ e, ob ≠ .row e) (h : ∀ (o e : Nat) (cs : List D), σ[o]? = some (.cells cs) → σ[o + 1]? = some (.row e) → Q o e cs) (o e : Nat) (cs : List D)
    (h1 : (σ ++ [ob])[o]? = some (.cells cs)) (h2 : (σ ++ [ob])[o + 1]? = some (.row e)) : Q o e cs := by
  have hlt : o + 1 < (σ ++ [ob]).length := (List.getElem?_eq_some_iff.1 h2).1
  simp only [List.length_append, List.length_cons, List.length_nil] at hlt
  rw [List.getElem?_append_left (by omega)] at h1
  by_cases hl : o + 1 < σ.length
  · rw [List.getElem?_append_left hl] at h2
    exact h o e cs h1 h2
  · rw [List.getElem?_append_right (by omega)] at h2
    have : o + 1 - σ.length = 0 := by omega
    rw [this] at h2
    simp at h2
    exact absurd h2 (hob e)
/-- One object is another one now. -/
theorem rows_set {σ : St} {k : Nat} {ob : Obj} {Q : Nat → Nat → Prop} (hob : ∀ e, ob ≠ .row e) (hk : ∀ cs, ob = .cells cs → ∃ cs', σ[k]? = some (.cells cs')) (h : ∀ (o e : Nat) (cs : List D), σ[o]? = some (.cells cs) → σ[o + 1]? = some (.row e) → Q o e) (o e : Nat) (cs : List D)
    (h1 : (σ.set k ob)[o]? = some (.cells cs)) (h2 : (σ.set k ob)[o + 1]? = some (.row e)) : Q o e := by
  rw [List.getElem?_set] at h1 h2
  have h2' : σ[o + 1]? = some (.row e) := by
    by_cases hq : k = o + 1
    · rw [if_pos hq] at h2
      split at h2
      · simp only [Option.some.injEq] at h2
        exact absurd h2 (hob e)
      · cases h2
    · rwa [if_neg hq] at h2
  by_cases hq : k = o
  · rw [if_pos hq] at h1
    split at h1
    · simp only [Option.some.injEq] at h1
      obtain ⟨cs', hc⟩ := hk cs h1
      rw [hq] at hc
      exact h o e cs' hc h2'
    · cases h1
  · rw [if_neg hq] at h1
    exact h o e cs h1 h2'

theorem SInv.keep {fr : Fr} {σ : St} {tm : Array Value} (s : SInv P g w fr tm) (k : Keep g w g' w' C) (hC : ∀ b, C b → ¬ claims fr σ (g.ω b)) (hβ : ∀ t cs, fr.boxes[t]? = some (some cs) → g'.β t = g.β t) : SInv P g' w' fr tm := by
  refine ⟨s.size, s.blen, fun t d hd => ?_, fun t cs hb => ?_⟩
  · obtain ⟨v, h1, h2, h3, h4⟩ := s.slots t d hd
    exact ⟨v, h1, h2.mono k.le (fun t off e => by obtain ⟨cs, hb⟩ := h4 t off e; exact hβ t cs hb), h3.keep k (fun b es e hde hc he => hC b hc (by rw [he]; subst hde; exact ⟨es, e, hd⟩)), h4⟩
  · obtain ⟨h1, sz, h2⟩ := s.boxes t cs hb
    have hnc : ¬ C (g.β t) := fun hc => hC _ hc (by rw [h1]; exact ⟨cs, hb⟩)
    have hlt : g.β t < w.heap.size := by obtain ⟨arr, ty, q, _⟩ := h2; exact lt_of_heap q
    rw [hβ t cs hb]
    exact ⟨(k.blk _ hlt hnc).2.1.trans h1, sz, h2.keep k hnc (fun j es e hj b hc he => hC b hc (by rw [he]; exact ⟨cs, es, e, hb, hj⟩))⟩

theorem Inv.keep {fr : Fr} {σ : St} {a : Act} (i : Inv P g w fr σ a) (k : Keep g w g' w' C) (hC : ∀ b, C b → ¬ claims fr σ (g.ω b)) (hβ : ∀ t cs, fr.boxes[t]? = some (some cs) → g'.β t = g.β t)
    (himm : ∀ (b off : Nat) (v : Value), g'.I b off = some v → w'.cell? ⟨b, off, none⟩ = some v) (hn : g'.n = g.n) (hbase : g'.base = g.base := by rfl) : Inv P g' w' fr σ a :=
  ⟨⟨himm, hn.trans i.h.n, i.h.cells_keep k hC, i.h.maps_keep k hC, i.h.rows_keep k hC⟩, i.s.keep k hC hβ, i.d.mono k.le hbase⟩

end

/-- From one moment of a call to a later one: what isn't the call's own is as it was. -/
structure Ext (g : Gh) (w : World) (g' : Gh) (w' : World) : Prop where
  le : g.Le g'
  os : w'.os = w.os
  tape : w'.tape = w.tape
  output : w'.output = w.output
  size : w.heap.size ≤ w'.heap.size
  blk : ∀ b, b < w.heap.size → (g.ω b).mine = false → w'.heap[b]? = w.heap[b]? ∧ g'.ω b = g.ω b
  new : ∀ (b off : Nat) (v : Value), g'.I b off = some v → g.I b off = some v ∨ w.heap.size ≤ b ∨ (g.ω b).mine = true
  base : g'.base = g.base

theorem Ext.refl (g : Gh) (w : World) : Ext g w g w := ⟨.refl g, rfl, rfl, rfl, Nat.le_refl _, fun _ _ _ => ⟨rfl, rfl⟩, fun _ _ _ h => .inl h, rfl⟩

theorem Ext.trans {g g1 g2 : Gh} {w w1 w2 : World} (h : Ext g w g1 w1) (k : Ext g1 w1 g2 w2) : Ext g w g2 w2 := by
  refine ⟨h.le.trans k.le, k.os.trans h.os, k.tape.trans h.tape, k.output.trans h.output, Nat.le_trans h.size k.size, fun b hb hm => ?_, fun b off v hv => ?_, k.base.trans h.base⟩
  · obtain ⟨h1, h2⟩ := h.blk b hb hm
    obtain ⟨k1, k2⟩ := k.blk b (Nat.lt_of_lt_of_le hb h.size) (by rw [h2]; exact hm)
    exact ⟨k1.trans h1, k2.trans h2⟩
  · rcases k.new b off v hv with h1 | h1 | h1
    · exact h.new b off v h1
    · exact .inr (.inl (Nat.le_trans h.size h1))
    · rcases Nat.lt_or_ge b w.heap.size with hb | hb
      · by_cases hm : (g.ω b).mine = true
        · exact .inr (.inr hm)
        · have := (h.blk b hb (by simpa using hm)).2
          rw [this] at h1
          exact absurd h1 hm
      · exact .inr (.inl hb)

/-- One step: what is changed is the call's own. -/
theorem Ext.of_keep {g g' : Gh} {w w' : World} {C : Nat → Prop} (k : Keep g w g' w' C) (hm : ∀ b, C b → b < w.heap.size → (g.ω b).mine = true)
    (os : w'.os = w.os) (tape : w'.tape = w.tape) (output : w'.output = w.output) (base : g'.base = g.base := by rfl) : Ext g w g' w' := by
  refine ⟨k.le, os, tape, output, k.size, fun b hb hmn => ?_, fun b off v hv => ?_, base⟩
  · obtain ⟨h1, h2, _⟩ := k.blk b hb (fun hc => by rw [hm b hc hb] at hmn; cases hmn)
    exact ⟨h1, h2⟩
  · rcases Nat.lt_or_ge b w.heap.size with hb | hb
    · by_cases hc : C b
      · exact .inr (.inr (hm b hc hb))
      · exact .inl ((k.blk b hb hc).2.2 off ▸ hv)
    · exact .inr (.inl hb)

end Go.Abs
