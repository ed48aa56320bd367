/-
  A part of AnalyzeFew's proof.
-/
import Derived.Test.YthbfgdbbnapjeaaGreatComm
import Derived.Calls
import Derived.Laws.Entries
import Derived.Laws.Bits
import Derived.Laws.Strings
import Derived.Tactics2
import Derived.Laws.Tables
import Derived.DataReads
import Derived.Laws.CopyRow
set_option linter.unusedVariables false
set_option linter.unusedSimpArgs false
namespace Go.Abs
open Go Go.RowKit
def Own (P : Program) (g : Gh) (w : World) (tag : Tag) (v : Value) (d : D) : Prop :=
 ∀ (es : List (List D)) (e : Nat), d = .sl es (some e) → (es = [] ∧ v = .slice none 0 0) ∨ ∃ i xs, P.info? e = some i ∧ 0 < i.size ∧ (∀ x ∈ es, x.length = i.size) ∧ w.ownsRow 0 e i.size v es.length xs ∧
  ∀ b, v.ownBlock = some b → g.ω b = tag ∧ ∀ off, es.length * i.size ≤ off → g.I b off = none
theorem Own.of_strip {P : Program} {g : Gh} {w : World} {tag : Tag} {v : Value} {d : D} : Own P g w tag v d.strip := by
 intro es e h; cases d <;> simp [D.strip] at h
theorem Own.of_ne {P : Program} {g : Gh} {w : World} {tag : Tag} {v : Value} {d : D} (h : d.strip = d) : Own P g w tag v d := by
 rw [← h]; exact .of_strip
def Blk (P : Program) (g : Gh) (w : World) (b sz : Nat) (tag : Nat → Tag) (cs : List D) : Prop :=
 ∃ arr ty, w.heap[b]? = some (.cells arr ty (0, 0)) ∧ arr.size = sz ∧ (∀ off, g.I b off = none) ∧
  ∀ (j : Nat) (d : D), cs[j]? = some d → d.plain = true ∧ ∃ v, arr[j]? = some v ∧ Rep g v d ∧ Own P g w (tag j) v d
theorem raw_len (d : D) : d.raw.length = d.cells.length := by cases d <;> simp [D.raw, D.cells]
theorem raw_plain {d : D} (h : d.cells.all D.plain = true) : d.raw.all D.plain = true := by
 cases d with
 | agg cs =>
  refine List.all_eq_true.2 fun x hx => ?_
  obtain ⟨y, hy, rfl⟩ := List.mem_map.1 (show x ∈ cs.map D.ripe from hx)
  have := List.all_eq_true.1 h y.strip (List.mem_map.2 ⟨y, hy, rfl⟩)
  cases y <;> simp_all [D.ripe, D.strip, D.plain]
 | _ => exact h
theorem Rep.ripe {g : Gh} {v : Value} {d : D} (h : Rep g v d) : Rep g v d.ripe := by
 cases h with
 | nils e => exact Rep.nil _
 | sl a len cap b off esz es own V hl hc hn ha he hI hR => exact .sl a len cap b off esz es none V hl hc hn ha he hI hR
 | _ => constructor <;> assumption
theorem own_ripe {P : Program} {g g0 : Gh} {w : World} {tag : Tag} {v : Value} {d : D} (h : Rep g0 v d) : Own P g w tag v d.ripe := by
 cases h with
 | nils e => exact fun es e' hd => by cases hd; exact .inl ⟨rfl, rfl⟩
 | sl a len cap b off esz es own V hl hc hn ha he hI hR => exact Own.of_strip (d := .sl es own)
 | _ => exact .of_ne rfl
theorem Rep.raws {g : Gh} {v : Value} {d : D} (h : Rep g v d) (hp : d.cells.all D.plain = true) : AllRep (Rep g) v.cells.toList d.raw := by
 cases d with
 | agg ds =>
  cases h with
  | agg vs _ hl hR hq =>
   refine ⟨by simpa [D.raw, Value.cells] using hl, fun i v d h1 h2 => ?_⟩
   simp only [D.raw, List.getElem?_map, Option.map_eq_some_iff] at h2
   obtain ⟨d0, h2, rfl⟩ := h2
   exact (hR i v d0 h1 h2).ripe
 | _ => exact h.cells hp
theorem own_raw {P : Program} {g : Gh} {w : World} {tag : Nat → Tag} {v : Value} {d : D} (h : Rep g v d) (ho : Own P g w (tag 0) v d) (hp : d.cells.all D.plain = true) (j : Nat) (u : Value) (e : D) (hj : v.cells.toList[j]? = some u) (hej : d.raw[j]? = some e) : Own P g w (tag j) u e := by
 cases d with
 | agg ds =>
  cases h with
  | agg vs _ hl hR hq =>
   simp only [D.raw, List.getElem?_map, Option.map_eq_some_iff] at hej
   obtain ⟨d0, h2, rfl⟩ := hej
   exact own_ripe (hR j u d0 (by simpa [Value.cells] using hj) h2)
 | _ =>
  have hj0 : j = 0 := by
   have := (List.getElem?_eq_some_iff.1 hej).1
   simp [D.raw] at this
   exact this
  subst hj0
  simp only [D.raw, List.getElem?_cons_zero, Option.some.injEq] at hej
  subst hej
  have hone : v.cells = #[v] := h.cells_one (by simpa [D.cells] using hp)
  rw [hone] at hj
  simp at hj
  subst hj
  exact ho
theorem own_rawS {P : Program} {g g0 : Gh} {w : World} {tag : Tag} {v : Value} {d : D} (h : Rep g0 v d) (hs : d.strip = d) (j : Nat) (u : Value) (e : D) (hj : v.cells.toList[j]? = some u) (hej : d.raw[j]? = some e) : Own P g w tag u e := by
 cases d with
 | agg ds =>
  cases h with
  | agg vs _ hl hR hq =>
   simp only [D.raw, List.getElem?_map, Option.map_eq_some_iff] at hej
   obtain ⟨d0, h2, rfl⟩ := hej
   exact own_ripe (hR j u d0 (by simpa [Value.cells] using hj) h2)
 | _ =>
  have hj0 : j = 0 := by
   have := (List.getElem?_eq_some_iff.1 hej).1
   simp [D.raw] at this
   exact this
  subst hj0
  simp only [D.raw, List.getElem?_cons_zero, Option.some.injEq] at hej
  subst hej
  exact .of_ne hs
theorem val_strip (fr : Fr) (x : X) : (fr.val x).strip = fr.val x := by cases x <;> exact strip_strip _
def MapRow (g : Gh) (ents : List MapEntry) (es : List (D × D)) : Prop :=
 ents.length = es.length ∧ ∀ (i : Nat) (e : MapEntry) (kd : D × D), ents[i]? = some e → es[i]? = some kd → Rep g e.key kd.1 ∧ Rep g e.val kd.2 ∧ kd.1.notL = true ∧ kd.2.notL = true ∧ kd.2.strip = kd.2
def MapRep (g : Gh) (ents : List MapEntry) (es : List (D × D)) : Prop := ∃ es', es.Perm es' ∧ KeysOK es ∧ MapRow g ents es'
theorem MapRep.len {g : Gh} {ents : List MapEntry} {es : List (D × D)} (h : MapRep g ents es) : ents.length = es.length := by
 obtain ⟨es', h1, _, h2⟩ := h
 rw [h2.1, h1.length_eq]
def Born (ents : Array MapEntry) (clock : Nat) : Prop := (∀ e ∈ ents.toList, e.born < clock) ∧ (ents.toList.map (·.born)).Nodup
structure HInv (P : Program) (g : Gh) (w : World) (σ : St) : Prop where
 imm : ∀ (b off : Nat) (v : Value), g.I b off = some v → w.cell? ⟨b, off, none⟩ = some v
 n : g.n = σ.length
 cells : ∀ (o : Nat) (cs : List D), σ[o]? = some (.cells cs) → g.ω (g.μ o) = .obj o ∧ Blk P g w (g.μ o) (g.sz o) (.obuf o) cs
 maps : ∀ (o : Nat) (es : List (D × D)), σ[o]? = some (.map es) → g.ω (g.μ o) = .obj o ∧ ∃ ents clock, w.heap[g.μ o]? = some (.map ents clock) ∧ MapRep g ents.toList es ∧ Born ents clock
 rows : ∀ (o e : Nat) (cs : List D), σ[o]? = some (.cells cs) → σ[o + 1]? = some (.row e) → ∃ arr, w.heap[g.μ o]? = some (.cells arr e (0, 0))
 mapsR : ∀ (o : Nat) (es : List (D × D)), σ[o]? = some (.mapR es) → g.ω (g.μ o) = .ro o ∧ ∃ ents clock, w.heap[g.μ o]? = some (.map ents clock) ∧ MapRep g ents.toList es ∧ Born ents clock
structure SInv (P : Program) (g : Gh) (w : World) (fr : Fr) (tm : Array Value) : Prop where
 size : tm.size = fr.slots.length
 blen : fr.boxes.length = fr.slots.length
 slots : ∀ (t : Nat) (d : D), fr.slots[t]? = some d → ∃ v, tm[t]? = some v ∧ Rep g v d ∧ Own P g w (.sbuf t) v d ∧ ∀ s off, d = .lptr s off → ∃ cs, fr.boxes[s]? = some (some cs)
 boxes : ∀ (t : Nat) (cs : List D), fr.boxes[t]? = some (some cs) → g.ω (g.β t) = .box t ∧ ∃ sz, Blk P g w (g.β t) sz (.bbuf t) cs
def DefRep (g : Gh) (ds : List Deferred) (fs : List (D × List D)) : Prop :=
 ds.length = fs.length ∧ ∀ (i : Nat) (d : Deferred) (f : D × List D), ds[i]? = some d → fs[i]? = some f →
  ∃ fn caps, d.target = .fn (.func fn) caps ∧ ∃ cd, f.1 = .func fn cd ∧ Rep g (.func (.func fn) #[] caps) f.1 ∧ AllRep (Rep g) d.args.toList f.2 ∧ f.2.all D.notL = true
def DefOK (g : Gh) (ds : List Deferred) (fs : List (D × List D)) : Prop := ∃ l, ds = l ++ g.base ∧ DefRep g l fs
structure Inv (P : Program) (g : Gh) (w : World) (fr : Fr) (σ : St) (a : Act) : Prop where
 h : HInv P g w σ
 s : SInv P g w fr a.tmps
 d : DefOK g a.defers fr.defers
def claims (fr : Fr) (σ : St) : Tag → Prop
 | .sbuf t => ∃ es e, fr.slots[t]? = some (.sl es (some e))
 | .box t => ∃ cs, fr.boxes[t]? = some (some cs)
 | .bbuf t j => ∃ cs es e, fr.boxes[t]? = some (some cs) ∧ cs[j]? = some (.sl es (some e))
 | .obj o => (∃ cs, σ[o]? = some (.cells cs)) ∨ ∃ es, σ[o]? = some (.map es)
 | .obuf o j => ∃ cs es e, σ[o]? = some (.cells cs) ∧ cs[j]? = some (.sl es (some e))
 | .ro o => ∃ es, σ[o]? = some (.mapR es)
 | _ => False
structure Keep (g : Gh) (w : World) (g' : Gh) (w' : World) (C : Nat → Prop) : Prop where
 le : g.Le g'
 size : w.heap.size ≤ w'.heap.size
 blk : ∀ b, b < w.heap.size → ¬ C b → w'.heap[b]? = w.heap[b]? ∧ g'.ω b = g.ω b ∧ ∀ off, g'.I b off = g.I b off
theorem lt_of_heap {w : World} {b : Nat} {o : Go.Obj} (h : w.heap[b]? = some o) : b < w.heap.size := (Array.getElem?_eq_some_iff.1 h).1
theorem ownsRow_same {w w' : World} {e sz n : Nat} {v : Value} {xs : List Value} (h : w.ownsRow 0 e sz v n xs)
  (hb : ∀ b, v.ownBlock = some b → b < w.heap.size → w'.heap[b]? = w.heap[b]?) : w'.ownsRow 0 e sz v n xs := by
 refine ⟨h.1, ?_⟩
 rcases h.2 with h2 | ⟨b, cap, cur, rfl, h3, h4, h5⟩
 ·exact .inl h2
 ·exact .inr ⟨b, cap, cur, rfl, h3, (hb b rfl (lt_of_heap h4)).trans h4, h5⟩
theorem ownsRow_lt {w : World} {e sz n : Nat} {v : Value} {xs : List Value} (h : w.ownsRow 0 e sz v n xs) {b : Nat} (hb : v.ownBlock = some b) : b < w.heap.size := (h.lt b hb).2
section
variable {P : Program} {g g' : Gh} {w w' : World} {C : Nat → Prop}
theorem Own.keep {tag : Tag} {v : Value} {d : D} (h : Own P g w tag v d) (k : Keep g w g' w' C)
  (hC : ∀ b es e, d = .sl es (some e) → C b → g.ω b ≠ tag) : Own P g' w' tag v d := by
 intro es e hd
 rcases h es e hd with h0 | ⟨i, xs, h1, h2, h3, h4, h5⟩
 ·exact .inl h0
 refine .inr ?_
 have hn : ∀ b, v.ownBlock = some b → b < w.heap.size ∧ ¬ C b := fun b hb => ⟨ownsRow_lt h4 hb, fun hc => hC b es e hd hc (h5 b hb).1⟩
 refine ⟨i, xs, h1, h2, h3, ownsRow_same h4 (fun b hb hl => (k.blk b hl (hn b hb).2).1), fun b hb => ?_⟩
 obtain ⟨q1, q2, q3⟩ := k.blk b (hn b hb).1 (hn b hb).2
 exact ⟨q2.trans (h5 b hb).1, fun off ho => (q3 off).trans ((h5 b hb).2 off ho)⟩
theorem Blk.keep {b sz : Nat} {tag : Nat → Tag} {cs : List D} (h : Blk P g w b sz tag cs) (k : Keep g w g' w' C) (hb : ¬ C b)
  (hC : ∀ j es e, cs[j]? = some (.sl es (some e)) → ∀ b, C b → g.ω b ≠ tag j) : Blk P g' w' b sz tag cs := by
 obtain ⟨arr, ty, h1, h2, h3, h4⟩ := h
 obtain ⟨q1, _, q3⟩ := k.blk b (lt_of_heap h1) hb
 refine ⟨arr, ty, q1.trans h1, h2, fun off => (q3 off).trans (h3 off), fun j d hd => ?_⟩
 obtain ⟨hp, v, hv, hr, ho⟩ := h4 j d hd
 exact ⟨hp, v, hv, hr.mono k.le (fun t off e => by subst e; simp [D.plain] at hp), ho.keep k (fun b' es e hde => by subst hde; exact hC j es e hd b')⟩
theorem MapRow.mono {ents : List MapEntry} {es : List (D × D)} (h : MapRow g ents es) (k : g.Le g') : MapRow g' ents es :=
 ⟨h.1, fun i e kd h1 h2 => by
  obtain ⟨a, b, c, d, x⟩ := h.2 i e kd h1 h2
  exact ⟨a.mono k (fun t off q => by rw [q] at c; simp [D.notL] at c), b.mono k (fun t off q => by rw [q] at d; simp [D.notL] at d), c, d, x⟩⟩
theorem MapRep.mono {ents : List MapEntry} {es : List (D × D)} (h : MapRep g ents es) (k : g.Le g') : MapRep g' ents es := by
 obtain ⟨es', h1, h2, h3⟩ := h
 exact ⟨es', h1, h2, h3.mono k⟩
theorem DefRep.mono {ds : List Deferred} {fs : List (D × List D)} (h : DefRep g ds fs) (k : g.Le g') : DefRep g' ds fs :=
 ⟨h.1, fun i d f h1 h2 => by
  obtain ⟨fn, caps, a, cd, b, c, e, x⟩ := h.2 i d f h1 h2
  refine ⟨fn, caps, a, cd, b, c.mono k (fun t off q => by rw [b] at q; cases q), ⟨e.1, fun i v d q1 q2 => (e.2 i v d q1 q2).mono k (fun t off q => by rw [q] at q2; have := all_get x q2; simp [D.notL] at this)⟩, x⟩⟩
theorem DefOK.mono {ds : List Deferred} {fs : List (D × List D)} (h : DefOK g ds fs) (k : g.Le g') (hb : g'.base = g.base := by rfl) : DefOK g' ds fs := by
 obtain ⟨l, h1, h2⟩ := h
 exact ⟨l, by rw [hb]; exact h1, h2.mono k⟩
theorem HInv.cells_keep {σ : St} (h : HInv P g w σ) (k : Keep g w g' w' C) {fr : Fr} (hC : ∀ b, C b → ¬ claims fr σ (g.ω b)) (o : Nat) (cs : List D) (ho : σ[o]? = some (.cells cs)) :
  g'.ω (g'.μ o) = .obj o ∧ Blk P g' w' (g'.μ o) (g'.sz o) (.obuf o) cs := by
 obtain ⟨h1, h2⟩ := h.cells o cs ho
 have hlt : o < g.n := by rw [h.n]; exact (List.getElem?_eq_some_iff.1 ho).1
 have hnc : ¬ C (g.μ o) := fun hc => hC _ hc (by rw [h1]; exact .inl ⟨cs, ho⟩)
 have hb : g.μ o < w.heap.size := by obtain ⟨arr, ty, q, _⟩ := h2; exact lt_of_heap q
 rw [k.le.μ o hlt, k.le.sz o hlt]
 refine ⟨(k.blk _ hb hnc).2.1.trans h1, h2.keep k hnc (fun j es e hj b hc he => hC b hc (by rw [he]; exact ⟨cs, es, e, ho, hj⟩))⟩
theorem HInv.maps_keep {σ : St} (h : HInv P g w σ) (k : Keep g w g' w' C) {fr : Fr} (hC : ∀ b, C b → ¬ claims fr σ (g.ω b)) (o : Nat) (es : List (D × D)) (ho : σ[o]? = some (.map es)) :
  g'.ω (g'.μ o) = .obj o ∧ ∃ ents clock, w'.heap[g'.μ o]? = some (.map ents clock) ∧ MapRep g' ents.toList es ∧ Born ents clock := by
 obtain ⟨h1, ents, clock, h2, h3, h4⟩ := h.maps o es ho
 have hlt : o < g.n := by rw [h.n]; exact (List.getElem?_eq_some_iff.1 ho).1
 have hnc : ¬ C (g.μ o) := fun hc => hC _ hc (by rw [h1]; exact .inr ⟨es, ho⟩)
 rw [k.le.μ o hlt]
 obtain ⟨q1, q2, _⟩ := k.blk _ (lt_of_heap h2) hnc
 exact ⟨q2.trans h1, ents, clock, q1.trans h2, h3.mono k.le, h4⟩
theorem HInv.mapsR_keep {σ : St} (h : HInv P g w σ) (k : Keep g w g' w' C) {fr : Fr} (hC : ∀ b, C b → ¬ claims fr σ (g.ω b)) (o : Nat) (es : List (D × D)) (ho : σ[o]? = some (.mapR es)) :
  g'.ω (g'.μ o) = .ro o ∧ ∃ ents clock, w'.heap[g'.μ o]? = some (.map ents clock) ∧ MapRep g' ents.toList es ∧ Born ents clock := by
 obtain ⟨h1, ents, clock, h2, h3, h4⟩ := h.mapsR o es ho
 have hlt : o < g.n := by rw [h.n]; exact (List.getElem?_eq_some_iff.1 ho).1
 have hnc : ¬ C (g.μ o) := fun hc => hC _ hc (by rw [h1]; exact ⟨es, ho⟩)
 rw [k.le.μ o hlt]
 obtain ⟨q1, q2, _⟩ := k.blk _ (lt_of_heap h2) hnc
 exact ⟨q2.trans h1, ents, clock, q1.trans h2, h3.mono k.le, h4⟩
theorem HInv.mapOf {σ : St} (h : HInv P g w σ) {o : Nat} {es : List (D × D)} (ho : mapOf σ o = some es) : ∃ ents clock, w.heap[g.μ o]? = some (.map ents clock) ∧ MapRep g ents.toList es ∧ Born ents clock := by
 unfold Abs.mapOf at ho
 split at ho
 ·rename_i es' hm
  cases ho
  exact (h.maps o es hm).2
 ·rename_i es' hm
  cases ho
  exact (h.mapsR o es hm).2
 ·cases ho
theorem HInv.rows_keep {σ : St} (h : HInv P g w σ) (k : Keep g w g' w' C) {fr : Fr} (hC : ∀ b, C b → ¬ claims fr σ (g.ω b)) (o e : Nat) (cs : List D) (ho : σ[o]? = some (.cells cs)) (hr : σ[o + 1]? = some (.row e)) :
  ∃ arr, w'.heap[g'.μ o]? = some (.cells arr e (0, 0)) := by
 obtain ⟨h1, _⟩ := h.cells o cs ho
 obtain ⟨arr, h2⟩ := h.rows o e cs ho hr
 have hlt : o < g.n := by rw [h.n]; exact (List.getElem?_eq_some_iff.1 ho).1
 have hnc : ¬ C (g.μ o) := fun hc => hC _ hc (by rw [h1]; exact .inl ⟨cs, ho⟩)
 rw [k.le.μ o hlt]
 exact ⟨arr, (k.blk _ (lt_of_heap h2) hnc).1.trans h2⟩
theorem rows_snoc {σ : St} {ob : Obj} {Q : Nat → Nat → List D → Prop} (hob : ∀ e, ob ≠ .row e) (h : ∀ (o e : Nat) (cs : List D), σ[o]? = some (.cells cs) → σ[o + 1]? = some (.row e) → Q o e cs) (o e : Nat) (cs : List D)
  (h1 : (σ ++ [ob])[o]? = some (.cells cs)) (h2 : (σ ++ [ob])[o + 1]? = some (.row e)) : Q o e cs := by
 have hlt : o + 1 < (σ ++ [ob]).length := (List.getElem?_eq_some_iff.1 h2).1
 simp only [List.length_append, List.length_cons, List.length_nil] at hlt
 rw [List.getElem?_append_left om] at h1
 by_cases hl : o + 1 < σ.length
 ·rw [List.getElem?_append_left hl] at h2
  exact h o e cs h1 h2
 ·rw [List.getElem?_append_right om] at h2
  have : o + 1 - σ.length = 0 := by omega
  rw [this] at h2
  simp at h2
  exact absurd h2 (hob e)
theorem rows_set {σ : St} {k : Nat} {ob : Obj} {Q : Nat → Nat → Prop} (hob : ∀ e, ob ≠ .row e) (hk : ∀ cs, ob = .cells cs → ∃ cs', σ[k]? = some (.cells cs')) (h : ∀ (o e : Nat) (cs : List D), σ[o]? = some (.cells cs) → σ[o + 1]? = some (.row e) → Q o e) (o e : Nat) (cs : List D)
  (h1 : (σ.set k ob)[o]? = some (.cells cs)) (h2 : (σ.set k ob)[o + 1]? = some (.row e)) : Q o e := by
 rw [List.getElem?_set] at h1 h2
 have h2' : σ[o + 1]? = some (.row e) := by
  by_cases hq : k = o + 1
  ·rw [if_pos hq] at h2
   split at h2
   ·simp only [Option.some.injEq] at h2
    exact absurd h2 (hob e)
   ·cases h2
  ·rwa [if_neg hq] at h2
 by_cases hq : k = o
 ·rw [if_pos hq] at h1
  split at h1
  ·simp only [Option.some.injEq] at h1
   obtain ⟨cs', hc⟩ := hk cs h1
   rw [hq] at hc
   exact h o e cs' hc h2'
  ·cases h1
 ·rw [if_neg hq] at h1
  exact h o e cs h1 h2'
theorem SInv.keep {fr : Fr} {σ : St} {tm : Array Value} (s : SInv P g w fr tm) (k : Keep g w g' w' C) (hC : ∀ b, C b → ¬ claims fr σ (g.ω b)) (hβ : ∀ t cs, fr.boxes[t]? = some (some cs) → g'.β t = g.β t) : SInv P g' w' fr tm := by
 refine ⟨s.size, s.blen, fun t d hd => ?_, fun t cs hb => ?_⟩
 ·obtain ⟨v, h1, h2, h3, h4⟩ := s.slots t d hd
  exact ⟨v, h1, h2.mono k.le (fun t off e => by obtain ⟨cs, hb⟩ := h4 t off e; exact hβ t cs hb), h3.keep k (fun b es e hde hc he => hC b hc (by rw [he]; subst hde; exact ⟨es, e, hd⟩)), h4⟩
 ·obtain ⟨h1, sz, h2⟩ := s.boxes t cs hb
  have hnc : ¬ C (g.β t) := fun hc => hC _ hc (by rw [h1]; exact ⟨cs, hb⟩)
  have hlt : g.β t < w.heap.size := by obtain ⟨arr, ty, q, _⟩ := h2; exact lt_of_heap q
  rw [hβ t cs hb]
  exact ⟨(k.blk _ hlt hnc).2.1.trans h1, sz, h2.keep k hnc (fun j es e hj b hc he => hC b hc (by rw [he]; exact ⟨cs, es, e, hb, hj⟩))⟩
theorem Inv.keep {fr : Fr} {σ : St} {a : Act} (i : Inv P g w fr σ a) (k : Keep g w g' w' C) (hC : ∀ b, C b → ¬ claims fr σ (g.ω b)) (hβ : ∀ t cs, fr.boxes[t]? = some (some cs) → g'.β t = g.β t)
  (himm : ∀ (b off : Nat) (v : Value), g'.I b off = some v → w'.cell? ⟨b, off, none⟩ = some v) (hn : g'.n = g.n) (hbase : g'.base = g.base := by rfl) : Inv P g' w' fr σ a :=
 ⟨⟨himm, hn.trans i.h.n, i.h.cells_keep k hC, i.h.maps_keep k hC, i.h.rows_keep k hC, i.h.mapsR_keep k hC⟩, i.s.keep k hC hβ, i.d.mono k.le hbase⟩
end
structure Ext (g : Gh) (w : World) (g' : Gh) (w' : World) : Prop where
 le : g.Le g'
 os : w'.os = w.os
 tape : w'.tape = w.tape
 output : w'.output = w.output
 size : w.heap.size ≤ w'.heap.size
 blk : ∀ b, b < w.heap.size → (g.ω b).mine = false → w'.heap[b]? = w.heap[b]? ∧ g'.ω b = g.ω b
 new : ∀ (b off : Nat) (v : Value), g'.I b off = some v → g.I b off = some v ∨ w.heap.size ≤ b ∨ (g.ω b).mine = true
 base : g'.base = g.base
theorem Ext.refl (g : Gh) (w : World) : Ext g w g w := ⟨.refl g, rfl, rfl, rfl, Nat.le_refl _, fun _ _ _ => ⟨rfl, rfl⟩, fun _ _ _ h => .inl h, rfl⟩
theorem Ext.trans {g g1 g2 : Gh} {w w1 w2 : World} (h : Ext g w g1 w1) (k : Ext g1 w1 g2 w2) : Ext g w g2 w2 := by
 refine ⟨h.le.trans k.le, k.os.trans h.os, k.tape.trans h.tape, k.output.trans h.output, Nat.le_trans h.size k.size, fun b hb hm => ?_, fun b off v hv => ?_, k.base.trans h.base⟩
 ·obtain ⟨h1, h2⟩ := h.blk b hb hm
  obtain ⟨k1, k2⟩ := k.blk b (Nat.lt_of_lt_of_le hb h.size) (by rw [h2]; exact hm)
  exact ⟨k1.trans h1, k2.trans h2⟩
 ·rcases k.new b off v hv with h1 | h1 | h1
  ·exact h.new b off v h1
  ·exact .inr (.inl (Nat.le_trans h.size h1))
  ·rcases Nat.lt_or_ge b w.heap.size with hb | hb
   ·by_cases hm : (g.ω b).mine = true
    ·exact .inr (.inr hm)
    ·have := (h.blk b hb (by simpa using hm)).2
     rw [this] at h1
     exact absurd h1 hm
   ·exact .inr (.inl hb)
theorem Ext.of_keep {g g' : Gh} {w w' : World} {C : Nat → Prop} (k : Keep g w g' w' C) (hm : ∀ b, C b → b < w.heap.size → (g.ω b).mine = true)
  (os : w'.os = w.os) (tape : w'.tape = w.tape) (output : w'.output = w.output) (base : g'.base = g.base := by rfl) : Ext g w g' w' := by
 refine ⟨k.le, os, tape, output, k.size, fun b hb hmn => ?_, fun b off v hv => ?_, base⟩
 ·obtain ⟨h1, h2, _⟩ := k.blk b hb (fun hc => by rw [hm b hc hb] at hmn; cases hmn)
  exact ⟨h1, h2⟩
 ·rcases Nat.lt_or_ge b w.heap.size with hb | hb
  ·by_cases hc : C b
   ·exact .inr (.inr (hm b hc hb))
   ·exact .inl ((k.blk b hb hc).2.2 off ▸ hv)
  ·exact .inr (.inl hb)
end Go.Abs

namespace Go.Abs
open Go Go.RowKit
section
variable {P : Program} {g : Gh} {w : World} {fr : Fr} {σ : St} {a : Act}
theorem wp_value {o : Oper} {v : Value} {w' : World} {next : Act → World → Prop} {Q : Exit → Act → World → Prop}
  (hr : (execOp a.eval o).run P w = .ok (.value v) w') (h : next (a.put o.dst v) w') : o.wp P a w next Q := by
 unfold Oper.wp; rw [hr]; exact h
theorem wp_skipOp {o : Oper} {w' : World} {next : Act → World → Prop} {Q : Exit → Act → World → Prop}
  (hr : (execOp a.eval o).run P w = .ok .skip w') (h : next (a.put o.dst undef) w') : o.wp P a w next Q := by
 unfold Oper.wp; rw [hr]; exact h
theorem list_set_get {α : Type} (l : List α) (t i : Nat) (x : α) : (l.set t x)[i]? = if i = t ∧ t < l.length then some x else l[i]? := by
 rw [List.getElem?_set]
 by_cases h : t = i
 ·subst h
  by_cases hl : t < l.length
  ·simp [hl]
  ·simp [hl]
 ·simp [h, Ne.symm h]
theorem Inv.put (i : Inv P g w fr σ a) (dst : Option Nat) {v : Value} {d : D} (hr : Rep g v d) (ho : ∀ t, dst = some t → Own P g w (.sbuf t) v d)
  (hl : ∀ s off, d = .lptr s off → ∃ cs, fr.boxes[s]? = some (some cs)) : Inv P g w (fr.put dst d) σ (a.put dst v) := by
 cases dst with
 | none => exact i
 | some t =>
  refine ⟨i.h, ⟨by simp [Act.put, Fr.put, Fr.set, i.s.size], by simp [Fr.put, Fr.set, i.s.blen], fun k e hk => ?_, i.s.boxes⟩, i.d⟩
  simp only [Fr.put, Fr.set] at hk
  rw [list_set_get] at hk
  simp only [Act.put]
  by_cases hc : k = t ∧ t < fr.slots.length
  ·rw [if_pos hc] at hk
   obtain ⟨rfl, hlt⟩ := hc
   cases hk
   exact ⟨v, by simp [i.s.size, hlt], hr, ho k rfl, hl⟩
  ·rw [if_neg hc] at hk
   obtain ⟨v', h1, h2, h3, h4⟩ := i.s.slots k e hk
   refine ⟨v', ?_, h2, h3, h4⟩
   have hne : t ≠ k := fun h => hc ⟨h.symm, by subst h; exact (List.getElem?_eq_some_iff.1 hk).1⟩
   rw [Array.getElem?_setIfInBounds_ne hne]
   exact h1
theorem at_cases (fr : Fr) (t : Nat) : (fr.slots[t]? = some (fr.at t)) ∨ (fr.slots.length ≤ t ∧ fr.at t = .junk) := by
 unfold Fr.at
 rcases Nat.lt_or_ge t fr.slots.length with h | h
 ·left; simp [List.getD, List.getElem?_eq_getElem h]
 ·right; exact ⟨h, by simp [List.getD, List.getElem?_eq_none h]⟩
theorem constD_rep {v : Value} {d : D} (h : constD v = some d) : Rep g v d ∧ d.strip = d ∧ d.notL = true := by
 unfold constD at h
 split at h <;> first | (cases h) | skip
 ·exact ⟨.bool _, rfl, rfl⟩
 ·exact ⟨.int _ _, rfl, rfl⟩
 ·exact ⟨.str _, rfl, rfl⟩
 ·exact ⟨.nilp, rfl, rfl⟩
 ·exact ⟨.nilm, rfl, rfl⟩
 ·exact ⟨.sl none 0 0 0 0 0 [] none (fun _ _ => undef) rfl (Nat.le_refl _) (fun _ => rfl) (fun h => absurd rfl h) (by simp) (by simp) (by simp), rfl, rfl⟩
 ·split at h
  ·rename_i hc
   cases h
   simp only [Bool.and_eq_true, Array.isEmpty_iff] at hc
   obtain ⟨rfl, rfl⟩ := hc
   exact ⟨.func _ _ _ rfl (by simp) rfl, rfl, rfl⟩
  ·cases h
 ·exact ⟨.nilf, rfl, rfl⟩
theorem val_ok (s : SInv P g w fr a.tmps) {x : Operand} {X : X} (hc : compX x = some X) :
  Rep g (a.eval x) (fr.val X) ∧ (fr.val X).strip = fr.val X ∧ ∀ s off, fr.val X = .lptr s off → ∃ cs, fr.boxes[s]? = some (some cs) := by
 cases x with
 | tmp t =>
  simp only [compX, Option.some.injEq] at hc
  subst hc
  simp only [Fr.val, Act.eval]
  rcases at_cases fr t with h | ⟨h, hj⟩
  ·obtain ⟨v, h1, h2, h3, h4⟩ := s.slots t _ h
   refine ⟨?_, strip_strip _, fun q off e => h4 q off ?_⟩
   ·rw [show a.tmps.getD t undef = v by simp [h1]]
    exact h2.strip
   ·revert e; cases fr.at t <;> simp [D.strip]
  ·rw [hj]
   exact ⟨.junk _, rfl, fun q off e => by cases e⟩
 | const v =>
  simp only [compX, Option.map_eq_some_iff] at hc
  obtain ⟨d, hd, rfl⟩ := hc
  obtain ⟨h1, h2, h3⟩ := constD_rep (g := g) hd
  simp only [Fr.val, Act.eval, h2]
  exact ⟨h1, trivial, fun q off e => by subst e; simp [D.notL] at h3⟩
 | func f =>
  simp only [compX, Option.some.injEq] at hc
  subst hc
  exact ⟨.func _ _ _ rfl (by simp) rfl, rfl, fun q off e => by cases e⟩
 | global n => simp [compX] at hc
def Snd (P : Program) (g : Gh) (w : World) (a : Act) (o : Oper) (fr' : Fr) (σ' : St) (d : D) : Prop :=
 ∀ (next : Act → World → Prop) (Q : Exit → Act → World → Prop),
  (∀ a' w' g', Ext g w g' w' → Inv P g' w' (fr'.put o.dst d) σ' a' → next a' w') → o.wp P a w next Q
theorem snd_same {o : Oper} {v : Value} {d : D} (i : Inv P g w fr σ a) (hr : (execOp a.eval o).run P w = .ok (.value v) w)
  (h : Rep g v d ∧ d.strip = d ∧ ∀ s off, d = .lptr s off → ∃ cs, fr.boxes[s]? = some (some cs)) : Snd P g w a o fr σ d :=
 fun _ _ hn => wp_value hr (hn _ _ g (.refl g w) (i.put o.dst h.1 (fun _ _ => .of_ne h.2.1) h.2.2))
theorem snd_plain {o : Oper} {v : Value} {d : D} (i : Inv P g w fr σ a) (hr : (execOp a.eval o).run P w = .ok (.value v) w)
  (h : Rep g v d) (hs : d.strip = d) (hl : d.notL = true) : Snd P g w a o fr σ d :=
 snd_same i hr ⟨h, hs, fun s off e => by subst e; simp [D.notL] at hl⟩
theorem rep_bool {v : Value} {b : Bool} (h : Rep g v (.bool b)) : v = .bool b := by cases h; rfl
theorem rep_int {v : Value} {k : IntKind} {n : Int} (h : Rep g v (.int k n)) : v = .int k n := by cases h; rfl
theorem rep_str {v : Value} {l : List UInt8} (h : Rep g v (.str l)) : ∃ s : ByteArray, v = .string s ∧ s.data.toList = l := by cases h; exact ⟨_, rfl, rfl⟩
theorem rep_agg {v : Value} {ds : List D} (h : Rep g v (.agg ds)) : ∃ vs : Array Value, v = .agg vs ∧ AllRep (Rep g) vs.toList ds ∧ ds.all D.plain = true := by
 cases h with | agg vs _ hl hR hp => exact ⟨vs, rfl, ⟨hl, hR⟩, hp⟩
theorem rep_tup {v : Value} {ds : List D} (h : Rep g v (.tup ds)) : ∃ vs : Array Value, v = .tuple vs ∧ AllRep (Rep g) vs.toList ds ∧ ds.all D.notL = true := by
 cases h with | tup vs _ hl hR hp => exact ⟨vs, rfl, ⟨hl, hR⟩, hp⟩
theorem AllRep.get {R : Value → D → Prop} {vs : List Value} {ds : List D} (h : AllRep R vs ds) {i : Nat} {d : D} (hd : ds[i]? = some d) : ∃ v, vs[i]? = some v ∧ R v d := by
 have hlt : i < vs.length := by rw [h.1]; exact (List.getElem?_eq_some_iff.1 hd).1
 exact ⟨vs[i], List.getElem?_eq_getElem hlt, h.2 i _ d (List.getElem?_eq_getElem hlt) hd⟩
theorem bytes_toList (s : ByteArray) : s.toList = s.data.toList := by
 exact Go.ByteArray.toList_eq s
theorem bytes_size (s : ByteArray) : s.data.toList.length = s.size := by cases s; rfl
theorem run_bo {α β : Type} {s : Sem α} {f : α → Sem β} {x : α} {w' : World} (h : s.run P w = .ok x w') : (s >>= f).run P w = (f x).run P w' := by
 rw [Sem.run_bind, h]; rfl
theorem guard_none (op : BinOp) (t : TypeId) (x y : Operand) (v u : Value) (h1 : v ≠ .nilIface) (h2 : ∀ c, v ≠ .agg c) : (eqGuard op t x y v u).run P w = .ok () w := by
 unfold eqGuard
 by_cases h : op = .eql ∨ op = .neq
 ·rcases h with rfl | rfl <;> (cases v <;> first | exact absurd rfl h1 | exact absurd rfl (h2 _) | (cases u <;> rfl))
 ·cases op <;> first | exact absurd (.inl rfl) h | exact absurd (.inr rfl) h | rfl
def flatD : D → Bool
 | .bool _ | .int _ _ | .str _ => true
 | _ => false
theorem intD_run {op : BinOp} {k : IntKind} {x y : Int} {d : D} (t : TypeId) (h : intD op k x y = some d) (hs : op ≠ .shl ∧ op ≠ .shr) :
  ∃ v, (binOp op t (.int k x) (.int k y)).run P w = .ok v w ∧ Rep g v d ∧ flatD d = true := by
 cases op
 case shl => exact absurd rfl hs.1
 case shr => exact absurd rfl hs.2
 case andNot => simp [intD] at h
 case add | sub | mul => simp only [intD, Option.some.injEq] at h; subst h; exact ⟨.int k _, by simp only [binOp, ne_eq, not_true_eq_false, if_false]; rfl, .int _ _, rfl⟩
 case quo | rem =>
  simp only [intD] at h
  split at h
  ·cases h
  ·rename_i hy; cases h; exact ⟨.int k _, by simp only [binOp, ne_eq, not_true_eq_false, if_false, Op.intDiv, hy]; rfl, .int _ _, rfl⟩
 case and | or | xor => simp only [intD, Option.some.injEq] at h; subst h; exact ⟨.int k _, by simp only [binOp, ne_eq, not_true_eq_false, if_false]; rfl, .int _ _, rfl⟩
 all_goals (simp only [intD, Option.some.injEq] at h; subst h; exact ⟨.bool _, by simp only [binOp, ne_eq, not_true_eq_false, if_false]; rfl, .bool _, rfl⟩)
theorem shiftD_run {op : BinOp} {k k' : IntKind} {x y : Int} {d : D} (t : TypeId) (h : shiftD op k x y = some d) :
  ∃ v, (binOp op t (.int k x) (.int k' y)).run P w = .ok v w ∧ Rep g v d ∧ flatD d = true := by
 unfold shiftD at h
 split at h
 ·cases h
 ·rename_i hy
  split at h <;> first
   | (cases h; done)
   | (cases h; exact ⟨.int k _, by simp only [binOp, Op.shift, hy, if_false]; rfl, .int _ _, rfl⟩)
theorem strD_run {op : BinOp} {x y : ByteArray} {d : D} (t : TypeId) (h : strD op x.data.toList y.data.toList = some d) :
    ∃ v, (binOp op t (.string x) (.string y)).run P w = .ok v w ∧ Rep g v d ∧ flatD d = true := by
  have e1 := bytes_toList x
  have e2 := bytes_toList y
  cases op <;> simp only [strD] at h <;> first
    | (cases h; done)
    | (split at h <;> first
        | (cases h; done)
        | (cases h
           rename_i hy
           rw [bytes_size, bytes_size] at hy
           have hm : ¬ (((x.size + y.size : Nat) : Int) > IntKind.i64.max) := by
             have : IntKind.i64.max = 9223372036854775807 := rfl
             omega
           exact ⟨.string (x ++ y), by simp only [binOp, Op.stringOp]; rw [if_neg hm]; rfl, by
             have := Rep.str (g := g) (x ++ y)
             rw [ByteArray.data_append, Array.toList_append] at this
             exact this, rfl⟩))
    | (cases h; exact ⟨.bool _, by simp only [binOp, Op.stringOp, e1, e2]; rfl, .bool _, rfl⟩)
theorem binD_run {op : BinOp} {dx dy d : D} {vx vy : Value} (t : TypeId) (x y : Operand) (h : binD op dx dy = some d) (hx : Rep g vx dx) (hy : Rep g vy dy) :
  ∃ v, (do eqGuard op t x y vx vy; binOp op t vx vy : Sem Value).run P w = .ok v w ∧ Rep g v d ∧ flatD d = true := by
 unfold binD at h
 split at h
 ·rename_i k x' k' y'
  have e1 := rep_int hx; have e2 := rep_int hy
  subst e1 e2
  rw [Sem.run_bind, guard_none op t x y _ _ (by simp) (by simp)]
  split at h
  ·exact shiftD_run t h
  ·exact shiftD_run t h
  ·rename_i h1 h2
   split at h
   ·rename_i hk
    subst hk
    exact intD_run t h ⟨h1, h2⟩
   ·cases h
 ·obtain ⟨s1, rfl, rfl⟩ := rep_str hx
  obtain ⟨s2, rfl, rfl⟩ := rep_str hy
  rw [Sem.run_bind, guard_none op t x y _ _ (by simp) (by simp)]
  exact strD_run t h
 ·cases h
theorem flat_ok {d : D} (h : flatD d = true) : d.strip = d ∧ d.notL = true := by cases d <;> simp_all [flatD, D.strip, D.notL]
theorem unD_run {op : UnOp} {dx d : D} {vx : Value} (h : unD op dx = some d) (hx : Rep g vx dx) :
  ∃ v, (Op.unary op vx).run P w = .ok v w ∧ Rep g v d ∧ flatD d = true := by
 unfold unD at h
 split at h
 ·have e1 := rep_int hx; subst e1
  split at h <;> first
   | (cases h; done)
   | (cases h; exact ⟨.int _ _, rfl, .int _ _, rfl⟩)
 ·have e1 := rep_bool hx; subst e1
  split at h <;> first
   | (cases h; done)
   | (cases h; exact ⟨.bool _, rfl, .bool _, rfl⟩)
 ·cases h
theorem run_vmap {s : Sem Value} {v : Value} (h : s.run P w = .ok v w) : (do pure (.value (← s)) : Sem Next).run P w = .ok (.value v) w := by
 rw [Sem.run_bind, h]; rfl
theorem run_vmap' {s : Sem Value} {v : Value} {w' : World} (h : s.run P w = .ok v w') : (do pure (.value (← s)) : Sem Next).run P w = .ok (.value v) w' := by
 rw [Sem.run_bind, h]; rfl
theorem run_umap {s : Sem Unit} {w' : World} (h : s.run P w = .ok () w') : (do s; pure .skip : Sem Next).run P w = .ok .skip w' := by
 rw [Sem.run_bind, h]; rfl
theorem run_und {t : TypeId} {d : TypeDesc} (h : P.underlying t = some d) : (underlying t).run P w = .ok d w := run_underlying h w
theorem equalIn_bool (n : Nat) {t : TypeId} (ht : P.underlying t = some .bool) (a b : Bool) : (Op.equalIn (n + 1) t (.bool a) (.bool b)).run P w = .ok (a == b) w := by
 simp [Op.equalIn, run_und ht]
theorem equalIn_nil (n : Nat) {t e : TypeId} (ht : P.underlying t = some (.pointer e)) : (Op.equalIn (n + 1) t (.pointer none) (.pointer none)).run P w = .ok true w := by
 simp [Op.equalIn, run_und ht]
theorem equalIn_some (n : Nat) {t e : TypeId} (ht : P.underlying t = some (.pointer e)) (x : Addr) : (Op.equalIn (n + 1) t (.pointer (some x)) (.pointer none)).run P w = .ok false w := by
 simp [Op.equalIn, run_und ht]
theorem eqb_run {neg : Bool} {dx dy d : D} {vx vy : Value} {t : TypeId} (x y : Operand) (ht : P.underlying t = some .bool) (h : eqbD neg dx dy = some d) (hx : Rep g vx dx) (hy : Rep g vy dy) :
  ∃ v, (do eqGuard (if neg then .neq else .eql) t x y vx vy; binOp (if neg then .neq else .eql) t vx vy : Sem Value).run P w = .ok v w ∧ Rep g v d ∧ flatD d = true := by
 unfold eqbD at h
 split at h
 ·cases h
  have e1 := rep_bool hx; have e2 := rep_bool hy
  subst e1 e2
  rw [run_bo (guard_none _ t x y _ _ (by simp) (by simp))]
  rename_i b c
  cases neg
  ·refine ⟨.bool (b == c), ?_, by simpa using Rep.bool _, rfl⟩
   simp only [binOp, Op.equal, Op.maxDepth, Bool.false_eq_true, if_false]
   rw [run_bo (equalIn_bool 9999 ht b c)]
   rfl
  ·refine ⟨.bool (!(b == c)), ?_, ?_, rfl⟩
   ·simp only [binOp, Op.equal, Op.maxDepth, if_true]
    rw [run_bo (equalIn_bool 9999 ht b c)]
    rfl
   ·have : ((b == c) != true) = !(b == c) := by cases b <;> cases c <;> rfl
    rw [this]
    exact .bool _
 ·cases h
theorem eqn_run {neg : Bool} {dx d : D} {vx : Value} {t e : TypeId} (x y : Operand) (ht : P.underlying t = some (.pointer e)) (h : eqnD neg dx = some d) (hx : Rep g vx dx) :
  ∃ v, (do eqGuard (if neg then .neq else .eql) t x y vx (.pointer none); binOp (if neg then .neq else .eql) t vx (.pointer none) : Sem Value).run P w = .ok v w ∧ Rep g v d ∧ flatD d = true := by
 unfold eqnD at h
 split at h <;> first | (cases h; done) | skip
 all_goals
  cases h
  cases hx
  rw [run_bo (guard_none _ t x y _ _ (by simp) (by simp))]
  cases neg
  ·refine ⟨.bool _, ?_, .bool _, rfl⟩
   simp only [binOp, Op.equal, Op.maxDepth, Bool.false_eq_true, if_false]
   first | rw [run_bo (equalIn_nil 9999 ht)] | rw [run_bo (equalIn_some 9999 ht _)]
   rfl
  ·refine ⟨.bool _, ?_, .bool _, rfl⟩
   simp only [binOp, Op.equal, Op.maxDepth, if_true]
   first | rw [run_bo (equalIn_nil 9999 ht)] | rw [run_bo (equalIn_some 9999 ht _)]
   rfl
end
end Go.Abs

namespace Go.Abs
open Go Go.RowKit
section
variable {P : Program} {g : Gh} {w : World} {fr fr' : Fr} {σ σ' : St} {a : Act} {o : Oper} {d : D} {cal : Cal} {q : Bool} {mu : List Nat} {ops : List Oper}
theorem isAgg_run {t : TypeId} {b : Bool} (h : isAggT P t = some b) : (isAgg t).run P w = .ok b w := by
 unfold isAggT at h
 simp only [Option.map_eq_some_iff] at h
 obtain ⟨de, h1, h2⟩ := h
 unfold isAgg
 rw [run_bo (run_und h1)]
 cases de <;> simp_all
theorem size_run {t : TypeId} {n : Nat} (h : sizeT P t = some n) : (sizeOf t).run P w = .ok n w := by
 unfold sizeT at h
 simp only [Option.map_eq_some_iff] at h
 obtain ⟨i, h1, rfl⟩ := h
 simp [sizeOf, typeInfo, h1]
theorem snd_pick {c x y : Operand} (hop : o.op = .pick c x y) {c' x' y' : X} (hC : compX c = some c') (hX : compX x = some x') (hY : compX y = some y')
  (he : evalOp cal q o.dst (.pick c' x' y') fr σ = some (d, fr', σ')) (i : Inv P g w fr σ a) : Snd P g w a o fr' σ' d := by
 obtain ⟨c1, c2, c3⟩ := val_ok i.s hC
 simp only [evalOp] at he
 split at he
 ·rename_i hv
  cases he
  rw [hv] at c1
  refine snd_same i (v := a.eval x) ?_ (val_ok i.s hX)
  simp only [execOp, hop, rep_bool c1]
  simp [asBool]
 ·rename_i hv
  cases he
  rw [hv] at c1
  refine snd_same i (v := a.eval y) ?_ (val_ok i.s hY)
  simp only [execOp, hop, rep_bool c1]
  simp [asBool]
 ·cases he
theorem snd_nilCheck {x : Operand} (hop : o.op = .nilCheck x) {x' : X} (hX : compX x = some x')
  (he : evalOp cal q o.dst (.nilCheck x') fr σ = some (d, fr', σ')) (i : Inv P g w fr σ a) : Snd P g w a o fr' σ' d := by
 have hv := val_ok i.s hX
 have hrun : (∀ b, a.eval x = .pointer (some b) → (execOp a.eval o).run P w = .ok (.value (a.eval x)) w) := fun b hb => by
  simp only [execOp, hop, hb]; rfl
 simp only [evalOp] at he
 generalize a.eval x = vx at *
 split at he <;> first | (cases he; done) | skip
 all_goals
  rename_i hx
  cases he
  rw [hx] at hv
  refine snd_same i (v := vx) ?_ hv
  have hr := hv.1
  cases hr
  exact hrun _ rfl
theorem snd_bin {op : BinOp} {t u : TypeId} {x y : Operand} (hop : o.op = .binOp op t x y u) {x' y' : X} (hX : compX x = some x') (hY : compX y = some y')
  (he : evalOp cal q o.dst (.bin op x' y') fr σ = some (d, fr', σ')) (i : Inv P g w fr σ a) : Snd P g w a o fr' σ' d := by
 simp only [evalOp, Option.map_eq_some_iff] at he
 obtain ⟨d', h1, h2⟩ := he
 cases h2
 obtain ⟨v, r1, r2, r3⟩ := binD_run (P := P) (w := w) (g := g) t x y h1 (val_ok i.s hX).1 (val_ok i.s hY).1
 exact snd_plain i (v := v) (by simp only [execOp, hop]; exact run_vmap r1) r2 (flat_ok r3).1 (flat_ok r3).2
theorem snd_eqb {neg : Bool} {t u : TypeId} {x y : Operand} (hop : o.op = .binOp (if neg then .neq else .eql) t x y u) (ht : P.underlying t = some .bool) {x' y' : X} (hX : compX x = some x') (hY : compX y = some y')
  (he : evalOp cal q o.dst (.eqb neg x' y') fr σ = some (d, fr', σ')) (i : Inv P g w fr σ a) : Snd P g w a o fr' σ' d := by
 simp only [evalOp, Option.map_eq_some_iff] at he
 obtain ⟨d', h1, h2⟩ := he
 cases h2
 obtain ⟨v, r1, r2, r3⟩ := eqb_run (P := P) (w := w) (g := g) x y ht h1 (val_ok i.s hX).1 (val_ok i.s hY).1
 exact snd_plain i (v := v) (by simp only [execOp, hop]; exact run_vmap r1) r2 (flat_ok r3).1 (flat_ok r3).2
theorem snd_eqn {neg : Bool} {t u e : TypeId} {x y : Operand} (hop : o.op = .binOp (if neg then .neq else .eql) t x y u) (ht : P.underlying t = some (.pointer e)) {x' : X} (hX : compX x = some x') (hY : compX y = some (.const .nilp))
  (he : evalOp cal q o.dst (.eqn neg x') fr σ = some (d, fr', σ')) (i : Inv P g w fr σ a) : Snd P g w a o fr' σ' d := by
 simp only [evalOp, Option.map_eq_some_iff] at he
 obtain ⟨d', h1, h2⟩ := he
 cases h2
 have hy := (val_ok i.s hY).1
 have hy' : a.eval y = .pointer none := by
  simp only [Fr.val, D.strip] at hy
  generalize a.eval y = vy at hy
  cases hy
  rfl
 obtain ⟨v, r1, r2, r3⟩ := eqn_run (P := P) (w := w) (g := g) x y ht h1 (val_ok i.s hX).1
 exact snd_plain i (v := v) (by simp only [execOp, hop, hy']; exact run_vmap r1) r2 (flat_ok r3).1 (flat_ok r3).2
theorem snd_un {op : UnOp} {t : TypeId} {x : Operand} (hop : o.op = .unOp op t x) {x' : X} (hX : compX x = some x')
  (he : evalOp cal q o.dst (.un op x') fr σ = some (d, fr', σ')) (i : Inv P g w fr σ a) : Snd P g w a o fr' σ' d := by
 simp only [evalOp, Option.map_eq_some_iff] at he
 obtain ⟨d', h1, h2⟩ := he
 cases h2
 obtain ⟨v, r1, r2, r3⟩ := unD_run (P := P) (w := w) (g := g) h1 (val_ok i.s hX).1
 exact snd_plain i (v := v) (by simp only [execOp, hop]; exact run_vmap r1) r2 (flat_ok r3).1 (flat_ok r3).2
theorem snd_conv {s t : TypeId} {x : Operand} {k : IntKind} (hop : o.op = .convert s t x) (ht : P.underlying t = some (.int k)) (hs : (P.underlying s).isSome = true) {x' : X} (hX : compX x = some x')
  (he : evalOp cal q o.dst (.conv k x') fr σ = some (d, fr', σ')) (i : Inv P g w fr σ a) : Snd P g w a o fr' σ' d := by
 have hv := (val_ok i.s hX).1
 simp only [evalOp] at he
 split at he
 ·rename_i k' n hx
  cases he
  rw [hx] at hv
  refine snd_plain i (v := .int k (k.wrap n)) ?_ (.int _ _) rfl rfl
  simp only [execOp, hop]
  refine run_vmap ?_
  rw [rep_int hv]
  obtain ⟨ds, hds⟩ := Option.isSome_iff_exists.1 hs
  unfold convert
  rw [run_bo (run_und hds), run_bo (run_und ht)]
  cases ds <;> rfl
 ·cases he
theorem AllRep.sub {R : Value → D → Prop} {vs : List Value} {ds : List D} (h : AllRep R vs ds) (off n : Nat) : AllRep R ((vs.drop off).take n) ((ds.drop off).take n) := by
 refine ⟨by simp [h.1], fun i v d h1 h2 => ?_⟩
 rw [List.getElem?_take] at h1 h2
 split at h1
 ·rename_i hi
  rw [if_pos hi, List.getElem?_drop] at h2
  rw [List.getElem?_drop] at h1
  exact h.2 _ v d h1 h2
 ·cases h1
theorem all_sub {p : D → Bool} {ds : List D} (h : ds.all p = true) (off n : Nat) : ((ds.drop off).take n).all p = true :=
 List.all_eq_true.2 fun x hx => List.all_eq_true.1 h x (List.mem_of_mem_drop (List.mem_of_mem_take hx))
theorem agg_of {vs : Array Value} {ds : List D} (h : AllRep (Rep g) vs.toList ds) (hp : ds.all D.plain = true) : Rep g (.agg vs) (.agg ds) := .agg vs ds h.1 h.2 hp
theorem toList_extract_sub (vs : Array Value) (off n : Nat) : (vs.extract off (off + n)).toList = (vs.toList.drop off).take n := by
 rw [Array.toList_extract]
 simp [List.extract_eq_take_drop]
theorem snd_field {s : TypeId} {f : Nat} {x : Operand} (hop : o.op = .field s x f) {fld : Field} (hf : fieldT P s f = some fld) {agg : Bool} {sz : Nat} (hagg : isAggT P fld.type = some agg) (hsz : sizeT P fld.type = some sz)
  {x' : X} (hX : compX x = some x') (he : evalOp cal q o.dst (.field agg fld.offset sz x') fr σ = some (d, fr', σ')) (i : Inv P g w fr σ a) : Snd P g w a o fr' σ' d := by
 have hv := (val_ok i.s hX).1
 simp only [evalOp] at he
 split at he
 ·rename_i cs hx
  rw [hx] at hv
  obtain ⟨vs, h1, h2, h3⟩ := rep_agg hv
  unfold fieldT at hf
  split at hf
  ·rename_i fs hfs
   have hrun : ∀ v, (part fld.type vs fld.offset).run P w = .ok v w → (execOp a.eval o).run P w = .ok (.value v) w := fun v hv => by
    simp only [execOp, hop, h1]
    refine run_vmap ?_
    unfold Instr.field
    rw [run_bo (run_und hfs)]
    simp only [hf]
    rw [run_bo (show (asAgg (Value.agg vs)).run P w = .ok vs w from rfl)]
    exact hv
   split at he
   ·rename_i ha
    subst ha
    split at he
    ·cases he
     refine snd_plain i (hrun _ (by unfold part; rw [run_bo (isAgg_run hagg)]; simp only [if_true]; rw [run_bo (size_run hsz)]; rfl)) ?_ rfl rfl
     exact agg_of (by rw [toList_extract_sub]; exact h2.sub _ _) (all_sub h3 _ _)
    ·cases he
   ·rename_i ha
    simp only [Option.map_eq_some_iff] at he
    obtain ⟨e, h4, h5⟩ := he
    cases h5
    obtain ⟨v, h6, h7⟩ := h2.get h4
    have ha' : agg = false := by simpa using ha
    subst ha'
    have hpl := all_get h3 h4
    refine snd_plain i (hrun v ?_) h7.strip (strip_strip _) (by rw [notL_strip]; exact notL_of_plain hpl)
    unfold part
    rw [run_bo (isAgg_run hagg)]
    simp only [Bool.false_eq_true, if_false]
    rw [show vs[fld.offset]? = some v by simpa using h6]
    rfl
  ·cases hf
 ·cases he
theorem snd_extract {x : Operand} {n : Nat} (hop : o.op = .extract x n) {x' : X} (hX : compX x = some x')
  (he : evalOp cal q o.dst (.extract x' n) fr σ = some (d, fr', σ')) (i : Inv P g w fr σ a) : Snd P g w a o fr' σ' d := by
 have hv := (val_ok i.s hX).1
 simp only [evalOp] at he
 split at he
 ·rename_i cs hx
  rw [hx] at hv
  obtain ⟨vs, h1, h2, h3⟩ := rep_tup hv
  simp only [Option.map_eq_some_iff] at he
  obtain ⟨e, h4, h5⟩ := he
  cases h5
  obtain ⟨v, h6, h7⟩ := h2.get h4
  refine snd_plain i (v := v) ?_ h7.strip (strip_strip _) (by rw [notL_strip]; exact all_get h3 h4)
  simp only [execOp, hop, h1]
  refine run_vmap ?_
  unfold Instr.extract
  simp only [show vs[n]? = some v by simpa using h6]
  rfl
 ·cases he
theorem rep_drop {b off n : Nat} {cs : List D} {v : Value} (h : Rep g v (.ref cs)) (hv : v = .pointer (some ⟨b, off, none⟩)) : Rep g (.pointer (some ⟨b, off + n, none⟩)) (.ref (cs.drop n)) := by
 subst hv
 cases h with
 | ref _ _ _ V hI hR hp =>
  refine .ref b (off + n) _ (fun i => V (n + i)) (fun i d hd => ?_) (fun i d hd => ?_) ?_
  ·rw [List.getElem?_drop] at hd
   rw [Nat.add_assoc]
   exact hI _ d hd
  ·rw [List.getElem?_drop] at hd
   exact hR _ d hd
  ·exact List.all_eq_true.2 fun x hx => List.all_eq_true.1 hp x (List.mem_of_mem_drop hx)
theorem snd_fieldAddr {s : TypeId} {f : Nat} {x : Operand} (hop : o.op = .fieldAddr s x f) {fld : Field} (hf : fieldT P s f = some fld) {n : Nat} (hsz : sizeT P fld.type = some (n + 1))
  {x' : X} (hX : compX x = some x') (he : evalOp cal q o.dst (.fieldAddr fld.offset x') fr σ = some (d, fr', σ')) (i : Inv P g w fr σ a) : Snd P g w a o fr' σ' d := by
 obtain ⟨hv, _, hl⟩ := val_ok i.s hX
 unfold fieldT at hf
 split at hf
 ·rename_i fs hfs
  have hrun : ∀ b off, a.eval x = .pointer (some ⟨b, off, none⟩) → (execOp a.eval o).run P w = .ok (.value (.pointer (some ⟨b, off + fld.offset, none⟩))) w := fun b off hb => by
   simp only [execOp, hop, hb]
   refine run_vmap ?_
   unfold Instr.fieldAt
   rw [run_bo (run_und hfs)]
   simp only [hf]
   rw [run_bo (show (Instr.sureAddr (Value.pointer (some ⟨b, off, none⟩))).run P w = .ok ⟨b, off, none⟩ w from rfl)]
   unfold fieldPlace
   rw [run_bo (show (do if (← sizeOf fld.type) = 0 then partAt ⟨b, off, none⟩ fld.offset fld.byteOffset else pure ((⟨b, off, none⟩ : Addr).add fld.offset) : Sem Addr).run P w = .ok ⟨b, off + fld.offset, none⟩ w from by
    rw [run_bo (size_run hsz), Addr.add_lit]; simp)]
   rfl
  simp only [evalOp] at he
  generalize hvx : a.eval x = vx at *
  split at he <;> first | (cases he; done) | skip
  ·rename_i cs hx
   cases he
   rw [hx] at hv
   have hv' := hv
   cases hv' with
   | ref b off _ V hI hR hp => exact snd_plain i (hrun b off rfl) (rep_drop hv rfl) rfl rfl
  ·rename_i t off hx
   cases he
   rw [hx] at hv hl
   cases hv
   exact snd_same i (hrun _ _ rfl) ⟨.lptr _ _, rfl, fun s off e => by cases e; exact hl _ _ rfl⟩
  ·rename_i t off hx
   cases he
   rw [hx] at hv
   cases hv with
   | ptr _ _ h => exact snd_plain i (hrun _ _ rfl) (.ptr _ _ h) rfl rfl
 ·cases hf
end
end Go.Abs

namespace Go.Abs
open Go Go.RowKit
section
variable {P : Program} {g : Gh} {w : World} {fr fr' : Fr} {σ σ' : St} {a : Act} {o : Oper} {d : D} {cal : Cal} {q : Bool} {mu : List Nat} {ops : List Oper}
theorem run_pb {α β : Type} {x : α} {f : α → Sem β} : ((pure x : Sem α) >>= f).run P w = (f x).run P w := rfl
theorem intOf_some {d : D} {n : Int} (h : intOf? d = some n) : ∃ k, d = .int k n := by
 unfold intOf? at h
 split at h
 ·cases h; exact ⟨_, rfl⟩
 ·cases h
theorem asIntOf_run {v : Value} {d : D} {n : Int} (hr : Rep g v d) (h : intOf? d = some n) : ∃ k, v = .int k n ∧ (asIntOf v).run P w = .ok (k, n) w := by
 obtain ⟨k, rfl⟩ := intOf_some h
 rw [rep_int hr]
 exact ⟨k, rfl, rfl⟩
theorem indexAt_slice {t e : TypeId} {esz : Nat} (ht : P.underlying t = some (.slice e)) (hs : sizeT P e = some esz) (b off len cap : Nat) (k : IntKind) (i : Int) (h0 : 0 ≤ i) (h1 : i < len) :
  (Instr.indexAt t (.slice (some ⟨b, off, none⟩) len cap) (.int k i)).run P w = .ok (.pointer (some ⟨b, off + i.toNat * esz, none⟩)) w := by
 unfold Instr.indexAt
 rw [run_bo (show (asIntOf (Value.int k i)).run P w = .ok (k, i) w from rfl)]
 simp only
 rw [run_bo (run_und ht)]
 simp only
 rw [run_pb, run_bo (run_und ht)]
 simp only [h0, h1, and_self, if_true]
 rw [run_bo (size_run hs), Addr.add_lit]
 rfl
theorem snd_indexAddr {t e : TypeId} {x y : Operand} (hop : o.op = .indexAddr t x y) (ht : P.underlying t = some (.slice e)) {esz : Nat} (hs : sizeT P e = some esz)
  {x' y' : X} (hX : compX x = some x') (hY : compX y = some y') (he : evalOp cal q o.dst (.indexAddr esz x' y') fr σ = some (d, fr', σ')) (i : Inv P g w fr σ a) : Snd P g w a o fr' σ' d := by
 have hv := (val_ok i.s hX).1
 have hy := (val_ok i.s hY).1
 simp only [evalOp] at he
 split at he
 ·cases he
 ·rename_i n hn
  obtain ⟨k, hyv, _⟩ := asIntOf_run (P := P) (w := w) hy hn
  have hrun : ∀ b off len cap, a.eval x = .slice (some ⟨b, off, none⟩) len cap → 0 ≤ n → n < len → (execOp a.eval o).run P w = .ok (.value (.pointer (some ⟨b, off + n.toNat * esz, none⟩))) w := fun b off len cap hb h0 h1 => by
   simp only [execOp, hop, hb, hyv]
   exact run_vmap (indexAt_slice ht hs b off len cap k n h0 h1)
  generalize hvx : a.eval x = vx at *
  split at he
  ·rename_i h0
   split at he
   ·rename_i es own hx
    rw [hx] at hv
    split at he
    ·rename_i el hel
     split at he
     ·rename_i hlen
      cases he
      cases hv with
      | sl av len cap b off esz' _ _ V hl hc hnn ha hes hI hR =>
       have hlt : n.toNat < es.length := (List.getElem?_eq_some_iff.1 hel).1
       have hne : es ≠ [] := by intro h; rw [h] at hlt; simp at hlt
       have hav := ha hne
       subst hav
       have hmem : el ∈ es := List.mem_of_getElem? hel
       have e1 : esz' = esz := (hes el hmem).1.symm.trans hlen
       subst e1
       refine snd_plain i (hrun b off len cap rfl h0 om) ?_ rfl rfl
       exact .ref b (off + n.toNat * esz') el (fun j => V n.toNat j) (fun j dd hd => hI _ el j dd hel hd) (fun j dd hd => hR _ el j dd hel hd) (hes el hmem).2
     ·cases he
    ·cases he
   ·rename_i ob off m esz' hx
    rw [hx] at hv
    split at he
    ·rename_i hh
     cases he
     obtain ⟨h1, rfl⟩ := hh
     cases hv with
     | msl _ _ _ _ cap ho hc hs' => exact snd_plain i (hrun _ _ _ _ rfl h0 h1) (.ptr _ _ ho) rfl rfl
    ·cases he
   ·cases he
  ·cases he
theorem snd_indexArrA {t e : TypeId} {n : Nat} {x y : Operand} (hop : o.op = .indexAddr t x y) (ht : P.underlying t = some (.array n e)) {esz : Nat} (hs : sizeT P e = some esz)
  {x' y' : X} (hX : compX x = some x') (hY : compX y = some y') (he : evalOp cal q o.dst (.indexArr true false n esz x' y') fr σ = some (d, fr', σ')) (i : Inv P g w fr σ a) : Snd P g w a o fr' σ' d := by
 obtain ⟨hv, _, hlp⟩ := val_ok i.s hX
 have hy := (val_ok i.s hY).1
 simp only [evalOp] at he
 split at he
 ·cases he
 ·rename_i m hn
  obtain ⟨k, hyv, _⟩ := asIntOf_run (P := P) (w := w) hy hn
  split at he
  ·rename_i hb
   simp only [if_true] at he
   have hrun : ∀ b off, a.eval x = .pointer (some ⟨b, off, none⟩) → (execOp a.eval o).run P w = .ok (.value (.pointer (some ⟨b, off + m.toNat * esz, none⟩))) w := fun b off hbv => by
    simp only [execOp, hop, hbv, hyv]
    refine run_vmap ?_
    unfold Instr.indexAt
    rw [run_bo (show (asIntOf (Value.int k m)).run P w = .ok (k, m) w from rfl)]
    simp only
    rw [run_bo (run_und ht)]
    simp only
    rw [run_bo (show (Instr.sureAddr (Value.pointer (some ⟨b, off, none⟩))).run P w = .ok ⟨b, off, none⟩ w from rfl), run_pb, run_bo (run_und ht)]
    simp only [hb, and_self, if_true]
    rw [run_bo (size_run hs), Addr.add_lit]
    rfl
   generalize hvx : a.eval x = vx at *
   split at he <;> first | (cases he; done) | skip
   ·rename_i t' off hx
    cases he
    rw [hx] at hv hlp
    cases hv
    exact snd_same i (hrun _ _ rfl) ⟨.lptr _ _, rfl, fun s off e => by cases e; exact hlp _ _ rfl⟩
   ·rename_i t' off hx
    cases he
    rw [hx] at hv
    cases hv with
    | ptr _ _ h => exact snd_plain i (hrun _ _ rfl) (.ptr _ _ h) rfl rfl
  ·cases he
theorem snd_indexArrV {t e : TypeId} {n : Nat} {x y : Operand} (hop : o.op = .index t x y) (ht : P.underlying t = some (.array n e)) {esz : Nat} (hs : sizeT P e = some esz) {agg : Bool} (hagg : isAggT P e = some agg)
  {x' y' : X} (hX : compX x = some x') (hY : compX y = some y') (he : evalOp cal q o.dst (.indexArr false agg n esz x' y') fr σ = some (d, fr', σ')) (i : Inv P g w fr σ a) : Snd P g w a o fr' σ' d := by
 have hv := (val_ok i.s hX).1
 have hy := (val_ok i.s hY).1
 simp only [evalOp] at he
 split at he
 ·cases he
 ·rename_i m hn
  obtain ⟨k, hyv, _⟩ := asIntOf_run (P := P) (w := w) hy hn
  split at he
  ·rename_i hb
   simp only [Bool.false_eq_true, if_false] at he
   split at he
   ·rename_i cs hx
    rw [hx] at hv
    obtain ⟨vs, h1, h2, h3⟩ := rep_agg hv
    have hrun : ∀ v, (part e vs (m.toNat * esz)).run P w = .ok v w → (execOp a.eval o).run P w = .ok (.value v) w := fun v hv => by
     simp only [execOp, hop, h1, hyv]
     refine run_vmap ?_
     unfold Instr.index
     rw [run_bo (show (asIntOf (Value.int k m)).run P w = .ok (k, m) w from rfl)]
     simp only
     rw [run_bo (run_und ht)]
     simp only [hb, and_self, if_true]
     rw [run_bo (size_run hs)]
     exact hv
    split at he
    ·rename_i ha
     subst ha
     split at he
     ·cases he
      refine snd_plain i (hrun _ (by unfold part; rw [run_bo (isAgg_run hagg)]; simp only [if_true]; rw [run_bo (size_run hs)]; rfl)) ?_ rfl rfl
      exact agg_of (by rw [toList_extract_sub]; exact h2.sub _ _) (all_sub h3 _ _)
     ·cases he
    ·rename_i ha
     have ha' : agg = false := by simpa using ha
     subst ha'
     split at he
     ·rename_i h1e
      subst h1e
      simp only [Option.map_eq_some_iff] at he
      obtain ⟨el, h4, h5⟩ := he
      cases h5
      obtain ⟨v, h6, h7⟩ := h2.get h4
      refine snd_plain i (hrun v ?_) h7.strip (strip_strip _) (by rw [notL_strip]; exact notL_of_plain (all_get h3 h4))
      unfold part
      rw [run_bo (isAgg_run hagg)]
      simp only [Bool.false_eq_true, if_false, Nat.mul_one]
      rw [show vs[m.toNat]? = some v by simpa using h6]
      rfl
     ·cases he
   ·cases he
  ·cases he
theorem optVal_ok (s : SInv P g w fr a.tmps) {x : Option Operand} {x' : Option X} (h : compO x = some x') :
  (x = none ∧ x' = none) ∨ ∃ y y', x = some y ∧ x' = some y' ∧ Rep g (a.eval y) (fr.val y') := by
 cases x with
 | none => simp [compO] at h; exact .inl ⟨rfl, h.symm⟩
 | some y =>
  simp only [compO, Option.map_eq_some_iff] at h
  obtain ⟨y', h1, rfl⟩ := h
  exact .inr ⟨y, y', rfl, rfl, (val_ok s h1).1⟩
theorem sliceBound_run {v : Value} {d : D} {n y : Nat} (code : BoundsCode) (hr : Rep g v d) (h : ((intOf? d).bind fun n => if 0 ≤ n then some n.toNat else none) = some n) (hle : n ≤ y) : (Instr.sliceBound v y code).run P w = .ok n w := by
 simp only [Option.bind_eq_some_iff] at h
 obtain ⟨m, h1, h2⟩ := h
 split at h2
 ·rename_i h0
  cases h2
  obtain ⟨k, rfl, h3⟩ := asIntOf_run (P := P) (w := w) hr h1
  unfold Instr.sliceBound
  rw [run_bo h3]
  have : m ≤ (y : Int) := by omega
  simp only [h0, this, and_self, if_true]
  rfl
 ·cases h2
theorem bounds_run (s : SInv P g w fr a.tmps) {lo hi : Option Operand} {lo' hi' : Option X} (hlo : compO lo = some lo') (hhi : compO hi = some hi') (isSlice : Bool) {len cap l h : Nat} (hlc : len ≤ cap)
  (h1 : loD (fr.optVal lo') = some l) (h2 : hiD len (fr.optVal hi') = some h) (hlh : l ≤ h) (hhl : h ≤ len) :
  (Instr.sliceBounds isSlice len cap (lo.map a.eval) (hi.map a.eval) none).run P w = .ok (l, h, cap) w := by
 unfold Instr.sliceBounds
 simp only
 rw [run_pb]
 rcases optVal_ok s hhi with ⟨rfl, rfl⟩ | ⟨y, y', rfl, rfl, hy⟩
 ·simp only [Fr.optVal, hiD, Option.some.injEq] at h2
  subst h2
  simp only [Option.map_none]
  rw [run_pb]
  rcases optVal_ok s hlo with ⟨rfl, rfl⟩ | ⟨z, z', rfl, rfl, hz⟩
  ·simp only [Fr.optVal, loD, Option.some.injEq] at h1
   subst h1
   simp only [Option.map_none]
   rw [run_pb]
   rfl
  ·simp only [Option.map_some]
   rw [run_bo (sliceBound_run _ hz h1 hlh)]
   rfl
 ·simp only [Option.map_some]
  rw [run_bo (sliceBound_run _ hy h2 om)]
  rcases optVal_ok s hlo with ⟨rfl, rfl⟩ | ⟨z, z', rfl, rfl, hz⟩
  ·simp only [Fr.optVal, loD, Option.some.injEq] at h1
   subst h1
   simp only [Option.map_none]
   rw [run_pb]
   rfl
  ·simp only [Option.map_some]
   rw [run_bo (sliceBound_run _ hz h1 hlh)]
   rfl
theorem snd_slice {t e : TypeId} {x : Operand} {lo hi : Option Operand} (hop : o.op = .slice t x lo hi none) (ht : P.underlying t = some (.slice e)) {esz : Nat} (hs : sizeT P e = some esz)
  {x' : X} {lo' hi' : Option X} (hX : compX x = some x') (hlo : compO lo = some lo') (hhi : compO hi = some hi')
  (he : evalOp cal q o.dst (.slice esz x' lo' hi') fr σ = some (d, fr', σ')) (i : Inv P g w fr σ a) : Snd P g w a o fr' σ' d := by
 have hv := (val_ok i.s hX).1
 have hrun : ∀ av len cap l h, a.eval x = .slice av len cap → len ≤ cap → loD (fr.optVal lo') = some l → hiD len (fr.optVal hi') = some h → l ≤ h → h ≤ len →
   (execOp a.eval o).run P w = .ok (.value (.slice (if cap = l then av else av.map (·.add (l * esz))) (h - l) (cap - l))) w := fun av len cap l h hb hlc h1 h2 hlh hhl => by
  simp only [execOp, hop, hb]
  refine run_vmap ?_
  unfold Instr.sliceAt
  rw [run_bo (run_und ht)]
  simp only [Option.map_none]
  unfold Instr.slice
  rw [run_bo (run_und ht)]
  simp only
  rw [run_bo (bounds_run i.s hlo hhi true hlc h1 h2 hlh hhl)]
  simp only
  rw [run_bo (size_run hs)]
  rfl
 simp only [evalOp] at he
 generalize hvx : a.eval x = vx at *
 split at he
 ·rename_i es own hx
  rw [hx] at hv
  split at he
  ·rename_i l h hl hh
   split at he
   ·rename_i hc
    cases he
    obtain ⟨c1, c2, c3⟩ := hc
    cases hv with
    | sl av len cap b off esz' _ _ V hlen hcap hn ha hes hI hR =>
     subst hlen
     refine snd_plain i (hrun _ _ _ _ _ rfl hcap hl hh c1 c2) ?_ rfl rfl
     have hz : ∀ e ∈ es, esz' = esz := fun e he => by
      have h1 := (hes e he).1
      have h2 := List.all_eq_true.1 c3 e he
      simp at h2
      omega
     have sub : ∀ (k : Nat) (e : List D), ((es.drop l).take (h - l))[k]? = some e → es[l + k]? = some e := fun k e hk => by
      rw [List.getElem?_take] at hk
      split at hk
      ·rwa [List.getElem?_drop] at hk
      ·cases hk
     refine .sl _ _ _ b (off + l * esz) esz _ none (fun k j => V (l + k) j) (by simp; omega) om ?_ ?_ ?_ ?_ ?_
     ·intro hnone
      split at hnone
      ·have := hn hnone; omega
      ·have h0 : av = none := by simpa using hnone
       have := hn h0; omega
     ·intro hne
      have hlt : l < h := by
       rcases Nat.lt_or_ge l h with q | q
       ·exact q
       ·exact absurd (by simp [show h - l = 0 by omega]) hne
      rw [if_neg om, ha (by intro h0; subst h0; simp at c2; omega)]
      simp [Addr.add_lit]
     ·intro e hm
      have hm' : e ∈ es := List.mem_of_mem_drop (List.mem_of_mem_take hm)
      exact ⟨(hes e hm').1.trans (hz e hm'), (hes e hm').2⟩
     ·intro k e j dd hk hd
      have h1 := sub k e hk
      have := hI (l + k) e j dd h1 hd
      have hz' := hz e (List.mem_of_getElem? h1)
      subst hz'
      rw [show off + l * esz' + k * esz' + j = off + (l + k) * esz' + j by rw [Nat.add_mul]; omega]
      exact this
     ·intro k e j dd hk hd
      exact hR (l + k) e j dd (sub k e hk) hd
   ·cases he
  ·cases he
 ·rename_i ob off m esz' hx
  rw [hx] at hv
  split at he
  ·rename_i l h hl hh
   split at he
   ·rename_i hc
    obtain ⟨c1, c2, rfl⟩ := hc
    cases hv with
    | msl _ _ _ _ cap ho hcp hsz =>
     have hr := hrun _ _ _ _ _ rfl hcp hl hh c1 c2
     split at he
     ·rename_i hln
      cases he
      refine snd_plain i hr ?_ rfl rfl
      refine .sl _ _ _ 0 0 0 [] none (fun _ _ => undef) (by simp; omega) om ?_ (fun h => absurd rfl h) (by simp) (by simp) (by simp)
      intro hnone
      split at hnone <;> simp at hnone
     ·rename_i hln
      cases he
      refine snd_plain i hr ?_ rfl rfl
      by_cases hcl : cap = l
      ·have hl0 : l = 0 := by omega
       subst hl0
       subst hcl
       rw [if_pos rfl]
       simp only [Nat.zero_mul, Nat.add_zero, Nat.sub_zero] at hsz ⊢
       exact .msl _ _ _ _ _ ho om (by simpa using hsz)
      ·rw [if_neg hcl]
       simp only [Option.map_some, Addr.add_lit]
       exact .msl _ _ _ _ _ ho om (by
        have : off + l * esz' + (cap - l) * esz' = off + cap * esz' := by
         rw [Nat.add_assoc, ← Nat.add_mul]; congr 2; omega
        rw [this]; exact hsz)
   ·cases he
  ·cases he
 ·cases he
end
end Go.Abs

namespace Go.Abs
open Go Go.RowKit
section
variable {P : Program} {g : Gh} {w : World} {fr fr' : Fr} {σ σ' : St} {a : Act} {o : Oper} {d : D} {cal : Cal} {q : Bool} {mu : List Nat} {ops : List Oper}
theorem call_builtin {c : Call} {b : Builtin} (hop : o.op = .call c) (hb : c.callee = .builtin b) {n : Next} {w' : World}
  (h : ∀ consts, (builtin b c.argTypes o.type consts (c.args.map a.eval)).run P w = .ok n w') : (execOp a.eval o).run P w = .ok n w' := by
 simp only [execOp, hop, resolve, hb]
 rw [run_pb]
 exact h _
theorem args_get {xs : Array Operand} {l : List Operand} (h : xs.toList = l) (i : Nat) : (xs.map a.eval)[i]? = (l[i]?).map a.eval := by
 subst h
 simp
theorem types_get {xs : Array TypeId} {l : List TypeId} (h : xs.toList = l) (i : Nat) : xs[i]? = l[i]? := by
 subst h
 simp
theorem snd_lenS {c : Call} {x : Operand} {t e : TypeId} (hop : o.op = .call c) (hb : c.callee = .builtin .len) (hargs : c.args.toList = [x]) (hty : c.argTypes.toList = [t]) (ht : P.underlying t = some (.slice e))
  {x' : X} (hX : compX x = some x') (he : evalOp cal q o.dst (.len 0 x') fr σ = some (d, fr', σ')) (i : Inv P g w fr σ a) : Snd P g w a o fr' σ' d := by
 have hv := (val_ok i.s hX).1
 have hrun : ∀ av n cap, a.eval x = .slice av n cap → (execOp a.eval o).run P w = .ok (.value (.int .i64 n)) w := fun av n cap hx => by
  refine call_builtin hop hb fun consts => ?_
  simp only [builtin]
  refine run_vmap ?_
  unfold Builtin.len_
  simp only [args_get hargs, types_get hty, List.getElem?_cons_zero, Option.map_some, hx]
  rw [run_bo (run_und ht)]
  rfl
 simp only [evalOp] at he
 generalize hvx : a.eval x = vx at *
 split at he <;> first | (cases he; done) | skip
 ·rename_i es own hx
  cases he
  rw [hx] at hv
  cases hv with
  | sl av n cap b off esz _ _ V hl hc hn ha hes hI hR =>
   subst hl
   exact snd_plain i (hrun _ _ _ rfl) (.int _ _) rfl rfl
 ·rename_i ob off n esz hx
  cases he
  rw [hx] at hv
  cases hv
  exact snd_plain i (hrun _ _ _ rfl) (.int _ _) rfl rfl
theorem snd_lenT {c : Call} {x : Operand} {t : TypeId} (hop : o.op = .call c) (hb : c.callee = .builtin .len) (hargs : c.args.toList = [x]) (hty : c.argTypes.toList = [t]) (ht : P.underlying t = some .string)
  {x' : X} (hX : compX x = some x') (he : evalOp cal q o.dst (.len 1 x') fr σ = some (d, fr', σ')) (i : Inv P g w fr σ a) : Snd P g w a o fr' σ' d := by
 have hv := (val_ok i.s hX).1
 simp only [evalOp] at he
 split at he <;> first | (cases he; done) | skip
 rename_i l hx
 cases he
 rw [hx] at hv
 obtain ⟨s, h1, rfl⟩ := rep_str hv
 refine snd_plain i (v := .int .i64 s.data.toList.length) ?_ (.int _ _) rfl rfl
 refine call_builtin hop hb fun consts => ?_
 simp only [builtin]
 refine run_vmap ?_
 unfold Builtin.len_
 simp only [args_get hargs, types_get hty, List.getElem?_cons_zero, Option.map_some, h1]
 rw [run_bo (run_und ht), bytes_size]
 rfl
theorem snd_lenM {c : Call} {x : Operand} {t k e : TypeId} {n : Nat} (hop : o.op = .call c) (hb : c.callee = .builtin .len) (hargs : c.args.toList = [x]) (hty : c.argTypes.toList = [t]) (ht : P.underlying t = some (.map k e))
  {x' : X} (hX : compX x = some x') (he : evalOp cal q o.dst (.len (n + 2) x') fr σ = some (d, fr', σ')) (i : Inv P g w fr σ a) : Snd P g w a o fr' σ' d := by
 have hv := (val_ok i.s hX).1
 simp only [evalOp] at he
 split at he <;> first | (cases he; done) | skip
 rename_i m hx
 split at he <;> first | (cases he; done) | skip
 rename_i es hm
 cases he
 rw [hx] at hv
 generalize hvx : a.eval x = vx at *
 cases hv with
 | map _ hlt =>
  obtain ⟨ents, clock, h2, h3, _⟩ := i.h.mapOf hm
  refine snd_plain i (v := .int .i64 es.length) ?_ (.int _ _) rfl rfl
  refine call_builtin hop hb fun consts => ?_
  simp only [builtin]
  refine run_vmap ?_
  unfold Builtin.len_
  simp only [args_get hargs, types_get hty, List.getElem?_cons_zero, Option.map_some, hvx]
  rw [run_bo (run_und ht)]
  simp only
  rw [run_bo (show (getObj (g.μ m)).run P w = .ok (.map ents clock) w by simp [getObj, Sem.run, h2])]
  rw [← h3.len]
  simp [goInt]
theorem maxD_cons {d e r : D} {ds : List D} (h : maxD d (e :: ds) = some r) : ∃ k x y, d = .int k x ∧ e = .int k y ∧ maxD (.int k (if y > x then y else x)) ds = some r := by
 cases d <;> try (simp [maxD] at h; done)
 cases e <;> try (simp [maxD] at h; done)
 simp only [maxD] at h
 split at h
 ·rename_i hk
  subst hk
  exact ⟨_, _, _, rfl, rfl, h⟩
 ·cases h
theorem maxD_run : ∀ (vs : List Value) (v : Value) (ds : List D) (d r : D), Rep g v d → AllRep (Rep g) vs ds → maxD d ds = some r →
  ∃ u, (vs.foldlM Builtin.max2 v).run P w = .ok u w ∧ Rep g u r ∧ flatD r = true
 | [], v, ds, d, r, hv, ha, h => by
  have hd : ds = [] := List.eq_nil_of_length_eq_zero (by simpa using ha.1.symm)
  subst hd
  cases d <;> try (simp [maxD] at h; done)
  simp only [maxD, Option.some.injEq] at h
  subst h
  exact ⟨v, rfl, hv, rfl⟩
 | u :: vs, v, [], d, r, hv, ha, h => by simp [AllRep] at ha
 | u :: vs, v, e :: ds, d, r, hv, ha, h => by
  obtain ⟨k, x, y, rfl, rfl, h'⟩ := maxD_cons h
  have h1 := rep_int hv
  have h2 := rep_int (ha.2 0 u _ rfl rfl)
  subst h1 h2
  obtain ⟨r1, r2, r3, r4⟩ := maxD_run vs (.int k (if y > x then y else x)) ds _ r (.int _ _) ⟨by simpa using ha.1, fun i v d h1 h2 => ha.2 (i + 1) v d (by simpa using h1) (by simpa using h2)⟩ h'
  refine ⟨r1, ?_, r3, r4⟩
  rw [List.foldlM_cons, run_bo (show (Builtin.max2 (.int k x) (.int k y)).run P w = .ok (.int k (if y > x then y else x)) w from rfl)]
  exact r2
theorem minD_cons {d e r : D} {ds : List D} (h : minD d (e :: ds) = some r) : ∃ k x y, d = .int k x ∧ e = .int k y ∧ minD (.int k (if y < x then y else x)) ds = some r := by
 cases d <;> try (simp [minD] at h; done)
 cases e <;> try (simp [minD] at h; done)
 simp only [minD] at h
 split at h
 ·rename_i hk
  subst hk
  exact ⟨_, _, _, rfl, rfl, h⟩
 ·cases h
theorem minD_run : ∀ (vs : List Value) (v : Value) (ds : List D) (d r : D), Rep g v d → AllRep (Rep g) vs ds → minD d ds = some r →
  ∃ u, (vs.foldlM Builtin.min2 v).run P w = .ok u w ∧ Rep g u r ∧ flatD r = true
 | [], v, ds, d, r, hv, ha, h => by
  have hd : ds = [] := List.eq_nil_of_length_eq_zero (by simpa using ha.1.symm)
  subst hd
  cases d <;> try (simp [minD] at h; done)
  simp only [minD, Option.some.injEq] at h
  subst h
  exact ⟨v, rfl, hv, rfl⟩
 | u :: vs, v, [], d, r, hv, ha, h => by simp [AllRep] at ha
 | u :: vs, v, e :: ds, d, r, hv, ha, h => by
  obtain ⟨k, x, y, rfl, rfl, h'⟩ := minD_cons h
  have h1 := rep_int hv
  have h2 := rep_int (ha.2 0 u _ rfl rfl)
  subst h1 h2
  obtain ⟨r1, r2, r3, r4⟩ := minD_run vs (.int k (if y < x then y else x)) ds _ r (.int _ _) ⟨by simpa using ha.1, fun i v d h1 h2 => ha.2 (i + 1) v d (by simpa using h1) (by simpa using h2)⟩ h'
  refine ⟨r1, ?_, r3, r4⟩
  rw [List.foldlM_cons, run_bo (show (Builtin.min2 (.int k x) (.int k y)).run P w = .ok (.int k (if y < x then y else x)) w from rfl)]
  exact r2
theorem vals_ok (s : SInv P g w fr a.tmps) : ∀ {xs : List Operand} {xs' : List X}, compXs xs = some xs' → AllRep (Rep g) (xs.map a.eval) (xs'.map fr.val)
 | [], xs', h => by simp [compXs] at h; subst h; exact ⟨rfl, fun i v d h => by simp at h⟩
 | x :: xs, xs', h => by
  simp only [compXs, List.mapM_cons, Option.bind_eq_bind, Option.pure_def, Option.bind_eq_some_iff] at h
  obtain ⟨y, h1, ys, h2, h3⟩ := h
  cases h3
  obtain ⟨k1, k2⟩ := vals_ok s (xs := xs) h2
  refine ⟨by simpa using k1, fun i v d h4 h5 => ?_⟩
  cases i with
  | zero =>
   simp at h4 h5
   subst h4 h5
   exact (val_ok s h1).1
  | succ i => exact k2 i v d (by simpa using h4) (by simpa using h5)
theorem snd_max {c : Call} (hop : o.op = .call c) (hb : c.callee = .builtin .max) {xs' : List X} (hX : compXs c.args.toList = some xs')
  (he : evalOp cal q o.dst (.max xs') fr σ = some (d, fr', σ')) (i : Inv P g w fr σ a) : Snd P g w a o fr' σ' d := by
 have ha := vals_ok i.s hX
 simp only [evalOp] at he
 split at he
 ·rename_i d0 ds hds
  simp only [Option.map_eq_some_iff] at he
  obtain ⟨r, h1, h2⟩ := he
  cases h2
  rw [hds] at ha
  cases hvs : c.args.toList.map a.eval with
  | nil => rw [hvs] at ha; simp [AllRep] at ha
  | cons v vs =>
   rw [hvs] at ha
   obtain ⟨u, r1, r2, r3⟩ := maxD_run (P := P) (w := w) vs v ds d0 d (ha.2 0 v d0 rfl rfl) ⟨by simpa using ha.1, fun i v d h1 h2 => ha.2 (i + 1) v d (by simpa using h1) (by simpa using h2)⟩ h1
   refine snd_plain i (v := u) ?_ r2 (flat_ok r3).1 (flat_ok r3).2
   refine call_builtin hop hb fun consts => ?_
   simp only [builtin]
   refine run_vmap ?_
   unfold Builtin.max_
   rw [Array.toList_map, hvs]
   exact r1
 ·cases he
theorem snd_min {c : Call} (hop : o.op = .call c) (hb : c.callee = .builtin .min) {xs' : List X} (hX : compXs c.args.toList = some xs')
  (he : evalOp cal q o.dst (.min xs') fr σ = some (d, fr', σ')) (i : Inv P g w fr σ a) : Snd P g w a o fr' σ' d := by
 have ha := vals_ok i.s hX
 simp only [evalOp] at he
 split at he
 ·rename_i d0 ds hds
  simp only [Option.map_eq_some_iff] at he
  obtain ⟨r, h1, h2⟩ := he
  cases h2
  rw [hds] at ha
  cases hvs : c.args.toList.map a.eval with
  | nil => rw [hvs] at ha; simp [AllRep] at ha
  | cons v vs =>
   rw [hvs] at ha
   obtain ⟨u, r1, r2, r3⟩ := minD_run (P := P) (w := w) vs v ds d0 d (ha.2 0 v d0 rfl rfl) ⟨by simpa using ha.1, fun i v d h1 h2 => ha.2 (i + 1) v d (by simpa using h1) (by simpa using h2)⟩ h1
   refine snd_plain i (v := u) ?_ r2 (flat_ok r3).1 (flat_ok r3).2
   refine call_builtin hop hb fun consts => ?_
   simp only [builtin]
   refine run_vmap ?_
   unfold Builtin.min_
   rw [Array.toList_map, hvs]
   exact r1
 ·cases he
theorem snd_sliceStr {t : TypeId} {x : Operand} {lo hi : Option Operand} (hop : o.op = .slice t x lo hi none) (ht : P.underlying t = some .string)
  {x' : X} {lo' hi' : Option X} (hX : compX x = some x') (hlo : compO lo = some lo') (hhi : compO hi = some hi')
  (he : evalOp cal q o.dst (.sliceStr x' lo' hi') fr σ = some (d, fr', σ')) (i : Inv P g w fr σ a) : Snd P g w a o fr' σ' d := by
 have hv := (val_ok i.s hX).1
 simp only [evalOp] at he
 split at he
 ·rename_i l0 hx
  rw [hx] at hv
  obtain ⟨s, h1, rfl⟩ := rep_str hv
  rw [bytes_size] at he
  split at he
  ·rename_i l h hl hh
   split at he
   ·rename_i hc
    cases he
    have hrun : (execOp a.eval o).run P w = .ok (.value (.string (s.extract l h))) w := by
     simp only [execOp, hop, h1]
     refine run_vmap ?_
     unfold Instr.sliceAt
     rw [run_bo (run_und ht)]
     simp only [Option.map_none]
     unfold Instr.slice
     rw [run_bo (run_und ht)]
     simp only [Option.isSome_none, Bool.false_eq_true, if_false]
     rw [run_bo (bounds_run i.s hlo hhi false (Nat.le_refl _) hl hh hc.1 hc.2)]
     rfl
    refine snd_plain i hrun ?_ rfl rfl
    have e : (s.extract l h).data.toList = (s.data.toList.drop l).take (h - l) := by
     rw [ByteArray.data_extract, Array.toList_extract, List.extract_eq_take_drop]
    rw [← e]
    exact .str _
   ·cases he
  ·cases he
 ·cases he
theorem setAt_length {α : Type} : ∀ (ds cs : List α) (off : Nat), (setAt cs off ds).length = cs.length
 | [], _, _ => rfl
 | d :: ds, cs, off => by rw [setAt, setAt_length ds, List.length_set]
theorem setAt_get {α : Type} : ∀ (ds cs : List α) (off : Nat), off + ds.length ≤ cs.length → ∀ i, (setAt cs off ds)[i]? = if off ≤ i ∧ i < off + ds.length then ds[i - off]? else cs[i]?
 | [], cs, off, _, i => by
  rw [setAt, if_neg (by simp only [List.length_nil]; omega)]
 | d :: ds, cs, off, h, i => by
  simp only [List.length_cons] at h
  rw [setAt, setAt_get ds (cs.set off d) (off + 1) (by simp; omega) i]
  by_cases h1 : off + 1 ≤ i ∧ i < off + 1 + ds.length
  ·rw [if_pos h1, if_pos (by simp; omega), show i - off = (i - (off + 1)) + 1 by omega, List.getElem?_cons_succ]
  ·rw [if_neg h1]
   by_cases h2 : off = i
   ·subst h2
    rw [if_pos (by simp)]
    simp [show off < cs.length by omega]
   ·rw [if_neg (by simp; omega), List.getElem?_set_ne h2]
theorem zip_setAt : ∀ (vs : List Value) (k : Nat) (cells : Array Value) (off : Nat),
  ((vs.zipIdx k).foldl (fun (cs : Array Value) (x : Value × Nat) => cs.setIfInBounds (off + x.2) x.1) cells).toList = setAt cells.toList (off + k) vs
 | [], _, _, _ => rfl
 | v :: vs, k, cells, off => by
  rw [List.zipIdx_cons, List.foldl_cons, zip_setAt vs (k + 1) _ off, setAt]
  simp [Nat.add_assoc]
theorem AllRep.setAt {R : Value → D → Prop} {vs us : List Value} {cs ds : List D} {off : Nat} (h : AllRep R vs cs) (k : AllRep R us ds) (hle : off + ds.length ≤ cs.length) : AllRep R (setAt vs off us) (setAt cs off ds) := by
 have hle' : off + us.length ≤ vs.length := by rw [h.1, k.1]; exact hle
 refine ⟨by rw [setAt_length, setAt_length, h.1], fun i v d h1 h2 => ?_⟩
 rw [setAt_get us vs off hle'] at h1
 rw [setAt_get ds cs off hle] at h2
 rw [k.1] at h1
 split at h1
 ·rename_i hc
  rw [if_pos hc] at h2
  exact k.2 _ v d h1 h2
 ·rename_i hc
  rw [if_neg hc] at h2
  exact h.2 _ v d h1 h2
theorem all_setAt {p : D → Bool} : ∀ (ds cs : List D) (off : Nat), cs.all p = true → ds.all p = true → (setAt cs off ds).all p = true
 | [], _, _, h, _ => h
 | d :: ds, cs, off, h, k => by
  rw [setAt]
  simp only [List.all_cons, Bool.and_eq_true] at k
  refine all_setAt ds _ _ ?_ k.2
  refine List.all_eq_true.2 fun x hx => ?_
  rcases List.mem_or_eq_of_mem_set hx with h1 | rfl
  ·exact List.all_eq_true.1 h x h1
  ·exact k.1
def PartsRep (g : Gh) (place : Nat → Option (Nat × Nat)) : List (Nat × Value) → List (Nat × Nat × D) → Prop
 | [], [] => True
 | (i, v) :: vs, (off, sz, d) :: ds => place i = some (off, sz) ∧ Rep g v d ∧ PartsRep g place vs ds
 | _, _ => False
theorem fill_run {place : Nat → Option (Nat × Nat)} : ∀ (vs : List (Nat × Value)) (ps : List (Nat × Nat × D)) (cells : Array Value) (cs r : List D), PartsRep g place vs ps → AllRep (Rep g) cells.toList cs → cs.all D.plain = true →
  fillD cs ps = some r → ∃ out, Instr.fill place cells vs = some out ∧ AllRep (Rep g) out.toList r ∧ r.all D.plain = true
 | [], [], cells, cs, r, _, h, hp, hf => by
  simp only [fillD, Option.some.injEq] at hf
  subst hf
  exact ⟨cells, rfl, h, hp⟩
 | [], _ :: _, _, _, _, hp, _, _, _ => hp.elim
 | _ :: _, [], _, _, _, hp, _, _, _ => hp.elim
 | (i, v) :: vs, (off, sz, d) :: ps, cells, cs, r, hp, h, hpl, hf => by
  obtain ⟨p1, p2, p3⟩ := hp
  simp only [fillD] at hf
  split at hf
  ·rename_i hc
   obtain ⟨c1, c2, c3⟩ := hc
   have hcells := p2.cells c3
   have hstrip : AllRep (Rep g) v.cells.toList (d.cells.map D.strip) := by
    refine ⟨by simpa using hcells.1, fun j u e h1 h2 => ?_⟩
    simp only [List.getElem?_map, Option.map_eq_some_iff] at h2
    obtain ⟨e0, h2, rfl⟩ := h2
    exact (hcells.2 j u e0 h1 h2).strip
   have hvs : v.cells.size = sz := by rw [← c1, ← hcells.1]; simp
   have hcs : cells.size = cs.length := by rw [← h.1]; simp
   have hset : AllRep (Rep g) (setAt cells.toList off v.cells.toList) (setAt cs off (d.cells.map D.strip)) := h.setAt hstrip (by simp; omega)
   have hz := zip_setAt v.cells.toList 0 cells off
   rw [Nat.add_zero] at hz
   have hall : (setAt cs off (d.cells.map D.strip)).all D.plain = true := all_setAt _ _ _ hpl (by
    refine List.all_eq_true.2 fun x hx => ?_
    obtain ⟨y, hy, rfl⟩ := List.mem_map.1 hx
    rw [plain_strip]
    exact List.all_eq_true.1 c3 y hy)
   obtain ⟨out, o1, o2, o3⟩ := fill_run vs ps (v.cells.zipIdx.foldl (fun cs (x : Value × Nat) => cs.setIfInBounds (off + x.2) x.1) cells) _ r p3 (by
    rw [← Array.foldl_toList, Array.toList_zipIdx, hz]; exact hset) hall hf
   refine ⟨out, ?_, o2, o3⟩
   unfold Instr.fill
   simp only [p1]
   have hno : ¬ ((v.cells.size ≠ sz || off + v.cells.size > cells.size) = true) := by
    simp only [ne_eq, gt_iff_lt, Bool.or_eq_true, decide_eq_true_eq, not_or, Decidable.not_not, Nat.not_lt]
    omega
   first
    | (rw [if_neg hno]; exact o1)
    | (rw [if_neg (by simpa using hno)]; exact o1)
  ·cases hf
end
end Go.Abs

namespace Go.Abs
open Go Go.RowKit
section
variable {P : Program} {g g' : Gh} {w w' : World} {fr fr' : Fr} {σ σ' : St} {a : Act} {o : Oper} {d : D} {cal : Cal} {q : Bool} {mu : List Nat} {ops : List Oper}
def Gh.rename (g : Gh) (f : Tag → Tag) : Gh := { g with ω := fun b => f (g.ω b) }
theorem Gh.rename_le (g : Gh) (f : Tag → Tag) : g.Le (g.rename f) := ⟨fun _ _ _ h => h, Nat.le_refl _, fun _ _ => rfl, fun _ _ => rfl⟩
theorem Keep.rename (g : Gh) (w : World) (f : Tag → Tag) : Keep g w (g.rename f) w (fun b => f (g.ω b) ≠ g.ω b) :=
 ⟨g.rename_le f, Nat.le_refl _, fun _ _ hc => ⟨rfl, by simpa [Gh.rename] using hc, fun _ => rfl⟩⟩
theorem Inv.rename (i : Inv P g w fr σ a) (f : Tag → Tag) (hf : ∀ t, f t ≠ t → ¬ claims fr σ t) : Inv P (g.rename f) w fr σ a :=
 i.keep (Keep.rename g w f) (fun _ hc => hf _ hc) (fun _ _ _ => rfl) i.h.imm rfl
theorem Ext.rename (g : Gh) (w : World) (f : Tag → Tag) (hf : ∀ t, f t ≠ t → t.mine = true) : Ext g w (g.rename f) w :=
 Ext.of_keep (Keep.rename g w f) (fun _ hc _ => hf _ hc) rfl rfl rfl
theorem Own.rename {tag : Tag} {v : Value} {d : D} (h : Own P g w tag v d) (f : Tag → Tag) : Own P (g.rename f) w (f tag) v d := by
 intro es e hd
 rcases h es e hd with h0 | ⟨i, xs, h1, h2, h3, h4, h5⟩
 ·exact .inl h0
 exact .inr ⟨i, xs, h1, h2, h3, h4, fun b hb => ⟨by simp [Gh.rename, (h5 b hb).1], (h5 b hb).2⟩⟩
theorem Rep.rename {v : Value} {d : D} (h : Rep g v d) (f : Tag → Tag) : Rep (g.rename f) v d := h.mono (g.rename_le f) (fun _ _ _ => rfl)
theorem Inv.weaken (i : Inv P g w fr σ a) (t : Nat) {d' : D} (h : ∀ v, Rep g v (fr.at t) → Rep g v d') (hs : d'.strip = d') (hl : ∀ s off, d' = .lptr s off → fr.at t = .lptr s off) : Inv P g w (fr.set t d') σ a := by
 refine ⟨i.h, ⟨by simpa [Fr.set] using i.s.size, by simpa [Fr.set] using i.s.blen, fun k e hk => ?_, i.s.boxes⟩, i.d⟩
 simp only [Fr.set] at hk
 rw [list_set_get] at hk
 split at hk
 ·rename_i hc
  obtain ⟨rfl, hlt⟩ := hc
  cases hk
  rcases at_cases fr k with h1 | ⟨h1, _⟩
  ·obtain ⟨v, q1, q2, q3, q4⟩ := i.s.slots k _ h1
   exact ⟨v, q1, h v q2, .of_ne hs, fun s off e => q4 s off (hl s off e)⟩
  ·omega
 ·exact i.s.slots k e hk
theorem Inv.stripAt (i : Inv P g w fr σ a) (t : Nat) : Inv P g w (fr.set t (fr.at t).strip) σ a :=
 i.weaken t (fun _ h => h.strip) (strip_strip _) (fun s off e => by revert e; cases fr.at t <;> simp [D.strip])
theorem no_sbuf (fr : Fr) (σ : St) (t : Nat) {d : D} (hd : d.strip = d) : ¬ claims (fr.set t d) σ (.sbuf t) := by
 rintro ⟨es, e, h⟩
 simp only [Fr.set] at h
 rw [list_set_get] at h
 split at h
 ·cases h; simp [D.strip] at hd
 ·rename_i hc
  have hlt := (List.getElem?_eq_some_iff.1 h).1
  exact hc ⟨rfl, by simpa using hlt⟩
theorem take_ok (i : Inv P g w fr σ a) {x : Operand} {x' : X} (hX : compX x = some x') (tag : Tag) :
  ∃ g', Ext g w g' w ∧ Inv P g' w (fr.take x').2 σ a ∧ Rep g' (a.eval x) (fr.take x').1 ∧ Own P g' w tag (a.eval x) (fr.take x').1 ∧
   (∀ s off, (fr.take x').1 = .lptr s off → ∃ cs, fr.boxes[s]? = some (some cs)) ∧ (fr.take x').2.boxes = fr.boxes ∧ (fr.take x').2.slots.length = fr.slots.length ∧ g'.n = g.n ∧ g'.β = g.β ∧ g'.I = g.I := by
 cases x with
 | tmp t =>
  simp only [compX, Option.some.injEq] at hX
  subst hX
  simp only [Fr.take]
  let f : Tag → Tag := fun s => if s = .sbuf t then tag else s
  have hfne : ∀ s, f s ≠ s → s = .sbuf t := fun s h => by
   by_cases hs : s = .sbuf t
   ·exact hs
   ·simp [f, hs] at h
  have i1 := i.stripAt t
  have i2 := i1.rename f (fun s hs => by rw [hfne s hs]; exact no_sbuf fr σ t (strip_strip _))
  refine ⟨g.rename f, Ext.rename g w f (fun s hs => by rw [hfne s hs]; rfl), i2, ?_, ?_, ?_, rfl, by simp [Fr.set], rfl, rfl, rfl⟩
  ·rcases at_cases fr t with h | ⟨h, hj⟩
   ·obtain ⟨v, h1, h2, h3, h4⟩ := i.s.slots t _ h
    simp only [Act.eval]
    rw [show a.tmps.getD t undef = v by simp [h1]]
    exact h2.rename f
   ·rw [hj]; exact .junk _
  ·rcases at_cases fr t with h | ⟨h, hj⟩
   ·obtain ⟨v, h1, h2, h3, h4⟩ := i.s.slots t _ h
    simp only [Act.eval]
    rw [show a.tmps.getD t undef = v by simp [h1]]
    have := h3.rename f
    simpa [f] using this
   ·rw [hj]; exact .of_ne rfl
  ·intro s off e
   rcases at_cases fr t with h | ⟨h, hj⟩
   ·obtain ⟨v, h1, h2, h3, h4⟩ := i.s.slots t _ h
    exact h4 s off e
   ·rw [hj] at e; cases e
 | const v =>
  simp only [compX, Option.map_eq_some_iff] at hX
  obtain ⟨d, hd, rfl⟩ := hX
  obtain ⟨h1, h2, h3⟩ := constD_rep (g := g) hd
  exact ⟨g, .refl g w, i, h1, .of_ne h2, fun s off e => by simp only [Fr.take] at e; subst e; simp [D.notL] at h3, rfl, rfl, rfl, rfl, rfl⟩
 | func f =>
  simp only [compX, Option.some.injEq] at hX
  subst hX
  exact ⟨g, .refl g w, i, .func _ _ _ rfl (by simp) rfl, .of_ne rfl, fun s off e => by simp [Fr.take] at e, rfl, rfl, rfl, rfl, rfl⟩
 | global n => simp [compX] at hX
theorem snd_take {x : Operand} (hop : o.op = .move x ∨ o.op = .assign x) {x' : X} (hX : compX x = some x')
  (he : (fr.take x') = (d, fr')) (hσ : σ' = σ) (i : Inv P g w fr σ a) : Snd P g w a o fr' σ' d := by
 subst hσ
 intro next Q hn
 have hrun : (execOp a.eval o).run P w = .ok (.value (a.eval x)) w := by
  rcases hop with h | h <;> (simp only [execOp, h]; rfl)
 refine wp_value hrun ?_
 obtain ⟨g1, h1, h2, h3, h4, h5, h6, _⟩ := take_ok i hX (match o.dst with | some t => .sbuf t | none => .sbuf 0)
 rw [he] at h2 h3 h4 h5 h6
 refine hn _ _ g1 h1 (h2.put o.dst h3 (fun t ht => by rw [ht] at h4; exact h4) (fun s off e => by rw [h6]; exact h5 s off e))
theorem snd_moveCopy {x : Operand} (hop : o.op = .move x) {x' : X} (hX : compX x = some x')
  (he : evalOp cal q o.dst (.move x' false) fr σ = some (d, fr', σ')) (i : Inv P g w fr σ a) : Snd P g w a o fr' σ' d := by
 simp only [evalOp, Bool.false_eq_true, if_false] at he
 cases he
 exact snd_same i (v := a.eval x) (by simp only [execOp, hop]; rfl) (val_ok i.s hX)
theorem snd_assignNil {e : TypeId} (hop : o.op = .assign (.const (.slice none 0 0))) (hok : ownOK P (.sl [] (some e)) = true)
  (he : evalOp cal q o.dst (.assign (.const (.sl [] (some e)))) fr σ = some (d, fr', σ')) (i : Inv P g w fr σ a) : Snd P g w a o fr' σ' d := by
 simp only [evalOp, Fr.take] at he
 cases he
 intro next Q hn
 have hrun : (execOp a.eval o).run P w = .ok (.value (.slice none 0 0)) w := by simp only [execOp, hop]; rfl
 refine wp_value hrun (hn _ _ g (.refl g w) (i.put o.dst ?_ ?_ (fun s off e => by cases e)))
 ·exact .sl none 0 0 0 0 0 [] _ (fun _ _ => undef) rfl (Nat.le_refl _) (fun _ => rfl) (fun h => absurd rfl h) (by simp) (by simp) (by simp)
 ·intro t _ es e' hd
  cases hd
  simp only [ownOK] at hok
  cases hi : P.info? e with
  | none => simp [hi] at hok
  | some inf =>
   simp [hi] at hok
   exact .inl ⟨rfl, rfl⟩
theorem matchD_rep {v : Value} {d : D} (h : matchD v d = true) : Rep g v d ∧ (∀ es e, d = .sl es (some e) → es = [] ∧ v = .slice none 0 0) := by
 unfold matchD at h
 split at h
 ·exact ⟨.junk _, fun es e hd => by cases hd⟩
 ·simp at h; subst h; exact ⟨.bool _, fun es e hd => by cases hd⟩
 ·simp at h; obtain ⟨rfl, rfl⟩ := h; exact ⟨.int _ _, fun es e hd => by cases hd⟩
 ·rename_i s
  have hs : s.data.toList = [] := by
   have h1 : s.size = 0 := by simpa using h
   rw [← bytes_size] at h1
   exact List.eq_nil_of_length_eq_zero h1
  have := Rep.str (g := g) s
  rw [hs] at this
  exact ⟨this, fun es e hd => by cases hd⟩
 ·exact ⟨.nilp, fun es e hd => by cases hd⟩
 ·exact ⟨.nilm, fun es e hd => by cases hd⟩
 ·exact ⟨.nilf, fun es e hd => by cases hd⟩
 ·exact ⟨.sl none 0 0 0 0 0 [] _ (fun _ _ => undef) rfl (Nat.le_refl _) (fun _ => rfl) (fun h => absurd rfl h) (by simp) (by simp) (by simp), fun es e hd => by cases hd; exact ⟨rfl, rfl⟩⟩
 ·cases h
theorem matchAll_rep : ∀ {vs : List Value} {ds : List D}, matchAll vs ds = true → AllRep (Rep g) vs ds ∧ ∀ (j : Nat) (v : Value) (d : D), vs[j]? = some v → ds[j]? = some d → ∀ es e, d = .sl es (some e) → es = [] ∧ v = .slice none 0 0
 | [], [], _ => ⟨⟨rfl, fun i v d h => by simp at h⟩, fun j v d h => by simp at h⟩
 | [], _ :: _, h => by simp [matchAll] at h
 | _ :: _, [], h => by simp [matchAll] at h
 | v :: vs, d :: ds, h => by
  simp only [matchAll, Bool.and_eq_true] at h
  obtain ⟨h1, h2⟩ := matchD_rep (g := g) h.1
  obtain ⟨h3, h4⟩ := matchAll_rep h.2
  refine ⟨⟨by simpa using h3.1, fun i u e k1 k2 => ?_⟩, fun i u e k1 k2 => ?_⟩
  ·cases i with
   | zero => simp at k1 k2; subst k1 k2; exact h1
   | succ i => exact h3.2 i u e (by simpa using k1) (by simpa using k2)
  ·cases i with
   | zero => simp at k1 k2; subst k1 k2; exact h2
   | succ i => exact h4 i u e (by simpa using k1) (by simpa using k2)
theorem own_nil {tag : Tag} {v : Value} {d : D} (hok : ownOK P d = true) (h : ∀ es e, d = .sl es (some e) → es = [] ∧ v = .slice none 0 0) : Own P g w tag v d := by
 intro es e hd
 obtain ⟨rfl, rfl⟩ := h es e hd
 subst hd
 simp only [ownOK] at hok
 cases hi : P.info? e with
 | none => simp [hi] at hok
 | some inf =>
  simp [hi] at hok
  exact .inl ⟨rfl, rfl⟩
theorem zeroOf_ok {t : TypeId} {z : List D} (h : zeroOf P t = some z) : ∃ zv, (P.info? t).bind (·.zero) = some zv ∧ AllRep (Rep g) zv.cells.toList z ∧ z.all D.pure1 = true ∧
  ∀ (j : Nat) (v : Value) (d : D), zv.cells.toList[j]? = some v → z[j]? = some d → ownOK P d = true ∧ ∀ es e, d = .sl es (some e) → es = [] ∧ v = .slice none 0 0 := by
 unfold zeroOf at h
 split at h
 ·rename_i zv hz
  split at h
  ·rename_i hc
   cases h
   simp only [Bool.and_eq_true] at hc
   obtain ⟨h1, h2⟩ := matchAll_rep (g := g) hc.1.1
   exact ⟨zv, hz, h1, hc.1.2, fun j v d k1 k2 => ⟨all_get hc.2 k2, h2 j v d k1 k2⟩⟩
  ·cases h
 ·cases h
theorem zeroValue_run {t : TypeId} {zv : Value} (h : (P.info? t).bind (·.zero) = some zv) : (zeroValue t).run P w = .ok zv w := by
 cases hi : P.info? t with
 | none => simp [hi] at h
 | some inf => simp [hi] at h; simp [zeroValue, typeInfo, hi, h]
theorem boxAt_some {t : Nat} {cs : List D} (h : fr.boxAt t = some cs) : fr.boxes[t]? = some (some cs) := by
 unfold Fr.boxAt at h
 cases hb : fr.boxes[t]? with
 | none => simp [hb] at h
 | some b => simp [hb] at h; rw [h]
theorem boxAt_none {t : Nat} (h : fr.boxAt t = none) : ∀ cs, fr.boxes[t]? ≠ some (some cs) := by
 intro cs hc
 simp [Fr.boxAt, hc] at h
def Fr.drop (fr : Fr) (t : Nat) (k : D → D) : Fr := { fr with slots := fr.slots.map k, boxes := fr.boxes.set t none }
theorem box_set_none {t s : Nat} {cs : List D} (h : (fr.boxes.set t none)[s]? = some (some cs)) : s ≠ t ∧ fr.boxes[s]? = some (some cs) := by
 rw [list_set_get] at h
 split at h
 ·cases h
 ·rename_i hc
  refine ⟨fun e => hc ⟨e, ?_⟩, h⟩
  subst e
  exact (List.getElem?_eq_some_iff.1 h).1
theorem Inv.dropBox (i : Inv P g w fr σ a) (t : Nat) : Inv P g w (fr.drop t (killL t)) σ a := by
 refine ⟨i.h, ⟨by simpa [Fr.drop] using i.s.size, by simpa [Fr.drop] using i.s.blen, fun k e hk => ?_, fun s cs hb => ?_⟩, i.d⟩
 ·simp only [Fr.drop, List.getElem?_map, Option.map_eq_some_iff] at hk
  obtain ⟨e0, h1, rfl⟩ := hk
  obtain ⟨v, q1, q2, q3, q4⟩ := i.s.slots k e0 h1
  by_cases hl : ∃ off, e0 = .lptr t off
  ·obtain ⟨off, rfl⟩ := hl
   simp only [killL, if_true]
   exact ⟨v, q1, .junk _, .of_ne rfl, fun s off e => by cases e⟩
  ·have hkeep : killL t e0 = e0 := by
    cases e0 <;> try rfl
    rename_i s off
    simp only [killL]
    rw [if_neg]
    rintro rfl
    exact hl ⟨_, rfl⟩
   rw [hkeep]
   refine ⟨v, q1, q2, q3, fun s off e => ?_⟩
   obtain ⟨cs, hc⟩ := q4 s off e
   refine ⟨cs, ?_⟩
   simp only [Fr.drop]
   rw [list_set_get, if_neg]
   ·exact hc
   ·rintro ⟨rfl, _⟩
    exact hl ⟨off, e⟩
 ·obtain ⟨_, h⟩ := box_set_none hb
  exact i.s.boxes s cs h
theorem heap_new (w : World) (ob : Go.Obj) : (w.alloc ob).heap[w.heap.size]? = some ob := by
 show (w.heap.push ob)[w.heap.size]? = _
 simp
theorem heap_old (w : World) (ob : Go.Obj) {b : Nat} (h : b < w.heap.size) : (w.alloc ob).heap[b]? = w.heap[b]? := by
 show (w.heap.push ob)[b]? = _
 rw [Array.getElem?_push, if_neg om]
def Gh.tagAt (g : Gh) (b : Nat) (tag : Tag) : Gh := { g with ω := fun x => if x = b then tag else g.ω x }
theorem imm_lt {σ : St} (h : HInv P g w σ) {b off : Nat} {v : Value} (hv : g.I b off = some v) : b < w.heap.size :=
 World.block_lt_of_cell? w ⟨b, off, none⟩ (h.imm b off v hv)
theorem imm_none {σ : St} (h : HInv P g w σ) {b : Nat} (hb : w.heap.size ≤ b) (off : Nat) : g.I b off = none := by
 cases hi : g.I b off with
 | none => rfl
 | some v => exact absurd (imm_lt h hi) om
theorem Keep.alloc (g : Gh) (w : World) (ob : Go.Obj) (tag : Tag) : Keep g w (g.tagAt w.heap.size tag) (w.alloc ob) (fun _ => False) :=
 ⟨⟨fun _ _ _ h => h, Nat.le_refl _, fun _ _ => rfl, fun _ _ => rfl⟩, by simp, fun b hb _ => ⟨heap_old w ob hb, by simp [Gh.tagAt, Nat.ne_of_lt hb], fun _ => rfl⟩⟩
theorem imm_alloc {σ : St} (h : HInv P g w σ) (ob : Go.Obj) (b off : Nat) (v : Value) (hv : g.I b off = some v) : (w.alloc ob).cell? ⟨b, off, none⟩ = some v := by
 rw [World.cell?_alloc_lt]
 ·exact h.imm b off v hv
 ·exact imm_lt h hv
theorem Inv.alloc (i : Inv P g w fr σ a) (ob : Go.Obj) (tag : Tag) : Inv P (g.tagAt w.heap.size tag) (w.alloc ob) fr σ a :=
 i.keep (Keep.alloc g w ob tag) (fun _ hc => hc.elim) (fun _ _ _ => rfl) (imm_alloc i.h ob) rfl
theorem Ext.alloc (g : Gh) (w : World) (ob : Go.Obj) (tag : Tag) : Ext g w (g.tagAt w.heap.size tag) (w.alloc ob) :=
 Ext.of_keep (Keep.alloc g w ob tag) (fun _ hc => hc.elim) rfl rfl rfl
def Gh.boxAt (g : Gh) (t b : Nat) : Gh := { g with β := fun x => if x = t then b else g.β x }
theorem Inv.newβ (i : Inv P g w fr σ a) {t : Nat} (hn : ∀ cs, fr.boxes[t]? ≠ some (some cs)) (b : Nat) : Inv P (g.boxAt t b) w fr σ a :=
 i.keep (C := fun _ => False) ⟨⟨fun _ _ _ h => h, Nat.le_refl _, fun _ _ => rfl, fun _ _ => rfl⟩, Nat.le_refl _, fun _ _ _ => ⟨rfl, rfl, fun _ => rfl⟩⟩ (fun _ hc => hc.elim)
  (fun s cs hb => by simp only [Gh.boxAt]; rw [if_neg]; rintro rfl; exact hn cs hb) i.h.imm rfl
theorem Ext.newβ (g : Gh) (w : World) (t b : Nat) : Ext g w (g.boxAt t b) w :=
 ⟨⟨fun _ _ _ h => h, Nat.le_refl _, fun _ _ => rfl, fun _ _ => rfl⟩, rfl, rfl, rfl, Nat.le_refl _, fun _ _ _ => ⟨rfl, rfl⟩, fun _ _ _ h => .inl h, rfl⟩
theorem Inv.newBox (i : Inv P g w fr σ a) (t : Nat) (arr : Array Value) (ty : TypeId) {cs : List D} (hc : ∀ g', g.Le g' → AllRep (Rep g') arr.toList cs) (hp : cs.all D.plain = true)
  (ho : ∀ (j : Nat) (v : Value) (d : D), arr.toList[j]? = some v → cs[j]? = some d → ∀ g' w', Own P g' w' (.bbuf t j) v d) :
  ∃ g', Ext g w g' (w.alloc (.cells arr ty)) ∧ Inv P g' (w.alloc (.cells arr ty)) (fr.newBox t cs) σ a ∧ g'.β t = w.heap.size := by
 -- the elder variable is forgotten
 have key : ∀ fr1 : Fr, Inv P g w fr1 σ a → (∀ cs, fr1.boxes[t]? ≠ some (some cs)) → fr1.boxes[t]? ≠ none ∨ True →
   ∃ g', Ext g w g' (w.alloc (.cells arr ty)) ∧ Inv P g' (w.alloc (.cells arr ty)) (fr1.setBox t (some cs)) σ a ∧ g'.β t = w.heap.size := by
  intro fr1 i1 hn _
  have i2 := (i1.alloc (.cells arr ty) (.box t)).newβ hn w.heap.size
  refine ⟨_, (Ext.alloc g w (.cells arr ty) (.box t)).trans (Ext.newβ _ _ t w.heap.size), ?_, by simp [Gh.boxAt]⟩
  refine ⟨i2.h, ⟨by simpa [Fr.setBox] using i2.s.size, by simpa [Fr.setBox] using i2.s.blen, fun k e hk => ?_, fun s cs' hb => ?_⟩, i2.d⟩
  ·obtain ⟨v, q1, q2, q3, q4⟩ := i2.s.slots k e hk
   refine ⟨v, q1, q2, q3, fun s off e => ?_⟩
   obtain ⟨cs0, hc0⟩ := q4 s off e
   refine ⟨cs0, ?_⟩
   simp only [Fr.setBox]
   rw [list_set_get, if_neg]
   ·exact hc0
   ·rintro ⟨rfl, _⟩
    exact hn cs0 hc0
  ·simp only [Fr.setBox] at hb
   rw [list_set_get] at hb
   split at hb
   ·rename_i hst
    obtain ⟨rfl, _⟩ := hst
    cases hb
    refine ⟨by simp [Gh.boxAt, Gh.tagAt], arr.size, arr, ty, by simp only [Gh.boxAt, if_true]; exact heap_new w _, rfl, fun off => imm_none i1.h (Nat.le_of_eq (by simp [Gh.boxAt])) off, fun j d hd => ?_⟩
    have hle : g.Le ((g.tagAt w.heap.size (.box s)).boxAt s w.heap.size) := ⟨fun _ _ _ h => h, Nat.le_refl _, fun _ _ => rfl, fun _ _ => rfl⟩
    obtain ⟨v, hv, hr⟩ := (hc _ hle).get hd
    exact ⟨all_get hp hd, v, by simpa using hv, hr, ho j v d hv hd _ _⟩
   ·exact i2.s.boxes s cs' hb
 unfold Fr.newBox
 split
 ·rename_i hn
  exact key fr i (boxAt_none hn) (.inr trivial)
 ·have := key (fr.drop t (killL t)) (i.dropBox t) (fun cs hc => (box_set_none hc).1 rfl) (.inr trivial)
  simpa [Fr.drop, Fr.setBox] using this
theorem newBox_len (fr : Fr) (t : Nat) (cs : List D) : (fr.newBox t cs).slots.length = fr.slots.length := by
 unfold Fr.newBox
 split <;> simp [Fr.setBox]
theorem newBox_at (fr : Fr) (hb : fr.boxes.length = fr.slots.length) (t : Nat) (cs : List D) (ht : t < fr.slots.length) : (fr.newBox t cs).boxes[t]? = some (some cs) := by
 unfold Fr.newBox
 split <;> simp [Fr.setBox, hb, ht]
theorem Inv.putBox {t : Nat} {cs : List D} (i : Inv P g w (fr.newBox t cs) σ a) (hb : fr.boxes.length = fr.slots.length) {b : Nat} (hβ : g.β t = b) :
  Inv P g w ((fr.newBox t cs).put (some t) (.lptr t 0)) σ (a.put (some t) (.pointer (some ⟨b, 0, none⟩))) := by
 rcases Nat.lt_or_ge t fr.slots.length with h | h
 ·refine i.put (some t) (by rw [← hβ]; exact .lptr t 0) (fun _ _ => .of_ne rfl) (fun s off e => ?_)
  cases e
  exact ⟨cs, newBox_at fr hb t cs h⟩
 ·have h1 : (fr.newBox t cs).put (some t) (.lptr t 0) = fr.newBox t cs := by
   simp only [Fr.put, Fr.set]
   rw [List.set_eq_of_length_le (by rw [newBox_len]; exact h)]
  have h2 : a.put (some t) (.pointer (some ⟨b, 0, none⟩)) = a := by
   simp only [Act.put]
   rw [Array.setIfInBounds_eq_of_size_le (by rw [i.s.size, newBox_len]; exact h)]
  rw [h1, h2]
  exact i
theorem snd_alloc {ty : TypeId} (hop : o.op = .alloc ty) {z : List D} (hz : zeroOf P ty = some z)
  (he : evalOp cal q o.dst (.alloc z) fr σ = some (d, fr', σ')) (i : Inv P g w fr σ a) : Snd P g w a o fr' σ' d := by
 simp only [evalOp] at he
 split at he
 ·rename_i t ht
  cases he
  intro next Q hn
  obtain ⟨zv, h1, h2, h3, h4⟩ := zeroOf_ok (g := g) hz
  have hrun : (execOp a.eval o).run P w = .ok (.value (.pointer (some ⟨w.heap.size, 0, none⟩))) (w.alloc (.cells zv.cells ty)) := by
   simp only [execOp, hop]
   refine run_vmap' ?_
   unfold Instr.alloc
   rw [run_bo (zeroValue_run h1)]
   rfl
  obtain ⟨g', e1, e2, e3⟩ := i.newBox t zv.cells ty (cs := z) (fun g' _ => (zeroOf_ok (g := g') hz).elim fun zv' h => by
    have : zv' = zv := by have := h.1; rw [h1] at this; exact (Option.some.inj this).symm
    rw [← this]; exact h.2.1) (List.all_eq_true.2 fun x hx => plain_of_pure1 (List.all_eq_true.1 h3 x hx))
   (fun j v d k1 k2 g' w' => own_nil (h4 j v d k1 k2).1 (h4 j v d k1 k2).2)
  refine wp_value hrun (hn _ _ g' e1 ?_)
  rw [ht]
  exact e2.putBox i.s.blen e3
 ·cases he
theorem snd_box {ty : TypeId} {x : Operand} (hop : o.op = .box ty x) {x' : X} (hX : compX x = some x')
  (he : evalOp cal q o.dst (.box x') fr σ = some (d, fr', σ')) (i : Inv P g w fr σ a) : Snd P g w a o fr' σ' d := by
 have hv := val_ok i.s hX
 simp only [evalOp] at he
 split at he
 ·rename_i t ht
  split at he
  ·rename_i hp
   cases he
   intro next Q hn
   have hrun : (execOp a.eval o).run P w = .ok (.value (.pointer (some ⟨w.heap.size, 0, none⟩))) (w.alloc (.cells (a.eval x).cells ty)) := by
    simp only [execOp, hop]
    exact run_vmap' rfl
   have hnotl : ∀ t off, fr.val x' = .lptr t off → False := fun t off e => by rw [e] at hp; simp [D.cells, D.plain] at hp
   obtain ⟨g', e1, e2, e3⟩ := i.newBox t (a.eval x).cells ty (cs := (fr.val x').raw) (fun g' hle => (hv.1.mono hle (fun t off e => (hnotl t off e).elim)).raws hp)
    (raw_plain hp)
    (fun j v d k1 k2 g' w' => own_rawS hv.1 (val_strip fr x') j v d k1 k2)
   refine wp_value hrun (hn _ _ g' e1 ?_)
   rw [ht]
   exact e2.putBox i.s.blen e3
  ·cases he
 ·cases he
end
end Go.Abs

namespace Go.Abs
open Go Go.RowKit
section
variable {P : Program} {g g' : Gh} {w w' : World} {fr fr' : Fr} {σ σ' : St} {a : Act} {o : Oper} {d : D} {cal : Cal} {q : Bool} {mu : List Nat} {ops : List Oper}
theorem places_ok {fs : Array Field} (h : fieldsSized P fs = true) : ∃ places, fs.toList.mapM (fun f => (P.info? f.type).map fun i => (f.offset, i.size)) = some places ∧
  ∀ (i : Nat) (f : Field) (s : Nat), fs[i]? = some f → sizeT P f.type = some s → places[i]? = some (f.offset, s) := by
 have hall : ∀ f ∈ fs.toList, ∃ y, (P.info? f.type).map (fun i => (f.offset, i.size)) = some y := fun f hf => by
  have h1 := Array.all_eq_true_iff_forall_mem.1 h f (Array.mem_toList_iff.1 hf)
  obtain ⟨inf, hi⟩ := Option.isSome_iff_exists.1 h1
  exact ⟨_, by rw [hi]; rfl⟩
 cases hp : fs.toList.mapM (fun f => (P.info? f.type).map fun i => (f.offset, i.size)) with
 | none =>
  exfalso
  revert hp
  generalize fs.toList = l at hall
  induction l with
  | nil => simp
  | cons x xs ih =>
   intro hp
   obtain ⟨y, hy⟩ := hall x (by simp)
   cases hr : xs.mapM (fun f => (P.info? f.type).map fun i => (f.offset, i.size)) with
   | none => exact ih (fun f hf => hall f (List.mem_cons_of_mem _ hf)) hr
   | some r => simp [List.mapM_cons, hy, hr] at hp
 | some places =>
  refine ⟨places, rfl, fun i f s hf hs => ?_⟩
  have := mapM_some_get hp i f (by simpa using hf)
  rw [← this]
  unfold sizeT at hs
  simp only [Option.map_eq_some_iff] at hs
  obtain ⟨inf, h1, rfl⟩ := hs
  rw [h1]
  rfl
theorem partsX_rep (s : SInv P g w fr a.tmps) {fs : Array Field} {places : List (Nat × Nat)} (hpl : ∀ (i : Nat) (f : Field) (s : Nat), fs[i]? = some f → sizeT P f.type = some s → places[i]? = some (f.offset, s)) :
  ∀ {parts : List (Nat × Operand)} {ps : List (Nat × Nat × X)}, partsX P fs parts = some ps →
   PartsRep g (places[·]?) (parts.map fun (i, x) => (i, a.eval x)) (ps.map fun (o, s, x) => (o, s, fr.val x))
 | [], ps, h => by simp [partsX] at h; subst h; trivial
 | (i, x) :: rest, ps, h => by
  simp only [partsX] at h
  split at h
  ·rename_i f x' hf hx
   split at h
   ·rename_i sz r hs hr
    cases h
    exact ⟨hpl i f sz hf hs, (val_ok s hx).1, partsX_rep s hpl hr⟩
   ·cases h
  ·cases h
theorem partsA_rep (s : SInv P g w fr a.tmps) (esz : Nat) :
  ∀ {parts : List (Nat × Operand)} {ps : List (Nat × Nat × X)}, partsA esz parts = some ps →
   PartsRep g (fun i => some (i * esz, esz)) (parts.map fun (i, x) => (i, a.eval x)) (ps.map fun (o, s, x) => (o, s, fr.val x))
 | [], ps, h => by simp [partsA] at h; subst h; trivial
 | (i, x) :: rest, ps, h => by
  simp only [partsA] at h
  split at h
  ·rename_i x' r hx hr
   cases h
   exact ⟨rfl, (val_ok s hx).1, partsA_rep s esz hr⟩
  ·cases h
theorem built_run {t : TypeId} {parts : Array (Nat × Operand)} (hop : o.op = .build t parts) {cells : Array Value} (h : P.built t (parts.toList.map fun (i, x) => (i, a.eval x)) = some cells) :
  (execOp a.eval o).run P w = .ok (.value (.agg cells)) w := by
 simp only [execOp, hop]
 refine run_vmap ?_
 refine run_build w t _ cells ?_
 rw [Array.toList_map]
 exact h
theorem nilled_rep {vs : List Value} {z : List D} (h : AllRep (Rep g) vs z) (hn : ∀ (j : Nat) (v : Value) (d : D), vs[j]? = some v → z[j]? = some d → ownOK P d = true ∧ ∀ es e, d = .sl es (some e) → es = [] ∧ v = .slice none 0 0) : AllRep (Rep g) vs (z.map D.nilled) := by
 refine ⟨by simpa using h.1, fun i v d h1 h2 => ?_⟩
 simp only [List.getElem?_map, Option.map_eq_some_iff] at h2
 obtain ⟨d0, h2, rfl⟩ := h2
 have hr := h.2 i v d0 h1 h2
 obtain ⟨_, hk⟩ := hn i v d0 h1 h2
 unfold D.nilled
 split
 ·obtain ⟨_, rfl⟩ := hk _ _ rfl
  exact .nils _
 ·exact hr
theorem nilled_plain {z : List D} (h : z.all D.pure1 = true) : (z.map D.nilled).all D.plain = true := by
 refine List.all_eq_true.2 fun x hx => ?_
 obtain ⟨y, hy, rfl⟩ := List.mem_map.1 hx
 have := plain_of_pure1 (List.all_eq_true.1 h y hy)
 unfold D.nilled
 split
 ·rfl
 ·exact this
theorem snd_buildS {t : TypeId} {parts : Array (Nat × Operand)} (hop : o.op = .build t parts) {z : List D} (hz : zeroOf P t = some z) {fs : Array Field} (ht : P.underlying t = some (.struct fs))
  (hsz : fieldsSized P fs = true) {ps : List (Nat × Nat × X)} (hps : partsX P fs parts.toList = some ps)
  (he : evalOp cal q o.dst (.build (z.map D.nilled) ps) fr σ = some (d, fr', σ')) (i : Inv P g w fr σ a) : Snd P g w a o fr' σ' d := by
 simp only [evalOp, Option.map_eq_some_iff] at he
 obtain ⟨r, h1, h2⟩ := he
 cases h2
 obtain ⟨zv, z1, z2, z3, z4⟩ := zeroOf_ok (g := g) hz
 obtain ⟨places, p1, p2⟩ := places_ok hsz
 obtain ⟨out, o1, o2, o3⟩ := fill_run (g := g) _ _ zv.cells (z.map D.nilled) r (partsX_rep i.s p2 hps) (nilled_rep z2 z4) (nilled_plain z3) h1
 refine snd_plain i (v := .agg out) (built_run hop ?_) (agg_of o2 o3) rfl rfl
 cases hi : P.info? t with
 | none => simp [hi] at z1
 | some it =>
  have hz' : it.zero = some zv := by simpa [hi] using z1
  simp only [Program.built, hi, ht, hz', p1]
  rw [← o1]
  congr 1
  funext x
  simp
theorem snd_buildA {t e : TypeId} {n : Nat} {parts : Array (Nat × Operand)} (hop : o.op = .build t parts) {z : List D} (hz : zeroOf P t = some z) (ht : P.underlying t = some (.array n e))
  {esz : Nat} (hs : sizeT P e = some esz) {ps : List (Nat × Nat × X)} (hps : partsA esz parts.toList = some ps)
  (he : evalOp cal q o.dst (.build (z.map D.nilled) ps) fr σ = some (d, fr', σ')) (i : Inv P g w fr σ a) : Snd P g w a o fr' σ' d := by
 simp only [evalOp, Option.map_eq_some_iff] at he
 obtain ⟨r, h1, h2⟩ := he
 cases h2
 obtain ⟨zv, z1, z2, z3, z4⟩ := zeroOf_ok (g := g) hz
 obtain ⟨out, o1, o2, o3⟩ := fill_run (g := g) _ _ zv.cells (z.map D.nilled) r (partsA_rep i.s esz hps) (nilled_rep z2 z4) (nilled_plain z3) h1
 refine snd_plain i (v := .agg out) (built_run hop ?_) (agg_of o2 o3) rfl rfl
 unfold sizeT at hs
 simp only [Option.map_eq_some_iff] at hs
 obtain ⟨ie, hie, rfl⟩ := hs
 cases hi : P.info? t with
 | none => simp [hi] at z1
 | some it =>
  have hz' : it.zero = some zv := by simpa [hi] using z1
  simp only [Program.built, hi, ht, hz', hie]
  exact o1
theorem cellsAt_ok (i : Inv P g w fr σ a) {v : Value} {ad : D} (hr : Rep g v ad) {cs : List D} (h : cellsAt fr σ ad = some cs) :
  ∃ b off, v = .pointer (some ⟨b, off, none⟩) ∧ ∀ (j : Nat) (d : D), cs[j]? = some d → d.plain = true ∧ ∃ u, w.cell? ⟨b, off + j, none⟩ = some u ∧ Rep g u d := by
 unfold cellsAt at h
 split at h
 ·cases h
  cases hr with
  | ref b off _ V hI hR hp => exact ⟨b, off, rfl, fun j d hd => ⟨plain_of_pure1 (all_get hp hd), V j, i.h.imm _ _ _ (hI j d hd), hR j d hd⟩⟩
 ·rename_i t off
  simp only [Option.map_eq_some_iff] at h
  obtain ⟨cs0, h1, rfl⟩ := h
  cases hr
  obtain ⟨_, sz, arr, ty, b1, b2, b3, b4⟩ := i.s.boxes t cs0 (boxAt_some h1)
  refine ⟨_, _, rfl, fun j d hd => ?_⟩
  rw [List.getElem?_drop] at hd
  obtain ⟨p1, u, p2, p3, p4⟩ := b4 _ d hd
  exact ⟨p1, u, by simp [World.cell?, b1, p2], p3⟩
 ·rename_i ob off
  split at h
  ·rename_i cs0 h1
   cases h
   cases hr
   obtain ⟨_, arr, ty, b1, b2, b3, b4⟩ := i.h.cells ob cs0 h1
   refine ⟨_, _, rfl, fun j d hd => ?_⟩
   rw [List.getElem?_drop] at hd
   obtain ⟨p1, u, p2, p3, p4⟩ := b4 _ d hd
   exact ⟨p1, u, by simp [World.cell?, b1, p2], p3⟩
  ·cases h
 ·cases h
theorem loadAgg_run {t : TypeId} {sz b off : Nat} {cs : List D} (hagg : isAggT P t = some true) (hsz : sizeT P t = some sz) (hle : sz ≤ cs.length)
  (h : ∀ (j : Nat) (d : D), cs[j]? = some d → d.plain = true ∧ ∃ u, w.cell? ⟨b, off + j, none⟩ = some u ∧ Rep g u d) :
  ∃ v, (loadVar t ⟨b, off, none⟩).run P w = .ok v w ∧ Rep g v (.agg ((cs.take sz).map D.strip)) := by
 have hex : ∀ j, j < sz → ∃ u, w.cell? ⟨b, off + j, none⟩ = some u ∧ Rep g u (cs.getD j .junk) := fun j hj => by
  obtain ⟨_, u, h1, h2⟩ := h j _ (List.getElem?_eq_getElem (show j < cs.length by omega))
  exact ⟨u, h1, by simpa [List.getD, List.getElem?_eq_getElem (show j < cs.length by omega)] using h2⟩
 let f : Nat → Value := fun j => (w.cell? ⟨b, off + j, none⟩).getD undef
 have hf : ∀ j, j < sz → w.cell? ((⟨b, off, none⟩ : Addr).add j) = some (f j) := fun j hj => by
  obtain ⟨u, h1, _⟩ := hex j hj
  rw [Addr.add_lit]
  simp [f, h1]
 refine ⟨.agg ((List.range sz).map f).toArray, ?_, ?_⟩
 ·unfold loadVar
  rw [run_bo (isAgg_run hagg)]
  simp only [if_true]
  rw [run_bo (size_run hsz), run_bo (run_loadCells w _ sz f hf)]
  rfl
 ·refine .agg _ _ (by simp; omega) (fun j v e h1 h2 => ?_) ?_
  ·simp only [List.getElem?_map, Option.map_eq_some_iff] at h1 h2
   obtain ⟨k, hk, rfl⟩ := h1
   obtain ⟨e0, he0, rfl⟩ := h2
   have hkj := List.getElem?_range (n := sz) (i := j) (by
    have := (List.getElem?_eq_some_iff.1 hk).1
    simpa using this)
   rw [hkj] at hk
   cases hk
   have hj : j < sz := by
    have := (List.getElem?_eq_some_iff.1 hkj).1
    simpa using this
   rw [List.getElem?_take, if_pos hj] at he0
   obtain ⟨_, u, q1, q2⟩ := h j e0 he0
   simp only [f, q1, Option.getD_some]
   exact q2.strip
  ·refine List.all_eq_true.2 fun x hx => ?_
   obtain ⟨y, hy, rfl⟩ := List.mem_map.1 hx
   rw [plain_strip]
   obtain ⟨k, hk⟩ := List.mem_iff_getElem?.1 (List.mem_of_mem_take hy)
   exact (h k y hk).1
theorem load1_run {t : TypeId} {b off : Nat} {u : Value} (hagg : isAggT P t = some false) (h : w.cell? ⟨b, off, none⟩ = some u) : (loadVar t ⟨b, off, none⟩).run P w = .ok u w := by
 unfold loadVar
 rw [run_bo (isAgg_run hagg)]
 simp only [Bool.false_eq_true, if_false]
 rw [run_load, h]
theorem snd_load {t : TypeId} {x : Operand} (hop : o.op = .load t x) {agg : Bool} (hagg : isAggT P t = some agg) {sz : Nat} (hsz : sizeT P t = some sz) {x' : X} (hX : compX x = some x')
  (he : evalOp cal q o.dst (.load agg sz x' false) fr σ = some (d, fr', σ')) (i : Inv P g w fr σ a) : Snd P g w a o fr' σ' d := by
 have hv := (val_ok i.s hX).1
 have hrun : ∀ b off u, a.eval x = .pointer (some ⟨b, off, none⟩) → (loadVar t ⟨b, off, none⟩).run P w = .ok u w → (execOp a.eval o).run P w = .ok (.value u) w := fun b off u hb hl => by
  simp only [execOp, hop, hb]
  refine run_vmap ?_
  unfold Instr.loadAt
  rw [run_bo (show (Instr.sureAddr (Value.pointer (some ⟨b, off, none⟩))).run P w = .ok ⟨b, off, none⟩ w from rfl)]
  exact hl
 simp only [evalOp] at he
 split at he
 ·cases he
 ·rename_i cs hcs
  obtain ⟨b, off, h1, h2⟩ := cellsAt_ok i hv hcs
  split at he
  ·rename_i ha
   subst ha
   split at he
   ·rename_i hle
    cases he
    obtain ⟨v, r1, r2⟩ := loadAgg_run hagg hsz hle h2
    exact snd_plain i (hrun b off v h1 r1) r2 rfl rfl
   ·cases he
  ·rename_i ha
   have ha' : agg = false := by simpa using ha
   subst ha'
   split at he
   ·cases he
   ·rename_i e rest
    simp only [Bool.false_eq_true, if_false] at he
    cases he
    obtain ⟨p1, u, p2, p3⟩ := h2 0 e rfl
    exact snd_plain i (hrun b off u h1 (load1_run hagg p2)) p3.strip (strip_strip _) (by rw [notL_strip]; exact notL_of_plain p1)
def noFr : Fr := { slots := [], boxes := [], defers := [] }
theorem Inv.writeBox (i : Inv P g w fr σ a) {s : Nat} {cs cs' : List D} (hb : fr.boxes[s]? = some (some cs)) (k : Keep g w g w' (fun b => b = g.β s))
  (himm : ∀ (b off : Nat) (v : Value), g.I b off = some v → w'.cell? ⟨b, off, none⟩ = some v) (hnew : ∃ sz, Blk P g w' (g.β s) sz (.bbuf s) cs') : Inv P g w' (fr.setBox s (some cs')) σ a := by
 obtain ⟨ho, _⟩ := i.s.boxes s cs hb
 have hC : ∀ b, b = g.β s → ¬ claims noFr σ (g.ω b) := by
  rintro b rfl
  rw [ho]
  rintro ⟨cs, h⟩
  simp [noFr] at h
 refine ⟨⟨himm, i.h.n, i.h.cells_keep k hC, i.h.maps_keep k hC, i.h.rows_keep k hC, i.h.mapsR_keep k hC⟩, ⟨by simpa [Fr.setBox] using i.s.size, by simpa [Fr.setBox] using i.s.blen, fun t e ht => ?_, fun t cs1 ht => ?_⟩, i.d⟩
 ·obtain ⟨v, q1, q2, q3, q4⟩ := i.s.slots t e ht
  refine ⟨v, q1, q2, q3.keep k (fun b es e' _ hb' => by rw [hb', ho]; simp), fun s' off hl => ?_⟩
  obtain ⟨cs0, h0⟩ := q4 s' off hl
  simp only [Fr.setBox]
  rw [list_set_get]
  split
  ·exact ⟨cs', rfl⟩
  ·exact ⟨cs0, h0⟩
 ·simp only [Fr.setBox] at ht
  rw [list_set_get] at ht
  split at ht
  ·rename_i hc
   obtain ⟨rfl, _⟩ := hc
   cases ht
   exact ⟨ho, hnew⟩
  ·rename_i hc
   obtain ⟨h1, sz, h2⟩ := i.s.boxes t cs1 ht
   have hne : g.β t ≠ g.β s := fun e => by
    rw [e, ho] at h1
    cases h1
    exact hc ⟨rfl, (List.getElem?_eq_some_iff.1 hb).1⟩
   exact ⟨h1, sz, h2.keep k hne (fun j es e hj b hb' => by rw [hb', ho]; simp)⟩
theorem Inv.writeObj (i : Inv P g w fr σ a) {ob : Nat} {cs cs' : List D} (hb : σ[ob]? = some (.cells cs)) (k : Keep g w g w' (fun b => b = g.μ ob))
  (himm : ∀ (b off : Nat) (v : Value), g.I b off = some v → w'.cell? ⟨b, off, none⟩ = some v) (hnew : Blk P g w' (g.μ ob) (g.sz ob) (.obuf ob) cs')
  (hty : ∀ (arr : Array Value) (ty : Nat), w.heap[g.μ ob]? = some (.cells arr ty (0, 0)) → ∃ arr', w'.heap[g.μ ob]? = some (.cells arr' ty (0, 0))) : Inv P g w' fr (σ.set ob (.cells cs')) a := by
 obtain ⟨ho, _⟩ := i.h.cells ob cs hb
 have hC : ∀ b, b = g.μ ob → ¬ claims fr [] (g.ω b) := by
  rintro b rfl
  rw [ho]
  rintro (⟨cs, h⟩ | ⟨es, h⟩) <;> simp at h
 refine ⟨⟨himm, by simpa using i.h.n, fun o1 cs1 h1 => ?_, fun o1 es1 h1 => ?_, rows_set (fun e h => by cases h) (fun _ _ => ⟨cs, hb⟩) (fun o1 e cs1 h1 h2 => ?_), fun o1 es1 h1 => by
  rw [list_set_get] at h1
  split at h1
  ·cases h1
  ·obtain ⟨h2, ents, clock, h3, h4⟩ := i.h.mapsR o1 es1 h1
   have hne : g.μ o1 ≠ g.μ ob := fun e => by
    rw [e, ho] at h2
    cases h2
   exact ⟨h2, ents, clock, ((k.blk _ (lt_of_heap h3) hne).1).trans h3, h4⟩⟩, i.s.keep k hC (fun _ _ _ => rfl), i.d⟩
 ·rw [list_set_get] at h1
  split at h1
  ·rename_i hc
   obtain ⟨rfl, _⟩ := hc
   cases h1
   exact ⟨ho, hnew⟩
  ·rename_i hc
   obtain ⟨h2, h3⟩ := i.h.cells o1 cs1 h1
   have hne : g.μ o1 ≠ g.μ ob := fun e => by
    rw [e, ho] at h2
    cases h2
    exact hc ⟨rfl, (List.getElem?_eq_some_iff.1 hb).1⟩
   exact ⟨h2, h3.keep k hne (fun j es e hj b hb' => by rw [hb', ho]; simp)⟩
 ·rw [list_set_get] at h1
  split at h1
  ·cases h1
  ·rename_i hc
   obtain ⟨h2, ents, clock, h3, h4⟩ := i.h.maps o1 es1 h1
   have hne : g.μ o1 ≠ g.μ ob := fun e => by
    rw [e, ho] at h2
    cases h2
    exact hc ⟨rfl, (List.getElem?_eq_some_iff.1 hb).1⟩
   exact ⟨h2, ents, clock, ((k.blk _ (lt_of_heap h3) hne).1).trans h3, h4⟩
 ·obtain ⟨arr, h3⟩ := i.h.rows o1 e cs1 h1 h2
  by_cases he : g.μ o1 = g.μ ob
  ·rw [he] at h3 ⊢
   exact hty arr e h3
  ·exact ⟨arr, (k.blk _ (lt_of_heap h3) he).1.trans h3⟩
theorem setRow_heap (w : World) (b c : Nat) (arr new : Array Value) (ty : TypeId) (hb : w.heap[b]? = some (.cells arr ty (0, 0))) :
  (w.setRow b new).heap[c]? = if c = b then some (.cells new ty (0, 0)) else w.heap[c]? := by
 simp only [World.setRow, Array.getElem?_modify]
 by_cases h : b = c
 ·subst h
  simp [hb]
 ·rw [if_neg h, if_neg (fun e => h e.symm)]
theorem setRow_size (w : World) (b : Nat) (new : Array Value) : (w.setRow b new).heap.size = w.heap.size := by simp [World.setRow]
theorem Keep.setRow {b : Nat} {arr new : Array Value} {ty : TypeId} (hb : w.heap[b]? = some (.cells arr ty (0, 0))) : Keep g w g (w.setRow b new) (fun x => x = b) :=
 ⟨.refl g, by rw [setRow_size]; exact Nat.le_refl _, fun c _ hc => ⟨by rw [setRow_heap w b c arr new ty hb, if_neg hc], rfl, fun _ => rfl⟩⟩
theorem imm_setRow {σ : St} (h : HInv P g w σ) {b : Nat} {arr new : Array Value} {ty : TypeId} (hb : w.heap[b]? = some (.cells arr ty (0, 0))) (hI : ∀ off, g.I b off = none) :
  ∀ (c off : Nat) (v : Value), g.I c off = some v → (w.setRow b new).cell? ⟨c, off, none⟩ = some v := fun c off v hv => by
 have hne : c ≠ b := by rintro rfl; rw [hI] at hv; cases hv
 have h1 := h.imm c off v hv
 simp only [World.cell?] at h1 ⊢
 rw [setRow_heap w b c arr new ty hb, if_neg hne]
 exact h1
theorem seg_setAt {α : Type} : ∀ (vs l : List α) (off : Nat), off + vs.length ≤ l.length → l.take off ++ vs ++ l.drop (off + vs.length) = setAt l off vs := by
 intro vs l off h
 apply List.ext_getElem?
 intro k
 rw [setAt_get vs l off h]
 by_cases h1 : k < off
 ·rw [if_neg om, List.append_assoc, List.getElem?_append_left (by simp; omega), List.getElem?_take, if_pos h1]
 ·rw [List.append_assoc, List.getElem?_append_right (by simp; omega)]
  simp only [List.length_take, show min off l.length = off by omega]
  by_cases h2 : k < off + vs.length
  ·rw [if_pos ⟨om, h2⟩, List.getElem?_append_left om]
  ·rw [if_neg om, List.getElem?_append_right om, List.getElem?_drop]
   congr 1
   omega
theorem store_run {t : TypeId} {sz b off : Nat} {v : Value} {arr : Array Value} {ty : TypeId} (hsz : sizeT P t = some sz) (hb : w.heap[b]? = some (.cells arr ty (0, 0))) (hv : v.cells.size = sz) (hle : off + sz ≤ arr.size)
  (h1 : ∀ u ∈ v.cells.toList, u.oneCell' = true) : (storeVar t ⟨b, off, none⟩ v).run P w = .ok () (w.setRow b (setAt arr.toList off v.cells.toList).toArray) := by
 unfold storeVar
 rw [run_bo (size_run hsz)]
 rw [if_neg om]
 have := run_storeCells_at P b off ty v.cells.toList 0 arr w hb (by simp; omega) h1
 rw [Nat.add_zero] at this
 rw [seg_setAt _ _ _ (by simp; omega)] at this
 exact this
theorem blk_store {g0 : Gh} {b sz off : Nat} {tag : Nat → Tag} {cs : List D} {v : Value} {ds : List D} (h : Blk P g0 w b sz tag cs) (hle : off + ds.length ≤ cs.length) (hcells : AllRep (Rep g0) v.cells.toList ds) (hp : ds.all D.plain = true)
  (hown : ∀ (j : Nat) (u : Value) (e : D), v.cells.toList[j]? = some u → ds[j]? = some e → Own P g0 w (tag (off + j)) u e) (htag : ∀ j, g0.ω b ≠ tag j) :
  ∃ arr ty, w.heap[b]? = some (.cells arr ty (0, 0)) ∧ off + ds.length ≤ arr.size ∧ (∀ off, g0.I b off = none) ∧
   Blk P g0 (w.setRow b (setAt arr.toList off v.cells.toList).toArray) b sz tag (setAt cs off ds) := by
 obtain ⟨arr, ty, h1, h2, h3, h4⟩ := h
 have hlen : cs.length ≤ arr.size := by
  rcases Nat.lt_or_ge arr.size cs.length with hlt | hge
  ·exfalso
   obtain ⟨_, v, hv, _⟩ := h4 arr.size _ (List.getElem?_eq_getElem hlt)
   simp at hv
  ·exact hge
 have hvl : v.cells.toList.length = ds.length := hcells.1
 refine ⟨arr, ty, h1, om, h3, (setAt arr.toList off v.cells.toList).toArray, ty, by rw [setRow_heap w b b arr _ ty h1, if_pos rfl], by simp [setAt_length, h2], h3, fun j e hj => ?_⟩
 rw [setAt_get ds cs off hle] at hj
 have hk : Keep g0 w g0 (w.setRow b (setAt arr.toList off v.cells.toList).toArray) (fun x => x = b) := Keep.setRow h1
 simp only [List.getElem?_toArray]
 rw [setAt_get v.cells.toList arr.toList off (by simp only [hvl, Array.length_toList]; omega), hvl]
 split at hj
 ·rename_i hc
  rw [if_pos hc]
  obtain ⟨u, hu, hr⟩ := hcells.get hj
  refine ⟨all_get hp hj, u, hu, hr, ?_⟩
  have := hown (j - off) u e hu hj
  rw [show off + (j - off) = j by omega] at this
  exact this.keep hk (fun b' es e' _ hb' => by rw [hb']; exact htag j)
 ·rename_i hc
  rw [if_neg hc]
  obtain ⟨q1, u, q2, q3, q4⟩ := h4 j e hj
  exact ⟨q1, u, by simpa using q2, q3, q4.keep hk (fun b' es e' _ hb' => by rw [hb']; exact htag j)⟩
end
end Go.Abs
