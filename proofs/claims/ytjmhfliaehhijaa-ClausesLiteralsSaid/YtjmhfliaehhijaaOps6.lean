/-
  Structs and arrays that are built; loads and stores.
-/
import Derived.Test.YtjmhfliaehhijaaOps5
import Derived.DataReads
import Derived.Laws.CopyRow
set_option linter.unusedVariables false
set_option linter.unusedSimpArgs false
namespace Go.Abs
open Go Go.RowKit

section
variable {P : Program} {g g' : Gh} {w w' : World} {fr fr' : Fr} {σ σ' : St} {a : Act} {o : Oper} {d : D} {cal : Cal} {q mu : Bool} {ops : List Oper}

theorem places_ok {fs : Array Field} (h : fieldsSized P fs = true) : ∃ places, fs.toList.mapM (fun f => (P.info? f.type).map fun i => (f.offset, i.size)) = some places ∧
    ∀ (i : Nat) (f : Field) (s : Nat), fs[i]? = some f → sizeT P f.type = some s → places[i]? = some (f.offset, s) := by
  have hall : ∀ f ∈ fs.toList, ∃ y, (P.info? f.type).map (fun i => (f.offset, i.size)) = some y := fun f hf => by
    have h1 := Array.all_eq_true_iff_forall_mem.1 h f (Array.mem_toList_iff.1 hf)
    obtain ⟨inf, hi⟩ := Option.isSome_iff_exists.1 h1
    exact ⟨_, by rw [hi]; rfl⟩
  cases hp : fs.toList.mapM (fun f => (P.info? f.type).map fun i => (f.offset, i.size)) with
  | none =>
    exfalso
    revert hp
    generalize fs.toList = l at hall
    induction l with
    | nil => simp
    | cons x xs ih =>
      intro hp
      obtain ⟨y, hy⟩ := hall x (by simp)
      cases hr : xs.mapM (fun f => (P.info? f.type).map fun i => (f.offset, i.size)) with
      | none => exact ih (fun f hf => hall f (List.mem_cons_of_mem _ hf)) hr
      | some r => simp [List.mapM_cons, hy, hr] at hp
  | some places =>
    refine ⟨places, rfl, fun i f s hf hs => ?_⟩
    have := mapM_some_get hp i f (by simpa using hf)
    rw [← this]
    unfold sizeT at hs
    simp only [Option.map_eq_some_iff] at hs
    obtain ⟨inf, h1, rfl⟩ := hs
    rw [h1]
    rfl

theorem partsX_rep (s : SInv P g w fr a.tmps) {fs : Array Field} {places : List (Nat × Nat)} (hpl : ∀ (i : Nat) (f : Field) (s : Nat), fs[i]? = some f → sizeT P f.type = some s → places[i]? = some (f.offset, s)) :
    ∀ {parts : List (Nat × Operand)} {ps : List (Nat × Nat × X)}, partsX P fs parts = some ps →
      PartsRep g (places[·]?) (parts.map fun (i, x) => (i, a.eval x)) (ps.map fun (o, s, x) => (o, s, fr.val x))
  | [], ps, h => by simp [partsX] at h; subst h; trivial
  | (i, x) :: rest, ps, h => by
    simp only [partsX] at h
    split at h
    · rename_i f x' hf hx
      split at h
      · rename_i sz r hs hr
        cases h
        exact ⟨hpl i f sz hf hs, (val_ok s hx).1, partsX_rep s hpl hr⟩
      · cases h
    · cases h

theorem partsA_rep (s : SInv P g w fr a.tmps) (esz : Nat) :
    ∀ {parts : List (Nat × Operand)} {ps : List (Nat × Nat × X)}, partsA esz parts = some ps →
      PartsRep g (fun i => some (i * esz, esz)) (parts.map fun (i, x) => (i, a.eval x)) (ps.map fun (o, s, x) => (o, s, fr.val x))
  | [], ps, h => by simp [partsA] at h; subst h; trivial
  | (i, x) :: rest, ps, h => by
    simp only [partsA] at h
    split at h
    · rename_i x' r hx hr
      cases h
      exact ⟨rfl, (val_ok s hx).1, partsA_rep s esz hr⟩
    · cases h

theorem built_run {t : TypeId} {parts : Array (Nat × Operand)} (hop : o.op = .build t parts) {cells : Array Value} (h : P.built t (parts.toList.map fun (i, x) => (i, a.eval x)) = some cells) :
    (execOp a.eval o).run P w = .ok (.value (.agg cells)) w := by
  simp only [execOp, hop]
  refine run_vmap ?_
  refine run_build w t _ cells ?_
  rw [Array.toList_map]
  exact h

theorem nilled_rep {vs : List Value} {z : List D} (h : AllRep (Rep g) vs z) (hn : ∀ (j : Nat) (v : Value) (d : D), vs[j]? = some v → z[j]? = some d → ownOK P d = true ∧ ∀ es e, d = .sl es (some e) → es = [] ∧ v = .slice none 0 0) : AllRep (Rep g) vs (z.map D.nilled) := by
  refine ⟨by simpa using h.1, fun i v d h1 h2 => ?_⟩
  simp only [List.getElem?_map, Option.map_eq_some_iff] at h2
  obtain ⟨d0, h2, rfl⟩ := h2
  have hr := h.2 i v d0 h1 h2
  obtain ⟨_, hk⟩ := hn i v d0 h1 h2
  unfold D.nilled
  split
  · obtain ⟨_, rfl⟩ := hk _ _ rfl
    exact .nils _
  · exact hr
theorem nilled_plain {z : List D} (h : z.all D.pure1 = true) : (z.map D.nilled).all D.plain = true := by
  refine List.all_eq_true.2 fun x hx => ?_
  obtain ⟨y, hy, rfl⟩ := List.mem_map.1 hx
  have := plain_of_pure1 (List.all_eq_true.1 h y hy)
  unfold D.nilled
  split
  · rfl
  · exact this

theorem snd_buildS {t : TypeId} {parts : Array (Nat × Operand)} (hop : o.op = .build t parts) {z : List D} (hz : zeroOf P t = some z) {fs : Array Field} (ht : P.underlying t = some (.struct fs))
    (hsz : fieldsSized P fs = true) {ps : List (Nat × Nat × X)} (hps : partsX P fs parts.toList = some ps)
    (he : evalOp cal q o.dst (.build (z.map D.nilled) ps) fr σ = some (d, fr', σ')) (i : Inv P g w fr σ a) : Snd P g w a o fr' σ' d := by
  simp only [evalOp, Option.map_eq_some_iff] at he
  obtain ⟨r, h1, h2⟩ := he
  cases h2
  obtain ⟨zv, z1, z2, z3, z4⟩ := zeroOf_ok (g := g) hz
  obtain ⟨places, p1, p2⟩ := places_ok hsz
  obtain ⟨out, o1, o2, o3⟩ := fill_run (g := g) _ _ zv.cells (z.map D.nilled) r (partsX_rep i.s p2 hps) (nilled_rep z2 z4) (nilled_plain z3) h1
  refine snd_plain i (v := .agg out) (built_run hop ?_) (agg_of o2 o3) rfl rfl
  cases hi : P.info? t with
  | none => simp [hi] at z1
  | some it =>
    have hz' : it.zero = some zv := by simpa [hi] using z1
    simp only [Program.built, hi, ht, hz', p1]
    rw [← o1]
    congr 1
    funext x
    simp

theorem snd_buildA {t e : TypeId} {n : Nat} {parts : Array (Nat × Operand)} (hop : o.op = .build t parts) {z : List D} (hz : zeroOf P t = some z) (ht : P.underlying t = some (.array n e))
    {esz : Nat} (hs : sizeT P e = some esz) {ps : List (Nat × Nat × X)} (hps : partsA esz parts.toList = some ps)
    (he : evalOp cal q o.dst (.build (z.map D.nilled) ps) fr σ = some (d, fr', σ')) (i : Inv P g w fr σ a) : Snd P g w a o fr' σ' d := by
  simp only [evalOp, Option.map_eq_some_iff] at he
  obtain ⟨r, h1, h2⟩ := he
  cases h2
  obtain ⟨zv, z1, z2, z3, z4⟩ := zeroOf_ok (g := g) hz
  obtain ⟨out, o1, o2, o3⟩ := fill_run (g := g) _ _ zv.cells (z.map D.nilled) r (partsA_rep i.s esz hps) (nilled_rep z2 z4) (nilled_plain z3) h1
  refine snd_plain i (v := .agg out) (built_run hop ?_) (agg_of o2 o3) rfl rfl
  unfold sizeT at hs
  simp only [Option.map_eq_some_iff] at hs
  obtain ⟨ie, hie, rfl⟩ := hs
  cases hi : P.info? t with
  | none => simp [hi] at z1
  | some it =>
    have hz' : it.zero = some zv := by simpa [hi] using z1
    simp only [Program.built, hi, ht, hz', hie]
    exact o1

/-! loads -/
theorem cellsAt_ok (i : Inv P g w fr σ a) {v : Value} {ad : D} (hr : Rep g v ad) {cs : List D} (h : cellsAt fr σ ad = some cs) :
    ∃ b off, v = .pointer (some ⟨b, off, none⟩) ∧ ∀ (j : Nat) (d : D), cs[j]? = some d → d.plain = true ∧ ∃ u, w.cell? ⟨b, off + j, none⟩ = some u ∧ Rep g u d := by
  unfold cellsAt at h
  split at h
  · cases h
    cases hr with
    | ref b off _ V hI hR hp => exact ⟨b, off, rfl, fun j d hd => ⟨plain_of_pure1 (all_get hp hd), V j, i.h.imm _ _ _ (hI j d hd), hR j d hd⟩⟩
  · rename_i t off
    simp only [Option.map_eq_some_iff] at h
    obtain ⟨cs0, h1, rfl⟩ := h
    cases hr
    obtain ⟨_, sz, arr, ty, b1, b2, b3, b4⟩ := i.s.boxes t cs0 (boxAt_some h1)
    refine ⟨_, _, rfl, fun j d hd => ?_⟩
    rw [List.getElem?_drop] at hd
    obtain ⟨p1, u, p2, p3, p4⟩ := b4 _ d hd
    exact ⟨p1, u, by simp [World.cell?, b1, p2], p3⟩
  · rename_i ob off
    split at h
    · rename_i cs0 h1
      cases h
      cases hr
      obtain ⟨_, arr, ty, b1, b2, b3, b4⟩ := i.h.cells ob cs0 h1
      refine ⟨_, _, rfl, fun j d hd => ?_⟩
      rw [List.getElem?_drop] at hd
      obtain ⟨p1, u, p2, p3, p4⟩ := b4 _ d hd
      exact ⟨p1, u, by simp [World.cell?, b1, p2], p3⟩
    · cases h
  · cases h

theorem loadAgg_run {t : TypeId} {sz b off : Nat} {cs : List D} (hagg : isAggT P t = some true) (hsz : sizeT P t = some sz) (hle : sz ≤ cs.length)
    (h : ∀ (j : Nat) (d : D), cs[j]? = some d → d.plain = true ∧ ∃ u, w.cell? ⟨b, off + j, none⟩ = some u ∧ Rep g u d) :
    ∃ v, (loadVar t ⟨b, off, none⟩).run P w = .ok v w ∧ Rep g v (.agg ((cs.take sz).map D.strip)) := by
  have hex : ∀ j, j < sz → ∃ u, w.cell? ⟨b, off + j, none⟩ = some u ∧ Rep g u (cs.getD j .junk) := fun j hj => by
    obtain ⟨_, u, h1, h2⟩ := h j _ (List.getElem?_eq_getElem (show j < cs.length by omega))
    exact ⟨u, h1, by simpa [List.getD, List.getElem?_eq_getElem (show j < cs.length by omega)] using h2⟩
  let f : Nat → Value := fun j => (w.cell? ⟨b, off + j, none⟩).getD undef
  have hf : ∀ j, j < sz → w.cell? ((⟨b, off, none⟩ : Addr).add j) = some (f j) := fun j hj => by
    obtain ⟨u, h1, _⟩ := hex j hj
    rw [Addr.add_lit]
    simp [f, h1]
  refine ⟨.agg ((List.range sz).map f).toArray, ?_, ?_⟩
  · unfold loadVar
    rw [run_bo (isAgg_run hagg)]
    simp only [if_true]
    rw [run_bo (size_run hsz), run_bo (run_loadCells w _ sz f hf)]
    rfl
  · refine .agg _ _ (by simp; omega) (fun j v e h1 h2 => ?_) ?_
    · simp only [List.getElem?_map, Option.map_eq_some_iff] at h1 h2
      obtain ⟨k, hk, rfl⟩ := h1
      obtain ⟨e0, he0, rfl⟩ := h2
      have hkj := List.getElem?_range (n := sz) (i := j) (by
        have := (List.getElem?_eq_some_iff.1 hk).1
        simpa using this)
      rw [hkj] at hk
      cases hk
      have hj : j < sz := by
        have := (List.getElem?_eq_some_iff.1 hkj).1
        simpa using this
      rw [List.getElem?_take, if_pos hj] at he0
      obtain ⟨_, u, q1, q2⟩ := h j e0 he0
      simp only [f, q1, Option.getD_some]
      exact q2.strip
    · refine List.all_eq_true.2 fun x hx => ?_
      obtain ⟨y, hy, rfl⟩ := List.mem_map.1 hx
      rw [plain_strip]
      obtain ⟨k, hk⟩ := List.mem_iff_getElem?.1 (List.mem_of_mem_take hy)
      exact (h k y hk).1

theorem load1_run {t : TypeId} {b off : Nat} {u : Value} (hagg : isAggT P t = some false) (h : w.cell? ⟨b, off, none⟩ = some u) : (loadVar t ⟨b, off, none⟩).run P w = .ok u w := by
  unfold loadVar
  rw [run_bo (isAgg_run hagg)]
  simp only [Bool.false_eq_true, if_false]
  rw [run_load, h]

theorem snd_load {t : TypeId} {x : Operand} (hop : o.op = .load t x) {agg : Bool} (hagg : isAggT P t = some agg) {sz : Nat} (hsz : sizeT P t = some sz) {x' : X} (hX : compX x = some x')
    (he : evalOp cal q o.dst (.load agg sz x' false) fr σ = some (d, fr', σ')) (i : Inv P g w fr σ a) : Snd P g w a o fr' σ' d := by
  have hv := (val_ok i.s hX).1
  have hrun : ∀ b off u, a.eval x = .pointer (some ⟨b, off, none⟩) → (loadVar t ⟨b, off, none⟩).run P w = .ok u w → (execOp a.eval o).run P w = .ok (.value u) w := fun b off u hb hl => by
    simp only [execOp, hop, hb]
    refine run_vmap ?_
    unfold Instr.loadAt
    rw [run_bo (show (Instr.sureAddr (Value.pointer (some ⟨b, off, none⟩))).run P w = .ok ⟨b, off, none⟩ w from rfl)]
    exact hl
  simp only [evalOp] at he
  split at he
  · cases he
  · rename_i cs hcs
    obtain ⟨b, off, h1, h2⟩ := cellsAt_ok i hv hcs
    split at he
    · rename_i ha
      subst ha
      split at he
      · rename_i hle
        cases he
        obtain ⟨v, r1, r2⟩ := loadAgg_run hagg hsz hle h2
        exact snd_plain i (hrun b off v h1 r1) r2 rfl rfl
      · cases he
    · rename_i ha
      have ha' : agg = false := by simpa using ha
      subst ha'
      split at he
      · cases he
      · rename_i e rest
        simp only [Bool.false_eq_true, if_false] at he
        cases he
        obtain ⟨p1, u, p2, p3⟩ := h2 0 e rfl
        exact snd_plain i (hrun b off u h1 (load1_run hagg p2)) p3.strip (strip_strip _) (by rw [notL_strip]; exact notL_of_plain p1)

/-! stores -/
def noFr : Fr := { slots := [], boxes := [], defers := [] }

theorem Inv.writeBox (i : Inv P g w fr σ a) {s : Nat} {cs cs' : List D} (hb : fr.boxes[s]? = some (some cs)) (k : Keep g w g w' (fun b => b = g.β s))
    (himm : ∀ (b off : Nat) (v : Value), g.I b off = some v → w'.cell? ⟨b, off, none⟩ = some v) (hnew : ∃ sz, Blk P g w' (g.β s) sz (.bbuf s) cs') : Inv P g w' (fr.setBox s (some cs')) σ a := by
  obtain ⟨ho, _⟩ := i.s.boxes s cs hb
  have hC : ∀ b, b = g.β s → ¬ claims noFr σ (g.ω b) := by
    rintro b rfl
    rw [ho]
    rintro ⟨cs, h⟩
    simp [noFr] at h
  refine ⟨⟨himm, i.h.n, i.h.cells_keep k hC, i.h.maps_keep k hC⟩, ⟨by simpa [Fr.setBox] using i.s.size, by simpa [Fr.setBox] using i.s.blen, fun t e ht => ?_, fun t cs1 ht => ?_⟩, i.d⟩
  · obtain ⟨v, q1, q2, q3, q4⟩ := i.s.slots t e ht
    refine ⟨v, q1, q2, q3.keep k (fun b es e' _ hb' => by rw [hb', ho]; simp), fun s' off hl => ?_⟩
    obtain ⟨cs0, h0⟩ := q4 s' off hl
    simp only [Fr.setBox]
    rw [list_set_get]
    split
    · exact ⟨cs', rfl⟩
    · exact ⟨cs0, h0⟩
  · simp only [Fr.setBox] at ht
    rw [list_set_get] at ht
    split at ht
    · rename_i hc
      obtain ⟨rfl, _⟩ := hc
      cases ht
      exact ⟨ho, hnew⟩
    · rename_i hc
      obtain ⟨h1, sz, h2⟩ := i.s.boxes t cs1 ht
      have hne : g.β t ≠ g.β s := fun e => by
        rw [e, ho] at h1
        cases h1
        exact hc ⟨rfl, (List.getElem?_eq_some_iff.1 hb).1⟩
      exact ⟨h1, sz, h2.keep k hne (fun j es e hj b hb' => by rw [hb', ho]; simp)⟩

theorem Inv.writeObj (i : Inv P g w fr σ a) {ob : Nat} {cs cs' : List D} (hb : σ[ob]? = some (.cells cs)) (k : Keep g w g w' (fun b => b = g.μ ob))
    (himm : ∀ (b off : Nat) (v : Value), g.I b off = some v → w'.cell? ⟨b, off, none⟩ = some v) (hnew : Blk P g w' (g.μ ob) (g.sz ob) (.obuf ob) cs') : Inv P g w' fr (σ.set ob (.cells cs')) a := by
  obtain ⟨ho, _⟩ := i.h.cells ob cs hb
  have hC : ∀ b, b = g.μ ob → ¬ claims fr [] (g.ω b) := by
    rintro b rfl
    rw [ho]
    rintro (⟨cs, h⟩ | ⟨es, h⟩) <;> simp at h
  refine ⟨⟨himm, by simpa using i.h.n, fun o1 cs1 h1 => ?_, fun o1 es1 h1 => ?_⟩, i.s.keep k hC (fun _ _ _ => rfl), i.d⟩
  · rw [list_set_get] at h1
    split at h1
    · rename_i hc
      obtain ⟨rfl, _⟩ := hc
      cases h1
      exact ⟨ho, hnew⟩
    · rename_i hc
      obtain ⟨h2, h3⟩ := i.h.cells o1 cs1 h1
      have hne : g.μ o1 ≠ g.μ ob := fun e => by
        rw [e, ho] at h2
        cases h2
        exact hc ⟨rfl, (List.getElem?_eq_some_iff.1 hb).1⟩
      exact ⟨h2, h3.keep k hne (fun j es e hj b hb' => by rw [hb', ho]; simp)⟩
  · rw [list_set_get] at h1
    split at h1
    · cases h1
    · rename_i hc
      obtain ⟨h2, ents, clock, h3, h4⟩ := i.h.maps o1 es1 h1
      have hne : g.μ o1 ≠ g.μ ob := fun e => by
        rw [e, ho] at h2
        cases h2
        exact hc ⟨rfl, (List.getElem?_eq_some_iff.1 hb).1⟩
      exact ⟨h2, ents, clock, ((k.blk _ (lt_of_heap h3) hne).1).trans h3, h4⟩

theorem setRow_heap (w : World) (b c : Nat) (arr new : Array Value) (ty : TypeId) (hb : w.heap[b]? = some (.cells arr ty (0, 0))) :
    (w.setRow b new).heap[c]? = if c = b then some (.cells new ty (0, 0)) else w.heap[c]? := by
  simp only [World.setRow, Array.getElem?_modify]
  by_cases h : b = c
  · subst h
    simp [hb]
  · rw [if_neg h, if_neg (fun e => h e.symm)]

theorem setRow_size (w : World) (b : Nat) (new : Array Value) : (w.setRow b new).heap.size = w.heap.size := by simp [World.setRow]

theorem Keep.setRow {b : Nat} {arr new : Array Value} {ty : TypeId} (hb : w.heap[b]? = some (.cells arr ty (0, 0))) : Keep g w g (w.setRow b new) (fun x => x = b) :=
  ⟨.refl g, by rw [setRow_size]; exact Nat.le_refl _, fun c _ hc => ⟨by rw [setRow_heap w b c arr new ty hb, if_neg hc], rfl, fun _ => rfl⟩⟩

theorem imm_setRow {σ : St} (h : HInv P g w σ) {b : Nat} {arr new : Array Value} {ty : TypeId} (hb : w.heap[b]? = some (.cells arr ty (0, 0))) (hI : ∀ off, g.I b off = none) :
    ∀ (c off : Nat) (v : Value), g.I c off = some v → (w.setRow b new).cell? ⟨c, off, none⟩ = some v := fun c off v hv => by
  have hne : c ≠ b := by rintro rfl; rw [hI] at hv; cases hv
  have h1 := h.imm c off v hv
  simp only [World.cell?] at h1 ⊢
  rw [setRow_heap w b c arr new ty hb, if_neg hne]
  exact h1

theorem seg_setAt {α : Type} : ∀ (vs l : List α) (off : Nat), off + vs.length ≤ l.length → l.take off ++ vs ++ l.drop (off + vs.length) = setAt l off vs := by
  intro vs l off h
  apply List.ext_getElem?
  intro k
  rw [setAt_get vs l off h]
  by_cases h1 : k < off
  · rw [if_neg (by omega), List.append_assoc, List.getElem?_append_left (by simp; omega), List.getElem?_take, if_pos h1]
  · rw [List.append_assoc, List.getElem?_append_right (by simp; omega)]
    simp only [List.length_take, show min off l.length = off by omega]
    by_cases h2 : k < off + vs.length
    · rw [if_pos ⟨by omega, h2⟩, List.getElem?_append_left (by omega)]
    · rw [if_neg (by omega), List.getElem?_append_right (by omega), List.getElem?_drop]
      congr 1
      omega

/-- A store into a block that is the call's own. -/
theorem store_run {t : TypeId} {sz b off : Nat} {v : Value} {arr : Array Value} {ty : TypeId} (hsz : sizeT P t = some sz) (hb : w.heap[b]? = some (.cells arr ty (0, 0))) (hv : v.cells.size = sz) (hle : off + sz ≤ arr.size)
    (h1 : ∀ u ∈ v.cells.toList, u.oneCell' = true) : (storeVar t ⟨b, off, none⟩ v).run P w = .ok () (w.setRow b (setAt arr.toList off v.cells.toList).toArray) := by
  unfold storeVar
  rw [run_bo (size_run hsz)]
  rw [if_neg (by omega)]
  have := run_storeCells_at P b off ty v.cells.toList 0 arr w hb (by simp; omega) h1
  rw [Nat.add_zero] at this
  rw [seg_setAt _ _ _ (by simp; omega)] at this
  exact this

theorem blk_store {g0 : Gh} {b sz off : Nat} {tag : Nat → Tag} {cs : List D} {v : Value} {ds : List D} (h : Blk P g0 w b sz tag cs) (hle : off + ds.length ≤ cs.length) (hcells : AllRep (Rep g0) v.cells.toList ds) (hp : ds.all D.plain = true)
    (hown : ∀ (j : Nat) (u : Value) (e : D), v.cells.toList[j]? = some u → ds[j]? = some e → Own P g0 w (tag (off + j)) u e) (htag : ∀ j, g0.ω b ≠ tag j) :
    ∃ arr ty, w.heap[b]? = some (.cells arr ty (0, 0)) ∧ off + ds.length ≤ arr.size ∧ (∀ off, g0.I b off = none) ∧
      Blk P g0 (w.setRow b (setAt arr.toList off v.cells.toList).toArray) b sz tag (setAt cs off ds) := by
  obtain ⟨arr, ty, h1, h2, h3, h4⟩ := h
  have hlen : cs.length ≤ arr.size := by
    rcases Nat.lt_or_ge arr.size cs.length with hlt | hge
    · exfalso
      obtain ⟨_, v, hv, _⟩ := h4 arr.size _ (List.getElem?_eq_getElem hlt)
      simp at hv
    · exact hge
  have hvl : v.cells.toList.length = ds.length := hcells.1
  refine ⟨arr, ty, h1, by omega, h3, (setAt arr.toList off v.cells.toList).toArray, ty, by rw [setRow_heap w b b arr _ ty h1, if_pos rfl], by simp [setAt_length, h2], h3, fun j e hj => ?_⟩
  rw [setAt_get ds cs off hle] at hj
  have hk : Keep g0 w g0 (w.setRow b (setAt arr.toList off v.cells.toList).toArray) (fun x => x = b) := Keep.setRow h1
  simp only [List.getElem?_toArray]
  rw [setAt_get v.cells.toList arr.toList off (by simp only [hvl, Array.length_toList]; omega), hvl]
  split at hj
  · rename_i hc
    rw [if_pos hc]
    obtain ⟨u, hu, hr⟩ := hcells.get hj
    refine ⟨all_get hp hj, u, hu, hr, ?_⟩
    have := hown (j - off) u e hu hj
    rw [show off + (j - off) = j by omega] at this
    exact this.keep hk (fun b' es e' _ hb' => by rw [hb']; exact htag j)
  · rename_i hc
    rw [if_neg hc]
    obtain ⟨q1, u, q2, q3, q4⟩ := h4 j e hj
    exact ⟨q1, u, by simpa using q2, q3, q4.keep hk (fun b' es e' _ hb' => by rw [hb']; exact htag j)⟩

end
end Go.Abs
