/-
  A part of AnalyzeFew's proof.
-/
import Derived.Test.YthbfgdbbnapjeaaGreatInv
import Derived.Great.BuildSlice
import Derived.DeepKeys
import Derived.MapKept
set_option linter.unusedVariables false
set_option linter.unusedSimpArgs false
namespace Go.Abs
open Go Go.RowKit
section
variable {P : Program} {g g' : Gh} {w w' : World} {fr fr' : Fr} {σ σ' : St} {a : Act} {o : Oper} {d : D} {cal : Cal} {q : Bool} {mu : List Nat} {ops : List Oper}
theorem Ext.setRow {b : Nat} {arr new : Array Value} {ty : TypeId} (hb : w.heap[b]? = some (.cells arr ty (0, 0))) (hm : (g.ω b).mine = true) : Ext g w g (w.setRow b new) :=
 Ext.of_keep (Keep.setRow hb) (fun c hc _ => by rw [hc]; exact hm) rfl rfl rfl
theorem snd_store {t : TypeId} {x y : Operand} (hop : o.op = .store t x y) {sz : Nat} (hsz : sizeT P t = some sz) {x' y' : X} (hX : compX x = some x') (hY : compX y = some y')
  (he : evalOp cal q o.dst (.store sz x' y') fr σ = some (d, fr', σ')) (i : Inv P g w fr σ a) : Snd P g w a o fr' σ' d := by
 obtain ⟨hv, _, hl⟩ := val_ok i.s hX
 simp only [evalOp] at he
 split at he
 ·rename_i hc
  obtain ⟨c1, c2⟩ := hc
  simp only [Option.map_eq_some_iff] at he
  obtain ⟨⟨fr2, σ2⟩, h1, h2⟩ := he
  cases h2
  intro next Q hn
  have hrun : ∀ b off w', a.eval x = .pointer (some ⟨b, off, none⟩) → (storeVar t ⟨b, off, none⟩ (a.eval y)).run P w = .ok () w' → (execOp a.eval o).run P w = .ok .skip w' := fun b off w' hb hl => by
   simp only [execOp, hop, hb]
   refine run_umap ?_
   unfold Instr.storeAt
   rw [run_bo (show (Instr.sureAddr (Value.pointer (some ⟨b, off, none⟩))).run P w = .ok ⟨b, off, none⟩ w from rfl)]
   exact hl
  unfold storeAt at h1
  split at h1
  ·rename_i t' off hx
   obtain ⟨g1, e1, e2, e3, e4, e5, e6, e7, e8, e9, e10⟩ := take_ok i hY (.bbuf t' off)
   rw [hx] at hv
   split at h1
   ·rename_i cs hcs
    split at h1
    ·rename_i hle
     cases h1
     have hbx := boxAt_some hcs
     obtain ⟨hω, bsz, hblk⟩ := e2.s.boxes t' cs hbx
     have c2' := raw_plain c2
     have hcells := e3.raws c2
     obtain ⟨arr, ty, k1, k2, k3, k4⟩ := blk_store hblk hle hcells c2' (fun j u e hj hej => own_raw (tag := fun j => .bbuf t' (off + j)) e3 e4 c2 j u e hj hej) (fun j => by rw [hω]; simp)
     have hpv : a.eval x = .pointer (some ⟨g1.β t', off, none⟩) := by
      rw [e9]
      generalize a.eval x = vx at hv
      cases hv
      rfl
     have hst := store_run (P := P) hsz k1 (v := a.eval y) (off := off) (by rw [← c1, ← raw_len, ← hcells.1]; simp) (by have := raw_len (fr.take y').1; omega) (fun u hu => by
      obtain ⟨k, hk⟩ := List.mem_iff_getElem?.1 hu
      have hkl : k < (fr.take y').1.raw.length := by rw [← hcells.1]; exact (List.getElem?_eq_some_iff.1 hk).1
      exact (hcells.2 k u _ hk (List.getElem?_eq_getElem hkl)).one (all_get c2' (List.getElem?_eq_getElem hkl)))
     have inv := e2.writeBox hbx (Keep.setRow k1) (imm_setRow e2.h k1 k3) ⟨bsz, k4⟩
     refine wp_skipOp (hrun _ _ _ hpv hst) (hn _ _ g1 (e1.trans (Ext.setRow k1 (by rw [hω]; rfl))) (inv.put o.dst (.junk _) (fun _ _ => .of_ne rfl) (fun s off e => by cases e)))
    ·cases h1
   ·cases h1
  ·rename_i ob off hx
   obtain ⟨g1, e1, e2, e3, e4, e5, e6, e7, e8, e9, e10⟩ := take_ok i hY (.obuf ob off)
   rw [hx] at hv
   split at h1
   ·rename_i cs hcs
    split at h1
    ·rename_i hle
     cases h1
     obtain ⟨hω, hblk⟩ := e2.h.cells ob cs hcs
     have c2' := raw_plain c2
     have hcells := e3.raws c2
     obtain ⟨arr, ty, k1, k2, k3, k4⟩ := blk_store hblk hle hcells c2' (fun j u e hj hej => own_raw (tag := fun j => .obuf ob (off + j)) e3 e4 c2 j u e hj hej) (fun j => by rw [hω]; simp)
     have hpv : a.eval x = .pointer (some ⟨g1.μ ob, off, none⟩) := by
      have hlt : ob < g.n := by rw [i.h.n]; exact (List.getElem?_eq_some_iff.1 hcs).1
      rw [e1.le.μ ob hlt]
      generalize a.eval x = vx at hv
      cases hv
      rfl
     have hst := store_run (P := P) hsz k1 (v := a.eval y) (off := off) (by rw [← c1, ← raw_len, ← hcells.1]; simp) (by have := raw_len (fr.take y').1; omega) (fun u hu => by
      obtain ⟨k, hk⟩ := List.mem_iff_getElem?.1 hu
      have hkl : k < (fr.take y').1.raw.length := by rw [← hcells.1]; exact (List.getElem?_eq_some_iff.1 hk).1
      exact (hcells.2 k u _ hk (List.getElem?_eq_getElem hkl)).one (all_get c2' (List.getElem?_eq_getElem hkl)))
     have inv := e2.writeObj hcs (Keep.setRow k1) (imm_setRow e2.h k1 k3) k4 (fun arr2 ty2 h2 => by
      rw [k1] at h2
      cases h2
      exact ⟨_, by rw [setRow_heap w _ _ _ _ _ k1, if_pos rfl]⟩)
     refine wp_skipOp (hrun _ _ _ hpv hst) (hn _ _ g1 (e1.trans (Ext.setRow k1 (by rw [hω]; rfl))) (inv.put o.dst (.junk _) (fun _ _ => .of_ne rfl) (fun s off e => by cases e)))
    ·cases h1
   ·cases h1
  ·cases h1
 ·cases he
theorem Blk.weak1 {b sz : Nat} {tag : Nat → Tag} {cs : List D} (h : Blk P g w b sz tag cs) {off : Nat} {d : D} (hd : cs[off]? = some d) : Blk P g w b sz tag (cs.set off d.strip) := by
 obtain ⟨arr, ty, h1, h2, h3, h4⟩ := h
 refine ⟨arr, ty, h1, h2, h3, fun j e hj => ?_⟩
 rw [list_set_get] at hj
 split at hj
 ·rename_i hc
  obtain ⟨rfl, _⟩ := hc
  cases hj
  obtain ⟨q1, u, q2, q3, q4⟩ := h4 j d hd
  exact ⟨by rw [plain_strip]; exact q1, u, q2, q3.strip, .of_strip⟩
 ·exact h4 j e hj
theorem Keep.refl (g : Gh) (w : World) (C : Nat → Prop) : Keep g w g w C := ⟨.refl g, Nat.le_refl _, fun _ _ _ => ⟨rfl, rfl, fun _ => rfl⟩⟩
theorem snd_loadSteal {t : TypeId} {x : Operand} (hop : o.op = .load t x) (hagg : isAggT P t = some false) {sz : Nat} {x' : X} (hX : compX x = some x')
  (he : evalOp cal q o.dst (.load false sz x' true) fr σ = some (d, fr', σ')) (i : Inv P g w fr σ a) : Snd P g w a o fr' σ' d := by
 obtain ⟨hv, _, hlp⟩ := val_ok i.s hX
 have hrun : ∀ b off u, a.eval x = .pointer (some ⟨b, off, none⟩) → w.cell? ⟨b, off, none⟩ = some u → (execOp a.eval o).run P w = .ok (.value u) w := fun b off u hb hl => by
  simp only [execOp, hop, hb]
  refine run_vmap ?_
  unfold Instr.loadAt
  rw [run_bo (show (Instr.sureAddr (Value.pointer (some ⟨b, off, none⟩))).run P w = .ok ⟨b, off, none⟩ w from rfl)]
  exact load1_run hagg hl
 simp only [evalOp] at he
 split at he
 ·cases he
 ·rename_i cs hcs
  obtain ⟨b, off0, h1, h2⟩ := cellsAt_ok i hv hcs
  simp only [Bool.false_eq_true, if_false] at he
  split at he
  ·cases he
  ·rename_i e rest
   simp only [if_true, Option.map_eq_some_iff] at he
   obtain ⟨⟨fr2, σ2⟩, k1, k2⟩ := he
   cases k2
   obtain ⟨p1, u, p2, p3⟩ := h2 0 d rfl
   intro next Q hn
   refine wp_value (hrun b off0 u h1 p2) ?_
   unfold storeAt at k1
   split at k1
   ·rename_i t' off hx
    rw [hx] at hcs hv
    simp only [cellsAt, Option.map_eq_some_iff] at hcs
    obtain ⟨cs0, q1, q2⟩ := hcs
    rw [q1] at k1
    simp only at k1
    split at k1
    ·rename_i hle
     cases k1
     have hbx := boxAt_some q1
     obtain ⟨hω, bsz, hblk⟩ := i.s.boxes t' cs0 hbx
     have hd0 : cs0[off]? = some d := by
      have : (cs0.drop off)[0]? = some d := by rw [q2]; rfl
      rwa [List.getElem?_drop, Nat.add_zero] at this
     have i1 := i.writeBox hbx (Keep.refl g w _) i.h.imm ⟨bsz, hblk.weak1 hd0⟩
     let f : Tag → Tag := fun s => if s = .bbuf t' off then (match o.dst with | some k => .sbuf k | none => .sbuf 0) else s
     have hfne : ∀ s, f s ≠ s → s = .bbuf t' off := fun s h => by
      by_cases hs : s = .bbuf t' off
      ·exact hs
      ·simp [f, hs] at h
     have i2 := i1.rename f (fun s hs => by
      rw [hfne s hs]
      rintro ⟨cs1, es, e1, r1, r2⟩
      simp only [Fr.setBox] at r1
      rw [list_set_get] at r1
      split at r1
      ·cases r1
       rw [list_set_get] at r2
       split at r2
       ·cases d <;> simp [D.strip] at r2
       ·rename_i hc
        exact hc ⟨rfl, (List.getElem?_eq_some_iff.1 hd0).1⟩
      ·rename_i hc
       exact hc ⟨rfl, (List.getElem?_eq_some_iff.1 hbx).1⟩)
     obtain ⟨arr, ty, b1, b2, b3, b4⟩ := hblk
     obtain ⟨_, u', m1, m2, m3⟩ := b4 off d hd0
     have hbo : b = g.β t' ∧ off0 = off := by
      generalize a.eval x = vx at hv h1
      cases hv
      cases h1
      exact ⟨rfl, rfl⟩
     obtain ⟨rfl, rfl⟩ := hbo
     have hu : u = u' := by
      simp only [World.cell?, b1, Option.isSome_none, Bool.false_eq_true, if_false, Nat.add_zero, m1, Option.some.injEq] at p2
      exact p2.symm
     subst hu
     refine hn _ _ _ (Ext.rename g w f (fun s hs => by rw [hfne s hs]; rfl)) (i2.put o.dst (p3.rename f) (fun k hk => ?_) (fun s off e => by subst e; simp [D.plain] at p1))
     have := m3.rename f
     simpa [f, hk] using this
    ·cases k1
   ·rename_i ob off hx
    rw [hx] at hcs hv
    simp only [cellsAt] at hcs
    split at k1
    ·rename_i cs0 q1
     rw [q1] at hcs
     simp only [Option.some.injEq] at hcs
     split at k1
     ·rename_i hle
      cases k1
      obtain ⟨hω, hblk⟩ := i.h.cells ob cs0 q1
      have hd0 : cs0[off]? = some d := by
       have : (cs0.drop off)[0]? = some d := by rw [hcs]; rfl
       rwa [List.getElem?_drop, Nat.add_zero] at this
      have i1 := i.writeObj q1 (Keep.refl g w _) i.h.imm (hblk.weak1 hd0) (fun arr2 ty2 h2 => ⟨arr2, h2⟩)
      let f : Tag → Tag := fun s => if s = .obuf ob off then (match o.dst with | some k => .sbuf k | none => .sbuf 0) else s
      have hfne : ∀ s, f s ≠ s → s = .obuf ob off := fun s h => by
       by_cases hs : s = .obuf ob off
       ·exact hs
       ·simp [f, hs] at h
      have i2 := i1.rename f (fun s hs => by
       rw [hfne s hs]
       rintro ⟨cs1, es, e1, r1, r2⟩
       rw [list_set_get] at r1
       split at r1
       ·cases r1
        rw [list_set_get] at r2
        split at r2
        ·cases d <;> simp [D.strip] at r2
        ·rename_i hc
         exact hc ⟨rfl, (List.getElem?_eq_some_iff.1 hd0).1⟩
       ·rename_i hc
        exact hc ⟨rfl, (List.getElem?_eq_some_iff.1 q1).1⟩)
      obtain ⟨arr, ty, b1, b2, b3, b4⟩ := hblk
      obtain ⟨_, u', m1, m2, m3⟩ := b4 off d hd0
      have hbo : b = g.μ ob ∧ off0 = off := by
       generalize a.eval x = vx at hv h1
       cases hv
       cases h1
       exact ⟨rfl, rfl⟩
      obtain ⟨rfl, rfl⟩ := hbo
      have hu : u = u' := by
       simp only [World.cell?, b1, Option.isSome_none, Bool.false_eq_true, if_false, Nat.add_zero, m1, Option.some.injEq] at p2
       exact p2.symm
      subst hu
      refine hn _ _ _ (Ext.rename g w f (fun s hs => by rw [hfne s hs]; rfl)) (i2.put o.dst (p3.rename f) (fun k hk => ?_) (fun s off e => by subst e; simp [D.plain] at p1))
      have := m3.rename f
      simpa [f, hk] using this
     ·cases k1
    ·cases k1
   ·cases k1
end
end Go.Abs

namespace Go.Abs
open Go Go.RowKit
section
variable {P : Program} {g g' : Gh} {w w' : World} {fr fr' : Fr} {σ σ' : St} {a : Act} {o : Oper} {d : D} {cal : Cal} {q : Bool} {mu : List Nat} {ops : List Oper}
structure Elts (g : Gh) (vs : List Value) (es : List (List D)) (esz : Nat) : Prop where
 len : vs.length = es.length * esz
 each : ∀ e ∈ es, e.length = esz ∧ e.all D.pure1 = true
 rep : ∀ (i : Nat) (e : List D) (j : Nat) (d : D), es[i]? = some e → e[j]? = some d → ∃ u, vs[i * esz + j]? = some u ∧ Rep g u d
theorem idx_div {i j esz : Nat} (h : j < esz) : (i * esz + j) / esz = i ∧ (i * esz + j) % esz = j := by
 constructor
 ·rw [Nat.mul_comm, Nat.mul_add_div om, Nat.div_eq_of_lt h, Nat.add_zero]
 ·rw [Nat.mul_comm, Nat.mul_add_mod, Nat.mod_eq_of_lt h]
theorem idx_lt {i j n esz : Nat} (hi : i < n) (hj : j < esz) : i * esz + j < n * esz := by
 have : (i + 1) * esz ≤ n * esz := Nat.mul_le_mul_right _ hi
 rw [Nat.add_mul] at this
 omega
theorem get_lt {α : Type} {l : List α} {i : Nat} {x : α} (h : l[i]? = some x) : i < l.length := (List.getElem?_eq_some_iff.1 h).1
theorem Elts.cell {vs : List Value} {es : List (List D)} {esz : Nat} (h : Elts g vs es esz) {k : Nat} {u : Value} (hu : vs[k]? = some u) (hz : 0 < esz) : ∃ e d, es[k / esz]? = some e ∧ e[k % esz]? = some d ∧ d.pure1 = true ∧ Rep g u d := by
 have hk : k < es.length * esz := by rw [← h.len]; exact get_lt hu
 have h1 : k / esz < es.length := Nat.div_lt_of_lt_mul (by rw [Nat.mul_comm]; exact hk)
 have he := List.getElem?_eq_getElem h1
 obtain ⟨q1, q2⟩ := h.each _ (List.mem_of_getElem? he)
 have h2 : k % esz < (es[k / esz]).length := by rw [q1]; exact Nat.mod_lt _ hz
 have hd := List.getElem?_eq_getElem h2
 obtain ⟨u', h3, h4⟩ := h.rep _ _ _ _ he hd
 have hkk : k / esz * esz + k % esz = k := by rw [Nat.mul_comm]; exact Nat.div_add_mod k esz
 rw [hkk, hu] at h3
 cases h3
 exact ⟨_, _, he, hd, all_get q2 hd, h4⟩
theorem Elts.one {vs : List Value} {es : List (List D)} {esz : Nat} (h : Elts g vs es esz) (hz : 0 < esz) : ∀ u ∈ vs, u.oneCell' = true := fun u hu => by
 obtain ⟨k, hk⟩ := List.mem_iff_getElem?.1 hu
 obtain ⟨e, d, _, _, h1, h2⟩ := h.cell hk hz
 exact h2.one (plain_of_pure1 h1)
theorem Elts.append {vs us : List Value} {es ys : List (List D)} {esz : Nat} (h : Elts g vs es esz) (k : Elts g us ys esz) : Elts g (vs ++ us) (es ++ ys) esz := by
 refine ⟨by rw [List.length_append, List.length_append, h.len, k.len, Nat.add_mul], fun e he => ?_, fun i e j d h1 h2 => ?_⟩
 ·rcases List.mem_append.1 he with h1 | h1
  ·exact h.each e h1
  ·exact k.each e h1
 ·have hj : j < esz := by
   have hm := List.mem_append.1 (List.mem_of_getElem? h1)
   rcases hm with hm | hm
   ·rw [← (h.each e hm).1]; exact get_lt h2
   ·rw [← (k.each e hm).1]; exact get_lt h2
  by_cases hi : i < es.length
  ·rw [List.getElem?_append_left hi] at h1
   obtain ⟨u, q1, q2⟩ := h.rep i e j d h1 h2
   exact ⟨u, by rw [List.getElem?_append_left (get_lt q1)]; exact q1, q2⟩
  ·rw [List.getElem?_append_right om] at h1
   obtain ⟨u, q1, q2⟩ := k.rep (i - es.length) e j d h1 h2
   refine ⟨u, ?_, q2⟩
   have hge : es.length * esz ≤ i * esz := Nat.mul_le_mul_right _ om
   rw [List.getElem?_append_right (by rw [h.len]; omega), h.len, ← q1]
   congr 1
   rw [Nat.sub_mul]
   omega
theorem Elts.mono {vs : List Value} {es : List (List D)} {esz : Nat} (h : Elts g vs es esz) (k : g.Le g') : Elts g' vs es esz :=
 ⟨h.len, h.each, fun i e j d h1 h2 => by
  obtain ⟨u, q1, q2⟩ := h.rep i e j d h1 h2
  exact ⟨u, q1, q2.mono k (fun t off x => by subst x; exact absurd (notL_of_pure1 (all_get (h.each e (List.mem_of_getElem? h1)).2 h2)) (by simp [D.notL]))⟩⟩
theorem Elts.rep_sl {vs : List Value} {es : List (List D)} {esz b off cap : Nat} {own : Option Nat} (h : Elts g vs es esz) (hcap : es.length ≤ cap) (hI : ∀ (k : Nat) (u : Value), vs[k]? = some u → g.I b (off + k) = some u) :
  Rep g (.slice (some ⟨b, off, none⟩) es.length cap) (.sl es own) := by
 refine .sl (some ⟨b, off, none⟩) es.length cap b off esz es own (fun i j => vs.getD (i * esz + j) undef) rfl hcap (fun h => by cases h) (fun _ => rfl) h.each (fun i e j d h1 h2 => ?_) (fun i e j d h1 h2 => ?_)
 ·obtain ⟨u, q1, _⟩ := h.rep i e j d h1 h2
  rw [Nat.add_assoc, hI _ u q1]
  simp [List.getD, q1]
 ·obtain ⟨u, q1, q2⟩ := h.rep i e j d h1 h2
  have : vs.getD (i * esz + j) undef = u := by simp [List.getD, q1]
  rw [this]
  exact q2
def Shows (g : Gh) (w : World) (v : Value) (es : List (List D)) (esz : Nat) : Prop :=
 ∃ av c, v = .slice av es.length c ∧ ((av = none ∧ c = 0 ∧ es = []) ∨
  ∃ ad vs, av = some ad ∧ Elts g vs es esz ∧ ∀ (j : Nat) (u : Value), vs[j]? = some u → w.cell? (ad.add j) = some u)
theorem shows_sl (i : HInv P g w σ) {v : Value} {es : List (List D)} {own : Option Nat} (h : Rep g v (.sl es own)) {esz : Nat} (hall : ∀ e ∈ es, e.length = esz) : Shows g w v es esz := by
 cases h with
 | sl av len cap b off esz' _ _ V hl hc hn ha hes hI hR =>
  subst hl
  refine ⟨av, cap, rfl, ?_⟩
  cases av with
  | none =>
   left
   refine ⟨rfl, hn rfl, ?_⟩
   cases es with
   | nil => rfl
   | cons e es => exact absurd (ha (by simp)) (by simp)
  | some ad =>
   right
   by_cases h0 : es = []
   ·subst h0
    exact ⟨ad, [], rfl, ⟨by simp, by simp, by simp⟩, by simp⟩
   ·have had : ad = ⟨b, off, none⟩ := by simpa using ha h0
    subst had
    obtain ⟨e0, he0⟩ := List.exists_mem_of_ne_nil es h0
    have hz : esz' = esz := (hes e0 he0).1.symm.trans (hall e0 he0)
    subst hz
    have key : ∀ i j, i < es.length → j < esz' → ∃ e d, es[i]? = some e ∧ e[j]? = some d := fun i j hi hj => by
     have h1 := List.getElem?_eq_getElem hi
     have h2 := (hes _ (List.mem_of_getElem? h1)).1
     exact ⟨_, _, h1, List.getElem?_eq_getElem (by rw [h2]; exact hj)⟩
    refine ⟨⟨b, off, none⟩, (List.range (es.length * esz')).map fun k => V (k / esz') (k % esz'), rfl, ⟨by simp, hes, fun i e j d h1 h2 => ?_⟩, fun k u hu => ?_⟩
    ·have hj : j < esz' := by rw [← (hes e (List.mem_of_getElem? h1)).1]; exact get_lt h2
     have hlt := idx_lt (get_lt h1) hj
     refine ⟨V i j, ?_, hR i e j d h1 h2⟩
     simp only [List.getElem?_map, List.getElem?_range hlt, Option.map_some]
     rw [(idx_div hj).1, (idx_div hj).2]
    ·simp only [List.getElem?_map, Option.map_eq_some_iff] at hu
     obtain ⟨k', hk, rfl⟩ := hu
     have hlt : k < es.length * esz' := by simpa using get_lt hk
     rw [List.getElem?_range hlt] at hk
     cases hk
     have hz0 : 0 < esz' := by
      rcases Nat.eq_zero_or_pos esz' with h | h
      ·subst h; simp at hlt
      ·exact h
     have h1 : k / esz' < es.length := Nat.div_lt_of_lt_mul (by rw [Nat.mul_comm]; exact hlt)
     obtain ⟨e, d, q1, q2⟩ := key (k / esz') (k % esz') h1 (Nat.mod_lt _ hz0)
     have := i.imm _ _ _ (hI _ e _ d q1 q2)
     rw [Nat.add_assoc, Nat.mul_comm (k / esz'), Nat.div_add_mod] at this
     rw [Addr.add_lit]
     exact this
theorem chunk_get (esz : Nat) : ∀ (n : Nat) (cs : List D) (i : Nat) (e : List D), (chunk esz cs n)[i]? = some e → i < n ∧ e = (cs.drop (i * esz)).take esz
 | 0, cs, i, e, h => by simp [chunk] at h
 | n + 1, cs, i, e, h => by
  cases i with
  | zero => simp [chunk] at h; subst h; simp
  | succ i =>
   simp only [chunk, List.getElem?_cons_succ] at h
   obtain ⟨h1, h2⟩ := chunk_get esz n (cs.drop esz) i e h
   refine ⟨om, ?_⟩
   rw [h2, List.drop_drop]
   congr 2
   rw [Nat.add_mul]
   omega
theorem chunk_length (esz : Nat) : ∀ (n : Nat) (cs : List D), (chunk esz cs n).length = n
 | 0, _ => rfl
 | n + 1, cs => by simp [chunk, chunk_length esz n]
theorem shows_msl (i : HInv P g w σ) {v : Value} {ob off n esz : Nat} (h : Rep g v (.msl ob off n esz)) {es : List (List D)} (he : elems σ (.msl ob off n esz) = some es) : Shows g w v es esz ∧ 0 < esz := by
 simp only [elems] at he
 split at he
 ·rename_i cs hcs
  split at he
  ·rename_i hc
   obtain ⟨c1, c2, c3⟩ := hc
   cases he
   cases h with
   | msl _ _ _ _ cap ho hcp hsz =>
    obtain ⟨_, arr, ty, b1, b2, b3, b4⟩ := i.cells ob cs hcs
    refine ⟨⟨some ⟨g.μ ob, off, none⟩, cap, by rw [chunk_length], .inr ⟨_, (arr.toList.drop off).take (n * esz), rfl, ⟨?_, fun e he => ?_, fun k e j d h1 h2 => ?_⟩, fun k u hu => ?_⟩⟩, c2⟩
    ·have hl : off + n * esz ≤ arr.size := by
      have : n * esz ≤ cap * esz := Nat.mul_le_mul_right _ hcp
      omega
     simp [chunk_length]
     omega
    ·obtain ⟨k, hk⟩ := List.mem_iff_getElem?.1 he
     obtain ⟨h1, rfl⟩ := chunk_get esz n _ k e hk
     have h2 : (k + 1) * esz ≤ n * esz := Nat.mul_le_mul_right _ h1
     rw [Nat.add_mul] at h2
     constructor
     ·simp
      omega
     ·refine List.all_eq_true.2 fun x hx => ?_
      obtain ⟨y, hy, rfl⟩ := List.mem_map.1 (List.mem_of_mem_drop (List.mem_of_mem_take hx))
      rw [pure1_strip]
      exact List.all_eq_true.1 c3 y (List.mem_of_mem_drop hy)
    ·obtain ⟨k1, rfl⟩ := chunk_get esz n _ k e h1
     rw [List.getElem?_take] at h2
     split at h2
     ·rename_i hj
      rw [List.getElem?_drop, List.getElem?_map, List.getElem?_drop, Option.map_eq_some_iff] at h2
      obtain ⟨d0, h2, rfl⟩ := h2
      obtain ⟨_, u, q2, q3, _⟩ := b4 _ d0 h2
      refine ⟨u, ?_, q3.strip⟩
      rw [List.getElem?_take, if_pos (idx_lt k1 hj), List.getElem?_drop]
      simpa using q2
     ·cases h2
    ·rw [List.getElem?_take] at hu
     split at hu
     ·rw [List.getElem?_drop] at hu
      rw [Addr.add_lit]
      simp only [World.cell?, b1]
      simpa using hu
     ·cases hu
  ·cases he
 ·cases he
end
end Go.Abs

namespace Go.Abs
open Go Go.RowKit
section
variable {P : Program} {g g' : Gh} {w w' : World} {fr fr' : Fr} {σ σ' : St} {a : Act} {o : Oper} {d : D} {cal : Cal} {q : Bool} {mu : List Nat} {ops : List Oper}
def Gh.newRow (g : Gh) (b : Nat) (vs : List Value) (tag : Tag) : Gh :=
 { g with I := fun x off => if x = b then vs[off]? else g.I x off, ω := fun x => if x = b then tag else g.ω x }
theorem newRow_ok (i : Inv P g w fr σ a) {arr : Array Value} {e : TypeId} {inf : TypeInfo} {vs : List Value} {es : List (List D)} {cap : Nat} (tag : Tag)
  (hheap : w'.heap = w.heap.push (.cells arr e)) (hos : w'.os = w.os) (htape : w'.tape = w.tape) (hout : w'.output = w.output)
  (hi : P.info? e = some inf) (hz : 0 < inf.size) (hel : Elts g vs es inf.size) (hsz : arr.size = cap * inf.size) (hcap : es.length ≤ cap) (hmax : cap ≤ maxLen) (hpre : arr.toList.take vs.length = vs) :
  ∃ g', Ext g w g' w' ∧ Inv P g' w' fr σ a ∧ Rep g' (.slice (some ⟨w.heap.size, 0, none⟩) es.length cap) (.sl es (some e)) ∧ Own P g' w' tag (.slice (some ⟨w.heap.size, 0, none⟩) es.length cap) (.sl es (some e)) ∧ g'.n = g.n ∧ g'.β = g.β := by
 have hold : ∀ b, b < w.heap.size → w'.heap[b]? = w.heap[b]? := fun b hb => by rw [hheap, Array.getElem?_push, if_neg om]
 have hnew : w'.heap[w.heap.size]? = some (.cells arr e (0, 0)) := by rw [hheap]; simp
 have hcell : ∀ b off, b < w.heap.size → w'.cell? ⟨b, off, none⟩ = w.cell? ⟨b, off, none⟩ := fun b off hb => by simp [World.cell?, hold b hb]
 have hle : g.Le (g.newRow w.heap.size vs tag) := by
  refine ⟨fun b off v hv => ?_, Nat.le_refl _, fun _ _ => rfl, fun _ _ => rfl⟩
  have := imm_lt i.h hv
  simp only [Gh.newRow]
  rw [if_neg om]
  exact hv
 have hk : Keep g w (g.newRow w.heap.size vs tag) w' (fun _ => False) :=
  ⟨hle, by rw [hheap]; simp, fun b hb _ => ⟨hold b hb, by simp [Gh.newRow, Nat.ne_of_lt hb], fun off => by simp [Gh.newRow, Nat.ne_of_lt hb]⟩⟩
 have hvs : ∀ (k : Nat) (u : Value), vs[k]? = some u → arr[k]? = some u := fun k u hu => by
  have : (arr.toList.take vs.length)[k]? = some u := by rw [hpre]; exact hu
  rw [List.getElem?_take, if_pos (get_lt hu)] at this
  simpa using this
 have himm : ∀ (b off : Nat) (v : Value), (g.newRow w.heap.size vs tag).I b off = some v → w'.cell? ⟨b, off, none⟩ = some v := fun b off v hv => by
  simp only [Gh.newRow] at hv
  split at hv
  ·rename_i hb
   subst hb
   simp [World.cell?, hnew, hvs off v hv]
  ·rw [hcell b off (imm_lt i.h hv)]
   exact i.h.imm b off v hv
 refine ⟨g.newRow w.heap.size vs tag, Ext.of_keep hk (fun _ h => h.elim) hos htape hout, i.keep hk (fun _ h => h.elim) (fun _ _ _ => rfl) himm rfl, ?_, ?_, rfl, rfl⟩
 ·refine (hel.mono hle).rep_sl hcap (fun k u hu => ?_)
  simp [Gh.newRow, hu]
 ·intro es' e' hd
  cases hd
  refine .inr ⟨inf, vs, hi, hz, fun x hx => (hel.each x hx).1, ⟨hel.len, .inr ⟨w.heap.size, cap, arr, rfl, Nat.zero_le _, hnew, hcap, hmax, hsz, by rw [← hel.len]; exact hpre⟩⟩, fun b hb => ?_⟩
  simp only [Value.ownBlock, Option.some.injEq] at hb
  subst hb
  refine ⟨by simp [Gh.newRow], fun off ho => ?_⟩
  simp only [Gh.newRow, if_true]
  exact List.getElem?_eq_none (by rw [hel.len]; exact ho)
def PartsE (g : Gh) : List (Nat × Value) → List (Nat × D) → Prop
 | [], [] => True
 | (i, v) :: vs, (j, d) :: ds => i = j ∧ Rep g v d ∧ PartsE g vs ds
 | _, _ => False
theorem partsE_rep (s : SInv P g w fr a.tmps) : ∀ {parts : List (Nat × Operand)} {ps : List (Nat × X)}, partsE parts = some ps → PartsE g (parts.map fun (i, x) => (i, a.eval x)) (ps.map fun (i, x) => (i, fr.val x))
 | [], ps, h => by simp [partsE] at h; subst h; trivial
 | (i, x) :: rest, ps, h => by
  simp only [partsE] at h
  split at h
  ·rename_i x' r hx hr
   cases h
   exact ⟨rfl, (val_ok s hx).1, partsE_rep s hr⟩
  ·cases h
theorem Elts.setAt {vs us : List Value} {es : List (List D)} {e : List D} {esz i : Nat} (h : Elts g vs es esz) (hi : i < es.length) (he : e.length = esz) (hp : e.all D.pure1 = true) (hu : AllRep (Rep g) us e) :
  Elts g (Go.Abs.setAt vs (i * esz) us) (es.set i e) esz := by
 have hlen : i * esz + us.length ≤ vs.length := by
  rw [hu.1, he, h.len]
  have : (i + 1) * esz ≤ es.length * esz := Nat.mul_le_mul_right _ hi
  rw [Nat.add_mul] at this
  omega
 refine ⟨by rw [setAt_length, List.length_set]; exact h.len, fun x hx => ?_, fun k x j d h1 h2 => ?_⟩
 ·rcases List.mem_or_eq_of_mem_set hx with h1 | rfl
  ·exact h.each x h1
  ·exact ⟨he, hp⟩
 ·rw [list_set_get] at h1
  rw [setAt_get us vs _ hlen, hu.1, he]
  split at h1
  ·rename_i hc
   obtain ⟨rfl, _⟩ := hc
   cases h1
   have hj : j < esz := by rw [← he]; exact get_lt h2
   rw [if_pos om]
   obtain ⟨u, q1, q2⟩ := hu.get h2
   exact ⟨u, by rw [← q1]; congr 1; omega, q2⟩
  ·rename_i hc
   have hne : k ≠ i := fun e => hc ⟨e, hi⟩
   have hj : j < esz := by rw [← (h.each x (List.mem_of_getElem? h1)).1]; exact get_lt h2
   have : ¬ (i * esz ≤ k * esz + j ∧ k * esz + j < i * esz + esz) := by
    rintro ⟨p1, p2⟩
    rcases Nat.lt_or_gt_of_ne hne with h3 | h3
    ·have := idx_lt h3 hj
     omega
    ·have : (i + 1) * esz ≤ k * esz := Nat.mul_le_mul_right _ h3
     rw [Nat.add_mul] at this
     omega
   rw [if_neg this]
   exact h.rep k x j d h1 h2
theorem fillE_run {esz : Nat} : ∀ (vs : List (Nat × Value)) (ps : List (Nat × D)) (cells : Array Value) (es r : List (List D)), PartsE g vs ps → Elts g cells.toList es esz → fillE es esz ps = some r →
  ∃ out, Instr.fill (fun i => some (i * esz, esz)) cells vs = some out ∧ Elts g out.toList r esz
 | [], [], cells, es, r, _, h, hf => by
  simp only [fillE, Option.some.injEq] at hf
  subst hf
  exact ⟨cells, rfl, h⟩
 | [], _ :: _, _, _, _, hp, _, _ => hp.elim
 | _ :: _, [], _, _, _, hp, _, _ => hp.elim
 | (i, v) :: vs, (j, d) :: ps, cells, es, r, hp, h, hf => by
  obtain ⟨rfl, p2, p3⟩ := hp
  simp only [fillE] at hf
  split at hf
  ·rename_i hc
   obtain ⟨c1, c2, c3⟩ := hc
   have hcells := p2.cells (List.all_eq_true.2 fun x hx => plain_of_pure1 (List.all_eq_true.1 c3 x hx))
   have hstrip : AllRep (Rep g) v.cells.toList (d.cells.map D.strip) := by
    refine ⟨by simpa using hcells.1, fun j u e h1 h2 => ?_⟩
    simp only [List.getElem?_map, Option.map_eq_some_iff] at h2
    obtain ⟨e0, h2, rfl⟩ := h2
    exact (hcells.2 j u e0 h1 h2).strip
   have hvs : v.cells.size = esz := by rw [← c1, ← hcells.1]; simp
   have hset := h.setAt c2 (by simpa using c1) (List.all_eq_true.2 fun x hx => by
    obtain ⟨y, hy, rfl⟩ := List.mem_map.1 hx
    rw [pure1_strip]
    exact List.all_eq_true.1 c3 y hy) hstrip
   have hz := zip_setAt v.cells.toList 0 cells (i * esz)
   rw [Nat.add_zero] at hz
   obtain ⟨out, o1, o2⟩ := fillE_run vs ps (v.cells.zipIdx.foldl (fun cs (x : Value × Nat) => cs.setIfInBounds (i * esz + x.2) x.1) cells) _ r p3 (by
    rw [← Array.foldl_toList, Array.toList_zipIdx, hz]; exact hset) hf
   refine ⟨out, ?_, o2⟩
   unfold Instr.fill
   simp only
   have hle : i * esz + esz ≤ cells.size := by
    have h1 : (i + 1) * esz ≤ es.length * esz := Nat.mul_le_mul_right _ c2
    rw [Nat.add_mul] at h1
    have h2 : cells.size = es.length * esz := by rw [← h.len]; simp
    omega
   have hno : ¬ ((v.cells.size ≠ esz || i * esz + v.cells.size > cells.size) = true) := by
    simp only [ne_eq, gt_iff_lt, Bool.or_eq_true, decide_eq_true_eq, not_or, Decidable.not_not, Nat.not_lt]
    omega
   first
    | (rw [if_neg hno]; exact o1)
    | (rw [if_neg (by simpa using hno)]; exact o1)
  ·cases hf
theorem zero_elts {zv : Value} {z : List D} {esz n : Nat} (h : AllRep (Rep g) zv.cells.toList z) (hz : z.length = esz) (hp : z.all D.pure1 = true) :
  Elts g ((Array.range (n * esz)).map (zv.cells[· % zv.cells.size]!)).toList (List.replicate n z) esz := by
 have hsz : zv.cells.size = esz := by rw [← hz, ← h.1]; simp
 refine ⟨by simp, fun e he => ?_, fun i e j d h1 h2 => ?_⟩
 ·rw [List.eq_of_mem_replicate he]
  exact ⟨hz, hp⟩
 ·have he := List.eq_of_mem_replicate (List.mem_of_getElem? h1)
  subst he
  have hj : j < esz := by rw [← hz]; exact get_lt h2
  have hi : i < n := by simpa using get_lt h1
  obtain ⟨u, q1, q2⟩ := h.get h2
  refine ⟨u, ?_, q2⟩
  have hlt := idx_lt hi hj
  simp only [Array.toList_map, Array.toList_range, List.getElem?_map, List.getElem?_range hlt, Option.map_some, hsz, (idx_div hj).2]
  have hq : zv.cells[j]? = some u := by simpa using q1
  rw [getElem!_def, hq]
theorem snd_buildSlice {t : TypeId} {n : Nat} {parts : Array (Nat × Operand)} (hop : o.op = .buildSlice t n parts) {e : TypeId} (ht : P.underlying t = some (.slice e)) {esz : Nat} (hs : sizeT P e = some esz) {z : List D} (hz : zeroOf P e = some z)
  (hzl : z.length = esz) (h0 : 0 < esz) (hn : n * esz ≤ 16777216) {ps : List (Nat × X)} (hps : partsE parts.toList = some ps)
  (he : evalOp cal q o.dst (.buildSlice e esz n z ps) fr σ = some (d, fr', σ')) (i : Inv P g w fr σ a) : Snd P g w a o fr' σ' d := by
 simp only [evalOp, Option.map_eq_some_iff] at he
 obtain ⟨r, h1, h2⟩ := he
 cases h2
 obtain ⟨zv, z1, z2, z3, z4⟩ := zeroOf_ok (g := g) hz
 have hs' := hs
 unfold sizeT at hs
 simp only [Option.map_eq_some_iff] at hs
 obtain ⟨inf, hi, rfl⟩ := hs
 have hzv : inf.zero = some zv := by simpa [hi] using z1
 obtain ⟨out, o1, o2⟩ := fillE_run (g := g) _ _ _ _ r (partsE_rep i.s hps) (zero_elts (n := n) z2 hzl z3) h1
 have hlen : r.length = n := by
  have : ∀ (ps : List (Nat × D)) (es r : List (List D)), fillE es inf.size ps = some r → r.length = es.length := by
   intro ps
   induction ps with
   | nil => intro es r h; simp only [fillE, Option.some.injEq] at h; rw [h]
   | cons x xs ih =>
    intro es r h
    simp only [fillE] at h
    split at h
    ·rw [ih _ _ h]; simp
    ·cases h
  rw [this _ _ _ h1]
  simp
 have hrun : (execOp a.eval o).run P w = .ok (.value (.slice (some ⟨w.heap.size, 0, none⟩) n n)) (w.alloc (.cells out e)) := by
  simp only [execOp, hop]
  refine run_vmap' ?_
  by_cases hn0 : n = 0
  ·subst hn0
   have hp0 : ps = [] := by
    cases ps with
    | nil => rfl
    | cons x xs => simp [fillE] at h1
   subst hp0
   have hpe : parts.toList = [] := by
    cases hp : parts.toList with
    | nil => rfl
    | cons x xs =>
     rw [hp] at hps
     simp only [partsE] at hps
     split at hps <;> cases hps
   have hpa : parts = #[] := by cases parts; simp at hpe; simp [hpe]
   subst hpa
   have hout : out = #[] := by
    have := o2.len
    rw [hlen] at this
    simpa using this
   subst hout
   unfold Instr.buildSlice
   rw [run_bo (run_und ht)]
   simp only
   rw [run_bo (size_run hs')]
   have hr0 : Array.range 0 = #[] := rfl
   simp [Instr.fill, newRow, hr0]
  ·refine run_buildSlice w t e n _ out inf zv ht hi hzv om ?_ ?_
   ·intro h
    rcases Nat.mul_eq_zero.1 h with h | h <;> omega
   ·simpa using o1
 obtain ⟨g', e1, e2, e3, e4, _⟩ := newRow_ok (w' := w.alloc (.cells out e)) i (match o.dst with | some t => .sbuf t | none => .sbuf 0) rfl rfl rfl rfl hi h0 o2 (cap := n)
  (by rw [← hlen, ← o2.len]; simp) om (by
   have : n ≤ n * inf.size := Nat.le_mul_of_pos_right n h0
   unfold maxLen
   omega) List.take_length
 rw [hlen] at e3 e4
 intro next Q hn'
 exact wp_value hrun (hn' _ _ g' e1 (e2.put o.dst e3 (fun t ht => by rw [ht] at e4; exact e4) (fun s off e => by cases e)))
end
end Go.Abs

namespace Go.Abs
open Go Go.RowKit
section
variable {P : Program} {g g' : Gh} {w w' : World} {fr fr' : Fr} {σ σ' : St} {a : Act} {o : Oper} {d : D} {cal : Cal} {q : Bool} {mu : List Nat} {ops : List Oper}
theorem append_cases {t e : TypeId} {inf : TypeInfo} {zv : Value} (ty : TypeId) (ht : P.underlying t = some (.slice e)) (hi : P.info? e = some inf) (hz : inf.zero = some zv) (hzs : zv.cells.size = inf.size) (_h0 : 0 < inf.size)
  {v : Value} {n : Nat} {xs : List Value} (hown : w.ownsRow 0 e inf.size v n xs) {vy : Value} {ys : List (List D)} (hy : Shows g w vy ys inf.size)
  (hbytes : (n + ys.length) * inf.bytes ≤ 140737488355328) (h62 : n + ys.length < 4611686018427387904) :
  (ys = [] ∧ (Builtin.append_ #[t, t] ty #[v, vy]).run P w = .ok v w) ∨
  (∃ vs, Elts g vs ys inf.size ∧
   ((∃ b cap cur, v = .slice (some ⟨b, 0, none⟩) n cap ∧ w.heap[b]? = some (.cells cur e (0, 0)) ∧ n + ys.length ≤ cap ∧ cap ≤ maxLen ∧ cur.size = cap * inf.size ∧ cur.toList.take (n * inf.size) = xs ∧
    (Builtin.append_ #[t, t] ty #[v, vy]).run P w = .ok (.slice (some ⟨b, 0, none⟩) (n + ys.length) cap) (w.setRow b (setAt cur.toList (n * inf.size) vs).toArray)) ∨
   (∃ cap arr w', n + ys.length ≤ cap ∧ cap ≤ maxLen ∧ arr.size = cap * inf.size ∧ arr.toList.take (xs ++ vs).length = xs ++ vs ∧ w'.heap = w.heap.push (.cells arr e) ∧ w'.os = w.os ∧ w'.tape = w.tape ∧ w'.output = w.output ∧
    (Builtin.append_ #[t, t] ty #[v, vy]).run P w = .ok (.slice (some ⟨w.heap.size, 0, none⟩) (n + ys.length) cap) w'))) := by
 obtain ⟨av, c, rfl, hcase⟩ := hy
 rcases hcase with ⟨rfl, rfl, rfl⟩ | ⟨ad, vs, rfl, hel, hmem⟩
 ·exact .inl ⟨rfl, by simpa using run_append_owned_none (P := P) w 0 t ty e inf inf.size ht hi v n xs hown⟩
 ·have grown : ∀ old, old < n + ys.length → n + ys.length ≤ grownCap w (n + ys.length) old e ∧ grownCap w (n + ys.length) old e ≤ maxLen ∧
    (xs.toArray ++ vs.toArray ++ Builtin.zeroCells zv.cells (grownCap w (n + ys.length) old e - (n + ys.length))).size = grownCap w (n + ys.length) old e * inf.size ∧
    (xs.toArray ++ vs.toArray ++ Builtin.zeroCells zv.cells (grownCap w (n + ys.length) old e - (n + ys.length))).toList.take (xs ++ vs).length = xs ++ vs := fun old ho => by
   have hge := grownCap_ge w (n + ys.length) old e
   refine ⟨hge, grownCap_le_maxLen w _ old e (by unfold maxLen; omega), ?_, ?_⟩
   ·simp only [Array.size_append, List.size_toArray, size_zeroCells, hzs, hown.1, hel.len, ← Nat.add_mul]
    congr 1
    omega
   ·simp only [Array.toList_append, List.append_assoc]
    rw [← List.append_assoc]
    exact List.take_left
  by_cases hsl : v = .slice none 0 0 ∧ n = 0
  ·obtain ⟨rfl, rfl⟩ := hsl
   have hx : xs = [] := List.eq_nil_of_length_eq_zero (by simpa using hown.1)
   subst hx
   by_cases hm : ys.length = 0
   ·left
    have hys : ys = [] := List.eq_nil_of_length_eq_zero hm
    subst hys
    have hvs : vs = [] := List.eq_nil_of_length_eq_zero (by simpa using hel.len)
    subst hvs
    refine ⟨rfl, ?_⟩
    simp [Builtin.append_, run_underlying ht, sizeOf, typeInfo, hi, Builtin.lenOf, Builtin.firstCells, loadCells, loadCellsFrom]
   ·right
    have hr := run_append_nil (P := P) w t ty e inf zv ht hi hz ad ys.length c vs hel.len hmem om om (by simp only [Nat.zero_add] at hbytes; omega)
    obtain ⟨g1, g2, g3, g4⟩ := grown 0 om
    simp only [Nat.zero_add] at g1 g2 g3 g4
    refine ⟨vs, hel, .inr ⟨_, _, w.drew.alloc _, by simpa using g1, g2, g3, g4, rfl, rfl, rfl, rfl, ?_⟩⟩
    simp only [Nat.zero_add]
    simpa using hr
  ·right
   rcases hown.2 with h | ⟨b, cap, cur, rfl, _, hg, hnc, hcm, hcs, htake⟩
   ·exact absurd h hsl
   ·refine ⟨vs, hel, ?_⟩
    by_cases hroom : n + ys.length ≤ cap
    ·left
     have hfit : n * inf.size + vs.length ≤ cur.size := by rw [hel.len, hcs, ← Nat.add_mul]; exact Nat.mul_le_mul_right _ hroom
     have hr := run_append_room (P := P) w t ty e inf ht hi b n cap cur hg ad ys.length c vs hel.len hmem (hel.one _h0) hroom hfit
     rw [seg_setAt _ _ _ (by simpa using hfit)] at hr
     exact ⟨b, cap, cur, rfl, hg, hroom, hcm, hcs, htake, hr⟩
    ·right
     have holds : ∀ j u, xs[j]? = some u → w.cell? ((⟨b, 0, none⟩ : Addr).add j) = some u := hown.cells (g := b) rfl
     have hr := run_append_grow (P := P) w t ty e inf zv ht hi hz ⟨b, 0, none⟩ n cap xs hown.1 holds ad ys.length c vs hel.len hmem om om (growslice_fits om hbytes)
     obtain ⟨g1, g2, g3, g4⟩ := grown cap om
     exact ⟨_, _, w.drew.alloc _, g1, g2, g3, g4, rfl, rfl, rfl, rfl, hr⟩
theorem own_elts (i : HInv P g w σ) {v : Value} {es : List (List D)} {own : Option Nat} (hr : Rep g v (.sl es own)) {e : Nat} {n : Nat} {xs : List Value} {esz : Nat} (hown : w.ownsRow 0 e esz v n xs) (hn : n = es.length)
  (hall : ∀ x ∈ es, x.length = esz) : Elts g xs es esz ∧ ∀ b, v.ownBlock = some b → ∀ (k : Nat) (u : Value), xs[k]? = some u → es ≠ [] → g.I b k = some u := by
 subst hn
 cases hr with
 | sl av len cap b off esz' _ _ V hl hc hn ha hes hI hR =>
  by_cases h0 : es = []
  ·subst h0
   have hx : xs = [] := List.eq_nil_of_length_eq_zero (by simpa using hown.1)
   subst hx
   exact ⟨⟨by simp, by simp, by simp⟩, fun b _ k u hu => by simp at hu⟩
  ·have hav := ha h0
   subst hav
   rcases hown.2 with ⟨h1, _⟩ | ⟨b', cap', cur, h1, _, hg, hnc, hcm, hcs, htake⟩
   ·cases h1
   ·cases h1
    obtain ⟨e0, he0⟩ := List.exists_mem_of_ne_nil es h0
    have hz : esz' = esz := (hes e0 he0).1.symm.trans (hall e0 he0)
    subst hz
    have hcellx : ∀ (i : Nat) (x : List D) (j : Nat) (d : D), es[i]? = some x → x[j]? = some d → xs[i * esz' + j]? = some (V i j) := fun k x j d h1 h2 => by
     have hj : j < esz' := by rw [← (hes x (List.mem_of_getElem? h1)).1]; exact get_lt h2
     have := i.imm _ _ _ (hI k x j d h1 h2)
     simp only [World.cell?, hg, Option.isSome_none, Bool.false_eq_true, if_false, Nat.zero_add] at this
     rw [← htake, List.getElem?_take, if_pos (idx_lt (get_lt h1) hj)]
     simpa using this
    refine ⟨⟨hown.1, hes, fun k x j d h1 h2 => ⟨V k j, hcellx k x j d h1 h2, hR k x j d h1 h2⟩⟩, fun b'' hb k u hu _ => ?_⟩
    simp only [Value.ownBlock, Option.some.injEq] at hb
    subst hb
    have hk : k < es.length * esz' := by rw [← hown.1]; exact get_lt hu
    have hz0 : 0 < esz' := by
     rcases Nat.eq_zero_or_pos esz' with h | h
     ·subst h; simp at hk
     ·exact h
    have h1 : k / esz' < es.length := Nat.div_lt_of_lt_mul (by rw [Nat.mul_comm]; exact hk)
    have he := List.getElem?_eq_getElem h1
    have h2 : k % esz' < (es[k / esz']).length := by rw [(hes _ (List.mem_of_getElem? he)).1]; exact Nat.mod_lt _ hz0
    have hd := List.getElem?_eq_getElem h2
    have hx := hcellx _ _ _ _ he hd
    have hkk : k / esz' * esz' + k % esz' = k := by rw [Nat.mul_comm]; exact Nat.div_add_mod k esz'
    rw [hkk, hu] at hx
    cases hx
    have := hI _ _ _ _ he hd
    rw [Nat.zero_add, hkk] at this
    exact this
def Gh.grow (g : Gh) (b from_ : Nat) (vs : List Value) : Gh := { g with I := fun x off => if x = b ∧ from_ ≤ off ∧ off < from_ + vs.length then vs[off - from_]? else g.I x off }
theorem retag (i : Inv P g w fr σ a) {v : Value} {d : D} (hr : Rep g v d) (ho : Own P g w .hand v d) (tag : Tag) :
  ∃ g', Ext g w g' w ∧ Inv P g' w fr σ a ∧ Rep g' v d ∧ Own P g' w tag v d := by
 by_cases hq : ∃ es e b, d = .sl es (some e) ∧ v.ownBlock = some b
 ·obtain ⟨es, e, b, rfl, hb⟩ := hq
  rcases ho es e rfl with ⟨_, h0⟩ | ⟨inf, xs, h1, h2, h3, h4, h5⟩
  ·rw [h0] at hb
   simp [Value.ownBlock] at hb
  obtain ⟨h6, h7⟩ := h5 b hb
  have hle : g.Le (g.tagAt b tag) := ⟨fun _ _ _ h => h, Nat.le_refl _, fun _ _ => rfl, fun _ _ => rfl⟩
  have hk : Keep g w (g.tagAt b tag) w (fun x => x = b) := ⟨hle, Nat.le_refl _, fun c _ hc => ⟨rfl, by simp [Gh.tagAt, hc], fun _ => rfl⟩⟩
  refine ⟨g.tagAt b tag, Ext.of_keep hk (fun c hc _ => by rw [hc, h6]; rfl) rfl rfl rfl, i.keep hk (fun c hc h => by rw [hc, h6] at h; exact h) (fun _ _ _ => rfl) i.h.imm rfl, hr.mono hle (fun _ _ _ => rfl), ?_⟩
  intro es' e' hd
  cases hd
  refine .inr ⟨inf, xs, h1, h2, h3, h4, fun b' hb' => ?_⟩
  rw [hb] at hb'
  cases hb'
  exact ⟨by simp [Gh.tagAt], h7⟩
 ·refine ⟨g, .refl g w, i, hr, ?_⟩
  intro es e hd
  rcases ho es e hd with h0 | ⟨inf, xs, h1, h2, h3, h4, h5⟩
  ·exact .inl h0
  exact .inr ⟨inf, xs, h1, h2, h3, h4, fun b hb => absurd ⟨es, e, b, hd, hb⟩ hq⟩
theorem own_strict {tag : Tag} {v : Value} {es : List (List D)} {e : Nat} {inf : TypeInfo} (hi : P.info? e = some inf) (h0 : 0 < inf.size) (h : Own P g w tag v (.sl es (some e))) :
  ∃ i xs, P.info? e = some i ∧ 0 < i.size ∧ (∀ x ∈ es, x.length = i.size) ∧ w.ownsRow 0 e i.size v es.length xs ∧ ∀ b, v.ownBlock = some b → g.ω b = tag ∧ ∀ off, es.length * i.size ≤ off → g.I b off = none := by
 rcases h es e rfl with ⟨rfl, rfl⟩ | h
 ·exact ⟨inf, [], hi, h0, by simp, World.ownsRow_nil w 0 e inf.size, fun b hb => by simp [Value.ownBlock] at hb⟩
 ·exact h
theorem snd_append {c : Call} (hop : o.op = .call c) (hb : c.callee = .builtin .append) {x y : Operand} {t e : TypeId} (hargs : c.args.toList = [x, y]) (hty : c.argTypes.toList = [t, t]) (ht : P.underlying t = some (.slice e))
  {esz bytes : Nat} (hs : sizeT P e = some esz) (hby : bytesT P e = some bytes) {z : List D} (hz : zeroOf P e = some z) (hzl : z.length = esz) (h0 : 0 < esz) {x' y' : X} (hX : compX x = some x') (hY : compX y = some y')
  (he : evalOp cal q o.dst (.append e esz bytes false x' y') fr σ = some (d, fr', σ')) (i : Inv P g w fr σ a) : Snd P g w a o fr' σ' d := by
 have hvy := (val_ok i.s hY).1
 obtain ⟨zv, z1, z2, z3, z4⟩ := zeroOf_ok (g := g) hz
 have hs' := hs
 unfold sizeT at hs
 unfold bytesT at hby
 simp only [Option.map_eq_some_iff] at hs hby
 obtain ⟨inf, hi, rfl⟩ := hs
 obtain ⟨inf', hi', rfl⟩ := hby
 rw [hi] at hi'
 cases hi'
 have hzv : inf.zero = some zv := by simpa [hi] using z1
 have hzs : zv.cells.size = inf.size := by rw [← hzl, ← z2.1]; simp
 simp only [evalOp] at he
 split at he
 ·cases he
 ·rename_i ys hys
  split at he
  ·rename_i hall
   simp only [Bool.false_eq_true, if_false] at he
   split at he
   ·rename_i xs0 e' hd
    split at he
    ·rename_i hc
     obtain ⟨rfl, c2, c3⟩ := hc
     cases he
     have hallp : ∀ y ∈ ys, y.length = inf.size := fun y hy => by simpa using List.all_eq_true.1 hall y hy
     have hsh : Shows g w (a.eval y) ys inf.size := by
      have hcases : (∃ own, fr.val y' = .sl ys own) ∨ ∃ ob off n esz', fr.val y' = .msl ob off n esz' := by
       cases hq : fr.val y' <;> rw [hq] at hys <;> simp [elems] at hys
       ·subst hys; exact .inl ⟨_, rfl⟩
       ·exact .inr ⟨_, _, _, _, rfl⟩
      rcases hcases with ⟨own, hq⟩ | ⟨ob, off, n, esz', hq⟩
      ·rw [hq] at hvy
       exact shows_sl i.h hvy hallp
      ·rw [hq] at hvy hys
       obtain ⟨h1, h2⟩ := shows_msl i.h hvy hys
       by_cases hy0 : ys = []
       ·subst hy0
        obtain ⟨av, cc, r1, r2⟩ := h1
        refine ⟨av, cc, r1, ?_⟩
        rcases r2 with r2 | ⟨ad, vs, r2, r3, r4⟩
        ·exact .inl r2
        ·have : vs = [] := List.eq_nil_of_length_eq_zero (by simpa using r3.len)
         subst this
         exact .inr ⟨ad, [], r2, ⟨by simp, by simp, by simp⟩, by simp⟩
       ·obtain ⟨av, cc, r1, r2⟩ := h1
        rcases r2 with r2 | ⟨ad, vs, r2, r3, r4⟩
        ·exact absurd r2.2.2 hy0
        ·obtain ⟨y0, hy0m⟩ := List.exists_mem_of_ne_nil ys hy0
         have : esz' = inf.size := (r3.each y0 hy0m).1.symm.trans (hallp y0 hy0m)
         subst this
         exact ⟨av, cc, r1, .inr ⟨ad, vs, r2, r3, r4⟩⟩
     intro next Q hn
     obtain ⟨g1, k1, k2, k3, k4, k5, k6, k7, k8, k9, k10⟩ := take_ok i hX .hand
     rw [hd] at k3 k4
     obtain ⟨inf2, xs, o1, o2, o3, o4, o5⟩ := own_strict hi om k4
     rw [hi] at o1
     cases o1
     have hsh1 : Shows g1 w (a.eval y) ys inf.size := by
      obtain ⟨av, cc, r1, r2⟩ := hsh
      refine ⟨av, cc, r1, ?_⟩
      rcases r2 with r2 | ⟨ad, vs, r2, r3, r4⟩
      ·exact .inl r2
      ·exact .inr ⟨ad, vs, r2, r3.mono k1.le, r4⟩
     obtain ⟨helx, hIx⟩ := own_elts k2.h k3 o4 rfl o3
     have hrun : ∀ v' w', (Builtin.append_ #[t, t] o.type #[a.eval x, a.eval y]).run P w = .ok v' w' → (execOp a.eval o).run P w = .ok (.value v') w' := fun v' w' hr => by
      refine call_builtin hop hb fun consts => ?_
      simp only [builtin]
      refine run_vmap' ?_
      have e1 : c.argTypes = #[t, t] := by
       have := congrArg List.toArray hty
       simpa using this
      have e2 : c.args.map a.eval = #[a.eval x, a.eval y] := by
       apply Array.ext'
       rw [Array.toList_map, hargs]
       rfl
      rw [e1, e2]
      exact hr
     unfold room at c2
     rcases append_cases o.type ht hi hzv hzs h0 o4 hsh1 c2 c3 with ⟨rfl, hr⟩ | ⟨vs, hel, hcase⟩
     ·have r := retag k2 k3 k4 (match o.dst with | some t => .sbuf t | none => .sbuf 0)
      obtain ⟨g2, r1, r2, r3, r4⟩ := r
      refine wp_value (hrun _ _ hr) (hn _ _ g2 (k1.trans r1) ?_)
      rw [List.append_nil]
      exact r2.put o.dst r3 (fun t ht => by rw [ht] at r4; exact r4) (fun s off e => by cases e)
     ·rcases hcase with ⟨b, cap, cur, hv, hg, hroom, hcm, hcs, htake, hr⟩ | ⟨cap, arr, w', hroom, hcm, hasz, htake, q1, q2, q3, q4, hr⟩
      ·-- there is room
       refine wp_value (hrun _ _ hr) ?_
       rw [hv] at k3 k4 o4 o5 hIx
       obtain ⟨hω, hfree⟩ := o5 b rfl
       let g2 := g1.grow b (xs0.length * inf.size) vs
       have hle : g1.Le g2 := ⟨fun x off u hu => by
        simp only [g2, Gh.grow]
        rw [if_neg]
        ·exact hu
        ·rintro ⟨rfl, h1, h2⟩
         rw [hfree off h1] at hu
         exact absurd hu (by simp), Nat.le_refl _, fun _ _ => rfl, fun _ _ => rfl⟩
       have hlen : xs0.length * inf.size + vs.length ≤ cur.size := by rw [hel.len, hcs, ← Nat.add_mul]; exact Nat.mul_le_mul_right _ hroom
       have hk : Keep g1 w g2 (w.setRow b (setAt cur.toList (xs0.length * inf.size) vs).toArray) (fun x => x = b) :=
        ⟨hle, by rw [setRow_size]; exact Nat.le_refl _, fun c hc hne => ⟨by rw [setRow_heap w b c cur _ e' hg, if_neg hne], rfl, fun off => by simp only [g2, Gh.grow]; rw [if_neg (fun h => hne h.1)]⟩⟩
       have hnc : ∀ b', b' = b → ¬ claims (fr.take x').2 σ (g1.ω b') := by
        rintro b' rfl
        rw [hω]
        exact fun h => h
       have hnewcells : ∀ (k : Nat) (u : Value), (xs ++ vs)[k]? = some u → (setAt cur.toList (xs0.length * inf.size) vs)[k]? = some u := fun k u hu => by
        rw [setAt_get vs _ _ (by simpa using hlen)]
        have hxl : xs.length = xs0.length * inf.size := o4.1
        by_cases hk1 : k < xs.length
        ·rw [List.getElem?_append_left hk1] at hu
         rw [if_neg om]
         rw [← htake, List.getElem?_take, if_pos om] at hu
         exact hu
        ·rw [List.getElem?_append_right om] at hu
         have := get_lt hu
         rw [if_pos om, ← hxl]
         exact hu
       have himm : ∀ (c off : Nat) (u : Value), g2.I c off = some u → (w.setRow b (setAt cur.toList (xs0.length * inf.size) vs).toArray).cell? ⟨c, off, none⟩ = some u := fun c off u hu => by
        simp only [World.cell?]
        rw [setRow_heap w b c cur _ e' hg]
        by_cases hcb : c = b
        ·subst hcb
         simp only [if_true, Option.isSome_none, Bool.false_eq_true, if_false, List.getElem?_toArray]
         rw [setAt_get vs _ _ (by simpa using hlen)]
         simp only [g2, Gh.grow, true_and] at hu
         split at hu
         ·rename_i hc
          rw [if_pos hc]
          exact hu
         ·rename_i hc
          rw [if_neg hc]
          have := k2.h.imm _ _ _ hu
          simpa [World.cell?, hg] using this
        ·rw [if_neg hcb]
         simp only [g2, Gh.grow] at hu
         rw [if_neg (fun h => hcb h.1)] at hu
         exact k2.h.imm _ _ _ hu
       have inv := k2.keep hk hnc (fun _ _ _ => rfl) himm rfl
       have hels : Elts g2 (xs ++ vs) (xs0 ++ ys) inf.size := (helx.append hel).mono hle
       have hrep : Rep g2 (.slice (some ⟨b, 0, none⟩) (xs0.length + ys.length) cap) (.sl (xs0 ++ ys) (some e')) := by
        have := hels.rep_sl (b := b) (off := 0) (cap := cap) (own := some e') (by simpa using hroom) (fun k u hu => by
         rw [Nat.zero_add]
         simp only [g2, Gh.grow, true_and]
         have hxl : xs.length = xs0.length * inf.size := o4.1
         by_cases hk1 : k < xs.length
         ·rw [List.getElem?_append_left hk1] at hu
          rw [if_neg om]
          refine hIx b rfl k u hu ?_
          rintro rfl
          simp at hxl
          subst hxl
          simp at hk1
         ·rw [List.getElem?_append_right om] at hu
          have := get_lt hu
          rw [if_pos om, ← hxl]
          exact hu)
        rwa [List.length_append] at this
       have hown : Own P g2 (w.setRow b (setAt cur.toList (xs0.length * inf.size) vs).toArray) .hand (.slice (some ⟨b, 0, none⟩) (xs0.length + ys.length) cap) (.sl (xs0 ++ ys) (some e')) := by
        intro es2 e2 hd2
        cases hd2
        refine .inr ⟨inf, xs ++ vs, hi, h0, fun y hy => (hels.each y hy).1, ⟨by rw [hels.len], .inr ⟨b, cap, _, by rw [List.length_append], Nat.zero_le _, by rw [setRow_heap w b b cur _ e' hg, if_pos rfl], by simpa using hroom, hcm, by simp [setAt_length, hcs], ?_⟩⟩, fun b2 hb2 => ?_⟩
        ·apply List.ext_getElem?
         intro k
         rw [List.getElem?_take]
         simp only []
         by_cases hk1 : k < (xs ++ vs).length
         ·rw [if_pos (by rw [hels.len] at hk1; exact hk1), List.getElem?_eq_getElem hk1]
          exact hnewcells k _ (List.getElem?_eq_getElem hk1)
         ·rw [if_neg (by rw [hels.len] at hk1; exact hk1), List.getElem?_eq_none om]
        ·simp only [Value.ownBlock, Option.some.injEq] at hb2
         subst hb2
         refine ⟨hω, fun off ho => ?_⟩
         simp only [g2, Gh.grow, true_and]
         rw [List.length_append, Nat.add_mul] at ho
         rw [if_neg (by rw [hel.len]; omega)]
         exact hfree off om
       obtain ⟨g3, r1, r2, r3, r4⟩ := retag inv hrep hown (match o.dst with | some t => .sbuf t | none => .sbuf 0)
       refine hn _ _ g3 ((k1.trans (Ext.of_keep hk (fun c hc _ => by rw [hc, hω]; rfl) rfl rfl rfl)).trans r1) (r2.put o.dst r3 (fun t ht => by rw [ht] at r4; exact r4) (fun s off e => by cases e))
      ·-- a new row
       obtain ⟨g3, r1, r2, r3, r4, _⟩ := newRow_ok (w' := w') k2 (match o.dst with | some t => .sbuf t | none => .sbuf 0) q1 q2 q3 q4 hi h0 (helx.append hel) hasz (by simpa using hroom) hcm htake
       rw [List.length_append] at r3 r4
       refine wp_value (hrun _ _ hr) (hn _ _ g3 (k1.trans r1) (r2.put o.dst r3 (fun t ht => by rw [ht] at r4; exact r4) (fun s off e => by cases e)))
    ·cases he
   ·cases he
  ·cases he
end
end Go.Abs

namespace Go.Abs
open Go Go.RowKit
section
variable {P : Program} {g g' : Gh} {w w' : World} {fr fr' : Fr} {σ σ' : St} {a : Act} {o : Oper} {d : D} {cal : Cal} {q : Bool} {mu : List Nat} {ops : List Oper}
def promF (t n : Nat) : Tag → Tag
 | .box s => if s = t then .obj n else .box s
 | .bbuf s j => if s = t then .obuf n j else .bbuf s j
 | x => x
def Gh.promote (g : Gh) (t sz : Nat) : Gh :=
 { g.rename (promF t g.n) with n := g.n + 1, μ := fun o => if o = g.n then g.β t else g.μ o, sz := fun o => if o = g.n then sz else g.sz o }
theorem promote_le (g : Gh) (t sz : Nat) : g.Le (g.promote t sz) :=
 ⟨fun _ _ _ h => h, Nat.le_succ _, fun o ho => by simp [Gh.promote, Nat.ne_of_lt ho], fun o ho => by simp [Gh.promote, Nat.ne_of_lt ho]⟩
theorem Own.promote {t sz : Nat} {tag : Tag} {v : Value} {d : D} (h : Own P g w tag v d) : Own P (g.promote t sz) w (promF t g.n tag) v d := by
 intro es e hd
 rcases h es e hd with h0 | ⟨i, xs, h1, h2, h3, h4, h5⟩
 ·exact .inl h0
 exact .inr ⟨i, xs, h1, h2, h3, h4, fun b hb => ⟨by simp [Gh.promote, Gh.rename, (h5 b hb).1], (h5 b hb).2⟩⟩
theorem Blk.promote {t sz b s : Nat} {tag tag' : Nat → Tag} {cs : List D} (h : Blk P g w b s tag cs) (ht : ∀ j, promF t g.n (tag j) = tag' j) : Blk P (g.promote t sz) w b s tag' cs := by
 obtain ⟨arr, ty, h1, h2, h3, h4⟩ := h
 refine ⟨arr, ty, h1, h2, h3, fun j d hd => ?_⟩
 obtain ⟨p1, v, p2, p3, p4⟩ := h4 j d hd
 refine ⟨p1, v, p2, p3.mono (promote_le g t sz) (fun k off e => by subst e; simp [D.plain] at p1), ?_⟩
 have := p4.promote (t := t) (sz := sz)
 rw [ht] at this
 exact this
theorem relink_notL (t n : Nat) {d : D} (h : d.notL = true) : relinkL t n d = d := by cases d <;> simp_all [relinkL, D.notL]
theorem Rep.relink {t sz : Nat} {v : Value} {d : D} (h : Rep g v d) : Rep (g.promote t sz) v (relinkL t g.n d) := by
 cases h with
 | lptr s off =>
  simp only [relinkL]
  split
  ·rename_i hs
   subst hs
   have := Rep.ptr (g := g.promote s sz) g.n off (Nat.lt_succ_self _)
   simpa [Gh.promote] using this
  ·exact (Rep.lptr (g := g) s off).mono (promote_le g t sz) (fun _ _ _ => rfl)
 | _ =>
  rw [relink_notL t g.n (by rfl)]
  exact Rep.mono (promote_le g t sz) (by constructor <;> assumption) (fun _ _ e => by cases e)
theorem Inv.promote (i : Inv P g w fr σ a) {t : Nat} (h : fr.promote σ t = some (fr', σ')) :
  ∃ sz, Inv P (g.promote t sz) w fr' σ' a ∧ Ext g w (g.promote t sz) w ∧ σ.length = g.n := by
 unfold Fr.promote at h
 split at h
 ·rename_i cs hcs
  cases h
  have hb := boxAt_some hcs
  obtain ⟨hω, sz, hblk⟩ := i.s.boxes t cs hb
  have hn : σ.length = g.n := i.h.n.symm
  refine ⟨sz, ⟨⟨i.h.imm, by simp [Gh.promote, i.h.n], fun ob cs' h1 => ?_, fun ob es' h1 => ?_, rows_snoc (fun e h => by cases h) (fun ob e cs' h1 h2 => by
   obtain ⟨arr, h3⟩ := i.h.rows ob e cs' h1 h2
   have hne : ob ≠ g.n := by
    have := (List.getElem?_eq_some_iff.1 h1).1
    omega
   exact ⟨arr, by simpa [Gh.promote, hne] using h3⟩), fun ob es' h1 => by
   by_cases hlt : ob < σ.length
   ·rw [List.getElem?_append_left hlt] at h1
    obtain ⟨q1, ents, clock, q2, q3, q4⟩ := i.h.mapsR ob es' h1
    have hne : ob ≠ g.n := by omega
    exact ⟨by simp [Gh.promote, Gh.rename, hne, q1, promF], ents, clock, by simpa [Gh.promote, hne] using q2, q3.mono (promote_le g t sz), q4⟩
   ·rw [List.getElem?_append_right om] at h1
    have h0 : ob - σ.length = 0 := by
     have := get_lt h1
     simp at this
     omega
    rw [h0] at h1
    simp at h1⟩, ⟨by simpa using i.s.size, by simpa using i.s.blen, fun k e hk => ?_, fun s cs' hs => ?_⟩, i.d.mono (promote_le g t sz)⟩,
   ⟨promote_le g t sz, rfl, rfl, rfl, Nat.le_refl _, fun b _ hm => ⟨rfl, ?_⟩, fun b off v hv => .inl hv, rfl⟩, hn⟩
  ·by_cases hlt : ob < σ.length
   ·rw [List.getElem?_append_left hlt] at h1
    obtain ⟨q1, q2⟩ := i.h.cells ob cs' h1
    have hne : ob ≠ g.n := by omega
    refine ⟨by simp [Gh.promote, Gh.rename, hne, q1, promF], ?_⟩
    have := q2.promote (t := t) (sz := sz) (tag' := .obuf ob) (fun j => rfl)
    simpa [Gh.promote, hne] using this
   ·rw [List.getElem?_append_right om] at h1
    have h0 : ob - σ.length = 0 := by
     have := get_lt h1
     simp at this
     omega
    rw [h0] at h1
    simp at h1
    subst h1
    have he : ob = g.n := by omega
    subst he
    refine ⟨by simp [Gh.promote, Gh.rename, hω, promF], ?_⟩
    have := hblk.promote (t := t) (sz := sz) (tag' := .obuf g.n) (fun j => by simp [promF])
    simpa [Gh.promote] using this
  ·by_cases hlt : ob < σ.length
   ·rw [List.getElem?_append_left hlt] at h1
    obtain ⟨q1, ents, clock, q2, q3, q4⟩ := i.h.maps ob es' h1
    have hne : ob ≠ g.n := by omega
    exact ⟨by simp [Gh.promote, Gh.rename, hne, q1, promF], ents, clock, by simpa [Gh.promote, hne] using q2, q3.mono (promote_le g t sz), q4⟩
   ·rw [List.getElem?_append_right om] at h1
    have h0 : ob - σ.length = 0 := by
     have := get_lt h1
     simp at this
     omega
    rw [h0] at h1
    simp at h1
  ·simp only [List.getElem?_map, Option.map_eq_some_iff] at hk
   obtain ⟨e0, h1, rfl⟩ := hk
   obtain ⟨v, q1, q2, q3, q4⟩ := i.s.slots k e0 h1
   rw [hn]
   refine ⟨v, q1, q2.relink, ?_, fun s off e => ?_⟩
   ·by_cases hl : e0.notL = true
    ·rw [relink_notL t _ hl]
     exact q3.promote
    ·refine .of_ne ?_
     cases e0 <;> simp [D.notL] at hl
     simp only [relinkL]
     split <;> rfl
   ·have : e0 = .lptr s off ∧ s ≠ t := by
     cases e0 <;> simp [relinkL] at e
     split at e
     ·cases e
     ·cases e
      exact ⟨rfl, asm⟩
    obtain ⟨cs0, hc0⟩ := q4 s off this.1
    refine ⟨cs0, ?_⟩
    simp only []
    rw [list_set_get, if_neg]
    ·exact hc0
    ·rintro ⟨rfl, _⟩
     exact this.2 rfl
  ·obtain ⟨hne, h1⟩ := box_set_none hs
   obtain ⟨q1, sz', q2⟩ := i.s.boxes s cs' h1
   refine ⟨by simp [Gh.promote, Gh.rename, q1, promF, hne], sz', ?_⟩
   have := q2.promote (t := t) (sz := sz) (tag' := .bbuf s) (fun j => by simp [promF, hne])
   simpa [Gh.promote, Gh.rename] using this
  ·simp only [Gh.promote, Gh.rename]
   cases hq : g.ω b <;> rw [hq] at hm <;> simp [Tag.mine] at hm <;> rfl
 ·cases h
theorem promoteX_ok (i : Inv P g w fr σ a) {x : Operand} {x' : X} (hX : compX x = some x') {d : D} (h : fr.promoteX σ x' = some (d, fr', σ')) :
  ∃ g', Ext g w g' w ∧ Inv P g' w fr' σ' a ∧ Rep g' (a.eval x) d ∧ d.notL = true ∧ d.strip = d := by
 have hv := val_ok i.s hX
 cases x with
 | tmp t =>
  simp only [compX, Option.some.injEq] at hX
  subst hX
  simp only [Fr.promoteX] at h
  split at h
  ·rename_i s off hs
   simp only [Option.map_eq_some_iff] at h
   obtain ⟨⟨fr1, σ1⟩, h1, h2⟩ := h
   cases h2
   obtain ⟨sz, i1, e1, hn⟩ := i.promote h1
   have hr := hv.1
   simp only [Fr.val, hs, D.strip] at hr
   have := hr.relink (t := s) (sz := sz)
   simp only [relinkL, if_true] at this
   rw [hn]
   exact ⟨_, e1, i1, this, rfl, rfl⟩
  ·rename_i hno
   cases h
   refine ⟨g, .refl g w, i, Rep.deep_of_strip hv.1, ?_, deep_strip _⟩
   cases hd : fr.at t <;> first | rfl | exact absurd hd (hno _ _)
 | const v =>
  simp only [compX, Option.map_eq_some_iff] at hX
  obtain ⟨d0, hd, rfl⟩ := hX
  simp only [Fr.promoteX] at h
  cases h
  obtain ⟨h1, h2, h3⟩ := constD_rep (g := g) hd
  exact ⟨g, .refl g w, i, hv.1, by rw [notL_strip]; exact h3, strip_strip _⟩
 | func f =>
  simp only [compX, Option.some.injEq] at hX
  subst hX
  simp only [Fr.promoteX] at h
  cases h
  exact ⟨g, .refl g w, i, hv.1, rfl, rfl⟩
 | global n => simp [compX] at hX
theorem promoteAll_ok : ∀ {xs : List Operand} {xs' : List X} {ds : List D} {g : Gh} {fr : Fr} {σ : St}, Inv P g w fr σ a → compXs xs = some xs' → fr.promoteAll σ xs' = some (ds, fr', σ') →
  ∃ g', Ext g w g' w ∧ Inv P g' w fr' σ' a ∧ AllRep (Rep g') (xs.map a.eval) ds ∧ ds.all D.notL = true ∧ ∀ d ∈ ds, d.strip = d
 | [], xs', ds, g, fr, σ, i, hc, h => by
  simp [compXs] at hc
  subst hc
  simp only [Fr.promoteAll] at h
  cases h
  exact ⟨g, .refl g w, i, ⟨rfl, fun i v d h => by simp at h⟩, rfl, by simp⟩
 | x :: xs, xs', ds, g, fr, σ, i, hc, h => by
  simp only [compXs, List.mapM_cons, Option.bind_eq_bind, Option.pure_def, Option.bind_eq_some_iff] at hc
  obtain ⟨y, h1, ys, h2, h3⟩ := hc
  cases h3
  simp only [Fr.promoteAll] at h
  split at h
  ·rename_i d1 fr1 σ1 hp
   simp only [Option.map_eq_some_iff] at h
   obtain ⟨⟨ds1, fr2, σ2⟩, k1, k2⟩ := h
   cases k2
   obtain ⟨g1, e1, i1, r1, n1, s1⟩ := promoteX_ok i h1 hp
   obtain ⟨g2, e2, i2, r2, n2, s2⟩ := promoteAll_ok i1 h2 k1
   refine ⟨g2, e1.trans e2, i2, ⟨by simpa using r2.1, fun k v d q1 q2 => ?_⟩, by simp [n1, n2], fun d hd => ?_⟩
   ·cases k with
    | zero =>
     simp at q1 q2
     subst q1 q2
     exact r1.mono e2.le (fun t off e => by subst e; simp [D.notL] at n1)
    | succ k => exact r2.2 k v d (by simpa using q1) (by simpa using q2)
   ·rcases List.mem_cons.1 hd with rfl | hd
    ·exact s1
    ·exact s2 d hd
  ·cases h
theorem snd_mkfunc {f : FuncId} {first caps : Array Operand} (hop : o.op = .makeFunc (.func f) first caps) (hf : first.isEmpty = true) {caps' : List X} (hX : compXs caps.toList = some caps')
  (he : evalOp cal q o.dst (.mkfunc f caps') fr σ = some (d, fr', σ')) (i : Inv P g w fr σ a) : Snd P g w a o fr' σ' d := by
 simp only [evalOp, Option.map_eq_some_iff] at he
 obtain ⟨⟨ds, fr1, σ1⟩, h1, h2⟩ := he
 cases h2
 obtain ⟨g1, e1, i1, r1, n1, s1⟩ := promoteAll_ok i hX h1
 intro next Q hn
 have hrun : (execOp a.eval o).run P w = .ok (.value (.func (.func f) #[] (caps.map a.eval))) w := by
  simp only [execOp, hop]
  refine run_vmap ?_
  rw [Array.isEmpty_iff.1 hf, Array.map_empty]
  rfl
 refine wp_value hrun (hn _ _ g1 e1 (i1.put o.dst ?_ (fun _ _ => .of_ne rfl) (fun s off e => by cases e)))
 refine .func f _ ds (by rw [Array.toList_map]; exact r1.1) (fun k v d q1 q2 => r1.2 k v d (by rw [← Array.toList_map]; exact q1) q2) n1
def Gh.push (g : Gh) (b sz : Nat) : Gh :=
 { g with n := g.n + 1, μ := fun o => if o = g.n then b else g.μ o, sz := fun o => if o = g.n then sz else g.sz o, ω := fun x => if x = b then .obj g.n else g.ω x }
theorem push_le (g : Gh) (b sz : Nat) : g.Le (g.push b sz) :=
 ⟨fun _ _ _ h => h, Nat.le_succ _, fun o ho => by simp [Gh.push, Nat.ne_of_lt ho], fun o ho => by simp [Gh.push, Nat.ne_of_lt ho]⟩
theorem push_keep (g : Gh) (w : World) (b sz : Nat) : Keep g w (g.push b sz) w (fun x => x = b) :=
 ⟨push_le g b sz, Nat.le_refl _, fun c _ hc => ⟨rfl, by simp [Gh.push, hc], fun _ => rfl⟩⟩
theorem Inv.push (i : Inv P g w fr σ a) {b sz : Nat} (hω : g.ω b = .hand) (ob : Obj) (hcells : ∀ cs, ob = .cells cs → Blk P (g.push b sz) w b sz (.obuf g.n) cs)
  (hmap : ∀ es, ob = .map es → ∃ ents clock, w.heap[b]? = some (.map ents clock) ∧ MapRep (g.push b sz) ents.toList es ∧ Born ents clock) (hrow : ∀ e, ob ≠ .row e := by intro e h; cases h) (hmr : ∀ es, ob ≠ .mapR es := by intro e h; cases h) : Inv P (g.push b sz) w fr (σ ++ [ob]) a ∧ Ext g w (g.push b sz) w := by
 have hk := push_keep g w b sz
 have hC : ∀ x, x = b → ¬ claims fr σ (g.ω x) := by
  rintro x rfl
  rw [hω]
  exact fun h => h
 have hn : σ.length = g.n := i.h.n.symm
 refine ⟨⟨⟨i.h.imm, by simp [Gh.push, i.h.n], fun o1 cs h1 => ?_, fun o1 es h1 => ?_, rows_snoc hrow (fun o1 e cs h1 h2 => i.h.rows_keep hk hC o1 e cs h1 h2), fun o1 es h1 => by
   by_cases hlt : o1 < σ.length
   ·rw [List.getElem?_append_left hlt] at h1
    exact i.h.mapsR_keep hk hC o1 es h1
   ·rw [List.getElem?_append_right om] at h1
    have h0 : o1 - σ.length = 0 := by
     have := get_lt h1
     simp at this
     omega
    rw [h0] at h1
    simp at h1
    exact absurd h1 (hmr es)⟩, i.s.keep hk hC (fun _ _ _ => rfl), i.d.mono hk.le⟩, Ext.of_keep hk (fun c hc _ => by rw [hc, hω]; rfl) rfl rfl rfl⟩
 ·by_cases hlt : o1 < σ.length
  ·rw [List.getElem?_append_left hlt] at h1
   exact i.h.cells_keep hk hC o1 cs h1
  ·rw [List.getElem?_append_right om] at h1
   have h0 : o1 - σ.length = 0 := by
    have := get_lt h1
    simp at this
    omega
   rw [h0] at h1
   simp at h1
   have he : o1 = g.n := by omega
   subst he
   exact ⟨by simp [Gh.push], by simpa [Gh.push] using hcells cs h1⟩
 ·by_cases hlt : o1 < σ.length
  ·rw [List.getElem?_append_left hlt] at h1
   exact i.h.maps_keep hk hC o1 es h1
  ·rw [List.getElem?_append_right om] at h1
   have h0 : o1 - σ.length = 0 := by
    have := get_lt h1
    simp at this
    omega
   rw [h0] at h1
   simp at h1
   have he : o1 = g.n := by omega
   subst he
   obtain ⟨ents, clock, q1, q2⟩ := hmap es h1
   exact ⟨by simp [Gh.push], ents, clock, by simpa [Gh.push] using q1, q2⟩
theorem snd_mkmap {t : TypeId} (hop : o.op = .makeMap t none) (he : evalOp cal q o.dst .mkmap fr σ = some (d, fr', σ')) (i : Inv P g w fr σ a) : Snd P g w a o fr' σ' d := by
 simp only [evalOp] at he
 cases he
 intro next Q hn
 have hrun : (execOp a.eval o).run P w = .ok (.value (.map (some w.heap.size))) (w.alloc (.map #[] 0)) := by
  simp only [execOp, hop]
  exact run_vmap' rfl
 have i1 := i.alloc (.map #[] 0) .hand
 obtain ⟨i2, e2⟩ := i1.push (b := w.heap.size) (sz := 0) (by simp [Gh.tagAt]) (.map []) (fun cs h => by cases h) (fun es h => by
  cases h
  exact ⟨#[], 0, heap_new w _, ⟨[], .refl _, .nil, rfl, fun i e kd h => by simp at h⟩, by simp [Born]⟩)
 refine wp_value hrun (hn _ _ _ ((Ext.alloc g w _ .hand).trans e2) (i2.put o.dst ?_ (fun _ _ => .of_ne rfl) (fun s off e => by cases e)))
 have := Rep.map (g := (g.tagAt w.heap.size .hand).push w.heap.size 0) g.n (Nat.lt_succ_self _)
 rw [← i.h.n]
 simpa [Gh.push, Gh.tagAt] using this
end
end Go.Abs

namespace Go.Abs
open Go Go.RowKit
def LeafR (v : Value) : D → Prop
 | .bool b => v = .bool b
 | .int k n => v = .int k n
 | .str s => ∃ t : ByteArray, v = .string t ∧ t.data.toList = s
 | _ => False
def LV (vs : List Value) (ds : List D) : Prop := AllRep LeafR vs ds
section
variable {P : Program} {w : World} {g : Gh}
theorem leaf_rep {k : LK} {v : Value} {d : D} (h : k.fits d = true) (hr : Rep g v d) : LeafR v d := by
 unfold LK.fits at h
 split at h <;> first | (cases h; done) | skip
 ·exact rep_bool hr
 ·exact rep_int hr
 ·exact rep_str hr
theorem fit_get : ∀ {ls : List LK} {ds : List D}, fitL ls ds = true → ls.length = ds.length ∧ ∀ (i : Nat) (d : D), ds[i]? = some d → ∃ k : LK, k.fits d = true
 | [], [], _ => ⟨rfl, fun i d h => by simp at h⟩
 | [], _ :: _, h => by simp [fitL] at h
 | _ :: _, [], h => by simp [fitL] at h
 | k :: ls, d :: ds, h => by
  simp only [fitL, Bool.and_eq_true] at h
  obtain ⟨q1, q2⟩ := fit_get h.2
  refine ⟨by simp [q1], fun i e he => ?_⟩
  cases i with
  | zero => simp at he; subst he; exact ⟨k, h.1⟩
  | succ i => exact q2 i e (by simpa using he)
theorem leaves_rep {ls : List LK} {vs : List Value} {ds : List D} (h : fitL ls ds = true) (hr : AllRep (Rep g) vs ds) : LV vs ds :=
 ⟨hr.1, fun i v d h1 h2 => by
  obtain ⟨k, hk⟩ := (fit_get h).2 i d h2
  exact leaf_rep hk (hr.2 i v d h1 h2)⟩
theorem LV.sub {vs : List Value} {ds : List D} (h : LV vs ds) (off n : Nat) : LV ((vs.drop off).take n) ((ds.drop off).take n) := by
 refine ⟨by simp [h.1], fun i v d h1 h2 => ?_⟩
 rw [List.getElem?_take] at h1 h2
 split at h1
 ·rename_i hi
  rw [if_pos hi] at h2
  rw [List.getElem?_drop] at h1 h2
  exact h.2 _ v d h1 h2
 ·cases h1
theorem leaf_cells {v : Value} {d : D} (h : LeafR v d) : v.cells = #[v] := by
 unfold LeafR at h
 split at h
 ·subst h; rfl
 ·subst h; rfl
 ·obtain ⟨t, rfl, _⟩ := h; rfl
 ·cases h
def Shape (P : Program) (t : TypeId) (v : Value) : Prop := (isAggT P t = some true → ∃ vs, v = .agg vs) ∧ (isAggT P t = some false → v.cells = #[v])
def EqD (P : Program) (dd : Nat) (e : TypeId) (ls : List LK) : Prop :=
 ∀ (w : World) (a b : Value) (xs ys : List D), LV a.cells.toList xs → LV b.cells.toList ys → fitL ls xs = true → fitL ls ys = true → Shape P e a → Shape P e b → (Op.equalIn dd e a b).run P w = .ok (eqLs xs ys) w
theorem fit_split : ∀ {a b : List LK} {ds : List D}, fitL (a ++ b) ds = true → fitL a (ds.take a.length) = true ∧ fitL b (ds.drop a.length) = true
 | [], b, ds, h => ⟨by simp [fitL], by simpa using h⟩
 | k :: a, b, [], h => by simp [fitL] at h
 | k :: a, b, d :: ds, h => by
  simp only [List.cons_append, fitL, Bool.and_eq_true] at h
  obtain ⟨q1, q2⟩ := fit_split h.2
  exact ⟨by simp [fitL, h.1, q1], by simpa using q2⟩
theorem eq_split : ∀ (n : Nat) {xs ys : List D}, n ≤ xs.length → n ≤ ys.length → eqLs xs ys = (eqLs (xs.take n) (ys.take n) && eqLs (xs.drop n) (ys.drop n))
 | 0, xs, ys, _, _ => by simp [eqLs]
 | n + 1, [], _, h, _ => by simp at h
 | n + 1, _ :: _, [], _, h => by simp at h
 | n + 1, x :: xs, y :: ys, h1, h2 => by
  simp only [eqLs, List.take_succ_cons, List.drop_succ_cons]
  rw [eq_split n (by simpa using h1) (by simpa using h2), Bool.and_assoc]
theorem leaves_agg {n : Nat} {t : TypeId} {ls : List LK} (h : leavesT P n t = some ls) : ∃ agg, isAggT P t = some agg ∧ (agg = false → ls.length = 1) := by
 cases n with
 | zero => cases h
 | succ n =>
  unfold leavesT at h
  split at h <;> first | (cases h; done) | skip
  ·rename_i hu; cases h; exact ⟨false, by unfold isAggT; rw [hu]; rfl, fun _ => rfl⟩
  ·rename_i hu; cases h; exact ⟨false, by unfold isAggT; rw [hu]; rfl, fun _ => rfl⟩
  ·rename_i hu; cases h; exact ⟨false, by unfold isAggT; rw [hu]; rfl, fun _ => rfl⟩
  ·rename_i hu; exact ⟨true, by unfold isAggT; rw [hu]; rfl, fun h => by cases h⟩
  ·rename_i hu; exact ⟨true, by unfold isAggT; rw [hu]; rfl, fun h => by cases h⟩
theorem part_ok {e : TypeId} {n : Nat} {ls : List LK} (hl : leavesT P n e = some ls) (hs : sizeT P e = some ls.length) {xs : Array Value} {dx : List D} (hx : LV xs.toList dx) {off : Nat} (hf : fitL ls ((dx.drop off).take ls.length) = true) :
  ∃ a, (part e xs off).run P w = .ok a w ∧ LV a.cells.toList ((dx.drop off).take ls.length) ∧ Shape P e a := by
 obtain ⟨agg, hagg, h1⟩ := leaves_agg hl
 have hsub := hx.sub off ls.length
 cases agg with
 | true =>
  refine ⟨.agg (xs.extract off (off + ls.length)), by unfold part; rw [run_bo (isAgg_run hagg)]; simp only [if_true]; rw [run_bo (size_run hs)]; rfl, ?_, ⟨(fun _ => ⟨_, rfl⟩), (fun h => by rw [hagg] at h; cases h)⟩⟩
  have : (Value.agg (xs.extract off (off + ls.length))).cells.toList = (xs.toList.drop off).take ls.length := by
   show (xs.extract off (off + ls.length)).toList = _
   rw [Array.toList_extract, List.extract_eq_take_drop]
   congr 1
   omega
  rw [this]
  exact hsub
 | false =>
  have hlen := h1 rfl
  have hdl := (fit_get hf).1
  rw [hlen] at hdl hsub ⊢
  have hv1 : ((xs.toList.drop off).take 1).length = 1 := by rw [hsub.1]; exact hdl.symm
  obtain ⟨v, hv⟩ : ∃ v, (xs.toList.drop off).take 1 = [v] := by
   match hq : (xs.toList.drop off).take 1, hv1 with
   | [v], _ => exact ⟨v, rfl⟩
  obtain ⟨d, hd⟩ : ∃ d, (dx.drop off).take 1 = [d] := by
   match hq : (dx.drop off).take 1, hdl with
   | [d], _ => exact ⟨d, rfl⟩
  rw [hv, hd] at hsub
  have hr : LeafR v d := hsub.2 0 v d rfl rfl
  have hxo : xs[off]? = some v := by
   have : ((xs.toList.drop off).take 1)[0]? = some v := by rw [hv]; rfl
   rw [List.getElem?_take, if_pos om, List.getElem?_drop] at this
   simpa using this
  refine ⟨v, by unfold part; rw [run_bo (isAgg_run hagg)]; simp only [Bool.false_eq_true, if_false]; rw [hxo]; rfl, ?_, ⟨(fun h => by rw [hagg] at h; cases h), fun _ => leaf_cells hr⟩⟩
  rw [leaf_cells hr, hd]
  exact hsub
theorem eqFields_ok (dd n : Nat) {xs ys : Array Value} {dx dy : List D} (hx : LV xs.toList dx) (hy : LV ys.toList dy) : ∀ (fs : List Field) (off : Nat) (ls : List LK), (∀ f ∈ fs, ∀ l, leavesT P n f.type = some l → EqD P dd f.type l) → leavesF P (leavesT P n) fs off = some ls →
  fitL ls (dx.drop off) = true → fitL ls (dy.drop off) = true → (Op.eqFields dd xs ys fs).run P w = .ok (eqLs (dx.drop off) (dy.drop off)) w
 | [], off, ls, _, h, h1, h2 => by
  simp only [leavesF, Option.some.injEq] at h
  subst h
  have e1 := (fit_get h1).1
  have e2 := (fit_get h2).1
  rw [List.eq_nil_of_length_eq_zero e1.symm, List.eq_nil_of_length_eq_zero e2.symm]
  simp [Op.eqFields, eqLs]
 | f :: fs, off, ls, hall, h, h1, h2 => by
  simp only [leavesF] at h
  split at h <;> first | (cases h; done) | skip
  rename_i hc
  split at h <;> first | (cases h; done) | skip
  rename_i l hl
  split at h <;> first | (cases h; done) | skip
  rename_i hs
  simp only [Option.map_eq_some_iff] at h
  obtain ⟨ls', h3, rfl⟩ := h
  obtain ⟨p1, p2⟩ := fit_split h1
  obtain ⟨q1, q2⟩ := fit_split h2
  obtain ⟨hn, ho⟩ := hc
  have hn' : f.name ≠ "_" := by simpa using hn
  obtain ⟨a, r1, r2, r3⟩ := part_ok (w := w) hl hs hx p1
  obtain ⟨b, s1, s2, s3⟩ := part_ok (w := w) hl hs hy q1
  have he := hall f (by simp) l hl w a b _ _ r2 s2 p1 q1 r3 s3
  rw [List.drop_drop] at p2 q2
  have ih := eqFields_ok dd n hx hy fs (off + l.length) ls' (fun f hf => hall f (by simp [hf])) h3 p2 q2
  simp only [Op.eqFields, hn', ne_eq, not_false_eq_true, if_true, Sem.run_bind, ho, r1, s1, he, Result.andThen_ok]
  have hlx : l.length ≤ (dx.drop off).length := by have := (fit_get h1).1; simp at this ⊢; omega
  have hly : l.length ≤ (dy.drop off).length := by have := (fit_get h2).1; simp at this ⊢; omega
  rw [eq_split l.length hlx hly, List.drop_drop, List.drop_drop]
  cases hb : eqLs ((dx.drop off).take l.length) ((dy.drop off).take l.length) with
  | false => simp
  | true => simpa using ih
theorem rep_flat_drop (k : Nat) (ls : List LK) : (List.replicate (k + 1) ls).flatten = ls ++ (List.replicate k ls).flatten := by
 simp [List.replicate_succ]
theorem eqItems_ok (dd n : Nat) {e : TypeId} {l : List LK} (hl : leavesT P n e = some l) (hs : sizeT P e = some l.length) (IH : EqD P dd e l) {xs ys : Array Value} {dx dy : List D} (hx : LV xs.toList dx) (hy : LV ys.toList dy) : ∀ (k i0 : Nat),
  fitL (List.replicate k l).flatten (dx.drop (i0 * l.length)) = true → fitL (List.replicate k l).flatten (dy.drop (i0 * l.length)) = true →
  (Op.eqItems dd e l.length xs ys ((List.range k).map (i0 + ·))).run P w = .ok (eqLs (dx.drop (i0 * l.length)) (dy.drop (i0 * l.length))) w
 | 0, i0, h1, h2 => by
  have e1 := (fit_get h1).1
  have e2 := (fit_get h2).1
  rw [List.eq_nil_of_length_eq_zero e1.symm, List.eq_nil_of_length_eq_zero e2.symm]
  simp [Op.eqItems, eqLs]
 | k + 1, i0, h1, h2 => by
  rw [rep_flat_drop] at h1 h2
  obtain ⟨p1, p2⟩ := fit_split h1
  obtain ⟨q1, q2⟩ := fit_split h2
  obtain ⟨a, r1, r2, r3⟩ := part_ok (w := w) hl hs hx p1
  obtain ⟨b, s1, s2, s3⟩ := part_ok (w := w) hl hs hy q1
  have he := IH w a b _ _ r2 s2 p1 q1 r3 s3
  rw [List.drop_drop, show i0 * l.length + l.length = (i0 + 1) * l.length by rw [Nat.succ_mul]] at p2 q2
  have ih := eqItems_ok dd n hl hs IH hx hy k (i0 + 1) p2 q2
  have hr : (List.range (k + 1)).map (i0 + ·) = i0 :: (List.range k).map (i0 + 1 + ·) := by
   rw [List.range_succ_eq_map]
   simp only [List.map_cons, List.map_map, Nat.add_zero, List.cons.injEq, true_and]
   refine List.map_congr_left fun x _ => ?_
   simp only [Function.comp]
   omega
  rw [hr]
  simp only [Op.eqItems, Sem.run_bind, r1, s1, he, Result.andThen_ok]
  have hlx : l.length ≤ (dx.drop (i0 * l.length)).length := by have := (fit_get h1).1; simp at this ⊢; omega
  have hly : l.length ≤ (dy.drop (i0 * l.length)).length := by have := (fit_get h2).1; simp at this ⊢; omega
  rw [eq_split l.length hlx hly, List.drop_drop, List.drop_drop, show i0 * l.length + l.length = (i0 + 1) * l.length by rw [Nat.succ_mul]]
  cases hb : eqLs ((dx.drop (i0 * l.length)).take l.length) ((dy.drop (i0 * l.length)).take l.length) with
  | false => simp
  | true => simpa using ih
theorem one_leaf {a : Value} {ds : List D} {k : LK} (h : LV a.cells.toList ds) (hf : fitL [k] ds = true) (hc : a.cells = #[a]) : ∃ d, ds = [d] ∧ LeafR a d ∧ k.fits d = true := by
 match ds, hf, h with
 | [], hf, _ => simp [fitL] at hf
 | [d], hf, h =>
  rw [hc] at h
  simp only [fitL, Bool.and_true] at hf
  exact ⟨d, rfl, h.2 0 a d rfl rfl, hf⟩
 | _ :: _ :: _, hf, _ => simp [fitL] at hf
theorem bytes_eq0 (s t : ByteArray) : (s == t) = (s.data.toList == t.data.toList) := by
 by_cases h : s = t
 ·subst h
  rw [(MapKept.bytes_beq s s).2 rfl]
  simp
 ·have h1 : (s == t) = false := by
   cases hb : s == t
   ·rfl
   ·exact absurd ((MapKept.bytes_beq s t).1 hb) h
  have h2 : s.data.toList ≠ t.data.toList := fun e => h (by
   have h3 := Array.toList_inj.1 e
   cases s
   cases t
   simp at h3
   subst h3
   rfl)
  rw [h1]
  symm
  simpa using h2
theorem equalIn_leaves (d : Nat) : ∀ (n : Nat) (t : TypeId) (ls : List LK), leavesT P n t = some ls → EqD P (d + n) t ls
 | 0, t, ls, h => by cases h
 | n + 1, t, ls, h => by
  intro w a b xs ys h1 h2 h3 h4 s1 s2
  have hs := h
  unfold leavesT at h
  split at h <;> first | (cases h; done) | skip
  ·rename_i hu
   cases h
   have hag : isAggT P t = some false := by unfold isAggT; rw [hu]; rfl
   obtain ⟨x, rfl, hx, fx⟩ := one_leaf h1 h3 (s1.2 hag)
   obtain ⟨y, rfl, hy, fy⟩ := one_leaf h2 h4 (s2.2 hag)
   cases x <;> simp only [LK.fits, Bool.false_eq_true] at fx
   cases y <;> simp only [LK.fits, Bool.false_eq_true] at fy
   simp only [LeafR] at hx hy
   subst hx hy
   rename_i p q
   rw [show d + (n + 1) = (d + n) + 1 from rfl, equalIn_bool (d + n) hu]
   simp [eqLs, leafEq]
  ·rename_i k hu
   cases h
   have hag : isAggT P t = some false := by unfold isAggT; rw [hu]; rfl
   obtain ⟨x, rfl, hx, fx⟩ := one_leaf h1 h3 (s1.2 hag)
   obtain ⟨y, rfl, hy, fy⟩ := one_leaf h2 h4 (s2.2 hag)
   cases x <;> simp only [LK.fits, Bool.false_eq_true] at fx
   cases y <;> simp only [LK.fits, Bool.false_eq_true] at fy
   simp only [LeafR] at hx hy
   simp only [decide_eq_true_eq] at fx fy
   subst hx hy fx fy
   rw [show d + (n + 1) = (d + n) + 1 from rfl]
   simp [Op.equalIn, run_und hu, eqLs, leafEq]
  ·rename_i hu
   cases h
   have hag : isAggT P t = some false := by unfold isAggT; rw [hu]; rfl
   obtain ⟨x, rfl, hx, fx⟩ := one_leaf h1 h3 (s1.2 hag)
   obtain ⟨y, rfl, hy, fy⟩ := one_leaf h2 h4 (s2.2 hag)
   cases x <;> simp only [LK.fits, Bool.false_eq_true] at fx
   cases y <;> simp only [LK.fits, Bool.false_eq_true] at fy
   obtain ⟨p, rfl, hp⟩ := hx
   obtain ⟨q, rfl, hq⟩ := hy
   subst hp hq
   rw [show d + (n + 1) = (d + n) + 1 from rfl]
   simp only [eqLs, leafEq, Bool.and_true]
   rw [← bytes_eq0]
   simp [Op.equalIn, run_und hu]
  ·rename_i fs hu
   split at h <;> first | (cases h; done) | skip
   rename_i hst
   have hag : isAggT P t = some true := by unfold isAggT; rw [hu]; rfl
   obtain ⟨va, rfl⟩ := s1.1 hag
   obtain ⟨vb, rfl⟩ := s2.1 hag
   have hfs : P.fieldsOf t = fs := by simp [Program.fieldsOf, hu]
   have := eqFields_ok (w := w) (d + n) n (xs := va) (ys := vb) h1 h2 fs.toList 0 ls (fun f _ l hl => equalIn_leaves d n f.type l hl) h (by simpa using h3) (by simpa using h4)
   rw [show d + (n + 1) = (d + n) + 1 from rfl, run_equalIn_struct w (d + n) t va vb (by rw [hfs]; exact hu) (by simpa using hst), hfs]
   simpa using this
  ·rename_i k e hu
   split at h <;> first | (cases h; done) | skip
   rename_i l hl
   split at h <;> first | (cases h; done) | skip
   rename_i hsz
   cases h
   have hag : isAggT P t = some true := by unfold isAggT; rw [hu]; rfl
   obtain ⟨va, rfl⟩ := s1.1 hag
   obtain ⟨vb, rfl⟩ := s2.1 hag
   obtain ⟨i, hi⟩ : ∃ i, P.info? e = some i := by
    unfold sizeT at hsz
    cases hq : P.info? e with
    | none => rw [hq] at hsz; cases hsz
    | some i => exact ⟨i, rfl⟩
   have hco : P.cellsOf e = l.length := by
    unfold sizeT at hsz
    rw [hi] at hsz
    simp only [Option.map_some, Option.some.injEq] at hsz
    simp [Program.cellsOf, hi, hsz]
   have := eqItems_ok (w := w) (d + n) n hl hsz (equalIn_leaves d n e l hl) (xs := va) (ys := vb) h1 h2 k 0 (by simpa using h3) (by simpa using h4)
   rw [show d + (n + 1) = (d + n) + 1 from rfl, run_equalIn_array w (d + n) va vb hu hi, hco]
   simpa using this
def CheckD (P : Program) (em : Bool) (dd : Nat) (e : TypeId) (ls : List LK) : Prop :=
 ∀ (w : World) (a : Value) (xs : List D), LV a.cells.toList xs → fitL ls xs = true → Shape P e a → (Instr.checkKey em dd e a).run P w = .ok () w
theorem checkKey_leaves (em : Bool) (d : Nat) : ∀ (n : Nat) (t : TypeId) (ls : List LK), leavesT P n t = some ls → CheckD P em (d + n) t ls
 | 0, t, ls, h => by cases h
 | n + 1, t, ls, h => by
  intro w a xs h1 h3 s1
  unfold leavesT at h
  split at h <;> first | (cases h; done) | skip
  ·rename_i hu
   rw [show d + (n + 1) = (d + n) + 1 from rfl, Instr.checkKey]
   simp [run_und hu]
  ·rename_i k hu
   rw [show d + (n + 1) = (d + n) + 1 from rfl, Instr.checkKey]
   simp [run_und hu]
  ·rename_i hu
   rw [show d + (n + 1) = (d + n) + 1 from rfl, Instr.checkKey]
   simp [run_und hu]
  ·rename_i fs hu
   split at h <;> first | (cases h; done) | skip
   have hag : isAggT P t = some true := by unfold isAggT; rw [hu]; rfl
   obtain ⟨va, rfl⟩ := s1.1 hag
   rw [show d + (n + 1) = (d + n) + 1 from rfl, Instr.checkKey]
   simp only [Sem.run_bind, run_und hu, Result.andThen_ok]
   rw [← Array.forIn_toList]
   have IH : ∀ f ∈ fs.toList, ∀ l, leavesT P n f.type = some l → CheckD P em (d + n) f.type l := fun f _ l hl => checkKey_leaves em d n f.type l hl
   have hf0 : fitL ls (xs.drop 0) = true := by simpa using h3
   have hx : LV va.toList xs := h1
   clear h1 h3 s1
   generalize fs.toList = L at h IH
   generalize (0 : Nat) = off at h hf0
   clear hu
   induction L generalizing off ls with
   | nil => simp
   | cons f L ih =>
    simp only [leavesF] at h
    split at h <;> first | (cases h; done) | skip
    rename_i hc
    split at h <;> first | (cases h; done) | skip
    rename_i l hl
    split at h <;> first | (cases h; done) | skip
    rename_i hs
    simp only [Option.map_eq_some_iff] at h
    obtain ⟨ls', h5, rfl⟩ := h
    obtain ⟨p1, p2⟩ := fit_split hf0
    obtain ⟨hn, ho⟩ := hc
    have hn' : f.name ≠ "_" := by simpa using hn
    obtain ⟨a, r1, r2, r3⟩ := part_ok (w := w) hl hs hx p1
    have he := IH f (by simp) l hl w a _ r2 p1 r3
    rw [List.drop_drop] at p2
    simp only [List.forIn_cons, Sem.run_bind, hn', ne_eq, not_false_eq_true, if_true, Result.andThen_ok, ho, r1, he, Sem.run_pure]
    exact ih ls' (fun f hf => IH f (by simp [hf])) (off + l.length) h5 p2
  ·rename_i k e hu
   split at h <;> first | (cases h; done) | skip
   rename_i l hl
   split at h <;> first | (cases h; done) | skip
   rename_i hsz
   cases h
   have hag : isAggT P t = some true := by unfold isAggT; rw [hu]; rfl
   obtain ⟨va, rfl⟩ := s1.1 hag
   have IH := checkKey_leaves em d n e l hl
   rw [show d + (n + 1) = (d + n) + 1 from rfl, Instr.checkKey]
   simp only [Sem.run_bind, run_und hu, Result.andThen_ok]
   simp only [Std.Legacy.Range.forIn_eq_forIn_range', Std.Legacy.Range.size, Nat.sub_zero, Nat.add_one_sub_one, Nat.div_one]
   have hx : LV va.toList xs := h1
   have hf0 : fitL (List.replicate k l).flatten (xs.drop (0 * l.length)) = true := by simpa using h3
   clear h1 h3 s1 hu
   generalize (0 : Nat) = i0 at hf0
   induction k generalizing i0 with
   | zero => simp
   | succ k ih =>
    rw [rep_flat_drop] at hf0
    obtain ⟨p1, p2⟩ := fit_split hf0
    obtain ⟨a, r1, r2, r3⟩ := part_ok (w := w) hl hsz hx p1
    have he := IH w a _ r2 p1 r3
    rw [List.drop_drop, show i0 * l.length + l.length = (i0 + 1) * l.length by rw [Nat.succ_mul]] at p2
    rw [List.range'_succ]
    simp only [List.forIn_cons, Sem.run_bind, size_run hsz, Result.andThen_ok, r1, he, Sem.run_pure]
    exact ih (i0 + 1) p2
end
end Go.Abs

namespace Go.Abs
open Go Go.RowKit
section
variable {P : Program} {g g' : Gh} {w w' : World} {fr fr' : Fr} {σ σ' : St} {a : Act} {o : Oper} {d : D} {cal : Cal} {q : Bool} {mu : List Nat} {ops : List Oper}
theorem bytes_eq (s t : ByteArray) : (s == t) = (s.data.toList == t.data.toList) := by
 by_cases h : s = t
 ·subst h
  rw [(MapKept.bytes_beq s s).2 rfl]
  simp
 ·have h1 : (s == t) = false := by
   cases hb : s == t
   ·rfl
   ·exact absurd ((MapKept.bytes_beq s t).1 hb) h
  have h2 : s.data.toList ≠ t.data.toList := fun e => h (by
   have h3 := Array.toList_inj.1 e
   cases s
   cases t
   simp at h3
   subst h3
   rfl)
  rw [h1]
  symm
  simpa using h2
def Kind3 (kk : Nat) (de : TypeDesc) : Prop := (kk = 0 ∧ ∃ k, de = .int k) ∨ (kk = 1 ∧ de = .string) ∨ (kk = 2 ∧ de = .bool)
def KindA (P : Program) (t : TypeId) (kk : Nat) (de : TypeDesc) : Prop := ∃ n ls, kk = n + 3 ∧ leavesT P 8 t = some ls ∧ keyLs n = ls ∧ isAggT P t = some true ∧ (∀ k, de ≠ .int k) ∧ de ≠ .string ∧ de ≠ .bool
theorem keyKind_und {t : TypeId} {kk : Nat} (h : keyKind P t = some kk) : ∃ de, P.underlying t = some de ∧ (Kind3 kk de ∨ KindA P t kk de) := by
 have code : ∀ n, keyCode P t = some n → ∃ ls, leavesT P 8 t = some ls ∧ keyLs n = ls := by
  intro n hn
  unfold keyCode at hn
  split at hn <;> first | (cases hn; done) | skip
  rename_i ls hl
  split at hn <;> first | (cases hn; done) | skip
  rename_i hk
  cases hn
  exact ⟨ls, hl, hk⟩
 unfold keyKind at h
 split at h <;> first | (cases h; done) | skip
 ·rename_i k hk
  cases h
  exact ⟨_, hk, .inl (.inl ⟨rfl, k, rfl⟩)⟩
 ·rename_i hk
  cases h
  exact ⟨_, hk, .inl (.inr (.inl ⟨rfl, rfl⟩))⟩
 ·rename_i hk
  cases h
  exact ⟨_, hk, .inl (.inr (.inr ⟨rfl, rfl⟩))⟩
 ·rename_i fs hk
  simp only [Option.map_eq_some_iff] at h
  obtain ⟨n, hn, rfl⟩ := h
  obtain ⟨ls, h1, h2⟩ := code n hn
  exact ⟨_, hk, .inr ⟨n, ls, rfl, h1, h2, by unfold isAggT; rw [hk]; rfl, by simp, by simp, by simp⟩⟩
 ·rename_i m e hk
  simp only [Option.map_eq_some_iff] at h
  obtain ⟨n, hn, rfl⟩ := h
  obtain ⟨ls, h1, h2⟩ := code n hn
  exact ⟨_, hk, .inr ⟨n, ls, rfl, h1, h2, by unfold isAggT; rw [hk]; rfl, by simp, by simp, by simp⟩⟩
theorem agg_shape {t : TypeId} (h : isAggT P t = some true) (vs : Array Value) : Shape P t (.agg vs) := ⟨fun _ => ⟨vs, rfl⟩, fun h' => by rw [h] at h'; cases h'⟩
theorem checkKey_run {t : TypeId} {kk : Nat} (h : keyKind P t = some kk) {v : Value} {d : D} (hr : Rep g v d) (hk : keyD kk d = true) (em : Bool) : (Instr.checkKey em 10000 t v).run P w = .ok () w := by
 obtain ⟨de, h1, h2⟩ := keyKind_und h
 rcases h2 with h2 | ⟨n, ls, rfl, q1, q2, q3, _⟩
 ·unfold Instr.checkKey
  rw [run_bo (run_und h1)]
  rcases h2 with ⟨rfl, k, rfl⟩ | ⟨rfl, rfl⟩ | ⟨rfl, rfl⟩
  all_goals
   unfold keyD at hk
   split at hk <;> first | (cases hk; done) | skip
   all_goals first
    | (rw [rep_int hr]; rfl)
    | (obtain ⟨s, rfl, _⟩ := rep_str hr; rfl)
    | (rw [rep_bool hr]; rfl)
    | (rename_i hh; simp at hh)
 ·cases d <;> simp only [keyD, Bool.false_eq_true] at hk
  rename_i xs
  obtain ⟨vs, rfl, hv, _⟩ := rep_agg hr
  rw [q2] at hk
  exact checkKey_leaves em 9992 8 t ls q1 w (.agg vs) xs (leaves_rep hk hv) hk (agg_shape q3 vs)
theorem sameNow_of {de : TypeDesc} {kk : Nat} (hk : Kind3 kk de) {u v : Value} {x y : D} (hu : Rep g u x) (hv : Rep g v y) {b : Bool} (h : eqKey kk x y = some b) :
  Instr.sameNow de u v = some b := by
 unfold Kind3 at hk
 unfold eqKey at h
 split at h <;> first | (cases h; done) | skip
 ·rename_i k1 a1 k2 a2
  rw [rep_int hu, rep_int hv]
  rcases hk with ⟨_, k, rfl⟩ | ⟨h0, _⟩ | ⟨h0, _⟩
  ·exact h
  ·cases h0
  ·cases h0
 ·obtain ⟨s, rfl, rfl⟩ := rep_str hu
  obtain ⟨t, rfl, rfl⟩ := rep_str hv
  rcases hk with ⟨h0, _⟩ | ⟨_, rfl⟩ | ⟨h0, _⟩
  ·cases h0
  ·simp only [Instr.sameNow]
   rw [bytes_eq]
   exact h
  ·cases h0
 ·rw [rep_bool hu, rep_bool hv]
  rcases hk with ⟨h0, _⟩ | ⟨h0, _⟩ | ⟨_, rfl⟩
  ·cases h0
  ·cases h0
  ·exact h
 ·rcases hk with ⟨h0, _⟩ | ⟨h0, _⟩ | ⟨h0, _⟩ <;> omega
theorem equal_of {t : TypeId} {n : Nat} {ls : List LK} (q1 : leavesT P 8 t = some ls) (q2 : keyLs n = ls) (q3 : isAggT P t = some true) {u v : Value} {x y : D} (hu : Rep g u x) (hv : Rep g v y) {b : Bool} (h : eqKey (n + 3) x y = some b) :
  (Op.equal t u v).run P w = .ok b w := by
 obtain ⟨k1, k2⟩ := eqKey_kind h
 cases x <;> simp only [kindD, Bool.false_eq_true] at k1
 cases y <;> simp only [kindD, Bool.false_eq_true] at k2
 rename_i xs ys
 have hb : eqLs xs ys = b := by
  simp only [eqKey, k1, k2, and_self, if_true, Option.some.injEq] at h
  exact h
 subst hb
 have hf : fitL (keyLs n) xs = true ∧ fitL (keyLs n) ys = true := ⟨k1, k2⟩
 obtain ⟨us, rfl, h1, _⟩ := rep_agg hu
 obtain ⟨vs, rfl, h2, _⟩ := rep_agg hv
 rw [q2] at hf
 exact equalIn_leaves 9992 8 t ls q1 w (.agg us) (.agg vs) xs ys (leaves_rep hf.1 h1) (leaves_rep hf.2 h2) hf.1 hf.2 (agg_shape q3 us) (agg_shape q3 vs)
theorem findNow_hit {de : TypeDesc} {kk : Nat} (hk : Kind3 kk de) {u : Value} {x : D} (hu : Rep g u x) :
  ∀ (ents : List MapEntry) (es : List (D × D)) (n j : Nat) (e : MapEntry) (kd : D × D), MapRow g ents es → ents[j]? = some e → es[j]? = some kd → eqKey kk x kd.1 = some true → (∀ (i : Nat) (kd' : D × D), i < j → es[i]? = some kd' → eqKey kk x kd'.1 = some false) →
   Instr.findNow de u ents n = some (some (n + j, e.val))
 | [], es, n, j, e, kd, _, h1, _, _, _ => by simp at h1
 | _ :: _, [], _, _, _, _, hm, _, _, _, _ => by simp [MapRow] at hm
 | e0 :: ents, k0 :: es, n, 0, e, kd, hm, h1, h2, h3, _ => by
  simp at h1 h2
  subst h1 h2
  have := sameNow_of hk hu (hm.2 0 e0 k0 rfl rfl).1 h3
  simp [Instr.findNow, this]
 | e0 :: ents, k0 :: es, n, j + 1, e, kd, hm, h1, h2, h3, h4 => by
  have := sameNow_of hk hu (hm.2 0 e0 k0 rfl rfl).1 (h4 0 k0 om rfl)
  have ih := findNow_hit hk hu ents es (n + 1) j e kd ⟨by simpa using hm.1, fun i e kd h1 h2 => hm.2 (i + 1) e kd (by simpa using h1) (by simpa using h2)⟩ (by simpa using h1) (by simpa using h2) h3 (fun i kd' hi he => h4 (i + 1) kd' om (by simpa using he))
  simp [Instr.findNow, this, ih]
  omega
theorem findNow_miss {de : TypeDesc} {kk : Nat} (hk : Kind3 kk de) {u : Value} {x : D} (hu : Rep g u x) :
  ∀ (ents : List MapEntry) (es : List (D × D)) (n : Nat), MapRow g ents es → (∀ kd ∈ es, eqKey kk x kd.1 = some false) → Instr.findNow de u ents n = some none
 | [], es, n, _, _ => rfl
 | _ :: _, [], _, hm, _ => by simp [MapRow] at hm
 | e0 :: ents, k0 :: es, n, hm, h => by
  have := sameNow_of hk hu (hm.2 0 e0 k0 rfl rfl).1 (h k0 (by simp))
  have ih := findNow_miss hk hu ents es (n + 1) ⟨by simpa using hm.1, fun i e kd h1 h2 => hm.2 (i + 1) e kd (by simpa using h1) (by simpa using h2)⟩ (fun kd hkd => h kd (by simp [hkd]))
  simp [Instr.findNow, this, ih]
theorem findAsk_hit {t : TypeId} {n : Nat} {ls : List LK} (q1 : leavesT P 8 t = some ls) (q2 : keyLs n = ls) (q3 : isAggT P t = some true) {u : Value} {x : D} (hu : Rep g u x) :
  ∀ (ents : List MapEntry) (es : List (D × D)) (m j : Nat) (e : MapEntry) (kd : D × D), MapRow g ents es → ents[j]? = some e → es[j]? = some kd → eqKey (n + 3) x kd.1 = some true → (∀ (i : Nat) (kd' : D × D), i < j → es[i]? = some kd' → eqKey (n + 3) x kd'.1 = some false) →
   (Instr.findAsking t u ents m).run P w = .ok (some (m + j, e.val)) w
 | [], es, m, j, e, kd, _, h1, _, _, _ => by simp at h1
 | _ :: _, [], _, _, _, _, hm, _, _, _, _ => by simp [MapRow] at hm
 | e0 :: ents, k0 :: es, m, 0, e, kd, hm, h1, h2, h3, _ => by
  simp at h1 h2
  subst h1 h2
  have := equal_of (w := w) q1 q2 q3 hu (hm.2 0 e0 k0 rfl rfl).1 h3
  simp [Instr.findAsking, this]
 | e0 :: ents, k0 :: es, m, j + 1, e, kd, hm, h1, h2, h3, h4 => by
  have := equal_of (w := w) q1 q2 q3 hu (hm.2 0 e0 k0 rfl rfl).1 (h4 0 k0 om rfl)
  have ih := findAsk_hit q1 q2 q3 hu ents es (m + 1) j e kd ⟨by simpa using hm.1, fun i e kd h1 h2 => hm.2 (i + 1) e kd (by simpa using h1) (by simpa using h2)⟩ (by simpa using h1) (by simpa using h2) h3 (fun i kd' hi he => h4 (i + 1) kd' om (by simpa using he))
  simp [Instr.findAsking, this, ih]
  omega
theorem findAsk_miss {t : TypeId} {n : Nat} {ls : List LK} (q1 : leavesT P 8 t = some ls) (q2 : keyLs n = ls) (q3 : isAggT P t = some true) {u : Value} {x : D} (hu : Rep g u x) :
  ∀ (ents : List MapEntry) (es : List (D × D)) (m : Nat), MapRow g ents es → (∀ kd ∈ es, eqKey (n + 3) x kd.1 = some false) → (Instr.findAsking t u ents m).run P w = .ok none w
 | [], es, m, _, _ => by simp [Instr.findAsking]
 | _ :: _, [], _, hm, _ => by simp [MapRow] at hm
 | e0 :: ents, k0 :: es, m, hm, h => by
  have := equal_of (w := w) q1 q2 q3 hu (hm.2 0 e0 k0 rfl rfl).1 (h k0 (by simp))
  have ih := findAsk_miss q1 q2 q3 hu ents es (m + 1) ⟨by simpa using hm.1, fun i e kd h1 h2 => hm.2 (i + 1) e kd (by simpa using h1) (by simpa using h2)⟩ (fun kd hkd => h kd (by simp [hkd]))
  simp [Instr.findAsking, this, ih]
theorem now_none {de : TypeDesc} (h1 : ∀ k, de ≠ .int k) (h2 : de ≠ .string) (h3 : de ≠ .bool) (u v : Value) : Instr.sameNow de u v = none := by
 cases de <;> first | rfl | exact absurd rfl (h1 _) | exact absurd rfl h2 | exact absurd rfl h3
theorem findKey_run {t : TypeId} {kk : Nat} (hkk : keyKind P t = some kk) {u : Value} {x : D} (hu : Rep g u x) {ents : List MapEntry} {es : List (D × D)} {r : Option D} (hm : MapRow g ents es) (h : findKey kk x es = some r) :
  (r = none ∧ (∀ kd ∈ es, eqKey kk x kd.1 = some false) ∧ (Instr.findKey t u ents).run P w = .ok none w) ∨ ∃ (j : Nat) (e : MapEntry) (kd : D × D), ents[j]? = some e ∧ es[j]? = some kd ∧ r = some kd.2 ∧ eqKey kk x kd.1 = some true ∧ (∀ (i : Nat) (kd' : D × D), i < j → es[i]? = some kd' → eqKey kk x kd'.1 = some false) ∧ (Instr.findKey t u ents).run P w = .ok (some (j, e.val)) w := by
 obtain ⟨de, h1, h2⟩ := keyKind_und hkk
 have hrun : ∀ r, Instr.findNow de u ents 0 = some r → (Instr.findKey t u ents).run P w = .ok r w := fun r hr => by
  unfold Instr.findKey
  rw [run_bo (run_und h1)]
  simp only [hr]
  rfl
 have hask : ∀ r, (∀ u v, Instr.sameNow de u v = none) → (Instr.findAsking t u ents 0).run P w = .ok r w → (Instr.findKey t u ents).run P w = .ok r w := fun r hn hr => by
  unfold Instr.findKey
  rw [run_bo (run_und h1)]
  cases ents with
  | nil =>
   simp only [Instr.findNow]
   simpa [Instr.findAsking] using hr
  | cons e ents =>
   simp only [Instr.findNow, hn]
   exact hr
 rcases findKey_at h with ⟨r1, r2⟩ | ⟨j, kd, r1, r2, r3, r4⟩
 ·refine .inl ⟨r1, r2, ?_⟩
  rcases h2 with h2 | ⟨n, ls, rfl, q1, q2, q3, n1, n2, n3⟩
  ·exact hrun _ (findNow_miss h2 hu ents es 0 hm r2)
  ·exact hask _ (now_none n1 n2 n3) (findAsk_miss q1 q2 q3 hu ents es 0 hm r2)
 ·obtain ⟨e, he⟩ : ∃ e, ents[j]? = some e := by
   have hlt : j < ents.length := by rw [hm.1]; exact get_lt r1
   exact ⟨_, List.getElem?_eq_getElem hlt⟩
  refine .inr ⟨j, e, kd, he, r1, r2, r3, r4, ?_⟩
  rcases h2 with h2 | ⟨n, ls, rfl, q1, q2, q3, n1, n2, n3⟩
  ·have := findNow_hit h2 hu ents es 0 j e kd hm he r1 r3 r4
   rw [Nat.zero_add] at this
   exact hrun _ this
  ·have := findAsk_hit (w := w) q1 q2 q3 hu ents es 0 j e kd hm he r1 r3 r4
   rw [Nat.zero_add] at this
   exact hask _ (now_none n1 n2 n3) this
theorem snd_eqA {neg : Bool} {t u : TypeId} {x y : Operand} (hop : o.op = .binOp (if neg then .neq else .eql) t x y u) (hg : P.eqGuardType P.depth t = false) {n : Nat} (hn : keyCode P t = some n) (hag : isAggT P t = some true) {x' y' : X} (hX : compX x = some x') (hY : compX y = some y')
  (he : evalOp cal q o.dst (.eqA n neg x' y') fr σ = some (d, fr', σ')) (i : Inv P g w fr σ a) : Snd P g w a o fr' σ' d := by
 simp only [evalOp, Option.map_eq_some_iff] at he
 obtain ⟨d', h1, h2⟩ := he
 cases h2
 have hx := (val_ok i.s hX).1
 have hy := (val_ok i.s hY).1
 unfold eqaD at h1
 split at h1 <;> first | (cases h1; done) | skip
 rename_i xs ys e1 e2
 split at h1 <;> first | (cases h1; done) | skip
 rename_i hf
 cases h1
 rw [e1] at hx
 rw [e2] at hy
 unfold keyCode at hn
 split at hn <;> first | (cases hn; done) | skip
 rename_i ls hl
 split at hn <;> first | (cases hn; done) | skip
 rename_i hk
 cases hn
 rw [hk] at hf
 obtain ⟨us, hu, p1, _⟩ := rep_agg hx
 obtain ⟨vs, hv, p2, _⟩ := rep_agg hy
 have heq : (Op.equal t (.agg us) (.agg vs)).run P w = .ok (eqLs xs ys) w :=
  equalIn_leaves 9992 8 t ls hl w (.agg us) (.agg vs) xs ys (leaves_rep hf.1 p1) (leaves_rep hf.2 p2) hf.1 hf.2 (agg_shape hag us) (agg_shape hag vs)
 have hguard : (eqGuard (if neg then .neq else .eql) t x y (.agg us) (.agg vs)).run P w = .ok () w := by
  cases neg <;> simp [eqGuard, program, hg, Sem.run]
 refine snd_plain i (v := .bool (eqLs xs ys != neg)) ?_ (.bool _) rfl rfl
 simp only [execOp, hop]
 refine run_vmap ?_
 rw [hu, hv, run_bo hguard]
 cases neg
 ·simp only [binOp, Bool.false_eq_true, if_false]
  rw [run_bo heq]
  simp
 ·simp only [binOp, if_true]
  rw [run_bo heq]
  simp
theorem getMap_run {b : Nat} {ents : Array MapEntry} {clock : Nat} (h : w.heap[b]? = some (.map ents clock)) : (getObj b).run P w = .ok (.map ents clock) w := by
 simp [getObj, Sem.run, h]
theorem setMap_run {b : Nat} {ents ents' : Array MapEntry} {clock clock' : Nat} (h : w.heap[b]? = some (.map ents clock)) : (setObj b (.map ents' clock')).run P w = .ok () { w with heap := w.heap.setIfInBounds b (.map ents' clock') } := by
 simp [setObj, Sem.run, h]
theorem zeroAgg_ok {t : TypeId} {agg : Bool} (h : zeroAgg P t = some agg) {z : List D} (hz : zeroOf P t = some z) :
  ∃ zv, (P.info? t).bind (·.zero) = some zv ∧ (agg = true → Rep g zv (.agg z)) ∧ (agg = false → ∀ z0, z = [z0] → Rep g zv z0) ∧ z.all D.pure1 = true := by
 obtain ⟨zv, z1, z2, z3, z4⟩ := zeroOf_ok (g := g) hz
 refine ⟨zv, z1, fun ha => ?_, fun ha z0 hz0 => ?_, z3⟩
 ·unfold zeroAgg at h
  rw [z1] at h
  subst ha
  simp only [Option.map_some, Option.some.injEq] at h
  cases zv <;> simp at h
  exact agg_of z2 (List.all_eq_true.2 fun x hx => plain_of_pure1 (List.all_eq_true.1 z3 x hx))
 ·unfold zeroAgg at h
  rw [z1] at h
  subst ha
  simp only [Option.map_some, Option.some.injEq] at h
  have hc : zv.cells = #[zv] := by cases zv <;> first | rfl | simp at h
  rw [hc, hz0] at z2
  exact z2.2 0 zv z0 rfl rfl
theorem snd_lookup {t k e : TypeId} {x y : Operand} {ok : Bool} (hop : o.op = .lookup t x y ok) (ht : P.underlying t = some (.map k e)) {kk : Nat} (hkk : keyKind P k = some kk) {agg : Bool} (hagg : zeroAgg P e = some agg) {z : List D} (hz : zeroOf P e = some z)
  {x' y' : X} (hX : compX x = some x') (hY : compX y = some y') (he : evalOp cal q o.dst (.lookup kk agg z x' y' ok) fr σ = some (d, fr', σ')) (i : Inv P g w fr σ a) : Snd P g w a o fr' σ' d := by
 have hv := (val_ok i.s hX).1
 have hy := (val_ok i.s hY).1
 simp only [evalOp] at he
 split at he <;> first | (cases he; done) | skip
 rename_i m hx
 split at he <;> first | (cases he; done) | skip
 rename_i es hm
 split at he <;> first | (cases he; done) | skip
 rename_i hkd
 rw [hx] at hv
 have hvx : a.eval x = .map (some (g.μ m)) := by
  generalize a.eval x = vx at hv
  cases hv
  rfl
 obtain ⟨ents, clock, h2, ⟨es', hpm, hko, h3⟩, _⟩ := i.h.mapOf hm
 obtain ⟨zv, z1, z2, z3, z4⟩ := zeroAgg_ok (g := g) hagg hz
 have hmain : ∀ (find : Option (Nat × Value)) (vv : Value) (b : Bool), (Instr.findKey k (a.eval y) ents.toList).run P w = .ok find w → (find = none → vv = zv ∧ b = false) → (∀ n u, find = some (n, u) → vv = u ∧ b = true) →
   (execOp a.eval o).run P w = .ok (.value (if ok then .tuple #[vv, .bool b] else vv)) w := fun find vv b h1 h4 h5 => by
  simp only [execOp, hop, hvx]
  refine run_vmap ?_
  unfold Instr.lookup
  rw [run_bo (run_und ht)]
  simp only [bind_assoc]
  rw [run_bo (getMap_run h2)]
  simp only [pure_bind]
  rw [run_bo (checkKey_run hkk hy hkd _), run_bo h1]
  cases find with
  | none =>
   obtain ⟨rfl, rfl⟩ := h4 rfl
   simp only [bind_assoc, pure_bind]
   rw [run_bo (zeroValue_run z1)]
   rfl
  | some r =>
   obtain ⟨n, u⟩ := r
   obtain ⟨rfl, rfl⟩ := h5 n u rfl
   rfl
 rcases hf : findKey kk (fr.val y') es with _ | r
 ·rw [hf] at he; cases he
 ·rw [hf] at he
  rcases findKey_run (w := w) hkk hy h3 (findKey_perm hpm hko hf) with ⟨rfl, _, q1⟩ | ⟨j, e', kd, q1, q2, rfl, _, _, q3⟩
  ·simp only at he
   have hr := hmain none zv false q1 (fun _ => ⟨rfl, rfl⟩) (fun n u e => by cases e)
   split at he
   ·rename_i z0 rest
    split at he
    ·rename_i ha
     subst ha
     cases he
     refine snd_plain i hr ?_ ?_ ?_
     ·cases ok
      ·exact z2 rfl
      ·refine .tup _ _ rfl (fun n v d h1 h2 => ?_) rfl
       match n with
       | 0 => simp at h1 h2; subst h1 h2; exact z2 rfl
       | 1 => simp at h1 h2; subst h1 h2; exact .bool _
       | n + 2 => simp at h2
     ·cases ok <;> rfl
     ·cases ok <;> rfl
    ·rename_i ha
     have ha : agg = false := by simpa using ha
     split at he
     ·rename_i hrest
      have hrest : rest = [] := by simpa using hrest
      subst hrest
      cases he
      have z5 := (z3 ha z0 rfl).strip
      have hn : z0.notL = true := notL_of_pure1 (by simpa using z4)
      refine snd_plain i hr ?_ ?_ ?_
      ·cases ok
       ·exact z5
       ·refine .tup _ _ rfl (fun n v d h1 h2 => ?_) (by simp only [List.all_cons, List.all_nil, notL_strip, hn]; rfl)
        match n with
        | 0 => simp at h1 h2; subst h1 h2; exact z5
        | 1 => simp at h1 h2; subst h1 h2; exact .bool _
        | n + 2 => simp at h2
      ·cases ok
       ·exact strip_strip _
       ·rfl
      ·cases ok
       ·simpa [notL_strip] using hn
       ·rfl
     ·cases he
   ·cases he
  ·simp only at he
   cases he
   obtain ⟨_, m1, m2, m3, m4⟩ := h3.2 j e' kd q1 q2
   have hr := hmain (some (j, e'.val)) e'.val true q3 (fun e => by cases e) (fun n u e => by cases e; exact ⟨rfl, rfl⟩)
   refine snd_plain i hr ?_ ?_ ?_
   ·cases ok
    ·exact m1
    ·refine .tup _ _ rfl (fun n v d h1 h2 => ?_) (by simp only [List.all_cons, List.all_nil, m3]; rfl)
     match n with
     | 0 => simp at h1 h2; subst h1 h2; exact m1
     | 1 => simp at h1 h2; subst h1 h2; exact .bool _
     | n + 2 => simp at h2
   ·cases ok
    ·exact m4
    ·rfl
   ·cases ok
    ·exact m3
    ·rfl
theorem Inv.writeMap (i : Inv P g w fr σ a) {ob : Nat} {es es' : List (D × D)} (hb : σ[ob]? = some (.map es)) (k : Keep g w g w' (fun b => b = g.μ ob))
  (himm : ∀ (b off : Nat) (v : Value), g.I b off = some v → w'.cell? ⟨b, off, none⟩ = some v) (hnew : ∃ ents clock, w'.heap[g.μ ob]? = some (.map ents clock) ∧ MapRep g ents.toList es' ∧ Born ents clock) : Inv P g w' fr (σ.set ob (.map es')) a := by
 obtain ⟨ho, _⟩ := i.h.maps ob es hb
 have hC : ∀ b, b = g.μ ob → ¬ claims fr [] (g.ω b) := by
  rintro b rfl
  rw [ho]
  rintro (⟨cs, h⟩ | ⟨es, h⟩) <;> simp at h
 refine ⟨⟨himm, by simpa using i.h.n, fun o1 cs1 h1 => ?_, fun o1 es1 h1 => ?_, rows_set (fun e h => by cases h) (fun _ h => by cases h) (fun o1 e cs1 h1 h2 => ?_), fun o1 es1 h1 => by
  rw [list_set_get] at h1
  split at h1
  ·cases h1
  ·obtain ⟨h2, ents, clock, h3, h4⟩ := i.h.mapsR o1 es1 h1
   have hne : g.μ o1 ≠ g.μ ob := fun e => by
    rw [e, ho] at h2
    cases h2
   exact ⟨h2, ents, clock, ((k.blk _ (lt_of_heap h3) hne).1).trans h3, h4⟩⟩, i.s.keep k hC (fun _ _ _ => rfl), i.d⟩
 ·rw [list_set_get] at h1
  split at h1
  ·cases h1
  ·rename_i hc
   obtain ⟨h2, h3⟩ := i.h.cells o1 cs1 h1
   have hne : g.μ o1 ≠ g.μ ob := fun e => by
    rw [e, ho] at h2
    cases h2
    exact hc ⟨rfl, (List.getElem?_eq_some_iff.1 hb).1⟩
   exact ⟨h2, h3.keep k hne (fun j es e hj b hb' => by rw [hb', ho]; simp)⟩
 ·rw [list_set_get] at h1
  split at h1
  ·rename_i hc
   obtain ⟨rfl, _⟩ := hc
   cases h1
   exact ⟨ho, hnew⟩
  ·rename_i hc
   obtain ⟨h2, ents, clock, h3, h4⟩ := i.h.maps o1 es1 h1
   have hne : g.μ o1 ≠ g.μ ob := fun e => by
    rw [e, ho] at h2
    cases h2
    exact hc ⟨rfl, (List.getElem?_eq_some_iff.1 hb).1⟩
   exact ⟨h2, ents, clock, ((k.blk _ (lt_of_heap h3) hne).1).trans h3, h4⟩
 ·obtain ⟨arr, h3⟩ := i.h.rows o1 e cs1 h1 h2
  obtain ⟨h4, _⟩ := i.h.cells o1 cs1 h1
  have hne : g.μ o1 ≠ g.μ ob := fun e => by
   rw [e, ho] at h4
   cases h4
   rw [hb] at h1
   cases h1
  exact ⟨arr, (k.blk _ (lt_of_heap h3) hne).1.trans h3⟩
theorem putKey_none {kk : Nat} {k x : D} : ∀ {es r : List (D × D)}, putKey kk k x es = some r → findKey kk k es = some none → r = es ++ [(k, x)]
 | [], r, h, _ => by simpa [putKey] using h.symm
 | (k', v') :: es, r, h, hf => by
  simp only [putKey] at h
  simp only [findKey] at hf
  split at h
  ·rename_i hq; rw [hq] at hf; cases hf
  ·rename_i hq
   rw [hq] at hf
   simp only [Option.map_eq_some_iff] at h
   obtain ⟨r', h1, rfl⟩ := h
   rw [putKey_none h1 hf]
   rfl
  ·cases h
theorem putKey_find {kk : Nat} {k x : D} : ∀ {es r : List (D × D)}, putKey kk k x es = some r → ∃ s, findKey kk k es = some s
 | [], r, h => ⟨none, rfl⟩
 | (k', v') :: es, r, h => by
  simp only [putKey] at h
  split at h
  ·rename_i hq; exact ⟨some v', by simp only [findKey, hq]⟩
  ·rename_i hq
   simp only [Option.map_eq_some_iff] at h
   obtain ⟨r', h1, rfl⟩ := h
   obtain ⟨s, hs⟩ := putKey_find h1
   exact ⟨s, by simp only [findKey, hq, hs]⟩
  ·cases h
theorem leaf_val {k : LK} {u v : Value} {x : D} (h : k.fits x = true) (hu : Rep g u x) (hv : Rep g v x) : u = v := by
 cases x <;> first | (cases k <;> cases h; done) | skip
 ·rw [rep_bool hu, rep_bool hv]
 ·rw [rep_int hu, rep_int hv]
 ·obtain ⟨s, rfl, h1⟩ := rep_str hu
  obtain ⟨t, rfl, h2⟩ := rep_str hv
  have : s = t := by
   have h3 := Array.toList_inj.1 (h1.trans h2.symm)
   cases s
   cases t
   simp at h3
   subst h3
   rfl
  rw [this]
theorem leaf_bits {k : LK} {u : Value} {x : D} (h : k.fits x = true) (hu : Rep g u x) (n : Nat) : Instr.sameBits n u u = true := by
 cases x <;> first | (cases k <;> cases h; done) | skip
 ·rw [rep_bool hu]; cases n <;> simp [Instr.sameBits]
 ·rw [rep_int hu]; cases n <;> simp [Instr.sameBits]
 ·obtain ⟨s, rfl, _⟩ := rep_str hu
  cases n <;> simp [Instr.sameBits, (MapKept.bytes_beq s s).2 rfl]
theorem zip_bits {n : Nat} : ∀ (l : List Value), (∀ v ∈ l, Instr.sameBits n v v = true) → (l.zip l).all (fun (x, y) => Instr.sameBits n x y) = true
 | [], _ => rfl
 | v :: l, h => by
  simp only [List.zip_cons_cons, List.all_cons, h v (by simp), zip_bits l (fun v hv => h v (by simp [hv])), Bool.and_self]
theorem eqKey_eq {kk : Nat} {u v : Value} {x y : D} (hu : Rep g u x) (hv : Rep g v y) (h : eqKey kk x y = some true) : u = v ∧ Instr.sameBits 10000 u v = true := by
 have e := eqKey_true h
 subst e
 have hk := (eqKey_kind h).1
 match kk, x, hk with
 | 0, .int _ _, _ => rw [rep_int hu, rep_int hv]; exact ⟨rfl, by simp [Instr.sameBits]⟩
 | 1, .str s, _ =>
  have : u = v := leaf_val (k := .s) rfl hu hv
  subst this
  exact ⟨rfl, leaf_bits (k := .s) rfl hu _⟩
 | 2, .bool _, _ => rw [rep_bool hu, rep_bool hv]; exact ⟨rfl, by simp [Instr.sameBits]⟩
 | n + 3, .agg xs, hk =>
  obtain ⟨us, rfl, h1, _⟩ := rep_agg hu
  obtain ⟨vs, rfl, h2, _⟩ := rep_agg hv
  have hfit := (fit_get hk).2
  have : us = vs := by
   apply Array.toList_inj.1
   refine List.ext_getElem? fun i => ?_
   by_cases hi : i < xs.length
   ·obtain ⟨k, hkk⟩ := hfit i xs[i] (List.getElem?_eq_getElem hi)
    have hi1 : i < us.toList.length := by rw [h1.1]; exact hi
    have hi2 : i < vs.toList.length := by rw [h2.1]; exact hi
    rw [List.getElem?_eq_getElem hi1, List.getElem?_eq_getElem hi2]
    exact congrArg some (leaf_val hkk (h1.2 i _ _ (List.getElem?_eq_getElem hi1) (List.getElem?_eq_getElem hi)) (h2.2 i _ _ (List.getElem?_eq_getElem hi2) (List.getElem?_eq_getElem hi)))
   ·rw [List.getElem?_eq_none (by rw [h1.1]; omega), List.getElem?_eq_none (by rw [h2.1]; omega)]
  subst this
  refine ⟨rfl, ?_⟩
  show (us.size == us.size && (us.toList.zip us.toList).all fun (x, y) => Instr.sameBits 9999 x y) = true
  rw [zip_bits us.toList fun v hv => ?_]
  ·simp
  ·obtain ⟨i, hi, rfl⟩ := List.getElem_of_mem hv
   have hi' : i < xs.length := by rw [← h1.1]; exact hi
   obtain ⟨k, hkk⟩ := hfit i xs[i] (List.getElem?_eq_getElem hi')
   exact leaf_bits hkk (h1.2 i _ _ (List.getElem?_eq_getElem hi) (List.getElem?_eq_getElem hi')) _
theorem setObj_ext {b : Nat} {ents ents' : Array MapEntry} {clock clock' : Nat} (_h : w.heap[b]? = some (.map ents clock)) :
  Keep g w g { w with heap := w.heap.setIfInBounds b (.map ents' clock') } (fun x => x = b) :=
 ⟨.refl g, by simp, fun c _ hc => ⟨by simp only []; rw [Array.getElem?_setIfInBounds_ne (fun e => hc e.symm)], rfl, fun _ => rfl⟩⟩
theorem imm_map {σ : St} (h : HInv P g w σ) {b : Nat} {ents ents' : Array MapEntry} {clock clock' : Nat} (hb : w.heap[b]? = some (.map ents clock)) (c off : Nat) (v : Value) (hv : g.I c off = some v) :
  ({ w with heap := w.heap.setIfInBounds b (.map ents' clock') } : World).cell? ⟨c, off, none⟩ = some v := by
 have h1 := h.imm c off v hv
 have hne : b ≠ c := by
  rintro rfl
  unfold World.cell? at h1
  simp [hb] at h1
 unfold World.cell? at h1 ⊢
 simp only [] at h1 ⊢
 rw [Array.getElem?_setIfInBounds_ne hne]
 exact h1
theorem born_push {ents : Array MapEntry} {clock : Nat} (h : Born ents clock) (key val : Value) : Born (ents.push { key, val, born := clock }) (clock + 1) := by
 refine ⟨fun e he => ?_, ?_⟩
 ·simp only [Array.toList_push, List.mem_append, List.mem_singleton] at he
  rcases he with he | rfl
  ·exact Nat.lt_succ_of_lt (h.1 e he)
  ·exact Nat.lt_succ_self _
 ·simp only [Array.toList_push, List.map_append, List.map_cons, List.map_nil]
  refine List.nodup_append.2 ⟨h.2, by simp, fun a ha b hb => ?_⟩
  simp only [List.mem_singleton] at hb
  subst hb
  obtain ⟨e, he, rfl⟩ := List.mem_map.1 ha
  exact Nat.ne_of_lt (h.1 e he)
theorem born_same {ents ents' : Array MapEntry} {clock : Nat} (h : Born ents clock) (he : ents'.toList.map (·.born) = ents.toList.map (·.born)) : Born ents' clock := by
 refine ⟨fun e hm => ?_, by rw [he]; exact h.2⟩
 have : e.born ∈ ents.toList.map (·.born) := by rw [← he]; exact List.mem_map.2 ⟨e, hm, rfl⟩
 obtain ⟨e0, h0, h1⟩ := List.mem_map.1 this
 rw [← h1]
 exact h.1 e0 h0
theorem born_sub {ents ents' : Array MapEntry} {clock : Nat} (h : Born ents clock) (he : ents'.toList.Sublist ents.toList) : Born ents' clock :=
 ⟨fun e hm => h.1 e (he.subset hm), (he.map _).nodup h.2⟩
theorem born_modify {ents : Array MapEntry} {clock : Nat} (h : Born ents clock) (j : Nat) (f : MapEntry → MapEntry) (hf : ∀ e, (f e).born = e.born) : Born (ents.modify j f) clock := by
 refine born_same h ?_
 apply List.ext_getElem?
 intro k
 simp only [List.getElem?_map, Array.getElem?_toList, Array.getElem?_modify]
 split
 ·cases ents[k]? <;> simp [hf]
 ·rfl
theorem snd_mapUpdate {t kt e : TypeId} {m y z : Operand} (hop : o.op = .mapUpdate t m y z) (ht : P.underlying t = some (.map kt e)) {kk : Nat} (hkk : keyKind P kt = some kk)
  {m' y' z' : X} (hM : compX m = some m') (hY : compX y = some y') (hZ : compX z = some z') (he : evalOp cal q o.dst (.mapUpdate kk m' y' z') fr σ = some (d, fr', σ')) (i : Inv P g w fr σ a) : Snd P g w a o fr' σ' d := by
 have hv := (val_ok i.s hM).1
 have hy := (val_ok i.s hY).1
 have hz := val_ok i.s hZ
 simp only [evalOp] at he
 split at he <;> first | (cases he; done) | skip
 rename_i ob hx
 split at he <;> first | (cases he; done) | skip
 rename_i es hm
 split at he <;> first | (cases he; done) | skip
 rename_i hkd
 obtain ⟨hkd, hnl⟩ := hkd
 simp only [Option.map_eq_some_iff] at he
 obtain ⟨r, hput, he⟩ := he
 cases he
 rw [hx] at hv
 have hvx : a.eval m = .map (some (g.μ ob)) := by
  generalize a.eval m = vx at hv
  cases hv
  rfl
 obtain ⟨ho, ents, clock, h2, ⟨es', hpm, hko, h3⟩, hbn⟩ := i.h.maps ob es hm
 have hkr := KeysOK.put hput hko
 obtain ⟨r', hput', hpr⟩ := putKey_perm hpm hko hput
 obtain ⟨s, hs⟩ := putKey_find hput'
 have hkn : (fr.val y').notL = true := by
  unfold keyD at hkd
  split at hkd <;> first | (cases hkd; done) | simp_all [D.notL]
 have fin : ∀ (ents' : Array MapEntry) (clock' : Nat), (execOp a.eval o).run P w = .ok .skip { w with heap := w.heap.setIfInBounds (g.μ ob) (.map ents' clock') } → MapRow g ents'.toList r' → Born ents' clock' →
   Snd P g w a o fr (σ.set ob (.map r)) .junk := fun ents' clock' hrun hrep hbn' next Q hn => by
  have hk := setObj_ext (g := g) (ents' := ents') (clock' := clock') h2
  refine wp_skipOp hrun (hn _ _ g (Ext.of_keep hk (fun c hc _ => by rw [hc, ho]; rfl) rfl rfl rfl) ((i.writeMap hm hk (imm_map i.h h2) ⟨ents', clock', ?_, ⟨r', hpr, hkr, hrep⟩, hbn'⟩).put o.dst (.junk _) (fun _ _ => .of_ne rfl) (fun s off e => by cases e)))
  simp [lt_of_heap h2]
 cases s with
 | none =>
  have hr := putKey_none hput' hs
  rcases findKey_run (w := w) hkk hy h3 hs with ⟨_, _, q1⟩ | ⟨j, e', kd, _, _, q2, _⟩
  ·refine fin (ents.push { key := a.eval y, val := a.eval z, born := clock }) (clock + 1) ?_ ?_ (born_push hbn _ _)
   ·simp only [execOp, hop, hvx]
    refine run_umap ?_
    unfold Instr.mapUpdate
    rw [run_bo (run_und ht)]
    simp only
    rw [run_bo (getMap_run h2)]
    simp only
    rw [run_bo (checkKey_run hkk hy hkd _), run_bo q1]
    exact setMap_run h2
   ·subst hr
    refine ⟨by simp [h3.1], fun k e1 kd1 k1 k2 => ?_⟩
    simp only [Array.toList_push] at k1
    by_cases hlt : k < ents.toList.length
    ·rw [List.getElem?_append_left hlt] at k1
     rw [List.getElem?_append_left (by rw [← h3.1]; exact hlt)] at k2
     exact h3.2 k e1 kd1 k1 k2
    ·have hlt' : k = ents.toList.length := by
      have := get_lt k1
      simp at this hlt ⊢
      omega
     subst hlt'
     rw [List.getElem?_append_right (Nat.le_refl _)] at k1
     rw [List.getElem?_append_right (by rw [h3.1]; exact Nat.le_refl _)] at k2
     simp [h3.1] at k1 k2
     subst k1 k2
     exact ⟨hy, hz.1, hkn, hnl, hz.2.1⟩
  ·cases q2
 | some s =>
  obtain ⟨j, e', kd, q1, q2, _, q6, q7, hfk⟩ : ∃ (j : Nat) (e : MapEntry) (kd : D × D), ents.toList[j]? = some e ∧ es'[j]? = some kd ∧ some s = some kd.2 ∧ eqKey kk (fr.val y') kd.1 = some true ∧ (∀ (i : Nat) (kd' : D × D), i < j → es'[i]? = some kd' → eqKey kk (fr.val y') kd'.1 = some false) ∧ (Instr.findKey kt (a.eval y) ents.toList).run P w = .ok (some (j, e.val)) w := by
   rcases findKey_run (w := w) hkk hy h3 hs with ⟨h0, _⟩ | h0
   ·cases h0
   ·exact h0
  have q3 : r' = es'.set j (fr.val y', fr.val z') := by
   have := putKey_hit (y := fr.val z') q2 q6 q7
   rw [this] at hput'
   exact (Option.some.inj hput').symm
  obtain ⟨q5, q8⟩ := eqKey_eq hy (h3.2 j e' kd q1 q2).1 q6
  refine fin (ents.modify j fun e => { e with key := a.eval y, val := a.eval z }) clock ?_ ?_ (born_modify hbn _ _ (fun _ => rfl))
  ·simp only [execOp, hop, hvx]
   refine run_umap ?_
   unfold Instr.mapUpdate
   rw [run_bo (run_und ht)]
   simp only
   rw [run_bo (getMap_run h2)]
   simp only
   rw [run_bo (checkKey_run hkk hy hkd _), run_bo hfk]
   simp only
   have hej : ents[j]? = some e' := by simpa using q1
   have hst : (Instr.keyThatStays (((ents[j]?).map (·.key)).getD (a.eval y)) (a.eval y)).run P w = .ok (a.eval y) w := by
    rw [hej]
    simp only [Option.map_some, Option.getD_some, ← q5]
    unfold Instr.keyThatStays
    rw [← q5] at q8
    rw [if_pos q8]
    rfl
   rw [run_bo hst]
   exact setMap_run h2
  ·subst q3
   refine ⟨by simp [h3.1], fun k e1 kd1 k1 k2 => ?_⟩
   have hlj : j < es'.length := get_lt q2
   rw [list_set_get] at k2
   have k1' : (ents.modify j fun e => { e with key := a.eval y, val := a.eval z })[k]? = some e1 := by rw [← Array.getElem?_toList]; exact k1
   rw [Array.getElem?_modify] at k1'
   by_cases hjk : j = k
   ·subst hjk
    rw [if_pos ⟨rfl, hlj⟩] at k2
    cases k2
    rw [if_pos rfl] at k1'
    simp only [Option.map_eq_some_iff] at k1'
    obtain ⟨e0, _, rfl⟩ := k1'
    exact ⟨hy, hz.1, hkn, hnl, hz.2.1⟩
   ·rw [if_neg hjk] at k1'
    rw [if_neg (fun h => hjk h.1.symm)] at k2
    exact h3.2 k e1 kd1 (by simpa using k1') k2
theorem Snd.ahead {g1 : Gh} (e : Ext g w g1 w) {fr' : Fr} {σ' : St} (h : Snd P g1 w a o fr' σ' d) : Snd P g w a o fr' σ' d :=
 fun next Q hn => h next Q (fun a' w' g' e' i' => hn a' w' g' (e.trans e') i')
theorem ownP_ok {x : X} (i : Inv P g w fr σ a) (h : fr.ownP σ x = some (fr', σ')) : ∃ g', Ext g w g' w ∧ Inv P g' w fr' σ' a := by
 unfold Fr.ownP at h
 split at h
 ·obtain ⟨sz, i1, e1, _⟩ := i.promote h
  exact ⟨_, e1, i1⟩
 ·simp only [Option.some.injEq, Prod.mk.injEq] at h
  obtain ⟨rfl, rfl⟩ := h
  exact ⟨g, .refl g w, i⟩
theorem snd_mapUpdateP {t kt e : TypeId} {m y z : Operand} (hop : o.op = .mapUpdate t m y z) (ht : P.underlying t = some (.map kt e)) {kk : Nat} (hkk : keyKind P kt = some kk)
  {m' y' z' : X} (hM : compX m = some m') (hY : compX y = some y') (hZ : compX z = some z') (he : evalOp cal q o.dst (.mapUpdateP kk m' y' z') fr σ = some (d, fr', σ')) (i : Inv P g w fr σ a) : Snd P g w a o fr' σ' d := by
 simp only [evalOp] at he
 split at he <;> first | (cases he; done) | skip
 rename_i fr1 σ1 hown
 obtain ⟨g1, e1, i1⟩ := ownP_ok i hown
 refine Snd.ahead e1 (snd_mapUpdate (cal := cal) (q := q) hop ht hkk hM hY hZ ?_ i1)
 simp only [evalOp]
 exact he
end
end Go.Abs
