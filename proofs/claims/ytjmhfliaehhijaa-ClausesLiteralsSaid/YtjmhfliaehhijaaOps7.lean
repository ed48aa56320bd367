/-
  Stores; loads that take.
-/
import Derived.Test.YtjmhfliaehhijaaOps6
set_option linter.unusedVariables false
set_option linter.unusedSimpArgs false
namespace Go.Abs
open Go Go.RowKit

section
variable {P : Program} {g g' : Gh} {w w' : World} {fr fr' : Fr} {σ σ' : St} {a : Act} {o : Oper} {d : D} {cal : Cal} {q mu : Bool} {ops : List Oper}

theorem Ext.setRow {b : Nat} {arr new : Array Value} {ty : TypeId} (hb : w.heap[b]? = some (.cells arr ty (0, 0))) (hm : (g.ω b).mine = true) : Ext g w g (w.setRow b new) :=
  Ext.of_keep (Keep.setRow hb) (fun c hc _ => by rw [hc]; exact hm) rfl rfl rfl

theorem snd_store {t : TypeId} {x y : Operand} (hop : o.op = .store t x y) {sz : Nat} (hsz : sizeT P t = some sz) {x' y' : X} (hX : compX x = some x') (hY : compX y = some y')
    (he : evalOp cal q o.dst (.store sz x' y') fr σ = some (d, fr', σ')) (i : Inv P g w fr σ a) : Snd P g w a o fr' σ' d := by
  obtain ⟨hv, _, hl⟩ := val_ok i.s hX
  simp only [evalOp] at he
  split at he
  · rename_i hc
    obtain ⟨c1, c2⟩ := hc
    simp only [Option.map_eq_some_iff] at he
    obtain ⟨⟨fr2, σ2⟩, h1, h2⟩ := he
    cases h2
    intro next Q hn
    have hrun : ∀ b off w', a.eval x = .pointer (some ⟨b, off, none⟩) → (storeVar t ⟨b, off, none⟩ (a.eval y)).run P w = .ok () w' → (execOp a.eval o).run P w = .ok .skip w' := fun b off w' hb hl => by
      simp only [execOp, hop, hb]
      refine run_umap ?_
      unfold Instr.storeAt
      rw [run_bo (show (Instr.sureAddr (Value.pointer (some ⟨b, off, none⟩))).run P w = .ok ⟨b, off, none⟩ w from rfl)]
      exact hl
    unfold storeAt at h1
    split at h1
    · rename_i t' off hx
      obtain ⟨g1, e1, e2, e3, e4, e5, e6, e7, e8, e9, e10⟩ := take_ok i hY (.bbuf t' off)
      rw [hx] at hv
      split at h1
      · rename_i cs hcs
        split at h1
        · rename_i hle
          cases h1
          have hbx := boxAt_some hcs
          obtain ⟨hω, bsz, hblk⟩ := e2.s.boxes t' cs hbx
          have c2' := raw_plain c2
          have hcells := e3.raws c2
          obtain ⟨arr, ty, k1, k2, k3, k4⟩ := blk_store hblk hle hcells c2' (fun j u e hj hej => own_raw (tag := fun j => .bbuf t' (off + j)) e3 e4 c2 j u e hj hej) (fun j => by rw [hω]; simp)
          have hpv : a.eval x = .pointer (some ⟨g1.β t', off, none⟩) := by
            rw [e9]
            generalize a.eval x = vx at hv
            cases hv
            rfl
          have hst := store_run (P := P) hsz k1 (v := a.eval y) (off := off) (by rw [← c1, ← raw_len, ← hcells.1]; simp) (by have := raw_len (fr.take y').1; omega) (fun u hu => by
            obtain ⟨k, hk⟩ := List.mem_iff_getElem?.1 hu
            have hkl : k < (fr.take y').1.raw.length := by rw [← hcells.1]; exact (List.getElem?_eq_some_iff.1 hk).1
            exact (hcells.2 k u _ hk (List.getElem?_eq_getElem hkl)).one (all_get c2' (List.getElem?_eq_getElem hkl)))
          have inv := e2.writeBox hbx (Keep.setRow k1) (imm_setRow e2.h k1 k3) ⟨bsz, k4⟩
          refine wp_skipOp (hrun _ _ _ hpv hst) (hn _ _ g1 (e1.trans (Ext.setRow k1 (by rw [hω]; rfl))) (inv.put o.dst (.junk _) (fun _ _ => .of_ne rfl) (fun s off e => by cases e)))
        · cases h1
      · cases h1
    · rename_i ob off hx
      obtain ⟨g1, e1, e2, e3, e4, e5, e6, e7, e8, e9, e10⟩ := take_ok i hY (.obuf ob off)
      rw [hx] at hv
      split at h1
      · rename_i cs hcs
        split at h1
        · rename_i hle
          cases h1
          obtain ⟨hω, hblk⟩ := e2.h.cells ob cs hcs
          have c2' := raw_plain c2
          have hcells := e3.raws c2
          obtain ⟨arr, ty, k1, k2, k3, k4⟩ := blk_store hblk hle hcells c2' (fun j u e hj hej => own_raw (tag := fun j => .obuf ob (off + j)) e3 e4 c2 j u e hj hej) (fun j => by rw [hω]; simp)
          have hpv : a.eval x = .pointer (some ⟨g1.μ ob, off, none⟩) := by
            have hlt : ob < g.n := by rw [i.h.n]; exact (List.getElem?_eq_some_iff.1 hcs).1
            rw [e1.le.μ ob hlt]
            generalize a.eval x = vx at hv
            cases hv
            rfl
          have hst := store_run (P := P) hsz k1 (v := a.eval y) (off := off) (by rw [← c1, ← raw_len, ← hcells.1]; simp) (by have := raw_len (fr.take y').1; omega) (fun u hu => by
            obtain ⟨k, hk⟩ := List.mem_iff_getElem?.1 hu
            have hkl : k < (fr.take y').1.raw.length := by rw [← hcells.1]; exact (List.getElem?_eq_some_iff.1 hk).1
            exact (hcells.2 k u _ hk (List.getElem?_eq_getElem hkl)).one (all_get c2' (List.getElem?_eq_getElem hkl)))
          have inv := e2.writeObj hcs (Keep.setRow k1) (imm_setRow e2.h k1 k3) k4
          refine wp_skipOp (hrun _ _ _ hpv hst) (hn _ _ g1 (e1.trans (Ext.setRow k1 (by rw [hω]; rfl))) (inv.put o.dst (.junk _) (fun _ _ => .of_ne rfl) (fun s off e => by cases e)))
        · cases h1
      · cases h1
    · cases h1
  · cases he

theorem Blk.weak1 {b sz : Nat} {tag : Nat → Tag} {cs : List D} (h : Blk P g w b sz tag cs) {off : Nat} {d : D} (hd : cs[off]? = some d) : Blk P g w b sz tag (cs.set off d.strip) := by
  obtain ⟨arr, ty, h1, h2, h3, h4⟩ := h
  refine ⟨arr, ty, h1, h2, h3, fun j e hj => ?_⟩
  rw [list_set_get] at hj
  split at hj
  · rename_i hc
    obtain ⟨rfl, _⟩ := hc
    cases hj
    obtain ⟨q1, u, q2, q3, q4⟩ := h4 j d hd
    exact ⟨by rw [plain_strip]; exact q1, u, q2, q3.strip, .of_strip⟩
  · exact h4 j e hj

theorem Keep.refl (g : Gh) (w : World) (C : Nat → Prop) : Keep g w g w C := ⟨.refl g, Nat.le_refl _, fun _ _ _ => ⟨rfl, rfl, fun _ => rfl⟩⟩

theorem snd_loadSteal {t : TypeId} {x : Operand} (hop : o.op = .load t x) (hagg : isAggT P t = some false) {sz : Nat} {x' : X} (hX : compX x = some x')
    (he : evalOp cal q o.dst (.load false sz x' true) fr σ = some (d, fr', σ')) (i : Inv P g w fr σ a) : Snd P g w a o fr' σ' d := by
  obtain ⟨hv, _, hlp⟩ := val_ok i.s hX
  have hrun : ∀ b off u, a.eval x = .pointer (some ⟨b, off, none⟩) → w.cell? ⟨b, off, none⟩ = some u → (execOp a.eval o).run P w = .ok (.value u) w := fun b off u hb hl => by
    simp only [execOp, hop, hb]
    refine run_vmap ?_
    unfold Instr.loadAt
    rw [run_bo (show (Instr.sureAddr (Value.pointer (some ⟨b, off, none⟩))).run P w = .ok ⟨b, off, none⟩ w from rfl)]
    exact load1_run hagg hl
  simp only [evalOp] at he
  split at he
  · cases he
  · rename_i cs hcs
    obtain ⟨b, off0, h1, h2⟩ := cellsAt_ok i hv hcs
    simp only [Bool.false_eq_true, if_false] at he
    split at he
    · cases he
    · rename_i e rest
      simp only [if_true, Option.map_eq_some_iff] at he
      obtain ⟨⟨fr2, σ2⟩, k1, k2⟩ := he
      cases k2
      obtain ⟨p1, u, p2, p3⟩ := h2 0 d rfl
      intro next Q hn
      refine wp_value (hrun b off0 u h1 p2) ?_
      unfold storeAt at k1
      split at k1
      · rename_i t' off hx
        rw [hx] at hcs hv
        simp only [cellsAt, Option.map_eq_some_iff] at hcs
        obtain ⟨cs0, q1, q2⟩ := hcs
        rw [q1] at k1
        simp only at k1
        split at k1
        · rename_i hle
          cases k1
          have hbx := boxAt_some q1
          obtain ⟨hω, bsz, hblk⟩ := i.s.boxes t' cs0 hbx
          have hd0 : cs0[off]? = some d := by
            have : (cs0.drop off)[0]? = some d := by rw [q2]; rfl
            rwa [List.getElem?_drop, Nat.add_zero] at this
          have i1 := i.writeBox hbx (Keep.refl g w _) i.h.imm ⟨bsz, hblk.weak1 hd0⟩
          let f : Tag → Tag := fun s => if s = .bbuf t' off then (match o.dst with | some k => .sbuf k | none => .sbuf 0) else s
          have hfne : ∀ s, f s ≠ s → s = .bbuf t' off := fun s h => by
            by_cases hs : s = .bbuf t' off
            · exact hs
            · simp [f, hs] at h
          have i2 := i1.rename f (fun s hs => by
            rw [hfne s hs]
            rintro ⟨cs1, es, e1, r1, r2⟩
            simp only [Fr.setBox] at r1
            rw [list_set_get] at r1
            split at r1
            · cases r1
              rw [list_set_get] at r2
              split at r2
              · cases d <;> simp [D.strip] at r2
              · rename_i hc
                exact hc ⟨rfl, (List.getElem?_eq_some_iff.1 hd0).1⟩
            · rename_i hc
              exact hc ⟨rfl, (List.getElem?_eq_some_iff.1 hbx).1⟩)
          obtain ⟨arr, ty, b1, b2, b3, b4⟩ := hblk
          obtain ⟨_, u', m1, m2, m3⟩ := b4 off d hd0
          have hbo : b = g.β t' ∧ off0 = off := by
            generalize a.eval x = vx at hv h1
            cases hv
            cases h1
            exact ⟨rfl, rfl⟩
          obtain ⟨rfl, rfl⟩ := hbo
          have hu : u = u' := by
            simp only [World.cell?, b1, Option.isSome_none, Bool.false_eq_true, if_false, Nat.add_zero, m1, Option.some.injEq] at p2
            exact p2.symm
          subst hu
          refine hn _ _ _ (Ext.rename g w f (fun s hs => by rw [hfne s hs]; rfl)) (i2.put o.dst (p3.rename f) (fun k hk => ?_) (fun s off e => by subst e; simp [D.plain] at p1))
          have := m3.rename f
          simpa [f, hk] using this
        · cases k1
      · rename_i ob off hx
        rw [hx] at hcs hv
        simp only [cellsAt] at hcs
        split at k1
        · rename_i cs0 q1
          rw [q1] at hcs
          simp only [Option.some.injEq] at hcs
          split at k1
          · rename_i hle
            cases k1
            obtain ⟨hω, hblk⟩ := i.h.cells ob cs0 q1
            have hd0 : cs0[off]? = some d := by
              have : (cs0.drop off)[0]? = some d := by rw [hcs]; rfl
              rwa [List.getElem?_drop, Nat.add_zero] at this
            have i1 := i.writeObj q1 (Keep.refl g w _) i.h.imm (hblk.weak1 hd0)
            let f : Tag → Tag := fun s => if s = .obuf ob off then (match o.dst with | some k => .sbuf k | none => .sbuf 0) else s
            have hfne : ∀ s, f s ≠ s → s = .obuf ob off := fun s h => by
              by_cases hs : s = .obuf ob off
              · exact hs
              · simp [f, hs] at h
            have i2 := i1.rename f (fun s hs => by
              rw [hfne s hs]
              rintro ⟨cs1, es, e1, r1, r2⟩
              rw [list_set_get] at r1
              split at r1
              · cases r1
                rw [list_set_get] at r2
                split at r2
                · cases d <;> simp [D.strip] at r2
                · rename_i hc
                  exact hc ⟨rfl, (List.getElem?_eq_some_iff.1 hd0).1⟩
              · rename_i hc
                exact hc ⟨rfl, (List.getElem?_eq_some_iff.1 q1).1⟩)
            obtain ⟨arr, ty, b1, b2, b3, b4⟩ := hblk
            obtain ⟨_, u', m1, m2, m3⟩ := b4 off d hd0
            have hbo : b = g.μ ob ∧ off0 = off := by
              generalize a.eval x = vx at hv h1
              cases hv
              cases h1
              exact ⟨rfl, rfl⟩
            obtain ⟨rfl, rfl⟩ := hbo
            have hu : u = u' := by
              simp only [World.cell?, b1, Option.isSome_none, Bool.false_eq_true, if_false, Nat.add_zero, m1, Option.some.injEq] at p2
              exact p2.symm
            subst hu
            refine hn _ _ _ (Ext.rename g w f (fun s hs => by rw [hfne s hs]; rfl)) (i2.put o.dst (p3.rename f) (fun k hk => ?_) (fun s off e => by subst e; simp [D.plain] at p1))
            have := m3.rename f
            simpa [f, hk] using this
          · cases k1
        · cases k1
      · cases k1

end
end Go.Abs
