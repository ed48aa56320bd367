/-
  Variables that become objects; closures; maps.
-/
import Derived.Test.YtjmhfliaehhijaaOps10
set_option linter.unusedVariables false
set_option linter.unusedSimpArgs false
namespace Go.Abs
open Go Go.RowKit

section
variable {P : Program} {g g' : Gh} {w w' : World} {fr fr' : Fr} {σ σ' : St} {a : Act} {o : Oper} {d : D} {cal : Cal} {q mu : Bool} {ops : List Oper}

def promF (t n : Nat) : Tag → Tag
  | .box s => if s = t then .obj n else .box s
  | .bbuf s j => if s = t then .obuf n j else .bbuf s j
  | x => x

def Gh.promote (g : Gh) (t sz : Nat) : Gh :=
  { g.rename (promF t g.n) with n := g.n + 1, μ := fun o => if o = g.n then g.β t else g.μ o, sz := fun o => if o = g.n then sz else g.sz o }

theorem promote_le (g : Gh) (t sz : Nat) : g.Le (g.promote t sz) :=
  ⟨fun _ _ _ h => h, Nat.le_succ _, fun o ho => by simp [Gh.promote, Nat.ne_of_lt ho], fun o ho => by simp [Gh.promote, Nat.ne_of_lt ho]⟩

theorem Own.promote {t sz : Nat} {tag : Tag} {v : Value} {d : D} (h : Own P g w tag v d) : Own P (g.promote t sz) w (promF t g.n tag) v d := by
  intro es e hd
  rcases h es e hd with h0 | ⟨i, xs, h1, h2, h3, h4, h5⟩
  · exact .inl h0
  exact .inr ⟨i, xs, h1, h2, h3, h4, fun b hb => ⟨by simp [Gh.promote, Gh.rename, (h5 b hb).1], (h5 b hb).2⟩⟩

theorem Blk.promote {t sz b s : Nat} {tag tag' : Nat → Tag} {cs : List D} (h : Blk P g w b s tag cs) (ht : ∀ j, promF t g.n (tag j) = tag' j) : Blk P (g.promote t sz) w b s tag' cs := by
  obtain ⟨arr, ty, h1, h2, h3, h4⟩ := h
  refine ⟨arr, ty, h1, h2, h3, fun j d hd => ?_⟩
  obtain ⟨p1, v, p2, p3, p4⟩ := h4 j d hd
  refine ⟨p1, v, p2, p3.mono (promote_le g t sz) (fun k off e => by subst e; simp [D.plain] at p1), ?_⟩
  have := p4.promote (t := t) (sz := sz)
  rw [ht] at this
  exact this

theorem relink_notL (t n : Nat) {d : D} (h : d.notL = true) : relinkL t n d = d := by cases d <;> simp_all [relinkL, D.notL]

theorem Rep.relink {t sz : Nat} {v : Value} {d : D} (h : Rep g v d) : Rep (g.promote t sz) v (relinkL t g.n d) := by
  cases h with
  | lptr s off =>
    simp only [relinkL]
    split
    · rename_i hs
      subst hs
      have := Rep.ptr (g := g.promote s sz) g.n off (Nat.lt_succ_self _)
      simpa [Gh.promote] using this
    · exact (Rep.lptr (g := g) s off).mono (promote_le g t sz) (fun _ _ _ => rfl)
  | _ =>
    rw [relink_notL t g.n (by rfl)]
    exact Rep.mono (promote_le g t sz) (by constructor <;> assumption) (fun _ _ e => by cases e)

theorem Inv.promote (i : Inv P g w fr σ a) {t : Nat} (h : fr.promote σ t = some (fr', σ')) :
    ∃ sz, Inv P (g.promote t sz) w fr' σ' a ∧ Ext g w (g.promote t sz) w ∧ σ.length = g.n := by
  unfold Fr.promote at h
  split at h
  · rename_i cs hcs
    cases h
    have hb := boxAt_some hcs
    obtain ⟨hω, sz, hblk⟩ := i.s.boxes t cs hb
    have hn : σ.length = g.n := i.h.n.symm
    refine ⟨sz, ⟨⟨i.h.imm, by simp [Gh.promote, i.h.n], fun ob cs' h1 => ?_, fun ob es' h1 => ?_⟩, ⟨by simpa using i.s.size, by simpa using i.s.blen, fun k e hk => ?_, fun s cs' hs => ?_⟩, i.d.mono (promote_le g t sz)⟩,
      ⟨promote_le g t sz, rfl, rfl, rfl, Nat.le_refl _, fun b _ hm => ⟨rfl, ?_⟩, fun b off v hv => .inl hv⟩, hn⟩
    · by_cases hlt : ob < σ.length
      · rw [List.getElem?_append_left hlt] at h1
        obtain ⟨q1, q2⟩ := i.h.cells ob cs' h1
        have hne : ob ≠ g.n := by omega
        refine ⟨by simp [Gh.promote, Gh.rename, hne, q1, promF], ?_⟩
        have := q2.promote (t := t) (sz := sz) (tag' := .obuf ob) (fun j => rfl)
        simpa [Gh.promote, hne] using this
      · rw [List.getElem?_append_right (by omega)] at h1
        have h0 : ob - σ.length = 0 := by
          have := get_lt h1
          simp at this
          omega
        rw [h0] at h1
        simp at h1
        subst h1
        have he : ob = g.n := by omega
        subst he
        refine ⟨by simp [Gh.promote, Gh.rename, hω, promF], ?_⟩
        have := hblk.promote (t := t) (sz := sz) (tag' := .obuf g.n) (fun j => by simp [promF])
        simpa [Gh.promote] using this
    · by_cases hlt : ob < σ.length
      · rw [List.getElem?_append_left hlt] at h1
        obtain ⟨q1, ents, clock, q2, q3⟩ := i.h.maps ob es' h1
        have hne : ob ≠ g.n := by omega
        exact ⟨by simp [Gh.promote, Gh.rename, hne, q1, promF], ents, clock, by simpa [Gh.promote, hne] using q2, q3.mono (promote_le g t sz)⟩
      · rw [List.getElem?_append_right (by omega)] at h1
        have h0 : ob - σ.length = 0 := by
          have := get_lt h1
          simp at this
          omega
        rw [h0] at h1
        simp at h1
    · simp only [List.getElem?_map, Option.map_eq_some_iff] at hk
      obtain ⟨e0, h1, rfl⟩ := hk
      obtain ⟨v, q1, q2, q3, q4⟩ := i.s.slots k e0 h1
      rw [hn]
      refine ⟨v, q1, q2.relink, ?_, fun s off e => ?_⟩
      · by_cases hl : e0.notL = true
        · rw [relink_notL t _ hl]
          exact q3.promote
        · refine .of_ne ?_
          cases e0 <;> simp [D.notL] at hl
          simp only [relinkL]
          split <;> rfl
      · have : e0 = .lptr s off ∧ s ≠ t := by
          cases e0 <;> simp [relinkL] at e
          split at e
          · cases e
          · cases e
            exact ⟨rfl, by assumption⟩
        obtain ⟨cs0, hc0⟩ := q4 s off this.1
        refine ⟨cs0, ?_⟩
        simp only []
        rw [list_set_get, if_neg]
        · exact hc0
        · rintro ⟨rfl, _⟩
          exact this.2 rfl
    · obtain ⟨hne, h1⟩ := box_set_none hs
      obtain ⟨q1, sz', q2⟩ := i.s.boxes s cs' h1
      refine ⟨by simp [Gh.promote, Gh.rename, q1, promF, hne], sz', ?_⟩
      have := q2.promote (t := t) (sz := sz) (tag' := .bbuf s) (fun j => by simp [promF, hne])
      simpa [Gh.promote, Gh.rename] using this
    · simp only [Gh.promote, Gh.rename]
      cases hq : g.ω b <;> rw [hq] at hm <;> simp [Tag.mine] at hm <;> rfl
  · cases h

theorem promoteX_ok (i : Inv P g w fr σ a) {x : Operand} {x' : X} (hX : compX x = some x') {d : D} (h : fr.promoteX σ x' = some (d, fr', σ')) :
    ∃ g', Ext g w g' w ∧ Inv P g' w fr' σ' a ∧ Rep g' (a.eval x) d ∧ d.notL = true ∧ d.strip = d := by
  have hv := val_ok i.s hX
  cases x with
  | tmp t =>
    simp only [compX, Option.some.injEq] at hX
    subst hX
    simp only [Fr.promoteX] at h
    split at h
    · rename_i s off hs
      simp only [Option.map_eq_some_iff] at h
      obtain ⟨⟨fr1, σ1⟩, h1, h2⟩ := h
      cases h2
      obtain ⟨sz, i1, e1, hn⟩ := i.promote h1
      have hr := hv.1
      simp only [Fr.val, hs, D.strip] at hr
      have := hr.relink (t := s) (sz := sz)
      simp only [relinkL, if_true] at this
      rw [hn]
      exact ⟨_, e1, i1, this, rfl, rfl⟩
    · rename_i hno
      cases h
      refine ⟨g, .refl g w, i, Rep.deep_of_strip hv.1, ?_, deep_strip _⟩
      cases hd : fr.at t <;> first | rfl | exact absurd hd (hno _ _)
  | const v =>
    simp only [compX, Option.map_eq_some_iff] at hX
    obtain ⟨d0, hd, rfl⟩ := hX
    simp only [Fr.promoteX] at h
    cases h
    obtain ⟨h1, h2, h3⟩ := constD_rep (g := g) hd
    exact ⟨g, .refl g w, i, hv.1, by rw [notL_strip]; exact h3, strip_strip _⟩
  | func f =>
    simp only [compX, Option.some.injEq] at hX
    subst hX
    simp only [Fr.promoteX] at h
    cases h
    exact ⟨g, .refl g w, i, hv.1, rfl, rfl⟩
  | global n => simp [compX] at hX

theorem promoteAll_ok : ∀ {xs : List Operand} {xs' : List X} {ds : List D} {g : Gh} {fr : Fr} {σ : St}, Inv P g w fr σ a → compXs xs = some xs' → fr.promoteAll σ xs' = some (ds, fr', σ') →
    ∃ g', Ext g w g' w ∧ Inv P g' w fr' σ' a ∧ AllRep (Rep g') (xs.map a.eval) ds ∧ ds.all D.notL = true ∧ ∀ d ∈ ds, d.strip = d
  | [], xs', ds, g, fr, σ, i, hc, h => by
    simp [compXs] at hc
    subst hc
    simp only [Fr.promoteAll] at h
    cases h
    exact ⟨g, .refl g w, i, ⟨rfl, fun i v d h => by simp at h⟩, rfl, by simp⟩
  | x :: xs, xs', ds, g, fr, σ, i, hc, h => by
    simp only [compXs, List.mapM_cons, Option.bind_eq_bind, Option.pure_def, Option.bind_eq_some_iff] at hc
    obtain ⟨y, h1, ys, h2, h3⟩ := hc
    cases h3
    simp only [Fr.promoteAll] at h
    split at h
    · rename_i d1 fr1 σ1 hp
      simp only [Option.map_eq_some_iff] at h
      obtain ⟨⟨ds1, fr2, σ2⟩, k1, k2⟩ := h
      cases k2
      obtain ⟨g1, e1, i1, r1, n1, s1⟩ := promoteX_ok i h1 hp
      obtain ⟨g2, e2, i2, r2, n2, s2⟩ := promoteAll_ok i1 h2 k1
      refine ⟨g2, e1.trans e2, i2, ⟨by simpa using r2.1, fun k v d q1 q2 => ?_⟩, by simp [n1, n2], fun d hd => ?_⟩
      · cases k with
        | zero =>
          simp at q1 q2
          subst q1 q2
          exact r1.mono e2.le (fun t off e => by subst e; simp [D.notL] at n1)
        | succ k => exact r2.2 k v d (by simpa using q1) (by simpa using q2)
      · rcases List.mem_cons.1 hd with rfl | hd
        · exact s1
        · exact s2 d hd
    · cases h

theorem snd_mkfunc {f : FuncId} {first caps : Array Operand} (hop : o.op = .makeFunc (.func f) first caps) (hf : first.isEmpty = true) {caps' : List X} (hX : compXs caps.toList = some caps')
    (he : evalOp cal q o.dst (.mkfunc f caps') fr σ = some (d, fr', σ')) (i : Inv P g w fr σ a) : Snd P g w a o fr' σ' d := by
  simp only [evalOp, Option.map_eq_some_iff] at he
  obtain ⟨⟨ds, fr1, σ1⟩, h1, h2⟩ := he
  cases h2
  obtain ⟨g1, e1, i1, r1, n1, s1⟩ := promoteAll_ok i hX h1
  intro next Q hn
  have hrun : (execOp a.eval o).run P w = .ok (.value (.func (.func f) #[] (caps.map a.eval))) w := by
    simp only [execOp, hop]
    refine run_vmap ?_
    rw [Array.isEmpty_iff.1 hf, Array.map_empty]
    rfl
  refine wp_value hrun (hn _ _ g1 e1 (i1.put o.dst ?_ (fun _ _ => .of_ne rfl) (fun s off e => by cases e)))
  refine .func f _ ds (by rw [Array.toList_map]; exact r1.1) (fun k v d q1 q2 => r1.2 k v d (by rw [← Array.toList_map]; exact q1) q2) n1

/-! new objects -/
def Gh.push (g : Gh) (b sz : Nat) : Gh :=
  { g with n := g.n + 1, μ := fun o => if o = g.n then b else g.μ o, sz := fun o => if o = g.n then sz else g.sz o, ω := fun x => if x = b then .obj g.n else g.ω x }

theorem push_le (g : Gh) (b sz : Nat) : g.Le (g.push b sz) :=
  ⟨fun _ _ _ h => h, Nat.le_succ _, fun o ho => by simp [Gh.push, Nat.ne_of_lt ho], fun o ho => by simp [Gh.push, Nat.ne_of_lt ho]⟩

theorem push_keep (g : Gh) (w : World) (b sz : Nat) : Keep g w (g.push b sz) w (fun x => x = b) :=
  ⟨push_le g b sz, Nat.le_refl _, fun c _ hc => ⟨rfl, by simp [Gh.push, hc], fun _ => rfl⟩⟩

theorem Inv.push (i : Inv P g w fr σ a) {b sz : Nat} (hω : g.ω b = .hand) (ob : Obj) (hcells : ∀ cs, ob = .cells cs → Blk P (g.push b sz) w b sz (.obuf g.n) cs)
    (hmap : ∀ es, ob = .map es → ∃ ents clock, w.heap[b]? = some (.map ents clock) ∧ MapRep (g.push b sz) ents.toList es) : Inv P (g.push b sz) w fr (σ ++ [ob]) a ∧ Ext g w (g.push b sz) w := by
  have hk := push_keep g w b sz
  have hC : ∀ x, x = b → ¬ claims fr σ (g.ω x) := by
    rintro x rfl
    rw [hω]
    exact fun h => h
  have hn : σ.length = g.n := i.h.n.symm
  refine ⟨⟨⟨i.h.imm, by simp [Gh.push, i.h.n], fun o1 cs h1 => ?_, fun o1 es h1 => ?_⟩, i.s.keep hk hC (fun _ _ _ => rfl), i.d.mono hk.le⟩, Ext.of_keep hk (fun c hc _ => by rw [hc, hω]; rfl) rfl rfl rfl⟩
  · by_cases hlt : o1 < σ.length
    · rw [List.getElem?_append_left hlt] at h1
      exact i.h.cells_keep hk hC o1 cs h1
    · rw [List.getElem?_append_right (by omega)] at h1
      have h0 : o1 - σ.length = 0 := by
        have := get_lt h1
        simp at this
        omega
      rw [h0] at h1
      simp at h1
      have he : o1 = g.n := by omega
      subst he
      exact ⟨by simp [Gh.push], by simpa [Gh.push] using hcells cs h1⟩
  · by_cases hlt : o1 < σ.length
    · rw [List.getElem?_append_left hlt] at h1
      exact i.h.maps_keep hk hC o1 es h1
    · rw [List.getElem?_append_right (by omega)] at h1
      have h0 : o1 - σ.length = 0 := by
        have := get_lt h1
        simp at this
        omega
      rw [h0] at h1
      simp at h1
      have he : o1 = g.n := by omega
      subst he
      obtain ⟨ents, clock, q1, q2⟩ := hmap es h1
      exact ⟨by simp [Gh.push], ents, clock, by simpa [Gh.push] using q1, q2⟩

theorem snd_mkmap {t : TypeId} (hop : o.op = .makeMap t none) (he : evalOp cal q o.dst .mkmap fr σ = some (d, fr', σ')) (i : Inv P g w fr σ a) : Snd P g w a o fr' σ' d := by
  simp only [evalOp] at he
  cases he
  intro next Q hn
  have hrun : (execOp a.eval o).run P w = .ok (.value (.map (some w.heap.size))) (w.alloc (.map #[] 0)) := by
    simp only [execOp, hop]
    exact run_vmap' rfl
  have i1 := i.alloc (.map #[] 0) .hand
  obtain ⟨i2, e2⟩ := i1.push (b := w.heap.size) (sz := 0) (by simp [Gh.tagAt]) (.map []) (fun cs h => by cases h) (fun es h => by
    cases h
    exact ⟨#[], 0, heap_new w _, rfl, fun i e kd h => by simp at h⟩)
  refine wp_value hrun (hn _ _ _ ((Ext.alloc g w _ .hand).trans e2) (i2.put o.dst ?_ (fun _ _ => .of_ne rfl) (fun s off e => by cases e)))
  have := Rep.map (g := (g.tagAt w.heap.size .hand).push w.heap.size 0) g.n (Nat.lt_succ_self _)
  rw [← i.h.n]
  simpa [Gh.push, Gh.tagAt] using this

end
end Go.Abs
