/-
  Slices that are built and appended to.
-/
import Derived.Test.YtjmhfliaehhijaaOps7
set_option linter.unusedVariables false
set_option linter.unusedSimpArgs false
namespace Go.Abs
open Go Go.RowKit

section
variable {P : Program} {g g' : Gh} {w w' : World} {fr fr' : Fr} {σ σ' : St} {a : Act} {o : Oper} {d : D} {cal : Cal} {q mu : Bool} {ops : List Oper}

/-- A row of values stands for elements of so many cells each. -/
structure Elts (g : Gh) (vs : List Value) (es : List (List D)) (esz : Nat) : Prop where
  len : vs.length = es.length * esz
  each : ∀ e ∈ es, e.length = esz ∧ e.all D.pure1 = true
  rep : ∀ (i : Nat) (e : List D) (j : Nat) (d : D), es[i]? = some e → e[j]? = some d → ∃ u, vs[i * esz + j]? = some u ∧ Rep g u d

theorem idx_div {i j esz : Nat} (h : j < esz) : (i * esz + j) / esz = i ∧ (i * esz + j) % esz = j := by
  constructor
  · rw [Nat.mul_comm, Nat.mul_add_div (by omega), Nat.div_eq_of_lt h, Nat.add_zero]
  · rw [Nat.mul_comm, Nat.mul_add_mod, Nat.mod_eq_of_lt h]

theorem idx_lt {i j n esz : Nat} (hi : i < n) (hj : j < esz) : i * esz + j < n * esz := by
  have : (i + 1) * esz ≤ n * esz := Nat.mul_le_mul_right _ hi
  rw [Nat.add_mul] at this
  omega

theorem get_lt {α : Type} {l : List α} {i : Nat} {x : α} (h : l[i]? = some x) : i < l.length := (List.getElem?_eq_some_iff.1 h).1

theorem Elts.cell {vs : List Value} {es : List (List D)} {esz : Nat} (h : Elts g vs es esz) {k : Nat} {u : Value} (hu : vs[k]? = some u) (hz : 0 < esz) : ∃ e d, es[k / esz]? = some e ∧ e[k % esz]? = some d ∧ d.pure1 = true ∧ Rep g u d := by
  have hk : k < es.length * esz := by rw [← h.len]; exact get_lt hu
  have h1 : k / esz < es.length := Nat.div_lt_of_lt_mul (by rw [Nat.mul_comm]; exact hk)
  have he := List.getElem?_eq_getElem h1
  obtain ⟨q1, q2⟩ := h.each _ (List.mem_of_getElem? he)
  have h2 : k % esz < (es[k / esz]).length := by rw [q1]; exact Nat.mod_lt _ hz
  have hd := List.getElem?_eq_getElem h2
  obtain ⟨u', h3, h4⟩ := h.rep _ _ _ _ he hd
  have hkk : k / esz * esz + k % esz = k := by rw [Nat.mul_comm]; exact Nat.div_add_mod k esz
  rw [hkk, hu] at h3
  cases h3
  exact ⟨_, _, he, hd, all_get q2 hd, h4⟩

theorem Elts.one {vs : List Value} {es : List (List D)} {esz : Nat} (h : Elts g vs es esz) (hz : 0 < esz) : ∀ u ∈ vs, u.oneCell' = true := fun u hu => by
  obtain ⟨k, hk⟩ := List.mem_iff_getElem?.1 hu
  obtain ⟨e, d, _, _, h1, h2⟩ := h.cell hk hz
  exact h2.one (plain_of_pure1 h1)

theorem Elts.append {vs us : List Value} {es ys : List (List D)} {esz : Nat} (h : Elts g vs es esz) (k : Elts g us ys esz) : Elts g (vs ++ us) (es ++ ys) esz := by
  refine ⟨by rw [List.length_append, List.length_append, h.len, k.len, Nat.add_mul], fun e he => ?_, fun i e j d h1 h2 => ?_⟩
  · rcases List.mem_append.1 he with h1 | h1
    · exact h.each e h1
    · exact k.each e h1
  · have hj : j < esz := by
      have hm := List.mem_append.1 (List.mem_of_getElem? h1)
      rcases hm with hm | hm
      · rw [← (h.each e hm).1]; exact get_lt h2
      · rw [← (k.each e hm).1]; exact get_lt h2
    by_cases hi : i < es.length
    · rw [List.getElem?_append_left hi] at h1
      obtain ⟨u, q1, q2⟩ := h.rep i e j d h1 h2
      exact ⟨u, by rw [List.getElem?_append_left (get_lt q1)]; exact q1, q2⟩
    · rw [List.getElem?_append_right (by omega)] at h1
      obtain ⟨u, q1, q2⟩ := k.rep (i - es.length) e j d h1 h2
      refine ⟨u, ?_, q2⟩
      have hge : es.length * esz ≤ i * esz := Nat.mul_le_mul_right _ (by omega)
      rw [List.getElem?_append_right (by rw [h.len]; omega), h.len, ← q1]
      congr 1
      rw [Nat.sub_mul]
      omega

theorem Elts.mono {vs : List Value} {es : List (List D)} {esz : Nat} (h : Elts g vs es esz) (k : g.Le g') : Elts g' vs es esz :=
  ⟨h.len, h.each, fun i e j d h1 h2 => by
    obtain ⟨u, q1, q2⟩ := h.rep i e j d h1 h2
    exact ⟨u, q1, q2.mono k (fun t off x => by subst x; exact absurd (notL_of_pure1 (all_get (h.each e (List.mem_of_getElem? h1)).2 h2)) (by simp [D.notL]))⟩⟩

/-- A slice whose cells stay shows its elements. -/
theorem Elts.rep_sl {vs : List Value} {es : List (List D)} {esz b off cap : Nat} {own : Option Nat} (h : Elts g vs es esz) (hcap : es.length ≤ cap) (hI : ∀ (k : Nat) (u : Value), vs[k]? = some u → g.I b (off + k) = some u) :
    Rep g (.slice (some ⟨b, off, none⟩) es.length cap) (.sl es own) := by
  refine .sl (some ⟨b, off, none⟩) es.length cap b off esz es own (fun i j => vs.getD (i * esz + j) undef) rfl hcap (fun h => by cases h) (fun _ => rfl) h.each (fun i e j d h1 h2 => ?_) (fun i e j d h1 h2 => ?_)
  · obtain ⟨u, q1, _⟩ := h.rep i e j d h1 h2
    rw [Nat.add_assoc, hI _ u q1]
    simp [List.getD, q1]
  · obtain ⟨u, q1, q2⟩ := h.rep i e j d h1 h2
    have : vs.getD (i * esz + j) undef = u := by simp [List.getD, q1]
    rw [this]
    exact q2

/-- What a slice value shows in memory. -/
def Shows (g : Gh) (w : World) (v : Value) (es : List (List D)) (esz : Nat) : Prop :=
  ∃ av c, v = .slice av es.length c ∧ ((av = none ∧ c = 0 ∧ es = []) ∨
    ∃ ad vs, av = some ad ∧ Elts g vs es esz ∧ ∀ (j : Nat) (u : Value), vs[j]? = some u → w.cell? (ad.add j) = some u)

theorem shows_sl (i : HInv P g w σ) {v : Value} {es : List (List D)} {own : Option Nat} (h : Rep g v (.sl es own)) {esz : Nat} (hall : ∀ e ∈ es, e.length = esz) : Shows g w v es esz := by
  cases h with
  | sl av len cap b off esz' _ _ V hl hc hn ha hes hI hR =>
    subst hl
    refine ⟨av, cap, rfl, ?_⟩
    cases av with
    | none =>
      left
      refine ⟨rfl, hn rfl, ?_⟩
      cases es with
      | nil => rfl
      | cons e es => exact absurd (ha (by simp)) (by simp)
    | some ad =>
      right
      by_cases h0 : es = []
      · subst h0
        exact ⟨ad, [], rfl, ⟨by simp, by simp, by simp⟩, by simp⟩
      · have had : ad = ⟨b, off, none⟩ := by simpa using ha h0
        subst had
        obtain ⟨e0, he0⟩ := List.exists_mem_of_ne_nil es h0
        have hz : esz' = esz := (hes e0 he0).1.symm.trans (hall e0 he0)
        subst hz
        have key : ∀ i j, i < es.length → j < esz' → ∃ e d, es[i]? = some e ∧ e[j]? = some d := fun i j hi hj => by
          have h1 := List.getElem?_eq_getElem hi
          have h2 := (hes _ (List.mem_of_getElem? h1)).1
          exact ⟨_, _, h1, List.getElem?_eq_getElem (by rw [h2]; exact hj)⟩
        refine ⟨⟨b, off, none⟩, (List.range (es.length * esz')).map fun k => V (k / esz') (k % esz'), rfl, ⟨by simp, hes, fun i e j d h1 h2 => ?_⟩, fun k u hu => ?_⟩
        · have hj : j < esz' := by rw [← (hes e (List.mem_of_getElem? h1)).1]; exact get_lt h2
          have hlt := idx_lt (get_lt h1) hj
          refine ⟨V i j, ?_, hR i e j d h1 h2⟩
          simp only [List.getElem?_map, List.getElem?_range hlt, Option.map_some]
          rw [(idx_div hj).1, (idx_div hj).2]
        · simp only [List.getElem?_map, Option.map_eq_some_iff] at hu
          obtain ⟨k', hk, rfl⟩ := hu
          have hlt : k < es.length * esz' := by simpa using get_lt hk
          rw [List.getElem?_range hlt] at hk
          cases hk
          have hz0 : 0 < esz' := by
            rcases Nat.eq_zero_or_pos esz' with h | h
            · subst h; simp at hlt
            · exact h
          have h1 : k / esz' < es.length := Nat.div_lt_of_lt_mul (by rw [Nat.mul_comm]; exact hlt)
          obtain ⟨e, d, q1, q2⟩ := key (k / esz') (k % esz') h1 (Nat.mod_lt _ hz0)
          have := i.imm _ _ _ (hI _ e _ d q1 q2)
          rw [Nat.add_assoc, Nat.mul_comm (k / esz'), Nat.div_add_mod] at this
          rw [Addr.add_lit]
          exact this

theorem chunk_get (esz : Nat) : ∀ (n : Nat) (cs : List D) (i : Nat) (e : List D), (chunk esz cs n)[i]? = some e → i < n ∧ e = (cs.drop (i * esz)).take esz
  | 0, cs, i, e, h => by simp [chunk] at h
  | n + 1, cs, i, e, h => by
    cases i with
    | zero => simp [chunk] at h; subst h; simp
    | succ i =>
      simp only [chunk, List.getElem?_cons_succ] at h
      obtain ⟨h1, h2⟩ := chunk_get esz n (cs.drop esz) i e h
      refine ⟨by omega, ?_⟩
      rw [h2, List.drop_drop]
      congr 2
      rw [Nat.add_mul]
      omega

theorem chunk_length (esz : Nat) : ∀ (n : Nat) (cs : List D), (chunk esz cs n).length = n
  | 0, _ => rfl
  | n + 1, cs => by simp [chunk, chunk_length esz n]

theorem shows_msl (i : HInv P g w σ) {v : Value} {ob off n esz : Nat} (h : Rep g v (.msl ob off n esz)) {es : List (List D)} (he : elems σ (.msl ob off n esz) = some es) : Shows g w v es esz ∧ 0 < esz := by
  simp only [elems] at he
  split at he
  · rename_i cs hcs
    split at he
    · rename_i hc
      obtain ⟨c1, c2, c3⟩ := hc
      cases he
      cases h with
      | msl _ _ _ _ cap ho hcp hsz =>
        obtain ⟨_, arr, ty, b1, b2, b3, b4⟩ := i.cells ob cs hcs
        refine ⟨⟨some ⟨g.μ ob, off, none⟩, cap, by rw [chunk_length], .inr ⟨_, (arr.toList.drop off).take (n * esz), rfl, ⟨?_, fun e he => ?_, fun k e j d h1 h2 => ?_⟩, fun k u hu => ?_⟩⟩, c2⟩
        · have hl : off + n * esz ≤ arr.size := by
            have : n * esz ≤ cap * esz := Nat.mul_le_mul_right _ hcp
            omega
          simp [chunk_length]
          omega
        · obtain ⟨k, hk⟩ := List.mem_iff_getElem?.1 he
          obtain ⟨h1, rfl⟩ := chunk_get esz n _ k e hk
          have h2 : (k + 1) * esz ≤ n * esz := Nat.mul_le_mul_right _ h1
          rw [Nat.add_mul] at h2
          constructor
          · simp
            omega
          · refine List.all_eq_true.2 fun x hx => ?_
            obtain ⟨y, hy, rfl⟩ := List.mem_map.1 (List.mem_of_mem_drop (List.mem_of_mem_take hx))
            rw [pure1_strip]
            exact List.all_eq_true.1 c3 y (List.mem_of_mem_drop hy)
        · obtain ⟨k1, rfl⟩ := chunk_get esz n _ k e h1
          rw [List.getElem?_take] at h2
          split at h2
          · rename_i hj
            rw [List.getElem?_drop, List.getElem?_map, List.getElem?_drop, Option.map_eq_some_iff] at h2
            obtain ⟨d0, h2, rfl⟩ := h2
            obtain ⟨_, u, q2, q3, _⟩ := b4 _ d0 h2
            refine ⟨u, ?_, q3.strip⟩
            rw [List.getElem?_take, if_pos (idx_lt k1 hj), List.getElem?_drop]
            simpa using q2
          · cases h2
        · rw [List.getElem?_take] at hu
          split at hu
          · rw [List.getElem?_drop] at hu
            rw [Addr.add_lit]
            simp only [World.cell?, b1]
            simpa using hu
          · cases hu
    · cases he
  · cases he

end
end Go.Abs
