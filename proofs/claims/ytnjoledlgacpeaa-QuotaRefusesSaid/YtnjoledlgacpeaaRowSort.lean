import Derived.Test.YtnjoledlgacpeaaNames
import Derived.Test.YtnjoledlgacpeaaMapIt
import Derived.Shelf.SlSortCmp.NoneTotal
set_option linter.unusedVariables false
set_option linter.unusedSimpArgs false
/-
  A row of records that a call has for its own: before the sort, and behind it.
-/
namespace Go.Abs.C
open Go Go.Abs Go.RowKit Go.Sort Go.Proofs

/-- A kind of record: as values, and as data. -/
structure RecK (β : Type) where
  k : Nat
  vals : β → List Value
  cells : β → List D
  pos : 0 < k
  vlen : ∀ x, (vals x).length = k
  clen : ∀ x, (cells x).length = k
  one : ∀ x, ∀ v ∈ vals x, v.oneCell' = true
  pure_ : ∀ x, (cells x).all D.pure1 = true
  rep : ∀ (g : Gh) (x : β) (i : Nat) (v : Value) (d : D), (vals x)[i]? = some v → (cells x)[i]? = some d → Rep g v d
  inv : ∀ (g : Gh) (x : β) (i : Nat) (v : Value) (d : D), Rep g v d → (cells x)[i]? = some d → (vals x)[i]? = some v

section
variable {P : Program} {g : Gh} {w : World} {β : Type} [Inhabited β] {K : RecK β}

theorem own_nil {v : Value} {own : Option Nat} (h : Rep g v (.sl [] own)) : ∃ a cap, v = .slice a 0 cap := by
  cases h with
  | sl a len cap b off esz es own V hl hc hn ha he hI hR =>
    exact ⟨a, cap, by rw [hl]; rfl⟩
theorem own_nil2 {v : Value} {own : Option Nat} (h : Rep g v (.sl [] own)) : ∃ a cap, v = .slice a 0 cap ∧ (a = none → cap = 0) := by
  cases h with
  | sl a len cap b off esz es own V hl hc hn ha he hI hR =>
    exact ⟨a, cap, by rw [hl]; rfl, hn⟩
theorem mul_div_mod (i k j : Nat) (hj : j < k) : (i * k + j) / k = i ∧ (i * k + j) % k = j := by
  have hk : 0 < k := by omega
  rw [Nat.mul_comm, Nat.mul_add_div hk, Nat.mul_add_mod, Nat.div_eq_of_lt hj, Nat.mod_eq_of_lt hj]
  exact ⟨rfl, rfl⟩
theorem own_holds {v : Value} {l : List β} {tag : Tag} {e : Nat} (hne : l ≠ []) (hi : ∀ (b off : Nat) (u : Value), g.I b off = some u → w.cell? ⟨b, off, none⟩ = some u) (h : Rep g v (.sl (l.map K.cells) (some e))) (ho : Own P g w tag v (.sl (l.map K.cells) (some e))) :
    ∃ gb cap, v = .slice (some ⟨gb, 0, none⟩) l.toArray.size cap ∧ l.length ≤ cap ∧ g.ω gb = tag ∧ gb < w.heap.size ∧ HoldsK K.vals K.k w gb 0 l.toArray ∧ ∃ cur, w.heap[gb]? = some (.cells cur e (0, 0)) := by
  have hl0 : l.map K.cells ≠ [] := by simpa using hne
  rcases ho _ _ rfl with ⟨h0, _⟩ | ⟨inf, xs, h1, h2, h3, h4, h5⟩
  · exact absurd h0 hl0
  obtain ⟨h6, h7 | ⟨gb, cap, cur, rfl, _, h9, h10, h11, h12, h13⟩⟩ := h4
  · have := h7.2
    simp at this
    exact absurd this hne
  have hω := (h5 gb rfl).1
  refine ⟨gb, cap, by simp, by simpa using h10, hω, lt_of_heap h9, ?_, cur, h9⟩
  cases h with
  | sl a len cap b off esz es own V hl hc hn ha he hI hR =>
    have hab := ha hl0
    simp only [Option.some.injEq, Addr.mk.injEq, and_true] at hab
    obtain ⟨rfl, rfl⟩ := hab
    have hesz : esz = K.k := by
      cases l with
      | nil => exact absurd rfl hne
      | cons x l =>
        have := (he (K.cells x) (by simp)).1
        rw [K.clen] at this
        exact this.symm
    subst hesz
    intro t ht
    rw [size_flatK] at ht
    simp only [List.size_toArray] at ht
    have hfz : w.frozen? ⟨gb, 0 + t, none⟩ = false := by
      unfold World.frozen?
      simp only
      rw [h9]
      simp
    refine ⟨?_, hfz⟩
    rw [get_flatK _ _ _ _ (by simpa using ht)]
    have hk := K.pos
    have hq : t / K.k < l.length := (Nat.div_lt_iff_lt_mul hk).2 ht
    have hm : t % K.k < K.k := Nat.mod_lt _ hk
    obtain ⟨y, hy⟩ : ∃ y, l[t / K.k]? = some y := ⟨_, List.getElem?_eq_getElem hq⟩
    have hm' : t % K.k < (K.cells y).length := by rw [K.clen]; exact hm
    obtain ⟨d, hd⟩ : ∃ d, (K.cells y)[t % K.k]? = some d := ⟨_, List.getElem?_eq_getElem hm'⟩
    have he1 : (l.map K.cells)[t / K.k]? = some (K.cells y) := by rw [List.getElem?_map, hy]; rfl
    have hv := hi _ _ _ (hI _ _ _ _ he1 hd)
    have hr := hR _ _ _ _ he1 hd
    have hu := K.inv g _ _ _ _ hr hd
    have ht2 : 0 + t / K.k * K.k + t % K.k = 0 + t := by
      have := Nat.div_add_mod t K.k
      rw [Nat.mul_comm] at this
      omega
    rw [ht2] at hv
    rw [hv]
    congr 1
    have e1 : l.toArray[t / K.k]! = y := by
      have h1 : t / K.k < l.toArray.size := by simpa using hq
      rw [getElem!_pos l.toArray (t / K.k) h1]
      have h2 : l.toArray[t / K.k]? = some y := by simpa using hy
      rw [Array.getElem?_eq_getElem h1] at h2
      exact Option.some.inj h2
    rw [e1]
    show V (t / K.k) (t % K.k) = id ((K.vals y)[t % K.k]!)
    have hlt : t % K.k < (K.vals y).length := by rw [K.vlen]; exact hm
    rw [List.getElem?_eq_getElem hlt] at hu
    rw [getElem!_pos (K.vals y) (t % K.k) hlt]
    exact (Option.some.inj hu).symm
theorem rep_holds {gb cap : Nat} {d : Array β} (hc : d.size ≤ cap) (hI : ∀ off u, w.cell? ⟨gb, off, none⟩ = some u → g.I gb off = some u) (h : HoldsK K.vals K.k w gb 0 d) : Rep g (.slice (some ⟨gb, 0, none⟩) d.size cap) (.sl (d.toList.map K.cells) none) := by
  refine .sl _ _ _ gb 0 K.k _ none (fun i j => ((K.vals d[i]!)[j]!)) (by simp) hc (fun h => by cases h) (fun _ => rfl) (fun e he => ?_) (fun i e j x h1 h2 => ?_) (fun i e j x h1 h2 => ?_)
  · obtain ⟨x, _, rfl⟩ := List.mem_map.1 he
    exact ⟨K.clen x, K.pure_ x⟩
  · simp only [List.getElem?_map, Option.map_eq_some_iff] at h1
    obtain ⟨y, h1, rfl⟩ := h1
    have hlt : i < d.size := by have := (List.getElem?_eq_some_iff.1 h1).1; simpa using this
    have hj : j < K.k := by have := (List.getElem?_eq_some_iff.1 h2).1; rwa [K.clen] at this
    have hb : i * K.k + j < d.size * K.k := by
      have : (i + 1) * K.k ≤ d.size * K.k := Nat.mul_le_mul_right _ hlt
      rw [Nat.add_mul] at this
      omega
    have := (h (i * K.k + j) (by rw [size_flatK]; exact hb)).1
    rw [get_flatK _ _ _ _ hb, (mul_div_mod i K.k j hj).1, (mul_div_mod i K.k j hj).2] at this
    rw [Nat.add_assoc]
    exact hI _ _ this
  · simp only [List.getElem?_map, Option.map_eq_some_iff] at h1
    obtain ⟨y, h1, rfl⟩ := h1
    have hlt : i < d.size := by have := (List.getElem?_eq_some_iff.1 h1).1; simpa using this
    have hy : d[i]! = y := by
      rw [getElem!_pos d i hlt]
      have : d.toList[i]? = some d[i] := by simp [hlt]
      rw [this] at h1
      exact Option.some.inj h1
    have hj : j < (K.vals y).length := by have := (List.getElem?_eq_some_iff.1 h2).1; rw [K.clen] at this; rw [K.vlen]; exact this
    refine K.rep g y j _ x ?_ h2
    simp only [hy]
    rw [getElem!_pos (K.vals y) j hj]
    exact List.getElem?_eq_getElem hj
theorem sort_heap {enc : β → List Value} {k : Nat} {W : World} {blk off m : Nat} {d : Array β} {os : Array Go.Obj} {b : Nat} (hb : b < W.heap.size) (hne : b ≠ blk) : (sortWorldK enc k W blk off m d os).heap[b]? = W.heap[b]? := by
  unfold sortWorldK grow
  show ((putRowK enc k (Sort.ahead W m) blk off d).heap ++ os)[b]? = _
  have hsz : (putRowK enc k (Sort.ahead W m) blk off d).heap.size = W.heap.size := by
    rw [size_putRowK]
    rfl
  rw [Array.getElem?_append_left (by rw [hsz]; exact hb)]
  unfold putRowK putRow mapBlock
  show (W.heap.modify blk _)[b]? = _
  rw [Array.getElem?_modify, if_neg (Ne.symm hne)]
theorem sort_size {enc : β → List Value} {k : Nat} {W : World} {blk off m : Nat} {d : Array β} {os : Array Go.Obj} : W.heap.size ≤ (sortWorldK enc k W blk off m d os).heap.size := by
  unfold sortWorldK grow
  show _ ≤ ((putRowK enc k (Sort.ahead W m) blk off d).heap ++ os).size
  rw [Array.size_append, size_putRowK]
  exact Nat.le_add_right _ _
end
end Go.Abs.C
