import Derived.Test.YtnjoledlgacpeaaCopyC
set_option linter.unusedVariables false
set_option linter.unusedSimpArgs false
/-
  A copy of a tree: what it answers, told; the ghosts' new names.
-/
namespace Go.Abs.C
open Go Go.Abs Go.RowKit Go.Sort Go.Proofs Go.Proofs.Ytnjoledlgacpeaa
theorem sinv18 {gk : Gh} {w : World} {tm : Array Value} {v3 v16 v21 : Value} (hs : tm.size = 36) (h3 : tm[3]? = some v3) (hr3 : Rep gk v3 (.lptr 16 0)) (h16 : tm[16]? = some v16) (hr16 : Rep gk v16 (.lptr 16 0)) (h21 : tm[21]? = some v21)
    (hb : gk.ω (gk.β 16) = .box 16 ∧ ∃ sz, Blk Try.prog gk w (gk.β 16) sz (.bbuf 16) [.map 0, .map 1]) : SInv Try.prog gk w (frC .junk (.lptr 16 0) (.val v21) bxC) tm := by
  refine ⟨hs, rfl, fun t d hd => ?_, fun t cs ht => ?_⟩
  · have hlt : t < 36 := (List.getElem?_eq_some_iff.1 hd).1
    obtain ⟨u, hu⟩ : ∃ u, tm[t]? = some u := ⟨_, Array.getElem?_eq_getElem (by omega)⟩
    by_cases h : t = 3
    · subst h
      have : d = .lptr 16 0 := by simpa [frC] using hd.symm
      subst this
      exact ⟨v3, h3, hr3, .of_ne rfl, fun s off e => by cases e; exact ⟨_, rfl⟩⟩
    · by_cases h' : t = 16
      · subst h'
        have : d = .lptr 16 0 := by simpa [frC] using hd.symm
        subst this
        exact ⟨v16, h16, hr16, .of_ne rfl, fun s off e => by cases e; exact ⟨_, rfl⟩⟩
      · by_cases h'' : t = 21
        · subst h''
          have : d = .val v21 := by simpa [frC] using hd.symm
          subst this
          exact ⟨v21, h21, .val _, .of_ne rfl, fun s off e => by cases e⟩
        · have : d = .junk := by
            have hall : ∀ (t : Nat), t < 36 → t ≠ 3 → t ≠ 16 → t ≠ 21 → (frC .junk (.lptr 16 0) (.val v21) bxC).slots[t]? = some .junk := by
              intro t
              match t with
              | 0 | 1 | 2 | 4 | 5 | 6 | 7 | 8 | 9 | 10 | 11 | 12 | 13 | 14 | 15 | 17 | 18 | 19 | 20 | 22 | 23 | 24 | 25 | 26 | 27 | 28 | 29 | 30 | 31 | 32 | 33 | 34 | 35 => intros; rfl
              | 3 => intro _ h _ _; exact absurd rfl h
              | 16 => intro _ _ h _; exact absurd rfl h
              | 21 => intro _ _ _ h; exact absurd rfl h
              | t + 36 => intro h; omega
            rw [hall t hlt h h' h''] at hd
            exact (Option.some.inj hd).symm
          subst this
          exact ⟨u, hu, .junk _, .of_ne rfl, fun s off e => by cases e⟩
  · have hlt : t < 36 := (List.getElem?_eq_some_iff.1 ht).1
    by_cases h : t = 16
    · subst h
      have : cs = [.map 0, .map 1] := by simpa [frC, bxC] using ht.symm
      subst this
      exact hb
    · exfalso
      have hall : ∀ (t : Nat), t < 36 → t ≠ 16 → (frC .junk (.lptr 16 0) (.val v21) bxC).boxes[t]? = some none := by
        intro t
        match t with
        | 0 | 1 | 2 | 3 | 4 | 5 | 6 | 7 | 8 | 9 | 10 | 11 | 12 | 13 | 14 | 15 | 17 | 18 | 19 | 20 | 21 | 22 | 23 | 24 | 25 | 26 | 27 | 28 | 29 | 30 | 31 | 32 | 33 | 34 | 35 => intros; rfl
        | 16 => intro _ h; exact absurd rfl h
        | t + 36 => intro h; omega
      rw [hall t hlt h] at ht
      cases ht
/-- A map's nodes, with their names. -/
def nodesX (σ : St) : List (D × D) → Option (List (List UInt8 × NodeR))
  | [] => some []
  | e :: es =>
    match e.1, nodeAt σ e.2, nodesX σ es with
    | .str s, some n, some ns => some ((s, n) :: ns)
    | _, _, _ => none
def copyF : List D → St → Option (D × St)
  | [.nilp], σ => some (.nilp, σ)
  | [.ptr ot 0], σ =>
    match σ[ot]? with
    | some (.cells [.map om, .map oh]) =>
      match σ[om]?, σ[oh]? with
      | some (.map es), some (.map hs) =>
        match nodesX σ es with
        | some cs => if (cs.map (·.1)).Nodup then some (.ptr (σ.length + 2 + cs.length) 0, σ ++ ([.map (newL (σ.length + 2) cs), .map hs] ++ (cs.map (fun p => Go.Abs.Obj.cells p.2.cells) ++ [.cells [.map σ.length, .map (σ.length + 1)]]))) else none
        | none => none
      | _, _ => none
    | _ => none
  | _, _ => none
def m18 : MFunc := toldS 1 copyF
theorem nodesX_perm {σ : St} {a b : List (D × D)} (hp : a.Perm b) : ∀ {rs}, nodesX σ a = some rs → ∃ rs', nodesX σ b = some rs' ∧ rs.Perm rs' := by
  induction hp with
  | nil => exact fun h => ⟨_, h, .refl _⟩
  | @cons e l l' p ih =>
    intro rs h
    simp only [nodesX] at h
    split at h <;> first | (cases h; done) | skip
    rename_i s n ns h0 h1 h2
    cases h
    obtain ⟨rs', h3, h4⟩ := ih h2
    exact ⟨(s, n) :: rs', by simp only [nodesX, h0, h1, h3], h4.cons _⟩
  | swap x y l =>
    intro rs h
    simp only [nodesX] at h
    split at h <;> first | (cases h; done) | skip
    rename_i s n ns h0 h1 h2
    cases h
    split at h2 <;> first | (cases h2; done) | skip
    rename_i t m ms h3 h4 h5
    cases h2
    exact ⟨(t, m) :: (s, n) :: ms, by simp only [nodesX, h0, h1, h3, h4, h5], List.Perm.swap _ _ _⟩
  | trans p q ih1 ih2 =>
    intro rs h
    obtain ⟨r1, h1, h2⟩ := ih1 h
    obtain ⟨r2, h3, h4⟩ := ih2 h1
    exact ⟨r2, h3, h2.trans h4⟩
theorem nodeAt_some {σ : St} {d : D} {n : NodeR} (h : nodeAt σ d = some n) : ∃ o, d = .ptr o 0 ∧ σ[o]? = some (.cells n.cells) := by
  unfold nodeAt at h
  split at h <;> first | (cases h; done) | skip
  split at h <;> first | (cases h; done) | skip
  rename_i o _ a b l u h1
  cases h
  exact ⟨o, rfl, h1⟩
theorem pairs18 {g : Gh} {σ : St} : ∀ {es : List (D × D)} {ents : List MapEntry} {rs : List (List UInt8 × NodeR)}, MapRow g ents es → nodesX σ es = some rs → ∃ zs : List (MapEntry × (List UInt8 × NodeR)), zs.map (·.1) = ents ∧ zs.map (·.2) = rs ∧ ∀ p ∈ zs, p.1.key = strV p.2.1 ∧ ∃ o, Rep g p.1.val (.ptr o 0) ∧ σ[o]? = some (.cells p.2.2.cells)
  | [], ents, rs, hm, h => by
    have := hm.1
    simp at this
    subst this
    simp only [nodesX, Option.some.injEq] at h
    subst h
    exact ⟨[], rfl, rfl, fun p hp => by simp at hp⟩
  | e :: es, ents, rs, hm, h => by
    obtain ⟨hl, hm⟩ := hm
    match ents, hl with
    | x :: ents, hl =>
      simp only [nodesX] at h
      split at h <;> first | (cases h; done) | skip
      rename_i s n ns h0 h1 h2
      cases h
      obtain ⟨zs, q1, q2, q3⟩ := pairs18 (ents := ents) (es := es) ⟨by simpa using hl, fun i y kd a b => hm (i + 1) y kd (by simpa using a) (by simpa using b)⟩ h2
      refine ⟨(x, (s, n)) :: zs, by simp [q1], by simp [q2], fun p hp => ?_⟩
      rcases List.mem_cons.1 hp with rfl | hp
      · obtain ⟨k1, k2, _⟩ := hm 0 x e rfl rfl
        rw [h0] at k1
        obtain ⟨o, he, ho⟩ := nodeAt_some h1
        rw [he] at k2
        exact ⟨strV_of k1, o, k2, ho⟩
      · exact q3 p hp
end Go.Abs.C

/-
  A copy of a tree: what was made in some order of the map is taken over in the order of the names' row.
-/
namespace Go.Abs.C
open Go Go.Abs Go.RowKit Go.Sort Go.Proofs Go.Proofs.Ytnjoledlgacpeaa
abbrev AObj := Go.Abs.Obj
theorem st_get {σ L : St} {a b c x : AObj} {o : Nat} (h : (σ ++ ([a, b] ++ (L ++ [c])))[o]? = some x) :
    (o < σ.length ∧ σ[o]? = some x) ∨ (o = σ.length ∧ x = a) ∨ (o = σ.length + 1 ∧ x = b) ∨ (∃ i, i < L.length ∧ o = σ.length + 2 + i ∧ L[i]? = some x) ∨ (o = σ.length + 2 + L.length ∧ x = c) := by
  by_cases h1 : o < σ.length
  · rw [List.getElem?_append_left h1] at h
    exact .inl ⟨h1, h⟩
  · rw [List.getElem?_append_right (by omega)] at h
    generalize hk : o - σ.length = k at h
    match k, h with
    | 0, h => simp at h; exact .inr (.inl ⟨by omega, h.symm⟩)
    | 1, h => simp at h; exact .inr (.inr (.inl ⟨by omega, h.symm⟩))
    | k + 2, h =>
      simp only [List.cons_append, List.nil_append, List.getElem?_cons_succ] at h
      by_cases h2 : k < L.length
      · rw [List.getElem?_append_left h2] at h
        exact .inr (.inr (.inr (.inl ⟨k, h2, by omega, h⟩)))
      · rw [List.getElem?_append_right (by omega)] at h
        have : k - L.length = 0 := by
          have := (List.getElem?_eq_some_iff.1 h).1
          simp at this
          omega
        rw [this] at h
        simp at h
        exact .inr (.inr (.inr (.inr ⟨by omega, h.symm⟩)))
theorem idx_get {C : List (List UInt8)} (hn : C.Nodup) {i : Nat} (h : i < C.length) : C.idxOf C[i] = i := by
  exact hn.idxOf_getElem i h
theorem idx_mem {C : List (List UInt8)} {s : List UInt8} (h : s ∈ C) : C.idxOf s < C.length := List.idxOf_lt_length_iff.2 h
theorem stL_get0 (vs : List (List UInt8 × NodeR)) (ρ : St) : (stL vs ++ ρ)[0]? = some (.map (newL 2 vs)) := by simp [stL]
theorem stL_getj (vs : List (List UInt8 × NodeR)) (ρ : St) {j : Nat} (h : j < vs.length) : (stL vs ++ ρ)[2 + j]? = some (.cells vs[j].2.cells) := by
  rw [List.getElem?_append_left (by rw [stL_len]; omega)]
  simp only [stL]
  rw [List.getElem?_append_right (by simp)]
  simp [h]
theorem stL_getk (vs : List (List UInt8 × NodeR)) (x : AObj) : (stL vs ++ [x])[2 + vs.length]? = some x := by
  rw [← stL_len]
  simp
/-- The new ghost. -/
def Gh.over (g4 g8 : Gh) (w4 : World) (n0 k : Nat) (f hx : Nat → Nat) : Gh :=
  { I := fun b off => if b < w4.heap.size then g4.I b off else none
    n := n0 + (2 + (k + 1))
    μ := fun o => if o < n0 + 2 then g4.μ o else if o < n0 + 2 + k then g8.μ (2 + f (o - (n0 + 2))) else g8.μ (2 + k)
    sz := fun o => if o < n0 + 2 then g4.sz o else if o < n0 + 2 + k then g8.sz (2 + f (o - (n0 + 2))) else g8.sz (2 + k)
    β := g4.β
    ω := fun b => match g8.ω b with
      | .obj j => if j = 0 then .obj n0 else if j < 2 + k then .obj (n0 + 2 + hx (j - 2)) else .obj (n0 + 2 + k)
      | _ => g4.ω b
    base := [] }
theorem rep_rec {g g' : Gh} {n : NodeR} {j : Nat} {d : D} {v : Value} (hd : n.cells[j]? = some d) (h : Rep g v d) : Rep g' v d ∧ d.strip = d ∧ d.plain = true := by
  match j, hd with
  | 0, hd => simp [NodeR.cells] at hd; subst hd; rw [strV_of h]; exact ⟨rep_strV _, rfl, rfl⟩
  | 1, hd => simp [NodeR.cells] at hd; subst hd; rw [strV_of h]; exact ⟨rep_strV _, rfl, rfl⟩
  | 2, hd => simp [NodeR.cells] at hd; subst hd; cases h; exact ⟨.int _ _, rfl, rfl⟩
  | 3, hd => simp [NodeR.cells] at hd; subst hd; cases h; exact ⟨.int _ _, rfl, rfl⟩
  | k + 4, hd => simp [NodeR.cells] at hd
theorem adopt {g4 g8 : Gh} {w4 w7 : World} {σ : St} {hs : List (D × D)} {vs cs : List (List UInt8 × NodeR)} {B : Nat}
    (h4 : HInv Try.prog g4 w4 (σ ++ [.map [], .map hs])) (h8 : HInv Try.prog g8 w7 (stL vs ++ [.cells [.map 0, .map 1]]))
    (hN : g8.μ 0 = g4.μ σ.length) (hH : g8.μ 1 = g4.μ (σ.length + 1)) (hB : g4.ω B = .box 16) (hBI : ∀ off, g4.I B off = none)
    (hsz : w4.heap.size ≤ w7.heap.size) (hold : ∀ b, b < w4.heap.size → b ≠ g4.μ σ.length → b ≠ B → w7.heap[b]? = w4.heap[b]? ∧ g8.ω b = .other)
    (hI8 : ∀ b off, b < w4.heap.size → b ≠ B → g8.I b off = none → w4.cell? ⟨b, off, none⟩ = none)
    (hbase : g4.base = []) (hp : vs.Perm cs) (hnd : (cs.map (·.1)).Nodup) (hos : w7.os = w4.os) (htp : w7.tape = w4.tape) (hout : w7.output = w4.output) :
    ∃ g', Ext g4 w4 g' w7 ∧ HInv Try.prog g' w7 (σ ++ ([.map (newL (σ.length + 2) cs), .map hs] ++ (cs.map (fun p => Go.Abs.Obj.cells p.2.cells) ++ [.cells [.map σ.length, .map (σ.length + 1)]]))) ∧ ∀ u, Rep g8 u (.ptr (2 + vs.length) 0) → Rep g' u (.ptr (σ.length + 2 + cs.length) 0) := by
  have hk : vs.length = cs.length := hp.length_eq
  have hVC : (vs.map (·.1)).Perm (cs.map (·.1)) := hp.map _
  have hndV : (vs.map (·.1)).Nodup := hVC.nodup_iff.2 hnd
  have hcl : (cs.map (·.1)).length = cs.length := by simp
  have hvl : (vs.map (·.1)).length = vs.length := by simp
  let f : Nat → Nat := fun i => (vs.map (·.1)).idxOf ((cs.map (·.1)).getD i [])
  let hx : Nat → Nat := fun j => (cs.map (·.1)).idxOf ((vs.map (·.1)).getD j [])
  have fval : ∀ i (h : i < cs.length), ∃ h' : f i < vs.length, vs[f i] = cs[i] := by
    intro i h
    have e1 : (cs.map (·.1)).getD i [] = cs[i].1 := by simp [h]
    have hm : cs[i].1 ∈ vs.map (·.1) := hVC.symm.subset (List.mem_map.2 ⟨_, List.getElem_mem h, rfl⟩)
    have hlt : f i < vs.length := by
      show (vs.map (·.1)).idxOf ((cs.map (·.1)).getD i []) < _
      rw [e1]
      have := idx_mem hm
      simpa using this
    refine ⟨hlt, ?_⟩
    have e2 : (vs[f i]).1 = cs[i].1 := by
      have h1 : (vs.map (·.1))[f i]'(by simpa using hlt) = cs[i].1 := by
        have : f i = (vs.map (·.1)).idxOf cs[i].1 := by
          show (vs.map (·.1)).idxOf ((cs.map (·.1)).getD i []) = _
          rw [e1]
        simp only [this]
        exact List.getElem_idxOf _
      simpa using h1
    exact keys_inj (key := fun p : List UInt8 × NodeR => p.1) hnd (hp.subset (List.getElem_mem hlt)) (List.getElem_mem h) e2
  have hf : ∀ i (h : i < cs.length), hx (f i) = i := by
    intro i h
    obtain ⟨h1, h2⟩ := fval i h
    show (cs.map (·.1)).idxOf ((vs.map (·.1)).getD (f i) []) = i
    have : (vs.map (·.1)).getD (f i) [] = (cs.map (·.1))[i]'(by simpa using h) := by simp [h1, h2]
    rw [this, idx_get hnd]
  have hxlt : ∀ j (h : j < vs.length), hx j < cs.length ∧ f (hx j) = j := by
    intro j h
    have e1 : (vs.map (·.1)).getD j [] = vs[j].1 := by simp [h]
    have hm : vs[j].1 ∈ cs.map (·.1) := hVC.subset (List.mem_map.2 ⟨_, List.getElem_mem h, rfl⟩)
    have e2 : hx j = (cs.map (·.1)).idxOf vs[j].1 := by
      show (cs.map (·.1)).idxOf ((vs.map (·.1)).getD j []) = _
      rw [e1]
    have hlt : hx j < cs.length := by
      rw [e2]
      have := idx_mem hm
      simpa using this
    refine ⟨hlt, ?_⟩
    show (vs.map (·.1)).idxOf ((cs.map (·.1)).getD (hx j) []) = j
    have e3 : (cs.map (·.1)).getD (hx j) [] = vs[j].1 := by
      rw [List.getD_eq_getElem?_getD, List.getElem?_eq_getElem (by simpa using hlt), Option.getD_some]
      simp only [e2]
      exact List.getElem_idxOf _
    rw [e3]
    have : vs[j].1 = (vs.map (·.1))[j]'(by simpa using h) := by simp
    rw [this, idx_get hndV]
  obtain ⟨hωN, entsN4, clkN4, hbN4, _, _⟩ := h4.maps σ.length [] (by simp)
  have hn4 : g4.n = σ.length + 2 := by rw [h4.n]; simp
  have hNlt : g4.μ σ.length < w4.heap.size := lt_of_heap hbN4
  let g' : Gh := Gh.over g4 g8 w4 σ.length cs.length f hx
  have ho : ∀ b, b < w4.heap.size → b ≠ g4.μ σ.length → b ≠ B → g'.ω b = g4.ω b := by
    intro b h1 h2 h3
    have := (hold b h1 h2 h3).2
    show (match g8.ω b with | .obj j => _ | _ => g4.ω b) = _
    rw [this]
  have hle : g4.Le g' := ⟨fun b off v h => by
      show (if b < w4.heap.size then g4.I b off else none) = some v
      rw [if_pos (imm_lt h4 h)]
      exact h, by rw [hn4]; show _ ≤ σ.length + (2 + (cs.length + 1)); omega, fun o h => by
      show (if o < σ.length + 2 then g4.μ o else _) = _
      rw [if_pos (by omega)], fun o h => by
      show (if o < σ.length + 2 then g4.sz o else _) = _
      rw [if_pos (by omega)]⟩
  have keep : Keep g4 w4 g' w7 (fun b => b = g4.μ σ.length ∨ b = B) := by
    refine ⟨hle, hsz, fun b hb hc => ?_⟩
    rw [not_or] at hc
    refine ⟨(hold b hb hc.1 hc.2).1, ho b hb hc.1 hc.2, fun off => ?_⟩
    show (if b < w4.heap.size then g4.I b off else none) = _
    rw [if_pos hb]
  have h4d : HInv Try.prog g4 w4 (σ ++ [.dead, .map hs]) := by
    have hget : ∀ (o : Nat) (x : AObj), x ≠ .dead → (σ ++ [.dead, .map hs])[o]? = some x → (σ ++ [Go.Abs.Obj.map [], .map hs])[o]? = some x := by
      intro o x hx h
      by_cases h1 : o < σ.length
      · rw [List.getElem?_append_left h1] at h ⊢
        exact h
      · rw [List.getElem?_append_right (by omega)] at h ⊢
        generalize o - σ.length = k at h ⊢
        match k, h with
        | 0, h => simp at h; exact absurd h.symm hx
        | 1, h => exact h
        | k + 2, h => simp at h
    exact ⟨h4.imm, by rw [h4.n]; simp, fun o cs h => h4.cells o cs (hget o _ (by simp) h), fun o es h => h4.maps o es (hget o _ (by simp) h), fun o e cs h1 h2 => h4.rows o e cs (hget o _ (by simp) h1) (hget _ _ (by simp) h2)⟩
  have hC : ∀ b, (b = g4.μ σ.length ∨ b = B) → ¬ claims ⟨[], [], []⟩ (σ ++ [.dead, .map hs]) (g4.ω b) := by
    rintro b (rfl | rfl)
    · rw [hωN]
      rintro (⟨cs, h⟩ | ⟨es, h⟩) <;> simp at h
    · rw [hB]
      rintro ⟨cs, h⟩
      simp at h
  -- a new block
  have hnew : ∀ (j : Nat) (cl : List D), (stL vs ++ [Go.Abs.Obj.cells [.map 0, .map 1]])[j]? = some (.cells cl) → ∀ off, g'.I (g8.μ j) off = none := by
    intro j cl hj off
    obtain ⟨_, arr, ty, q1, q2, q3, q4⟩ := h8.cells j cl hj
    show (if g8.μ j < w4.heap.size then g4.I (g8.μ j) off else none) = none
    split
    · rename_i hlt
      by_cases hb : g8.μ j = B
      · rw [hb]
        exact hBI off
      · cases hi : g4.I (g8.μ j) off with
        | none => rfl
        | some v =>
          have h1 := h4.imm _ _ _ hi
          rw [hI8 _ off hlt hb (q3 off)] at h1
          cases h1
    · rfl
  have hr : g'.μ (σ.length) = g4.μ σ.length := by
    show (if σ.length < σ.length + 2 then g4.μ σ.length else _) = _
    rw [if_pos (by omega)]
  have hr1 : g'.μ (σ.length + 1) = g4.μ (σ.length + 1) := by
    show (if σ.length + 1 < σ.length + 2 then g4.μ (σ.length + 1) else _) = _
    rw [if_pos (by omega)]
  have hrj : ∀ i, i < cs.length → g'.μ (σ.length + 2 + i) = g8.μ (2 + f i) ∧ g'.sz (σ.length + 2 + i) = g8.sz (2 + f i) := by
    intro i h
    constructor
    · show (if σ.length + 2 + i < σ.length + 2 then _ else if σ.length + 2 + i < σ.length + 2 + cs.length then g8.μ (2 + f (σ.length + 2 + i - (σ.length + 2))) else _) = _
      rw [if_neg (by omega), if_pos (by omega), show σ.length + 2 + i - (σ.length + 2) = i by omega]
    · show (if σ.length + 2 + i < σ.length + 2 then _ else if σ.length + 2 + i < σ.length + 2 + cs.length then g8.sz (2 + f (σ.length + 2 + i - (σ.length + 2))) else _) = _
      rw [if_neg (by omega), if_pos (by omega), show σ.length + 2 + i - (σ.length + 2) = i by omega]
  have hrk : g'.μ (σ.length + 2 + cs.length) = g8.μ (2 + cs.length) ∧ g'.sz (σ.length + 2 + cs.length) = g8.sz (2 + cs.length) := by
    constructor
    · show (if σ.length + 2 + cs.length < σ.length + 2 then _ else if σ.length + 2 + cs.length < σ.length + 2 + cs.length then _ else g8.μ (2 + cs.length)) = _
      rw [if_neg (by omega), if_neg (by omega)]
    · show (if σ.length + 2 + cs.length < σ.length + 2 then _ else if σ.length + 2 + cs.length < σ.length + 2 + cs.length then _ else g8.sz (2 + cs.length)) = _
      rw [if_neg (by omega), if_neg (by omega)]
  have hωobj : ∀ b j, g8.ω b = .obj j → g'.ω b = (if j = 0 then .obj σ.length else if j < 2 + cs.length then .obj (σ.length + 2 + hx (j - 2)) else .obj (σ.length + 2 + cs.length)) := by
    intro b j h
    show (match g8.ω b with | .obj j => _ | _ => g4.ω b) = _
    rw [h]
  refine ⟨g', ?_, ⟨?_, ?_, ?_, ?_, ?_⟩, ?_⟩
  · refine Ext.of_keep keep (fun b hb _ => ?_) hos htp hout (by rw [hbase]; rfl)
    rcases hb with rfl | rfl
    · rw [hωN]; rfl
    · rw [hB]; rfl
  · -- what stays
    intro b off v h
    have h' : (if b < w4.heap.size then g4.I b off else none) = some v := h
    split at h'
    · rename_i hlt
      have h1 := h4.imm b off v h'
      have hb1 : b ≠ g4.μ σ.length := by
        rintro rfl
        unfold World.cell? at h1
        simp only [hbN4] at h1
        cases h1
      have hb2 : b ≠ B := by
        rintro rfl
        rw [hBI] at h'
        cases h'
      have h2 := (hold b hlt hb1 hb2).1
      unfold World.cell? at h1 ⊢
      simp only at h1 ⊢
      rw [h2]
      exact h1
    · cases h'
  · show σ.length + (2 + (cs.length + 1)) = _
    simp
    omega
  · -- cells
    intro o cl hcl
    rcases st_get hcl with ⟨h1, h2⟩ | ⟨rfl, h2⟩ | ⟨rfl, h2⟩ | ⟨i, h1, rfl, h2⟩ | ⟨rfl, h2⟩
    · exact h4d.cells_keep keep hC o cl (by rw [List.getElem?_append_left h1]; exact h2)
    · cases h2
    · cases h2
    · have hi : i < cs.length := by simpa using h1
      obtain ⟨hfi, hv⟩ := fval i hi
      have hcl2 : cl = cs[i].2.cells := by simp [hi] at h2; exact h2.symm
      have hj := stL_getj vs [Go.Abs.Obj.cells [.map 0, .map 1]] hfi
      rw [hv, ← hcl2] at hj
      obtain ⟨q0, arr, ty, q1, q2, q3, q4⟩ := h8.cells _ _ hj
      rw [(hrj i hi).1, (hrj i hi).2]
      refine ⟨?_, arr, ty, q1, q2, hnew _ _ hj, fun j d hd => ?_⟩
      · rw [hωobj _ _ q0, if_neg (by omega), if_pos (by omega), show 2 + f i - 2 = f i by omega, hf i hi]
      · obtain ⟨_, v, hv1, hv2, _⟩ := q4 j d hd
        rw [hcl2] at hd
        obtain ⟨r1, r2, r3⟩ := rep_rec (g' := g') hd hv2
        exact ⟨r3, v, hv1, r1, .of_ne r2⟩
    · cases h2
      have hlen : (cs.map (fun p => Go.Abs.Obj.cells p.2.cells)).length = cs.length := by simp
      rw [hlen]
      have hj := stL_getk vs (Go.Abs.Obj.cells [.map 0, .map 1])
      rw [hk] at hj
      obtain ⟨q0, arr, ty, q1, q2, q3, q4⟩ := h8.cells _ _ hj
      rw [hrk.1, hrk.2]
      refine ⟨?_, arr, ty, q1, q2, hnew _ _ hj, fun j d hd => ?_⟩
      · rw [hωobj _ _ q0, if_neg (by omega), if_neg (by omega)]
      · match j, hd with
        | 0, hd =>
          simp at hd
          subst hd
          obtain ⟨_, v, hv1, hv2, _⟩ := q4 0 _ rfl
          have : v = .map (some (g4.μ σ.length)) := by
            cases hv2
            rw [hN]
          subst this
          refine ⟨rfl, _, hv1, ?_, .of_ne rfl⟩
          rw [← hr]
          exact .map _ (by show σ.length < σ.length + (2 + (cs.length + 1)); omega)
        | 1, hd =>
          simp at hd
          subst hd
          obtain ⟨_, v, hv1, hv2, _⟩ := q4 1 _ rfl
          have : v = .map (some (g4.μ (σ.length + 1))) := by
            cases hv2
            rw [hH]
          subst this
          refine ⟨rfl, _, hv1, ?_, .of_ne rfl⟩
          rw [← hr1]
          exact .map _ (by show σ.length + 1 < σ.length + (2 + (cs.length + 1)); omega)
        | j + 2, hd => simp at hd
  · -- maps
    intro o es hes
    rcases st_get hes with ⟨h1, h2⟩ | ⟨rfl, h2⟩ | ⟨rfl, h2⟩ | ⟨i, h1, rfl, h2⟩ | ⟨rfl, h2⟩
    · exact h4d.maps_keep keep hC o es (by rw [List.getElem?_append_left h1]; exact h2)
    · cases h2
      obtain ⟨q0, ents, clk, q1, ⟨es1, q2, q3, q4⟩, q5⟩ := h8.maps 0 _ (stL_get0 vs _)
      rw [hr, ← hN]
      refine ⟨by rw [hωobj _ _ q0, if_pos rfl], ents, clk, q1, ?_, q5⟩
      let ρ : D × D → D × D := fun e => match e.1 with | .str s => (.str s, .ptr (σ.length + 2 + (cs.map (·.1)).idxOf s) 0) | _ => e
      have hvs : (newL 2 vs).map ρ = vs.map (fun p => ((.str p.1, .ptr (σ.length + 2 + (cs.map (·.1)).idxOf p.1) 0) : D × D)) := by
        unfold newL
        apply List.ext_getElem?
        intro i
        simp only [List.getElem?_map, List.getElem?_mapIdx, Option.map_map]
        cases vs[i]? <;> rfl
      have hcs : newL (σ.length + 2) cs = cs.map (fun p => ((.str p.1, .ptr (σ.length + 2 + (cs.map (·.1)).idxOf p.1) 0) : D × D)) := by
        unfold newL
        apply List.ext_getElem?
        intro i
        simp only [List.getElem?_map, List.getElem?_mapIdx]
        by_cases hi : i < cs.length
        · rw [List.getElem?_eq_getElem hi]
          simp only [Option.map_some]
          have : (cs.map (·.1)).idxOf cs[i].1 = i := by
            have := idx_get hnd (i := i) (by simpa using hi)
            simpa using this
          rw [this]
        · rw [List.getElem?_eq_none (by omega)]
          rfl
      have hpm : (newL (σ.length + 2) cs).Perm (es1.map ρ) := by
        rw [hcs]
        refine ((hp.symm.map _).trans ?_).trans (q2.map ρ)
        rw [hvs]
      refine ⟨es1.map ρ, hpm, ?_, by rw [List.length_map]; exact q4.1, fun i e kd h1 h2 => ?_⟩
      · unfold KeysOK at q3 ⊢
        have e1 : (newL 2 vs).map (·.1) = vs.map (fun p => D.str p.1) := by
          unfold newL
          apply List.ext_getElem?
          intro i
          simp only [List.getElem?_map, List.getElem?_mapIdx, Option.map_map]
          cases vs[i]? <;> rfl
        have e2 : (newL (σ.length + 2) cs).map (·.1) = cs.map (fun p => D.str p.1) := by
          unfold newL
          apply List.ext_getElem?
          intro i
          simp only [List.getElem?_map, List.getElem?_mapIdx, Option.map_map]
          cases cs[i]? <;> rfl
        rw [e1] at q3
        rw [e2]
        exact ((hp.map (fun p => D.str p.1)).pairwise_iff (fun h => keys_symm h)).1 q3
      · simp only [List.getElem?_map, Option.map_eq_some_iff] at h2
        obtain ⟨kd0, h3, rfl⟩ := h2
        obtain ⟨r1, r2, r3, r4, r5⟩ := q4.2 i e kd0 h1 h3
        have hmem : kd0 ∈ newL 2 vs := q2.symm.subset (List.mem_of_getElem? h3)
        unfold newL at hmem
        rw [List.mem_mapIdx] at hmem
        obtain ⟨j, hj, rfl⟩ := hmem
        obtain ⟨k1, k2⟩ := hxlt j hj
        have hxj : hx j = (cs.map (·.1)).idxOf vs[j].1 := by
          show (cs.map (·.1)).idxOf ((vs.map (·.1)).getD j []) = _
          simp [hj]
        show Rep g' e.key (.str vs[j].1) ∧ Rep g' e.val (.ptr (σ.length + 2 + (cs.map (·.1)).idxOf vs[j].1) 0) ∧ _ ∧ _ ∧ _
        refine ⟨by rw [strV_of r1]; exact rep_strV _, ?_, rfl, rfl, rfl⟩
        rw [← hxj]
        have : e.val = .pointer (some ⟨g8.μ (2 + j), 0, none⟩) := by
          generalize e.val = v at r2
          cases r2
          rfl
        rw [this]
        have h5 := (hrj (hx j) k1).1
        rw [k2] at h5
        rw [← h5]
        exact .ptr _ _ (by show σ.length + 2 + hx j < σ.length + (2 + (cs.length + 1)); omega)
    · cases h2
      exact h4d.maps_keep keep hC (σ.length + 1) hs (by simp)
    · have hi : i < cs.length := by simpa using h1
      simp [hi] at h2
    · cases h2
  · -- rows
    intro o e cl h1 h2
    rcases st_get h2 with ⟨k1, k2⟩ | ⟨k1, k2⟩ | ⟨k1, k2⟩ | ⟨i, k0, k1, k2⟩ | ⟨k1, k2⟩
    · rcases st_get h1 with ⟨m1, m2⟩ | ⟨m1, _⟩ | ⟨m1, _⟩ | ⟨i, _, m1, _⟩ | ⟨m1, _⟩
      · exact h4d.rows_keep keep hC o e cl (by rw [List.getElem?_append_left m1]; exact m2) (by rw [List.getElem?_append_left k1]; exact k2)
      · omega
      · omega
      · omega
      · omega
    · cases k2
    · cases k2
    · have hi : i < cs.length := by simpa using k0
      simp [hi] at k2
    · cases k2
  · intro u hu
    rw [hk] at hu
    have : u = .pointer (some ⟨g8.μ (2 + cs.length), 0, none⟩) := by
      cases hu
      rfl
    rw [this, ← hrk.1]
    exact .ptr _ _ (by show σ.length + 2 + cs.length < σ.length + (2 + (cs.length + 1)); omega)
end Go.Abs.C
