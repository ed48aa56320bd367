import Derived.Test.YtmmjjkahaemlkaaS7
set_option linter.unusedVariables false
set_option linter.unusedSimpArgs false
/-
  The solver in plain Lean: why what it answers is right.
-/
namespace Go.Abs.B
open Go Go.Abs
set_option maxRecDepth 8000

theorem look_unit {N : Nat} (a : List Int) : ∀ (c : List Int) (last v : Int), okC N c → lookR a c last = (v, true) → v ≠ 0 → (last = 0 ∨ last = v) ∧ ∀ u ∈ c, u = v ∨ soR a u = -1
  | [], last, v, _, h, _ => ⟨.inr (congrArg Prod.fst h), fun u hu => (List.not_mem_nil hu).elim⟩
  | x :: c, last, v, hc, h, hv => by
    have hx0 := (hc x (by simp)).1
    have hc' : okC N c := fun u hu => hc u (by simp [hu])
    rw [lookR_cons] at h
    split at h
    · exact absurd (congrArg Prod.fst h).symm hv
    · rename_i n1
      split at h
      · split at h
        · exact absurd (congrArg Prod.fst h).symm hv
        · rename_i n2
          obtain ⟨q1, q2⟩ := look_unit a c x v hc' h hv
          have hxv : x = v := by
            rcases q1 with q1 | q1
            · exact absurd q1 hx0
            · exact q1
          refine ⟨?_, fun u hu => ?_⟩
          · by_cases h0 : last = 0
            · exact .inl h0
            · right
              by_cases h1 : last = x
              · rw [h1, hxv]
              · exact absurd ⟨h0, h1⟩ n2
          · rcases List.mem_cons.1 hu with rfl | hu
            · exact .inl hxv
            · exact q2 u hu
      · rename_i n0
        obtain ⟨q1, q2⟩ := look_unit a c last v hc' h hv
        refine ⟨q1, fun u hu => ?_⟩
        rcases List.mem_cons.1 hu with rfl | hu
        · right
          rcases soR_cases a u with h | h | h
          · exact absurd h n0
          · exact absurd h n1
          · exact h
        · exact q2 u hu
theorem look_fail {N : Nat} (a : List Int) : ∀ (c : List Int) (last : Int), okC N c → (lookR a c last).2 = false → last = 0 ∧ ∀ u ∈ c, soR a u = -1
  | [], last, _, h => ⟨by simpa [lookR] using h, fun u hu => (List.not_mem_nil hu).elim⟩
  | x :: c, last, hc, h => by
    have hx0 := (hc x (by simp)).1
    have hc' : okC N c := fun u hu => hc u (by simp [hu])
    rw [lookR_cons] at h
    split at h
    · cases h
    · rename_i n1
      split at h
      · split at h
        · cases h
        · exact absurd (look_fail a c x hc' h).1 hx0
      · rename_i n0
        obtain ⟨q1, q2⟩ := look_fail a c last hc' h
        refine ⟨q1, fun u hu => ?_⟩
        rcases List.mem_cons.1 hu with rfl | hu
        · rcases soR_cases a u with h | h | h
          · exact absurd h n0
          · exact absurd h n1
          · exact h
        · exact q2 u hu
theorem look_met (a : List Int) : ∀ (c : List Int), (lookR a c 0).1 = 0 → (lookR a c 0).2 = true → (∀ u ∈ c, soR a u ≠ 0) → ∃ u ∈ c, soR a u = 1
  | [], _, h, _ => by simp [lookR] at h
  | x :: c, h1, h2, h0 => by
    rw [lookR_cons] at h1 h2
    by_cases n1 : soR a x = 1
    · exact ⟨x, by simp, n1⟩
    · rw [if_neg n1, if_neg (h0 x (by simp))] at h1 h2
      obtain ⟨u, hu, hs⟩ := look_met a c h1 h2 (fun u hu => h0 u (by simp [hu]))
      exact ⟨u, by simp [hu], hs⟩
theorem so_one {a : List Int} {v : Int} (h : soR a v = 1) : atv a v = v := by
  unfold soR at h
  split at h
  · cases h
  · split at h
    · assumption
    · cases h
theorem so_neg1 {N : Nat} {a : List Int} {t : List (Int × Int)} (hW : WF N a t) {u : Int} (h : soR a u = -1) : ∃ b, (0 - u, b) ∈ t := by
  unfold soR at h
  by_cases h0 : atv a u = 0
  · rw [if_pos h0] at h
    cases h
  · rw [if_neg h0] at h
    have hm : u.natAbs ∈ t.map varOf := by
      by_cases hm : u.natAbs ∈ t.map varOf
      · exact hm
      · exact absurd (hW.out hm) h0
    obtain ⟨f, hf, he⟩ := List.mem_map.1 hm
    have h1 := hW.inn hf he.symm
    have hne : f.1 ≠ u := by
      intro h2
      rw [h1, if_pos h2] at h
      cases h
    have h2 : f.1 = 0 - u := by
      unfold varOf at he
      omega
    refine ⟨f.2, ?_⟩
    rw [← h2]
    exact hf

/-- Each that was fixed was chosen, or is what a given clause asked for. -/
def TI (G : Nat → List Int) (t : List (Int × Int)) : Prop := ∀ (i : Nat) (hi : i < t.length), t[i].2 = -1 ∨ (0 ≤ t[i].2 ∧ t[i].1 ∈ G t[i].2.toNat ∧ ∀ v ∈ G t[i].2.toNat, v = t[i].1 ∨ ∃ b, (0 - v, b) ∈ t.take i)
theorem TI.nil (G : Nat → List Int) : TI G [] := fun i hi => absurd hi (by simp)
theorem TI.snoc {G : Nat → List Int} {t : List (Int × Int)} (h : TI G t) {f : Int × Int} (hf : f.2 = -1 ∨ (0 ≤ f.2 ∧ f.1 ∈ G f.2.toNat ∧ ∀ v ∈ G f.2.toNat, v = f.1 ∨ ∃ b, (0 - v, b) ∈ t)) : TI G (t ++ [f]) := by
  intro i hi
  by_cases hl : i < t.length
  · rw [List.getElem_append_left hl, List.take_append_of_le_length (by omega)]
    exact h i hl
  · have he : i = t.length := by
      simp only [List.length_append, List.length_cons, List.length_nil] at hi
      omega
    subst he
    have h1 : (t ++ [f])[t.length]'hi = f := by simp
    have h2 : (t ++ [f]).take t.length = t := by simp
    rw [h1, h2]
    exact hf
theorem TI.take {G : Nat → List Int} {t : List (Int × Int)} (h : TI G t) (n : Nat) : TI G (t.take n) := by
  intro i hi
  rw [List.length_take] at hi
  have h1 : (t.take n)[i]'(by rw [List.length_take]; exact hi) = t[i]'(by omega) := List.getElem_take
  have h2 : (t.take n).take i = t.take i := by rw [List.take_take, Nat.min_eq_left (by omega)]
  rw [h1, h2]
  exact h i (by omega)
theorem pass_TI {N : Nat} {G : Nat → List Int} : ∀ (L : List (List Int)) (i : Nat) (a : List Int) (t : List (Int × Int)) (more : Bool), WF N a t → (∀ c ∈ L, okC N c) → (∀ (j : Nat) (hj : j < L.length), G (i + j) = L[j]) → TI G t →
    TI G (passR L i a t more).2.2.1 ∧ (∀ e, (passR L i a t more).2.2.1 = t ++ e → ∀ f ∈ e, 0 ≤ f.2) ∧
    (∀ j : Int, (passR L i a t more).1 = some j → ∀ u ∈ G j.toNat, soR (passR L i a t more).2.1 u = -1) ∧
    ((passR L i a t more).1 = none → (passR L i a t more).2.2.2 = false → (passR L i a t more).2.1 = a ∧ (passR L i a t more).2.2.1 = t ∧ ∀ c ∈ L, lookR a c 0 = (0, true))
  | [], i, a, t, more, _, _, _, hT => by
    refine ⟨hT, fun e he f hf => ?_, fun j hj => by simp [passR] at hj, fun _ _ => ⟨rfl, rfl, fun c hc => (List.not_mem_nil hc).elim⟩⟩
    have : e = [] := by
      have h : t = t ++ e := he
      exact List.self_eq_append_right.1 h
    subst this
    exact (List.not_mem_nil hf).elim
  | c :: L, i, a, t, more, hW, hL, hG, hT => by
    have hL' : ∀ c ∈ L, okC N c := fun d hd => hL d (by simp [hd])
    have hG' : ∀ (j : Nat) (hj : j < L.length), G (i + 1 + j) = L[j] := fun j hj => by
      have := hG (j + 1) (by simp; omega)
      rw [show i + 1 + j = i + (j + 1) by omega, this]
      rfl
    have hG0 : G i = c := by
      have := hG 0 (by simp)
      simpa using this
    have hci : ((i + 1 : Nat) : Int) = (i : Int) + 1 := rfl
    unfold passR
    by_cases h1 : (lookR a c 0).2 = false
    · rw [if_pos h1]
      refine ⟨hT, fun e he f hf => ?_, fun j hj => ?_, fun h => by cases h⟩
      · have : e = [] := List.self_eq_append_right.1 he
        subst this
        exact (List.not_mem_nil hf).elim
      · simp only [Option.some.injEq] at hj
        subst hj
        have e1 : ((i : Int)).toNat = i := by simp
        rw [e1, hG0]
        exact (look_fail a c 0 (hL c (by simp)) h1).2
    · rw [if_neg h1]
      have h1' : (lookR a c 0).2 = true := by simpa using h1
      by_cases h2 : (lookR a c 0).1 ≠ 0
      · rw [if_pos h2]
        obtain ⟨h3, h4, h5⟩ := look_step hW (hL c (by simp)) h1 h2 (i : Int)
        have he : lookR a c 0 = ((lookR a c 0).1, true) := by rw [← h1']
        have hun := look_unit a c 0 _ (hL c (by simp)) he h2
        have hin : (lookR a c 0).1 ∈ c := by
          rcases look_fact a c 0 _ (.inl rfl) he with h | ⟨_, h⟩
          · exact absurd h h2
          · rcases h with h | h
            · exact h
            · exact absurd h h2
        have hT' : TI G (t ++ [((lookR a c 0).1, (i : Int))]) := by
          refine hT.snoc (.inr ⟨by show (0 : Int) ≤ i; omega, ?_, ?_⟩)
          · show _ ∈ G ((i : Int)).toNat
            rw [show ((i : Int)).toNat = i by simp, hG0]
            exact hin
          · intro v hv
            change v ∈ G ((i : Int)).toNat at hv
            rw [show ((i : Int)).toNat = i by simp, hG0] at hv
            rcases hun.2 v hv with h | h
            · exact .inl h
            · exact .inr (so_neg1 hW h)
        have r := pass_TI L (i + 1) _ _ true h5 hL' hG' hT'
        rw [hci] at r
        obtain ⟨r1, r2, r3, r4⟩ := r
        refine ⟨r1, fun e he2 f hf => ?_, r3, fun q1 q2 => ?_⟩
        · obtain ⟨_, ⟨e3, he3⟩, _⟩ := pass_wf L ((i : Int) + 1) _ _ true h5 hL'
          have hh := r2 e3 he3
          rw [he3, List.append_assoc] at he2
          have := List.append_cancel_left he2
          rw [← this] at hf
          rcases List.mem_append.1 hf with hf | hf
          · simp only [List.mem_singleton] at hf
            subst hf
            show (0 : Int) ≤ i
            omega
          · exact hh f hf
        · exfalso
          have := pass_more L ((i : Int) + 1) (a.set (lookR a c 0).1.natAbs (lookR a c 0).1) (t ++ [((lookR a c 0).1, (i : Int))])
          rw [this] at q2
          cases q2
      · rw [if_neg h2]
        have h2' : (lookR a c 0).1 = 0 := by
          by_cases h : (lookR a c 0).1 = 0
          · exact h
          · exact absurd h h2
        have r := pass_TI L (i + 1) a t more hW hL' hG' hT
        rw [hci] at r
        obtain ⟨r1, r2, r3, r4⟩ := r
        refine ⟨r1, r2, r3, fun q1 q2 => ?_⟩
        obtain ⟨s1, s2, s3⟩ := r4 q1 q2
        refine ⟨s1, s2, fun d hd => ?_⟩
        rcases List.mem_cons.1 hd with rfl | hd
        · exact Prod.ext h2' h1'
        · exact s3 d hd
where
  pass_more : ∀ (L : List (List Int)) (i : Int) (a : List Int) (t : List (Int × Int)), (passR L i a t true).2.2.2 = true
  | [], _, _, _ => rfl
  | c :: L, i, a, t => by
    unfold passR
    split
    · rfl
    · split
      · exact pass_more L _ _ _
      · exact pass_more L _ _ _
end Go.Abs.B

/-
  The solver in plain Lean: of what it says can't be met it tells a proof; what it says is met is met.
-/
namespace Go.Abs.B
open Go Go.Abs
set_option maxRecDepth 8000

theorem spread_pre {N : Nat} {L : List (List Int)} (hL : ∀ c ∈ L, okC N c) : ∀ (k : Nat) (a : List Int) (t : List (Int × Int)), WF N a t → ∃ e, (spreadR k L a t).2.2 = t ++ e
  | 0, _, t, _ => ⟨[], by simp [spreadR]⟩
  | k + 1, a, t, hW => by
    have hp := pass_wf L 0 a t false hW hL
    unfold spreadR
    generalize passR L 0 a t false = r at *
    obtain ⟨o, a1, t1, m⟩ := r
    simp only [] at hp
    obtain ⟨h1, ⟨e, h2⟩, h3⟩ := hp
    cases o with
    | some i => exact ⟨e, h2⟩
    | none =>
      cases m with
      | false => exact ⟨e, h2⟩
      | true =>
        obtain ⟨e2, he2⟩ := spread_pre hL k a1 t1 h1
        refine ⟨e ++ e2, ?_⟩
        simp only []
        rw [he2, h2, List.append_assoc]
theorem spread_TI {N : Nat} {G : Nat → List Int} {L : List (List Int)} (h0 : 0 < N) (hL : ∀ c ∈ L, okC N c) (hG : ∀ (j : Nat) (hj : j < L.length), G j = L[j]) : ∀ (k : Nat) (a : List Int) (t : List (Int × Int)), WF N a t → TI G t → N - t.length < k →
    TI G (spreadR k L a t).2.2 ∧ (∀ e, (spreadR k L a t).2.2 = t ++ e → ∀ f ∈ e, 0 ≤ f.2) ∧ (0 ≤ (spreadR k L a t).1 → ∀ u ∈ G (spreadR k L a t).1.toNat, soR (spreadR k L a t).2.1 u = -1) ∧ ((spreadR k L a t).1 < 0 → ∀ c ∈ L, lookR (spreadR k L a t).2.1 c 0 = (0, true))
  | 0, _, _, _, _, h => by omega
  | k + 1, a, t, hW, hT, hk => by
    have hp := pass_wf L 0 a t false hW hL
    have hq := pass_TI L 0 a t false hW hL (fun j hj => by rw [Nat.zero_add]; exact hG j hj) hT
    have hi := pass_idx L 0 a t false
    rw [show ((0 : Nat) : Int) = 0 from rfl] at hq
    unfold spreadR
    generalize passR L 0 a t false = r at *
    obtain ⟨o, a1, t1, m⟩ := r
    simp only [] at hp hq hi
    obtain ⟨h1, ⟨e, h2⟩, h3⟩ := hp
    obtain ⟨q1, q2, q3, q4⟩ := hq
    cases o with
    | some i =>
      have := hi i rfl
      simp only []
      exact ⟨q1, q2, fun _ => q3 i rfl, fun h => by omega⟩
    | none =>
      cases m with
      | false =>
        simp only []
        obtain ⟨s1, s2, s3⟩ := q4 rfl rfl
        subst s1 s2
        exact ⟨q1, q2, fun h => by omega, fun _ => s3⟩
      | true =>
        simp only []
        have hlt : t.length < t1.length := by
          rcases h3 rfl with h | h
          · cases h
          · exact h
        have hw1 := h1.len_le h0
        obtain ⟨r1, r2, r3, r4⟩ := spread_TI h0 hL hG k a1 t1 h1 q1 (by omega)
        refine ⟨r1, fun e2 he2 f hf => ?_, r3, r4⟩
        obtain ⟨e3, he3⟩ := spread_pre hL k a1 t1 h1
        rw [he3, h2, List.append_assoc] at he2
        have := List.append_cancel_left he2
        rw [← this] at hf
        rcases List.mem_append.1 hf with hf | hf
        · exact q2 e h2 f hf
        · exact r2 e3 he3 f hf

theorem addAll_mem2 (w : Int) : ∀ (xs out : List Int) (v : Int), v ∈ addAll w xs out → v ∈ out ∨ (v ∈ xs ∧ v ≠ w)
  | [], out, v, h => .inl h
  | x :: xs, out, v, h => by
    simp only [addAll] at h
    rcases addAll_mem2 w xs _ v h with h | h
    · by_cases hc : x ≠ w ∧ x ∉ out
      · rw [if_pos hc] at h
        rcases List.mem_append.1 h with h | h
        · exact .inl h
        · simp only [List.mem_singleton] at h
          subst h
          exact .inr ⟨by simp, hc.1⟩
      · rw [if_neg hc] at h
        exact .inl h
    · exact .inr ⟨List.mem_cons_of_mem _ h.1, h.2⟩
theorem allF_snoc : ∀ (st : List Step3) (l0 l : List (List Int)) (s : Step3), allF l0 st = some l → can l s → makes (getC l s.1) (getC l s.2.1) s.2.2 → allF l0 (st ++ [s]) = some (l ++ [made (getC l s.1) (getC l s.2.1) s.2.2])
  | [], l0, l, s, h, hc, hm => by
    have : l0 = l := by simpa [allF] using h
    subst this
    show (if can l0 s ∧ makes _ _ _ then allF _ [] else none) = _
    rw [if_pos ⟨hc, hm⟩]
    rfl
  | x :: st, l0, l, s, h, hc, hm => by
    simp only [allF, List.cons_append] at h ⊢
    split at h
    · rename_i hx
      rw [if_pos hx]
      exact allF_snoc st _ l s h hc hm
    · cases h
theorem negI_ok {p : Int} (h0 : -1099511627776 ≤ p) (h1 : p ≤ 1099511627776) : negI p = 0 - p := wrap_eq rfl (by omega) (by omega)
/-- A step that may be, from what is known of the two. -/
theorem step_ok {N : Nat} {l0 l : List (List Int)} {st : List Step3} {a b p : Int} (hN : N ≤ 400) (hv : allF l0 st = some l) (ha : 0 ≤ a ∧ a.toNat < l.length) (hb : 0 ≤ b ∧ b.toNat < l.length) (hp : okL N p) (h1 : p ∈ l.getD a.toNat []) (h2 : 0 - p ∈ l.getD b.toNat []) :
    allF l0 (st ++ [(a, b, p)]) = some (l ++ [madeR l a b p]) := by
  have hpb := hp.2
  have hn : negI p = 0 - p := negI_ok (by omega) (by omega)
  have := allF_snoc st l0 l (a, b, p) hv ⟨ha.1, by show a < _; omega, hb.1, by show b < _; omega⟩ ⟨hp.1, h1, by rw [hn]; exact h2⟩
  rw [this]
  unfold made madeR
  rw [hn]
  rfl
theorem getD_app {l : List (List Int)} {x : List Int} {i : Nat} (h : i < l.length) : (l ++ [x]).getD i [] = l.getD i [] := by
  simp only [List.getD_eq_getElem?_getD]
  rw [List.getElem?_append_left h]
theorem getD_last (l : List (List Int)) (x : List Int) : (l ++ [x]).getD l.length [] = x := by simp [List.getD_eq_getElem?_getD]
/-- Each literal's opposite was fixed; behind the first k by choice. -/
def Opp (t : List (Int × Int)) (k : Nat) (c : List Int) : Prop := ∀ v ∈ c, ∃ (m : Nat) (hm : m < t.length), t[m].1 = 0 - v ∧ (m < k ∨ t[m].2 = -1)
theorem why_all {N given : Nat} {G : Nat → List Int} {l0 : List (List Int)} (hN : N ≤ 400) : ∀ (k : Nat) (t : List (Int × Int)) (l : List (List Int)) (st : List Step3) (c : Int), TI G t → (∀ f ∈ t, okL N f.1 ∧ f.2 < given) → k ≤ t.length → (∀ i, i < given → l.getD i [] = G i) → given ≤ l.length → 0 ≤ c → c.toNat < l.length → Opp t k (l.getD c.toNat []) → allF l0 st = some l →
    Opp t 0 ((whyR k t l st c).1.getD (whyR k t l st c).2.2.toNat []) ∧ allF l0 (whyR k t l st c).2.1 = some (whyR k t l st c).1
  | 0, t, l, st, c, _, _, _, _, _, _, _, ho, hv => ⟨ho, hv⟩
  | k + 1, t, l, st, c, hT, hok, hk, hG, hgl, h0, h1, ho, hv => by
    have hg : t.getD k (0, 0) = t[k]'(by omega) := by rw [List.getD_eq_getElem?_getD, List.getElem?_eq_getElem (by omega)]; rfl
    have hTk := hT k (by omega)
    have hfk := hok _ (List.getElem_mem (show k < t.length by omega))
    unfold whyR
    rw [hg]
    by_cases hc : 0 ≤ t[k].2 ∧ 0 - t[k].1 ∈ l.getD c.toNat []
    · rw [if_pos hc]
      obtain ⟨hb, hin⟩ := hc
      have hTk' : t[k].1 ∈ G t[k].2.toNat ∧ ∀ v ∈ G t[k].2.toNat, v = t[k].1 ∨ ∃ b, (0 - v, b) ∈ t.take k := by
        rcases hTk with h | h
        · omega
        · exact h.2
      have hbl : t[k].2.toNat < given := by omega
      have hGk := hG _ hbl
      have hstep := step_ok (N := N) hN hv (a := t[k].2) (b := c) (p := t[k].1) ⟨hb, by omega⟩ ⟨h0, h1⟩ hfk.1 (by rw [hGk]; exact hTk'.1) hin
      refine why_all hN k t _ _ _ hT hok (by omega) (fun i hi => by rw [getD_app (by omega)]; exact hG i hi) (by simp; omega) (by omega) (by simp) ?_ hstep
      rw [show ((l.length : Int)).toNat = l.length by simp, getD_last]
      intro v hv2
      rcases addAll_mem2 _ _ _ v hv2 with h | ⟨h, hne⟩
      · rcases addAll_mem2 _ _ _ v h with h | ⟨h, hne⟩
        · exact (List.not_mem_nil h).elim
        · rw [hGk] at h
          rcases hTk'.2 v h with h3 | ⟨b, h3⟩
          · exact absurd h3 hne
          · obtain ⟨m, hm, he⟩ := List.getElem_of_mem h3
            rw [List.length_take] at hm
            have : t[m]'(by omega) = (0 - v, b) := by rw [← he, List.getElem_take]
            exact ⟨m, by omega, by rw [this], .inl (by omega)⟩
      · obtain ⟨m, hm, e1, e2⟩ := ho v h
        refine ⟨m, hm, e1, ?_⟩
        rcases e2 with e2 | e2
        · by_cases hmk : m = k
          · subst hmk
            exact absurd (show v = 0 - t[m].1 by omega) hne
          · exact .inl (by omega)
        · exact .inr e2
    · rw [if_neg hc]
      refine why_all hN k t l st c hT hok (by omega) hG hgl h0 h1 ?_ hv
      intro v hv2
      obtain ⟨m, hm, e1, e2⟩ := ho v hv2
      refine ⟨m, hm, e1, ?_⟩
      rcases e2 with e2 | e2
      · by_cases hmk : m = k
        · subst hmk
          right
          have hnin : ¬ 0 ≤ t[m].2 := by
            intro h
            refine hc ⟨h, ?_⟩
            rw [show 0 - t[m].1 = v by omega]
            exact hv2
          rcases hTk with h | h
          · exact h
          · exact absurd h.1 hnin
        · exact .inl (by omega)
      · exact .inr e2
end Go.Abs.B

/-
  The solver in plain Lean: trying keeps the proof; what it answers.
-/
namespace Go.Abs.B
open Go Go.Abs
set_option maxRecDepth 8000

structure TV (l0 : List (List Int)) (s : Sv) : Prop where
  lp : ∃ e, s.l = l0 ++ e
  ti : TI (fun i => l0.getD i []) s.t
  vp : allF l0 s.steps = some s.l
theorem TV.back {l0 : List (List Int)} {s : Sv} (h : TV l0 s) (n : Nat) : TV l0 (s.back n) := ⟨h.lp, h.ti.take n, h.vp⟩
theorem TV.fin {l0 : List (List Int)} {s : Sv} (h : TV l0 s) (n : Nat) (v : Int) : TV l0 (s.fin n v) := by
  unfold Sv.fin
  split
  · exact h.back n
  · exact h
theorem TV.fix {l0 : List (List Int)} {s : Sv} (h : TV l0 s) (v : Int) : TV l0 (s.fix v) := ⟨h.lp, h.ti.snoc (.inl rfl), h.vp⟩
theorem fin_l (s : Sv) (n : Nat) (v : Int) : (s.fin n v).l = s.l := by
  unfold Sv.fin
  split <;> rfl
theorem getD_pre {l0 e : List (List Int)} {i : Nat} (h : i < l0.length) : (l0 ++ e).getD i [] = l0.getD i [] := by
  simp only [List.getD_eq_getElem?_getD]
  rw [List.getElem?_append_left h]
/-- What was chosen is no variable that was spread to. -/
theorem chosen_of {t e : List (Int × Int)} {s : List (Int × Int)} (ht : t = s ++ e) (he : ∀ f ∈ e, 0 ≤ f.2) {x : Int} (h : (x, -1) ∈ t) : (x, -1) ∈ s := by
  rw [ht] at h
  rcases List.mem_append.1 h with h | h
  · exact h
  · have := he _ h
    simp at this
structure Ans (l0 : List (List Int)) (s : Sv) (r : Int × Int × Sv) : Prop where
  tv : TV l0 r.2.2
  un : r.1 = 2 → ∀ v ∈ r.2.2.l.getD r.2.1.toNat [], (0 - v, -1) ∈ s.t
  met : r.1 = 1 → ∀ c ∈ l0, ∃ u ∈ c, atv r.2.2.a u = u
theorem try_all {N : Nat} {l0 : List (List Int)} (h0 : 0 < N) (hN : N ≤ 400) : ∀ (k : Nat) (s : Sv), Pre N l0.length k s → TV l0 s → Ans l0 s (tryR N l0.length k s)
  | 0, s, h, _ => by
    have := h.wf.len_le h0
    have := h.dep
    omega
  | k + 1, s, h, hv => by
    have hs := spd_of h
    obtain ⟨el, hel⟩ := hv.lp
    have htk : s.l.take l0.length = l0 := by rw [hel]; simp
    have hcl0 : ∀ c ∈ l0, okC N c := fun c hc => (h.cl c (by rw [hel]; simp [hc])).1
    have hGe : ∀ (j : Nat) (hj : j < l0.length), (fun i => l0.getD i []) j = l0[j] := fun j hj => by
      show l0.getD j [] = _
      rw [List.getD_eq_getElem?_getD, List.getElem?_eq_getElem hj]
      rfl
    have hst := spread_TI h0 hcl0 hGe (N + 1) s.a s.t h.wf hv.ti (by omega)
    have hspe : spreadR (N + 1) l0 s.a s.t = spS N l0.length s := by unfold spS; rw [htk]
    rw [hspe] at hst
    show Ans l0 s (tryA (tryR N l0.length k) s (spS N l0.length s) (vF (spS N l0.length s).2.1))
    generalize spS N l0.length s = sp at *
    obtain ⟨t1, t2, t3, t4⟩ := hst
    obtain ⟨e, he⟩ := hs.tp
    have hch := t2 e he
    unfold tryA
    by_cases hc : 0 ≤ sp.1
    · rw [if_pos hc]
      have hi := hs.idx hc
      have hgl : l0.length ≤ s.l.length := h.giv
      have hw := why_all (N := N) (given := l0.length) (G := fun i => l0.getD i []) (l0 := l0) hN sp.2.2.length sp.2.2 s.l s.steps sp.1 t1 (fun f hf => ⟨hs.wf.ok f hf, hs.by_ f hf⟩) (Nat.le_refl _) (fun i hi => by rw [hel]; exact getD_pre hi) hgl hc (by omega) (by
        intro v hv2
        rw [hel, getD_pre (by omega)] at hv2
        obtain ⟨b, hb⟩ := so_neg1 hs.wf (t3 hc v hv2)
        obtain ⟨m, hm, hme⟩ := List.getElem_of_mem hb
        exact ⟨m, hm, by rw [hme], .inl hm⟩) hv.vp
      obtain ⟨_, ⟨e2, q2, _⟩, _⟩ := why_facts sp.2.2.length sp.2.2 s.l s.steps sp.1 h.cl hc (by omega)
      refine ⟨⟨⟨el ++ e2, by show (whyR _ _ _ _ _).1 = _; rw [q2, hel, List.append_assoc]⟩, t1.take _, hw.2⟩, fun _ v hv2 => ?_, fun h => by simp [failR] at h⟩
      obtain ⟨m, hm, m1, m2⟩ := hw.1 v hv2
      have m3 : sp.2.2[m].2 = -1 := by
        rcases m2 with m2 | m2
        · omega
        · exact m2
      refine chosen_of he hch ?_
      have : sp.2.2[m] = (0 - v, -1) := Prod.ext m1 m3
      rw [← this]
      exact List.getElem_mem hm
    rw [if_neg hc]
    have t4 := t4 (by omega)
    by_cases hz : vF sp.2.1 = 0
    · rw [if_pos hz]
      have hnz := vF_zero hz
      refine ⟨⟨⟨el, hel⟩, t1, hv.vp⟩, fun h => by simp at h, fun _ c hc2 => ?_⟩
      have hlk := t4 c hc2
      obtain ⟨u, hu, hs1⟩ := look_met sp.2.1 c (by rw [hlk]) (by rw [hlk]) (fun u hu hz0 => by
        have h1 := so_zero hz0
        have h2 := hcl0 c hc2 u hu
        apply hnz
        have hl := hs.wf.len
        unfold atv at h1
        rw [List.getD_eq_getElem?_getD, List.getElem?_eq_getElem (by rw [hl]; exact h2.2)] at h1
        have h3 : sp.2.1[u.natAbs]'(by rw [hl]; exact h2.2) = 0 := h1
        have h4 := h2.1
        have h5 : (sp.2.1.drop 1)[u.natAbs - 1]'(by rw [List.length_drop, hl]; have := h2.2; omega) = 0 := by
          rw [List.getElem_drop]
          have : 1 + (u.natAbs - 1) = u.natAbs := by omega
          simp only [this]
          exact h3
        rw [← h5]
        exact List.getElem_mem _)
      exact ⟨u, hu, so_one hs1⟩
    rw [if_neg hz]
    obtain ⟨v1, v2, v3⟩ := vF_facts hs.wf hz
    generalize vF sp.2.1 = v at *
    have hv2s : TV l0 (s2R s sp) := ⟨⟨el, hel⟩, t1, hv.vp⟩
    by_cases hl : s.left - 1 < 0
    · rw [if_pos hl]
      exact ⟨hv2s.fin _ _, fun h => by simp at h, fun h => by simp at h⟩
    rw [if_neg hl]
    have hpre := pre_fix h hs v2 v3
    have r1 := try_all h0 hN k _ hpre (hv2s.fix v)
    have p1 := try_post h0 k _ hpre
    have hpf := fun h2 => pre_fix2 h hs v2 v3 p1 h2
    have htp1 := p1.tp
    change ∃ e, _ = (sp.2.2 ++ [(v, -1)]) ++ e at htp1
    have hu1 := r1.un
    change _ → ∀ w ∈ _, (0 - w, -1) ∈ sp.2.2 ++ [(v, -1)] at hu1
    generalize tryR N l0.length k ((s2R s sp).fix v) = x1 at *
    obtain ⟨et, het⟩ := htp1
    unfold tryB
    by_cases h2 : x1.1 ≠ 2
    · rw [if_pos h2]
      refine ⟨r1.tv.fin _ _, fun h => absurd h h2, fun hm => ?_⟩
      have hwx := p1.wf
      rw [het, List.append_assoc] at hwx
      rw [fin_keep (hwx.var (e := et))]
      exact r1.met hm
    rw [if_neg h2]
    have h2' : x1.1 = 2 := by
      by_cases h : x1.1 = 2
      · exact h
      · exact absurd h h2
    obtain ⟨w1, w2, w3, w4⟩ := hpf h2'
    obtain ⟨y1, y2⟩ := p1.res h2'
    unfold tryC
    by_cases hin : 0 - v ∉ (x1.2.2.back sp.2.2.length).l.getD x1.2.1.toNat []
    · rw [if_pos hin]
      refine ⟨(r1.tv.back _).fin _ _, fun _ w hw => ?_, fun h => by simp at h⟩
      change w ∈ ((x1.2.2.back sp.2.2.length).fin s.t.length v).l.getD x1.2.1.toNat [] at hw
      rw [fin_l] at hw
      rcases List.mem_append.1 (hu1 h2' w hw) with h | h
      · exact chosen_of he hch h
      · simp only [List.mem_singleton, Prod.mk.injEq] at h
        exact absurd (by rw [show 0 - v = w by omega]; exact hw) hin
    rw [if_neg hin]
    have hin' : 0 - v ∈ x1.2.2.l.getD x1.2.1.toNat [] := by
      by_cases hq : 0 - v ∈ (x1.2.2.back sp.2.2.length).l.getD x1.2.1.toNat []
      · exact hq
      · exact absurd hq hin
    have r2 := try_all h0 hN k _ w4 ((r1.tv.back _).fix _)
    have p2 := try_post h0 k _ w4
    have htp2 := p2.tp
    have hlp2 := p2.lp
    change ∃ e, _ = ((x1.2.2.back sp.2.2.length).t ++ [(0 - v, -1)]) ++ e at htp2
    change ∃ e, _ = x1.2.2.l ++ e at hlp2
    have hu2 := r2.un
    change _ → ∀ w ∈ _, (0 - w, -1) ∈ (x1.2.2.back sp.2.2.length).t ++ [(0 - v, -1)] at hu2
    rw [w2] at htp2 hu2
    unfold tryD
    generalize tryR N l0.length k ((x1.2.2.back sp.2.2.length).fix (0 - v)) = x2 at *
    obtain ⟨et2, het2⟩ := htp2
    obtain ⟨el2, hel2⟩ := hlp2
    by_cases h3 : x2.1 ≠ 2
    · rw [if_pos h3]
      refine ⟨r2.tv.fin _ _, fun h => absurd h h3, fun hm => ?_⟩
      have hwx := p2.wf
      rw [het2, List.append_assoc] at hwx
      have hne := hwx.var (e := et2)
      have hne' : atv x2.2.2.a v ≠ 0 := by
        unfold atv at hne ⊢
        rw [show (0 - v).natAbs = v.natAbs by omega] at hne
        exact hne
      rw [fin_keep hne']
      exact r2.met hm
    rw [if_neg h3]
    have h3' : x2.1 = 2 := by
      by_cases h : x2.1 = 2
      · exact h
      · exact absurd h h3
    obtain ⟨z1, z2⟩ := p2.res h3'
    unfold tryE
    by_cases hin2 : v ∉ (x2.2.2.back sp.2.2.length).l.getD x2.2.1.toNat []
    · rw [if_pos hin2]
      refine ⟨(r2.tv.back _).fin _ _, fun _ w hw => ?_, fun h => by simp at h⟩
      change w ∈ ((x2.2.2.back sp.2.2.length).fin s.t.length v).l.getD x2.2.1.toNat [] at hw
      rw [fin_l] at hw
      rcases List.mem_append.1 (hu2 h3' w hw) with h | h
      · exact chosen_of he hch h
      · simp only [List.mem_singleton, Prod.mk.injEq] at h
        exact absurd (by rw [show v = w by omega]; exact hw) hin2
    rw [if_neg hin2]
    have hin2' : v ∈ x2.2.2.l.getD x2.2.1.toNat [] := by
      by_cases hq : v ∈ (x2.2.2.back sp.2.2.length).l.getD x2.2.1.toNat []
      · exact hq
      · exact absurd hq hin2
    have hold : x2.2.2.l.getD x1.2.1.toNat [] = x1.2.2.l.getD x1.2.1.toNat [] := by rw [hel2]; exact getD_pre y2
    have hstep := step_ok (N := N) hN r2.tv.vp (a := x2.2.1) (b := x1.2.1) (p := v) ⟨z1, z2⟩ ⟨y1, by rw [hel2, List.length_append]; omega⟩ v2 hin2' (by rw [hold]; exact hin')
    have htv : TV l0 (addR (x2.2.2.back sp.2.2.length) x2.2.1 x1.2.1 v) := by
      obtain ⟨ee, hee⟩ := r2.tv.lp
      exact ⟨⟨ee ++ [madeR x2.2.2.l x2.2.1 x1.2.1 v], by show x2.2.2.l ++ [madeR x2.2.2.l x2.2.1 x1.2.1 v] = _; generalize madeR x2.2.2.l x2.2.1 x1.2.1 v = mm; rw [hee, List.append_assoc]⟩, r2.tv.ti.take _, hstep⟩
    refine ⟨htv.fin _ _, fun _ w hw => ?_, fun h => by simp at h⟩
    change w ∈ ((addR (x2.2.2.back sp.2.2.length) x2.2.1 x1.2.1 v).fin s.t.length v).l.getD ((x2.2.2.l.length : Int)).toNat [] at hw
    rw [fin_l] at hw
    change w ∈ (x2.2.2.l ++ [madeR x2.2.2.l x2.2.1 x1.2.1 v]).getD ((x2.2.2.l.length : Int)).toNat [] at hw
    rw [show ((x2.2.2.l.length : Int)).toNat = x2.2.2.l.length by simp, getD_last] at hw
    rcases addAll_mem2 _ _ _ w hw with hw | ⟨hw, hne⟩
    · rcases addAll_mem2 _ _ _ w hw with hw | ⟨hw, hne⟩
      · exact (List.not_mem_nil hw).elim
      · rcases List.mem_append.1 (hu2 h3' w hw) with h | h
        · exact chosen_of he hch h
        · simp only [List.mem_singleton, Prod.mk.injEq] at h
          exact absurd (show w = v by omega) hne
    · rw [hold] at hw
      rcases List.mem_append.1 (hu1 h2' w hw) with h | h
      · exact chosen_of he hch h
      · simp only [List.mem_singleton, Prod.mk.injEq] at h
        exact absurd (show w = 0 - v by omega) hne
end Go.Abs.B

/-
  The solver in plain Lean: how many variables are chosen; with less of a budget.
-/
namespace Go.Abs.B
open Go Go.Abs
set_option maxRecDepth 8000

theorem fin_left (s : Sv) (n : Nat) (v : Int) : (s.fin n v).left = s.left ∧ (s.fin n v).tried = s.tried := by
  unfold Sv.fin
  split <;> exact ⟨rfl, rfl⟩
theorem pow_mono {a b : Nat} (h : a ≤ b) : 2 ^ a ≤ 2 ^ b := Nat.pow_le_pow_right (by omega) h
/-- What is chosen is taken from what is left; it is never more than there are choices. -/
structure Cnt (N : Nat) (s : Sv) (r : Int × Int × Sv) : Prop where
  sum : r.2.2.tried + r.2.2.left = s.tried + s.left
  few : r.2.2.tried + 1 ≤ s.tried + (2 ^ (N - 1 - s.t.length) : Nat)
  fine : ((2 ^ (N - 1 - s.t.length) : Nat) : Int) ≤ s.left + 1 → r.1 ≠ 3
theorem try_cnt {N given : Nat} (h0 : 0 < N) : ∀ (k : Nat) (s : Sv), Pre N given k s → Cnt N s (tryR N given k s)
  | 0, s, h => by
    have := h.wf.len_le h0
    have := h.dep
    omega
  | k + 1, s, h => by
    have hs := spd_of h
    show Cnt N s (tryA (tryR N given k) s (spS N given s) (vF (spS N given s).2.1))
    generalize spS N given s = sp at *
    have hp0 := two_pow (N - 1 - s.t.length)
    obtain ⟨e, he⟩ := hs.tp
    unfold tryA
    by_cases hc : 0 ≤ sp.1
    · rw [if_pos hc]
      exact ⟨rfl, by show s.tried + 1 ≤ _; omega, fun _ => by show (2 : Int) ≠ 3; omega⟩
    rw [if_neg hc]
    by_cases hz : vF sp.2.1 = 0
    · rw [if_pos hz]
      exact ⟨rfl, by show s.tried + 1 ≤ _; omega, fun _ => by show (1 : Int) ≠ 3; omega⟩
    rw [if_neg hz]
    obtain ⟨v1, v2, v3⟩ := vF_facts hs.wf hz
    generalize vF sp.2.1 = v at *
    have hpre := pre_fix h hs v2 v3
    have hlen : sp.2.2.length + 1 + 1 ≤ N := by
      have := hpre.wf.len_le h0
      have e1 : ((s2R s sp).fix v).t.length = sp.2.2.length + 1 := by
        show (sp.2.2 ++ [(v, -1)]).length = _
        simp
      omega
    have hle : s.t.length ≤ sp.2.2.length := by rw [he]; simp
    have hm := pow_mono (show N - 1 - sp.2.2.length ≤ N - 1 - s.t.length by omega)
    have hd : 2 ^ (N - 1 - sp.2.2.length) = 2 * 2 ^ (N - 1 - (sp.2.2.length + 1)) := by
      rw [show N - 1 - sp.2.2.length = (N - 1 - (sp.2.2.length + 1)) + 1 by omega, Nat.pow_succ, Nat.mul_comm]
    have hp1 := two_pow (N - 1 - (sp.2.2.length + 1))
    by_cases hl : s.left - 1 < 0
    · rw [if_pos hl]
      have hf := fin_left (s2R s sp) s.t.length v
      refine ⟨?_, ?_, fun h => ?_⟩
      · show ((s2R s sp).fin s.t.length v).tried + ((s2R s sp).fin s.t.length v).left = _
        rw [hf.1, hf.2]
        show s.tried + 1 + (s.left - 1) = _
        omega
      · show ((s2R s sp).fin s.t.length v).tried + 1 ≤ _
        rw [hf.2]
        show s.tried + 1 + 1 ≤ _
        omega
      · omega
    rw [if_neg hl]
    have c1 := try_cnt h0 k _ hpre
    have p1 := try_post h0 k _ hpre
    have hpf := fun h2 => pre_fix2 h hs v2 v3 p1 h2
    have e1 : ((s2R s sp).fix v).t.length = sp.2.2.length + 1 := by
      show (sp.2.2 ++ [(v, -1)]).length = _
      simp
    have a1 := c1.sum
    have a2 := c1.few
    have a3 := c1.fine
    rw [e1] at a2 a3
    change _ = s.tried + 1 + (s.left - 1) at a1
    change _ + 1 ≤ s.tried + 1 + _ at a2
    change _ ≤ s.left - 1 + 1 → _ at a3
    generalize tryR N given k ((s2R s sp).fix v) = x1 at *
    unfold tryB
    by_cases h2 : x1.1 ≠ 2
    · rw [if_pos h2]
      have hf := fin_left x1.2.2 s.t.length v
      exact ⟨by show (x1.2.2.fin s.t.length v).tried + (x1.2.2.fin s.t.length v).left = _; rw [hf.1, hf.2]; omega, by show (x1.2.2.fin s.t.length v).tried + 1 ≤ _; rw [hf.2]; omega, fun h => a3 (by omega)⟩
    rw [if_neg h2]
    have h2' : x1.1 = 2 := by
      by_cases h : x1.1 = 2
      · exact h
      · exact absurd h h2
    obtain ⟨w1, w2, w3, w4⟩ := hpf h2'
    unfold tryC
    by_cases hin : 0 - v ∉ (x1.2.2.back sp.2.2.length).l.getD x1.2.1.toNat []
    · rw [if_pos hin]
      have hf := fin_left (x1.2.2.back sp.2.2.length) s.t.length v
      refine ⟨?_, ?_, fun _ => by show (2 : Int) ≠ 3; omega⟩
      · show ((x1.2.2.back sp.2.2.length).fin s.t.length v).tried + ((x1.2.2.back sp.2.2.length).fin s.t.length v).left = _
        rw [hf.1, hf.2]
        show x1.2.2.tried + x1.2.2.left = _
        omega
      · show ((x1.2.2.back sp.2.2.length).fin s.t.length v).tried + 1 ≤ _
        rw [hf.2]
        show x1.2.2.tried + 1 ≤ _
        omega
    rw [if_neg hin]
    have c2 := try_cnt h0 k _ w4
    have e2 : ((x1.2.2.back sp.2.2.length).fix (0 - v)).t.length = sp.2.2.length + 1 := by
      show ((x1.2.2.back sp.2.2.length).t ++ [(0 - v, -1)]).length = _
      rw [w2]
      simp
    have b1 := c2.sum
    have b2 := c2.few
    have b3 := c2.fine
    rw [e2] at b2 b3
    change _ = x1.2.2.tried + x1.2.2.left at b1
    change _ + 1 ≤ x1.2.2.tried + _ at b2
    change _ ≤ x1.2.2.left + 1 → _ at b3
    unfold tryD
    generalize tryR N given k ((x1.2.2.back sp.2.2.length).fix (0 - v)) = x2 at *
    by_cases h3 : x2.1 ≠ 2
    · rw [if_pos h3]
      have hf := fin_left x2.2.2 s.t.length v
      exact ⟨by show (x2.2.2.fin s.t.length v).tried + (x2.2.2.fin s.t.length v).left = _; rw [hf.1, hf.2]; omega, by show (x2.2.2.fin s.t.length v).tried + 1 ≤ _; rw [hf.2]; omega, fun h => b3 (by omega)⟩
    rw [if_neg h3]
    unfold tryE
    by_cases hin2 : v ∉ (x2.2.2.back sp.2.2.length).l.getD x2.2.1.toNat []
    · rw [if_pos hin2]
      have hf := fin_left (x2.2.2.back sp.2.2.length) s.t.length v
      refine ⟨?_, ?_, fun _ => by show (2 : Int) ≠ 3; omega⟩
      · show ((x2.2.2.back sp.2.2.length).fin s.t.length v).tried + ((x2.2.2.back sp.2.2.length).fin s.t.length v).left = _
        rw [hf.1, hf.2]
        show x2.2.2.tried + x2.2.2.left = _
        omega
      · show ((x2.2.2.back sp.2.2.length).fin s.t.length v).tried + 1 ≤ _
        rw [hf.2]
        show x2.2.2.tried + 1 ≤ _
        omega
    rw [if_neg hin2]
    have hf := fin_left (addR (x2.2.2.back sp.2.2.length) x2.2.1 x1.2.1 v) s.t.length v
    refine ⟨?_, ?_, fun _ => by show (2 : Int) ≠ 3; omega⟩
    · show ((addR (x2.2.2.back sp.2.2.length) x2.2.1 x1.2.1 v).fin s.t.length v).tried + ((addR (x2.2.2.back sp.2.2.length) x2.2.1 x1.2.1 v).fin s.t.length v).left = _
      rw [hf.1, hf.2]
      show x2.2.2.tried + x2.2.2.left = _
      omega
    · show ((addR (x2.2.2.back sp.2.2.length) x2.2.1 x1.2.1 v).fin s.t.length v).tried + 1 ≤ _
      rw [hf.2]
      show x2.2.2.tried + 1 ≤ _
      omega
end Go.Abs.B
