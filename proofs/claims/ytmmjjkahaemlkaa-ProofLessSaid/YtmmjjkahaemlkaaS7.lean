import Derived.Test.YtmmjjkahaemlkaaKont2
import Derived.Test.YtmmjjkahaemlkaaS4
set_option linter.unusedVariables false
set_option linter.unusedSimpArgs false
/-
  The given program's solver: what is deferred; the first variable that is open.
-/
namespace Go.Abs.B
open Go Go.Abs
set_option maxRecDepth 8000
attribute [local irreducible] callN runC evalOp

theorem def46_ok (n N : Nat) (a : List Int) (l : List (List Int)) (given : Nat) (TR : D) (steps : List (Int × Int × Int)) (left tried : Int) (ρ : St) (t : List (Int × Int)) (v : Int) (was k1 k2 k3 : Nat) (hN : N ≤ 400) (hn : 10000 < n) (hW : WF N a t) (hT : TrRep TR ρ t)
    (hb1 : ρ[k1]? = some (.cells [.ptr 1 0])) (hb2 : ρ[k2]? = some (.cells [.int .i64 v])) (hb3 : ρ[k3]? = some (.cells [.int .i64 was])) (hv : 0 < v) (hv2 : okL N v) (hw : was ≤ t.length) :
    ∃ TR', plainN T (callN T n) n 46 [.ptr (k1 + 2) 0, .ptr (k2 + 2) 0, .ptr (k3 + 2) 0] (.cells (ils a) :: SO l given N TR steps left tried :: ρ) =
      some (.tup [], .cells (ils (if atv a v = 0 then setz a (t.drop was) else a)) :: SO l given N TR' steps left tried :: ρ) ∧ ((t = [] ∧ TR' = .sl [] none) ∨ TrRep TR' ρ (if atv a v = 0 then t.take was else t)) := by
  have hlen := hW.len
  have hget := at_pos (a := a) (v := v) (by rw [hlen]; exact hv2) hv
  have h0 : (0 : Int) ≤ v := by omega
  have hvb := hv2.2
  obtain ⟨n, rfl⟩ : ∃ k, n = k + 1 := ⟨n - 1, by omega⟩
  have htl : t.length ≤ 400 := by
    rcases hW.short with h | h
    · omega
    · rw [h]
      simp
  obtain ⟨TR1, hbk, hbd⟩ := back_ok n a l given TR steps left tried ρ t was (by rw [hlen]; omega) hT hw (by omega) (by omega) (by rw [hlen]; exact hW.ok)
  rw [hlen] at hbk
  by_cases hz : atv a v = 0
  · rw [if_pos hz, if_pos hz]
    refine ⟨TR1, ?_, hbd⟩
    generalize atv a v = x at *
    refine plain_of (m := m46) rfl rfl (by decide) (k_start ?_)
    unfold m46
    refine k_seq ?_
    refine runs_loadP (k1 + (2 : Nat)) ((0 : Nat)) _ _ (by kernel_rfl) (by kernel_rfl) (hb1) rfl ?_
    refine rv (D.ptr (1 : Nat) (0 : Nat)) ?_
    refine rv (D.ptr (1 : Nat) (2 : Nat)) ?_
    refine rv (D.msl (0 : Nat) (0 : Nat) N (1 : Nat)) ?_
    refine runs_loadP (k2 + (2 : Nat)) ((0 : Nat)) _ _ (by kernel_rfl) (by kernel_rfl) (hb2) rfl ?_
    refine runs_indexMI (kd := IntKind.i64) ((0 : Nat)) ((0 : Nat)) (N) (v) (by kernel_rfl) (by kernel_rfl) (by kernel_rfl) (by omega) (by omega) ?_
    refine runs_loadP ((0 : Nat)) ((0 : Nat) + Int.toNat v * (1 : Nat)) (ils a) _ (by kernel_rfl) (by kernel_rfl) (by kernel_rfl) (by assumption) ?_
    refine rv (D.bool (x == (0 : Int))) ?_
    refine k_done (k_skip_seq ?_)
    refine rkn 10 (x == (0 : Int)) true (decide_eq_true (by assumption)) ?_
    refine kct ?_
    refine runs_loadP (k1 + (2 : Nat)) ((0 : Nat)) _ _ (by kernel_rfl) (by kernel_rfl) (hb1) rfl ?_
    refine runs_loadP (k3 + (2 : Nat)) ((0 : Nat)) _ _ (by kernel_rfl) (by kernel_rfl) (hb3) rfl ?_
    refine runs_call_st ([D.ptr (1 : Nat) (0 : Nat), D.int IntKind.i64 (↑was : Int)]) (by kernel_rfl) (by kernel_rfl) (by kernel_rfl) (by kernel_rfl) (hbk) ?_
    refine k_done (k_skip_nil ?_)
    exact ⟨.inl rfl, by kernel_rfl, by kernel_rfl⟩
  · rw [if_neg hz, if_neg hz]
    refine ⟨TR, ?_, .inr hT⟩
    generalize atv a v = x at *
    refine plain_of (m := m46) rfl rfl (by decide) (k_start ?_)
    unfold m46
    refine k_seq ?_
    refine runs_loadP (k1 + (2 : Nat)) ((0 : Nat)) _ _ (by kernel_rfl) (by kernel_rfl) (hb1) rfl ?_
    refine rv (D.ptr (1 : Nat) (0 : Nat)) ?_
    refine rv (D.ptr (1 : Nat) (2 : Nat)) ?_
    refine rv (D.msl (0 : Nat) (0 : Nat) N (1 : Nat)) ?_
    refine runs_loadP (k2 + (2 : Nat)) ((0 : Nat)) _ _ (by kernel_rfl) (by kernel_rfl) (hb2) rfl ?_
    refine runs_indexMI (kd := IntKind.i64) ((0 : Nat)) ((0 : Nat)) (N) (v) (by kernel_rfl) (by kernel_rfl) (by kernel_rfl) (by omega) (by omega) ?_
    refine runs_loadP ((0 : Nat)) ((0 : Nat) + Int.toNat v * (1 : Nat)) (ils a) _ (by kernel_rfl) (by kernel_rfl) (by kernel_rfl) (by assumption) ?_
    refine rv (D.bool (x == (0 : Int))) ?_
    refine k_done (k_skip_seq ?_)
    refine rkn 10 (x == (0 : Int)) false (decide_eq_false (by assumption)) ?_
    refine kcf (k_skip_nil ?_)
    exact ⟨.inl rfl, by kernel_rfl, by kernel_rfl⟩
theorem vF_zero {a : List Int} (h : vF a = 0) : 0 ∉ a.drop 1 := by
  unfold vF idxR at h
  split at h
  · omega
  · assumption
theorem vF_facts {N : Nat} {a : List Int} {t : List (Int × Int)} (hW : WF N a t) (h : vF a ≠ 0) : 0 < vF a ∧ okL N (vF a) ∧ atv a (vF a) = 0 := by
  unfold vF idxR at h ⊢
  split at h
  · rename_i hm
    rw [if_pos hm]
    have hlt := List.idxOf_lt_length_of_mem hm
    have hl := hW.len
    rw [List.length_drop, hl] at hlt
    refine ⟨by omega, ⟨by omega, by omega⟩, ?_⟩
    unfold atv
    have e : (((a.drop 1).idxOf 0 : Int) + 1).natAbs = (a.drop 1).idxOf 0 + 1 := by omega
    rw [e]
    have h1 : (a.drop 1)[(a.drop 1).idxOf 0]'(by rw [List.length_drop, hl]; exact hlt) = 0 := List.getElem_idxOf _
    rw [List.getElem_drop] at h1
    rw [List.getD_eq_getElem?_getD, List.getElem?_eq_getElem (by omega)]
    simp only [Nat.add_comm 1] at h1
    exact h1
  · omega
end Go.Abs.B

/-
  The solver in plain Lean: what trying keeps.
-/
namespace Go.Abs.B
open Go Go.Abs
set_option maxRecDepth 8000

structure Pre (N given k : Nat) (s : Sv) : Prop where
  wf : WF N s.a s.t
  cl : CLp N s.l
  giv : given ≤ s.l.length
  by_ : ∀ f ∈ s.t, f.2 < given
  dep : N ≤ s.t.length + k
  rl : s.l.length + (N + 1) * 2 ^ k ≤ 900000
  rs : s.steps.length + (N + 1) * 2 ^ k ≤ 900000
  t0 : 0 ≤ s.tried
  t1 : s.tried + (2 ^ k : Nat) ≤ 1000000000
  l0 : -1000000000 ≤ s.left - (2 ^ k : Nat)
  l1 : s.left ≤ 1000000000000
structure Post (N given k : Nat) (s : Sv) (r : Int × Int × Sv) : Prop where
  wf : WF N r.2.2.a r.2.2.t
  cl : CLp N r.2.2.l
  lp : ∃ e, r.2.2.l = s.l ++ e
  rl : r.2.2.l.length + (N + 1) ≤ s.l.length + (N + 1) * 2 ^ k
  rs : r.2.2.steps.length + (N + 1) ≤ s.steps.length + (N + 1) * 2 ^ k
  by_ : ∀ f ∈ r.2.2.t, f.2 < given
  tp : ∃ e, r.2.2.t = s.t ++ e
  un : r.1 = 2 → r.2.2.t = s.t
  t0 : s.tried ≤ r.2.2.tried
  t1 : r.2.2.tried + 1 ≤ s.tried + (2 ^ k : Nat)
  l0 : s.left - (2 ^ k : Nat) ≤ r.2.2.left - 1
  l1 : r.2.2.left ≤ s.left
  res : r.1 = 2 → 0 ≤ r.2.1 ∧ r.2.1.toNat < r.2.2.l.length
  kind : r.1 = 1 ∨ r.1 = 2 ∨ r.1 = 3
theorem two_pow (k : Nat) : 0 < 2 ^ k := Nat.two_pow_pos k
theorem pow_up (N k : Nat) : (N + 1) * 2 ^ (k + 1) = 2 * ((N + 1) * 2 ^ k) ∧ 2 ^ (k + 1) = 2 * 2 ^ k ∧ N + 1 ≤ (N + 1) * 2 ^ k := by
  refine ⟨?_, ?_, ?_⟩
  · rw [Nat.pow_succ, Nat.mul_comm (2 ^ k) 2, ← Nat.mul_assoc, ← Nat.mul_assoc, Nat.mul_comm (N + 1) 2]
  · rw [Nat.pow_succ, Nat.mul_comm]
  · exact Nat.le_mul_of_pos_right _ (two_pow k)
/-- Behind spreading. -/
structure Spd (N given : Nat) (s : Sv) (sp : Int × List Int × List (Int × Int)) : Prop where
  wf : WF N sp.2.1 sp.2.2
  tp : ∃ e, sp.2.2 = s.t ++ e
  by_ : ∀ f ∈ sp.2.2, f.2 < given
  idx : 0 ≤ sp.1 → sp.1 < given
  low : -1 ≤ sp.1
theorem spd_of {N given k : Nat} {s : Sv} (h : Pre N given k s) : Spd N given s (spS N given s) := by
  have hl : (s.l.take given).length = given := by
    rw [List.length_take]
    have := h.giv
    omega
  obtain ⟨h1, h2, h3, h4, h5⟩ := spread_facts (N := N) (G := given) (L := s.l.take given) (fun c hc => (h.cl c (List.mem_of_mem_take hc)).1) (by rw [hl]; exact Int.le_refl _) (N + 1) s.a s.t h.wf h.by_
  rw [hl] at h4
  exact ⟨h1, h2, h3, h4, h5⟩
theorem WF.len_le {N : Nat} {a : List Int} {t : List (Int × Int)} (h : WF N a t) (h0 : 0 < N) : t.length + 1 ≤ N := by
  rcases h.short with h | h
  · exact h
  · rw [h]
    exact h0
theorem WF.var {N : Nat} {a : List Int} {t e : List (Int × Int)} {v b : Int} (h : WF N a (t ++ (v, b) :: e)) : atv a v ≠ 0 := by
  rw [h.inn (f := (v, b)) (by simp) rfl]
  exact (h.ok (v, b) (by simp)).1
theorem fin_keep {s : Sv} {was : Nat} {v : Int} (h : atv s.a v ≠ 0) : s.fin was v = s := if_neg h
theorem fin_back {s : Sv} {was : Nat} {v : Int} (h : atv s.a v = 0) : s.fin was v = s.back was := if_pos h
theorem pre_fix {N given k : Nat} {s : Sv} {sp : Int × List Int × List (Int × Int)} (h : Pre N given (k + 1) s) (hs : Spd N given s sp) {v : Int} (hv : okL N v) (h0 : atv sp.2.1 v = 0) : Pre N given k ((s2R s sp).fix v) := by
  obtain ⟨p1, p2, p3⟩ := pow_up N k
  have := two_pow k
  have a1 := h.rl
  have a2 := h.rs
  have a3 := h.t1
  have a4 := h.l0
  have a5 := h.t0
  have a6 := h.l1
  have a7 := h.dep
  obtain ⟨e, he⟩ := hs.tp
  refine ⟨hs.wf.fix hv h0, h.cl, h.giv, ?_, ?_, ?_, ?_, ?_, ?_, ?_, ?_⟩
  · intro f hf
    rcases List.mem_append.1 hf with hf | hf
    · exact hs.by_ f hf
    · simp only [List.mem_singleton] at hf
      subst hf
      show (-1 : Int) < given
      omega
  · show N ≤ (sp.2.2 ++ [(v, -1)]).length + k
    rw [he]
    simp only [List.length_append, List.length_cons, List.length_nil]
    omega
  · show s.l.length + _ ≤ _
    omega
  · show s.steps.length + _ ≤ _
    omega
  · show 0 ≤ s.tried + 1
    omega
  · show s.tried + 1 + _ ≤ _
    omega
  · show _ ≤ s.left - 1 - _
    omega
  · show s.left - 1 ≤ _
    omega
/-- Behind a first try that failed. -/
theorem pre_fix2 {N given k : Nat} {s : Sv} {sp : Int × List Int × List (Int × Int)} {v : Int} {r : Int × Int × Sv} (h : Pre N given (k + 1) s) (hs : Spd N given s sp) (hv : okL N v) (h0 : atv sp.2.1 v = 0) (hp : Post N given k ((s2R s sp).fix v) r) (h2 : r.1 = 2) :
    WF N (r.2.2.back sp.2.2.length).a (r.2.2.back sp.2.2.length).t ∧ (r.2.2.back sp.2.2.length).t = sp.2.2 ∧ (r.2.2.back sp.2.2.length).a = sp.2.1 ∧ Pre N given k ((r.2.2.back sp.2.2.length).fix (0 - v)) := by
  obtain ⟨p1, p2, p3⟩ := pow_up N k
  have := two_pow k
  have a1 := h.rl
  have a2 := h.rs
  have a3 := h.t1
  have a4 := h.l0
  have a5 := h.t0
  have a6 := h.l1
  have a7 := h.dep
  have b1 := hp.rl
  have b2 := hp.rs
  have b3 := hp.t0
  have b4 := hp.t1
  have b5 := hp.l0
  have b6 := hp.l1
  have hb : WF N (r.2.2.back sp.2.2.length).a (r.2.2.back sp.2.2.length).t := hp.wf.back sp.2.2.length
  have ht : (r.2.2.back sp.2.2.length).t = sp.2.2 := by
    show r.2.2.t.take sp.2.2.length = _
    rw [hp.un h2]
    show (sp.2.2 ++ [(v, -1)]).take sp.2.2.length = _
    simp
  have hw : WF N (r.2.2.back sp.2.2.length).a sp.2.2 := by
    have hb' := hb
    rw [ht] at hb'
    exact hb'
  have ha : (r.2.2.back sp.2.2.length).a = sp.2.1 := by rw [hw.eq, hs.wf.eq]
  obtain ⟨e, he⟩ := hs.tp
  obtain ⟨e2, he2⟩ := hp.lp
  change r.2.2.l = s.l ++ e2 at he2
  change r.2.2.l.length + (N + 1) ≤ s.l.length + _ at b1
  change r.2.2.steps.length + (N + 1) ≤ s.steps.length + _ at b2
  change s.tried + 1 ≤ r.2.2.tried at b3
  change r.2.2.tried + 1 ≤ s.tried + 1 + _ at b4
  change s.left - 1 - _ ≤ r.2.2.left - 1 at b5
  change r.2.2.left ≤ s.left - 1 at b6
  have hv' : okL N (0 - v) := ⟨by have := hv.1; omega, by have := hv.2; omega⟩
  have h0' : atv sp.2.1 (0 - v) = 0 := by
    unfold atv at h0 ⊢
    rw [show (0 - v).natAbs = v.natAbs by omega]
    exact h0
  refine ⟨hb, ht, ha, ?_, hp.cl, ?_, ?_, ?_, ?_, ?_, ?_, ?_, ?_, ?_⟩
  · show WF N ((r.2.2.back sp.2.2.length).a.set _ _) ((r.2.2.back sp.2.2.length).t ++ _)
    rw [ha, ht]
    exact hs.wf.fix hv' h0'
  · show given ≤ r.2.2.l.length
    rw [he2, List.length_append]
    have := h.giv
    omega
  · intro f hf
    have hf' : f ∈ (r.2.2.back sp.2.2.length).t ++ [(0 - v, -1)] := hf
    rw [ht] at hf'
    rcases List.mem_append.1 hf' with hf | hf
    · exact hs.by_ f hf
    · simp only [List.mem_singleton] at hf
      subst hf
      show (-1 : Int) < given
      omega
  · show N ≤ ((r.2.2.back sp.2.2.length).t ++ [(0 - v, -1)]).length + k
    rw [ht, he]
    simp only [List.length_append, List.length_cons, List.length_nil]
    omega
  · show r.2.2.l.length + _ ≤ _
    omega
  · show r.2.2.steps.length + _ ≤ _
    omega
  · show 0 ≤ r.2.2.tried
    omega
  · show r.2.2.tried + _ ≤ _
    omega
  · show _ ≤ r.2.2.left - _
    omega
  · show r.2.2.left ≤ _
    omega
/-- What ends a try: everything but the rows of variables is as it was. -/
theorem post_fin {N given k : Nat} {s : Sv} {sp : Int × List Int × List (Int × Int)} {v : Int} (hs : Spd N given s sp) (kind res : Int) (s' : Sv) (hw : WF N s'.a s'.t) (hcl : CLp N s'.l) (hlp : ∃ e, s'.l = s.l ++ e) (hrl : s'.l.length + (N + 1) ≤ s.l.length + (N + 1) * 2 ^ k) (hrs : s'.steps.length + (N + 1) ≤ s.steps.length + (N + 1) * 2 ^ k)
    (hby : ∀ f ∈ s'.t, f.2 < given) (htp : ∃ e, s'.t = sp.2.2 ++ e) (hun : kind = 2 → atv s'.a v = 0) (ht0 : s.tried ≤ s'.tried) (ht1 : s'.tried + 1 ≤ s.tried + (2 ^ k : Nat)) (hl0 : s.left - (2 ^ k : Nat) ≤ s'.left - 1) (hl1 : s'.left ≤ s.left) (hres : kind = 2 → 0 ≤ res ∧ res.toNat < s'.l.length) (hk : kind = 1 ∨ kind = 2 ∨ kind = 3) :
    Post N given k s (kind, res, s'.fin s.t.length v) := by
  obtain ⟨e, he⟩ := hs.tp
  obtain ⟨e2, he2⟩ := htp
  by_cases h0 : atv s'.a v = 0
  · rw [fin_back h0]
    have ht : s'.t.take s.t.length = s.t := by rw [he2, he]; simp [List.append_assoc]
    refine ⟨hw.back _, hcl, hlp, hrl, hrs, fun f hf => hby f (List.mem_of_mem_take hf), ⟨[], ?_⟩, fun _ => ?_, ht0, ht1, hl0, hl1, hres, hk⟩
    · show s'.t.take s.t.length = _
      rw [ht]
      simp
    · exact ht
  · rw [fin_keep h0]
    refine ⟨hw, hcl, hlp, hrl, hrs, hby, ⟨e ++ e2, ?_⟩, fun h => absurd (hun h) h0, ht0, ht1, hl0, hl1, hres, hk⟩
    show s'.t = _
    rw [he2, he, List.append_assoc]
theorem try_post {N given : Nat} (h0 : 0 < N) : ∀ (k : Nat) (s : Sv), Pre N given k s → Post N given k s (tryR N given k s)
  | 0, s, h => by
    have := h.wf.len_le h0
    have := h.dep
    omega
  | k + 1, s, h => by
    have hs := spd_of h
    obtain ⟨p1, p2, p3⟩ := pow_up N k
    have hp2 := two_pow k
    have hlen := hs.wf.len_le h0
    obtain ⟨e, he⟩ := hs.tp
    have hgiv := h.giv
    show Post N given (k + 1) s (tryA (tryR N given k) s (spS N given s) (vF (spS N given s).2.1))
    generalize spS N given s = sp at *
    unfold tryA
    by_cases hc : 0 ≤ sp.1
    · rw [if_pos hc]
      have hi := hs.idx hc
      obtain ⟨q1, ⟨e2, q2, q3⟩, q4, q5, q6⟩ := why_facts sp.2.2.length sp.2.2 s.l s.steps sp.1 h.cl hc (by omega)
      have ht : sp.2.2.take s.t.length = s.t := by rw [he]; simp
      have hw := hs.wf.back s.t.length
      refine ⟨hw, q1, ⟨e2, q2⟩, ?_, ?_, fun f hf => hs.by_ f (List.mem_of_mem_take hf), ⟨[], ?_⟩, fun _ => ht, Int.le_refl _, ?_, ?_, Int.le_refl _, fun _ => ⟨q5, q6⟩, .inr (.inl rfl)⟩
      · show (whyR _ _ _ _ _).1.length + _ ≤ _
        rw [q2, List.length_append]
        omega
      · show (whyR _ _ _ _ _).2.1.length + _ ≤ _
        omega
      · show sp.2.2.take s.t.length = _
        rw [ht]
        simp
      · show s.tried + 1 ≤ _
        omega
      · show _ ≤ s.left - 1
        omega
    rw [if_neg hc]
    by_cases hv : vF sp.2.1 = 0
    · rw [if_pos hv]
      refine ⟨hs.wf, h.cl, ⟨[], by simp⟩, ?_, ?_, hs.by_, ⟨e, he⟩, fun h => by simp at h, Int.le_refl _, ?_, ?_, Int.le_refl _, fun h => by simp at h, .inl rfl⟩
      · show s.l.length + _ ≤ _
        omega
      · show s.steps.length + _ ≤ _
        omega
      · show s.tried + 1 ≤ _
        omega
      · show _ ≤ s.left - 1
        omega
    rw [if_neg hv]
    obtain ⟨v1, v2, v3⟩ := vF_facts hs.wf hv
    generalize vF sp.2.1 = v at *
    by_cases hl : s.left - 1 < 0
    · rw [if_pos hl]
      refine post_fin hs 3 0 (s2R s sp) hs.wf h.cl ⟨[], by simp [s2R]⟩ ?_ ?_ hs.by_ ⟨[], by simp [s2R]⟩ (fun h => by simp at h) ?_ ?_ ?_ ?_ (fun h => by simp at h) (.inr (.inr rfl))
      · show s.l.length + _ ≤ _
        omega
      · show s.steps.length + _ ≤ _
        omega
      · show s.tried ≤ s.tried + 1
        omega
      · show s.tried + 1 + 1 ≤ _
        omega
      · show _ ≤ s.left - 1 - 1
        omega
      · show s.left - 1 ≤ _
        omega
    rw [if_neg hl]
    have r1 := try_post h0 k _ (pre_fix h hs v2 v3)
    have hlp1 := r1.lp
    have b1 := r1.rl
    have b2 := r1.rs
    have b3 := r1.t0
    have b4 := r1.t1
    have b5 := r1.l0
    have b6 := r1.l1
    have htp1 := r1.tp
    change ∃ e, _ = (sp.2.2 ++ [(v, -1)]) ++ e at htp1
    change ∃ e, _ = s.l ++ e at hlp1
    change _ + (N + 1) ≤ s.l.length + _ at b1
    change _ + (N + 1) ≤ s.steps.length + _ at b2
    change s.tried + 1 ≤ _ at b3
    change _ + 1 ≤ s.tried + 1 + _ at b4
    change s.left - 1 - _ ≤ _ - 1 at b5
    change _ ≤ s.left - 1 at b6
    have hpf := fun h2 => pre_fix2 h hs v2 v3 r1 h2
    generalize tryR N given k ((s2R s sp).fix v) = x1 at *
    obtain ⟨el, hel⟩ := hlp1
    obtain ⟨et, het⟩ := htp1
    unfold tryB
    by_cases h2 : x1.1 ≠ 2
    · rw [if_pos h2]
      refine post_fin hs x1.1 0 x1.2.2 r1.wf r1.cl ⟨el, hel⟩ (by omega) (by omega) r1.by_ ⟨[(v, -1)] ++ et, by rw [het, List.append_assoc]⟩ (fun h => absurd h h2) (by omega) (by omega) (by omega) (by omega) (fun h => absurd h h2) r1.kind
    rw [if_neg h2]
    have h2' : x1.1 = 2 := by
      by_cases h : x1.1 = 2
      · exact h
      · exact absurd h h2
    obtain ⟨w1, w2, w3, w4⟩ := hpf h2'
    obtain ⟨y1, y2⟩ := r1.res h2'
    have w5 : atv (x1.2.2.back sp.2.2.length).a v = 0 := by rw [w3]; exact v3
    unfold tryC
    by_cases hin : 0 - v ∉ (x1.2.2.back sp.2.2.length).l.getD x1.2.1.toNat []
    · rw [if_pos hin]
      exact post_fin hs 2 x1.2.1 (x1.2.2.back sp.2.2.length) w1 r1.cl ⟨el, hel⟩ (by show x1.2.2.l.length + _ ≤ _; omega) (by show x1.2.2.steps.length + _ ≤ _; omega) (by rw [w2]; exact hs.by_) ⟨[], by rw [w2]; simp⟩ (fun _ => w5) (by show _ ≤ x1.2.2.tried; omega) (by show x1.2.2.tried + 1 ≤ _; omega) (by show _ ≤ x1.2.2.left - 1; omega) (by show x1.2.2.left ≤ _; omega) (fun _ => ⟨y1, y2⟩) (.inr (.inl rfl))
    rw [if_neg hin]
    have r2 := try_post h0 k _ w4
    have c1 := r2.rl
    have c2 := r2.rs
    have c3 := r2.t0
    have c4 := r2.t1
    have c5 := r2.l0
    have c6 := r2.l1
    have hlp2 := r2.lp
    have htp2 := r2.tp
    change ∃ e, _ = x1.2.2.l ++ e at hlp2
    change ∃ e, _ = ((x1.2.2.back sp.2.2.length).t ++ [(0 - v, -1)]) ++ e at htp2
    rw [w2] at htp2
    change _ + (N + 1) ≤ x1.2.2.l.length + _ at c1
    change _ + (N + 1) ≤ x1.2.2.steps.length + _ at c2
    change x1.2.2.tried ≤ _ at c3
    change _ + 1 ≤ x1.2.2.tried + _ at c4
    change x1.2.2.left - _ ≤ _ - 1 at c5
    change _ ≤ x1.2.2.left at c6
    have hun := r2.un
    change _ → _ = (x1.2.2.back sp.2.2.length).t ++ [(0 - v, -1)] at hun
    rw [w2] at hun
    generalize tryR N given k ((x1.2.2.back sp.2.2.length).fix (0 - v)) = x2 at *
    obtain ⟨el2, hel2⟩ := hlp2
    obtain ⟨et2, het2⟩ := htp2
    have hel3 : x2.2.2.l = s.l ++ (el ++ el2) := by rw [hel2, hel, List.append_assoc]
    unfold tryD
    by_cases h3 : x2.1 ≠ 2
    · rw [if_pos h3]
      refine post_fin hs x2.1 0 x2.2.2 r2.wf r2.cl ⟨_, hel3⟩ (by omega) (by omega) r2.by_ ⟨[(0 - v, -1)] ++ et2, by rw [het2, List.append_assoc]⟩ (fun h => absurd h h3) (by omega) (by omega) (by omega) (by omega) (fun h => absurd h h3) r2.kind
    rw [if_neg h3]
    have h3' : x2.1 = 2 := by
      by_cases h : x2.1 = 2
      · exact h
      · exact absurd h h3
    obtain ⟨z1, z2⟩ := r2.res h3'
    have hbt : (x2.2.2.back sp.2.2.length).t = sp.2.2 := by
      show x2.2.2.t.take sp.2.2.length = _
      rw [hun h3']
      simp
    have hbw : WF N (x2.2.2.back sp.2.2.length).a (x2.2.2.back sp.2.2.length).t := r2.wf.back sp.2.2.length
    have hbw' : WF N (x2.2.2.back sp.2.2.length).a sp.2.2 := by
      have h := hbw
      rw [hbt] at h
      exact h
    have hba : (x2.2.2.back sp.2.2.length).a = sp.2.1 := by rw [hbw'.eq, hs.wf.eq]
    have hb0 : atv (x2.2.2.back sp.2.2.length).a v = 0 := by rw [hba]; exact v3
    unfold tryE
    by_cases hin2 : v ∉ (x2.2.2.back sp.2.2.length).l.getD x2.2.1.toNat []
    · rw [if_pos hin2]
      exact post_fin hs 2 x2.2.1 (x2.2.2.back sp.2.2.length) hbw r2.cl ⟨_, hel3⟩ (by show x2.2.2.l.length + _ ≤ _; omega) (by show x2.2.2.steps.length + _ ≤ _; omega) (by rw [hbt]; exact hs.by_) ⟨[], by rw [hbt]; simp⟩ (fun _ => hb0) (by show _ ≤ x2.2.2.tried; omega) (by show x2.2.2.tried + 1 ≤ _; omega) (by show _ ≤ x2.2.2.left - 1; omega) (by show x2.2.2.left ≤ _; omega) (fun _ => ⟨z1, z2⟩) (.inr (.inl rfl))
    rw [if_neg hin2]
    refine post_fin hs 2 x2.2.2.l.length (addR (x2.2.2.back sp.2.2.length) x2.2.1 x1.2.1 v) hbw (r2.cl.made _ _ _) ⟨el ++ el2 ++ [madeR x2.2.2.l x2.2.1 x1.2.1 v], by show x2.2.2.l ++ [madeR x2.2.2.l x2.2.1 x1.2.1 v] = _; generalize madeR x2.2.2.l x2.2.1 x1.2.1 v = mm; rw [hel3]; simp only [List.append_assoc]⟩ ?_ ?_ (by show ∀ f ∈ (x2.2.2.back sp.2.2.length).t, _; rw [hbt]; exact hs.by_) ⟨[], by show (x2.2.2.back sp.2.2.length).t = _; rw [hbt]; simp⟩ (fun _ => hb0) (by show _ ≤ x2.2.2.tried; omega) (by show x2.2.2.tried + 1 ≤ _; omega) (by show _ ≤ x2.2.2.left - 1; omega) (by show x2.2.2.left ≤ _; omega) (fun _ => ⟨by omega, by show _ < (x2.2.2.l ++ _).length; simp⟩) (.inr (.inl rfl))
    · show (x2.2.2.l ++ _).length + _ ≤ _
      simp only [List.length_append, List.length_cons, List.length_nil]
      omega
    · show (x2.2.2.steps ++ _).length + _ ≤ _
      simp only [List.length_append, List.length_cons, List.length_nil]
      omega
end Go.Abs.B
