/-
  A part of AnalyzeFew's proof.
-/
import Derived.Test.YthbfgdbbnapjeaaGreatWs1
set_option linter.unusedVariables false
set_option linter.unusedSimpArgs false
namespace Go.Abs.W
open Go Go.Abs
set_option maxRecDepth 8000
attribute [local irreducible] callN runC evalOp
def ST (s : Sv) (given N : Nat) (TR : D) (ρ : St) : St := .cells (ils s.a) :: SO s.l given N TR s.steps s.left s.tried :: ρ
theorem TrRep.lenD {TR : D} {ρ : St} {t : List (Int × Int)} (h : TrRep TR ρ t) : (∃ o, D.strip (D.strip TR) = .sl [] o ∧ t.length = 0) ∨ ∃ o off e, D.strip (D.strip TR) = .msl o off t.length e := by
 rcases h with ⟨rfl, rfl⟩ | ⟨j, cs, rfl, _⟩
 ·exact .inl ⟨_, rfl, rfl⟩
 ·exact .inr ⟨_, _, _, rfl⟩
theorem fin_ok (n N : Nat) (s : Sv) (given : Nat) (TR : D) (ρ : St) (v : Int) (was k1 k2 k3 : Nat) (hN : N ≤ 400) (hn : 10000 < n) (hW : WF N s.a s.t) (hT : TrRep TR ρ s.t)
  (hb1 : ρ[k1]? = some (.cells [.ptr 1 0])) (hb2 : ρ[k2]? = some (.cells [.int .i64 v])) (hb3 : ρ[k3]? = some (.cells [.int .i64 was])) (hv : 0 < v) (hv2 : okL N v) (hw : was ≤ s.t.length) :
  ∃ TR', plainN T (callN T n) n 91 [.ptr (k1 + 2) 0, .ptr (k2 + 2) 0, .ptr (k3 + 2) 0] (ST s given N TR ρ) = some (.tup [], ST (s.fin was v) given N TR' ρ) ∧ ((s.t = [] ∧ TR' = .sl [] none) ∨ TrRep TR' ρ (s.fin was v).t) := by
 obtain ⟨TR', h1, h2⟩ := def46_ok n N s.a s.l given TR s.steps s.left s.tried ρ s.t v was k1 k2 k3 hN hn hW hT hb1 hb2 hb3 hv hv2 hw
 refine ⟨TR', ?_, ?_⟩
 ·unfold Sv.fin
  by_cases hz : atv s.a v = 0
  ·rw [if_pos hz] at h1 ⊢
   exact h1
  ·rw [if_neg hz] at h1 ⊢
   exact h1
 ·unfold Sv.fin
  by_cases hz : atv s.a v = 0
  ·rw [if_pos hz] at h2 ⊢
   exact h2
  ·rw [if_neg hz] at h2 ⊢
   exact h2
set_option maxHeartbeats 4000000 in
theorem try_ok (N given : Nat) (hN : N ≤ 400) (h0 : 0 < N) (hg : given ≤ 1000) : ∀ (k : Nat) (s : Sv) (TR : D) (ρ : St) (F : Nat), Pre N given k s → TrRep TR ρ s.t → 20000 + k ≤ F →
  ∃ TR' ρ', callN T F 59 [.ptr 1 0] (ST s given N TR ρ) = some (.tup [.int .i64 (tryR N given k s).1, .int .i64 (tryR N given k s).2.1], ST (tryR N given k s).2.2 given N TR' ρ') ∧ Fr2 ρ ρ' ∧ ((s.t = [] ∧ TR' = .sl [] none) ∨ TrRep TR' ρ' (tryR N given k s).2.2.t) := by
 intro k
 induction k with
 | zero =>
  intro s TR ρ F h
  have := h.wf.len_le h0
  have := h.dep
  omega
 | succ k ih =>
  intro s TR ρ F h hT hF
  obtain ⟨f2, rfl⟩ : ∃ f, F = f + 3 := ⟨F - 3, om⟩
  have hs := spd_of h
  have hgiv := h.giv
  have hwl := h.wf.len_le h0
  have hrl := h.rl
  have hrs := h.rs
  have ht0 := h.t0
  have ht1 := h.t1
  have hl0 := h.l0
  obtain ⟨TR1, ρ1, c43, _, hT1, hF1⟩ := spread_ok (f2 + 1) N s.a s.l given TR s.steps s.left s.tried ρ s.t om h0 h.wf hT (fun c hc => ⟨(h.cl c (List.mem_of_mem_take hc)).1, by have := (h.cl c (List.mem_of_mem_take hc)).2; omega⟩) hgiv hg om
  have hspe : spreadR (N + 1) (s.l.take given) s.a s.t = spS N given s := rfl
  have hRe : tryR N given (k + 1) s = tryA (tryR N given k) s (spS N given s) (vF (spS N given s).2.1) := rfl
  rw [hspe] at c43 hT1
  rw [hRe]
  generalize spS N given s = sp at *
  obtain ⟨e, he⟩ := hs.tp
  have hwl1 := hs.wf.len_le h0
  have hlen1 := hs.wf.len
  generalize hR : tryA (tryR N given k) s sp (vF sp.2.1) = R
  suffices H : ∃ d σ', callN T (f2 + 3) 59 [.ptr 1 0] (ST s given N TR ρ) = some (d, σ') ∧ (d = .tup [.int .i64 R.1, .int .i64 R.2.1] ∧ ∃ TR' ρ', σ' = ST R.2.2 given N TR' ρ' ∧ Fr2 ρ ρ' ∧ ((s.t = [] ∧ TR' = .sl [] none) ∨ TrRep TR' ρ' R.2.2.t)) by
   obtain ⟨d, σ', q1, rfl, TR', ρ', rfl, q2⟩ := H
   exact ⟨TR', ρ', q1, q2⟩
  unfold tryA at hR
  have hlD := hT.lenD
  have hlD1 := hT1.lenD
  by_cases hc : 0 ≤ sp.1
  ·rw [if_pos hc] at hR
   have hi := hs.idx hc
   obtain ⟨ρ2, c44, hF2, hT2⟩ := why_ok (f2 + 1) N (.cells (ils sp.2.1)) s.l given TR1 s.steps s.left s.tried ρ1 sp.2.2 sp.1 hN h.cl hT1 (fun f hf => ⟨hs.wf.ok f hf, by have := hs.by_ f hf; omega⟩) om ⟨hc, om⟩ om om om
   obtain ⟨TR3, c45, hB⟩ := back_ok (f2 + 1) sp.2.1 (whyR sp.2.2.length sp.2.2 s.l s.steps sp.1).1 given TR1 (whyR sp.2.2.length sp.2.2 s.l s.steps sp.1).2.1 s.left s.tried ρ2 sp.2.2 s.t.length om hT2 (by rw [he]; simp) om om (by rw [hlen1]; exact hs.wf.ok)
   rw [hlen1] at c45
   unfold failR at hR
   generalize whyR sp.2.2.length sp.2.2 s.l s.steps sp.1 = y at *
   refine call_ofXD (m := m59) rfl rfl (by decide) (k_start ?_)
   unfold m59
   refine kq <| rn 3 ?_
   refine kD (k_skip_seq (kq ?_))
   refine rn 4 <| runs_len (D.strip (D.strip TR)) _ kr kr asm <| rn 2 ?_
   refine kD (k_skip_seq (kq (kq ?_)))
   refine rn 1 <| rcs ([.ptr 1 0]) kr kr kr kr (c43) <| rn 1 ?_
   refine kD (k_skip_seq (kq ?_))
   refine rn 2 <| kD <| k_skip_seq <| rkn 20 (decide (Prod.fst sp ≥ 0)) true (decide_eq_true asm) <| kct <| kq <| rn 2 <| rcs ([.ptr 1 0, .int .i64 sp.1]) kr kr kr kr (c44) <| rn 1 ?_
   refine kD (k_skip_seq (kq ?_))
   refine rn 2 <| rcs ([.ptr 1 0, .int .i64 (↑(List.length s.t) : Int)]) kr kr kr kr (c45) ?_
   refine kD (k_skip_seq (kq ?_))
   refine rn 3 ?_
   refine kD (k_skip_seq (k_ret ?_))
   refine ⟨.inr rfl, .inl ⟨kr, .tup [.int .i64 2, .int .i64 y.2.2], .cells (ils (setz sp.2.1 (sp.2.2.drop s.t.length))) :: SO y.1 given N TR3 y.2.1 s.left s.tried :: ρ2, kr, ?_⟩⟩
   rw [← hR]
   refine ⟨rfl, TR3, ρ2, rfl, hF1.trans hF2, ?_⟩
   rcases hB with ⟨hB, hB2⟩ | hB
   ·refine .inl ⟨?_, hB2⟩
    rw [he] at hB
    exact (List.append_eq_nil_iff.1 hB).1
   ·exact .inr hB
  rw [if_neg hc] at hR
  have hidx : -1 ≤ idxR (sp.2.1.drop 1) 0 ∧ idxR (sp.2.1.drop 1) 0 < 1000 := by
   unfold idxR
   split
   ·rename_i hm
    have hlt := List.idxOf_lt_length_of_mem hm
    rw [List.length_drop, hlen1] at hlt
    omega
   ·omega
  have hvF : vF sp.2.1 = idxR (sp.2.1.drop 1) 0 + 1 := rfl
  have hvz := fun h => vF_facts hs.wf h
  have c41 := index_ok (f2 + 1) (sp.2.1.drop 1) 0 none [] (by rw [List.length_drop]; omega) (by rw [List.length_drop]; omega)
  rw [hvF] at hR hvz
  by_cases hN1 : N = 1
  ·have hd : sp.2.1.drop 1 = [] := List.drop_of_length_le om
   rw [hd] at hR c41
   have hi0 : idxR [] 0 = -1 := rfl
   rw [hi0] at hR c41
   have hR2 : ((1 : Int), (0 : Int), { s with a := sp.2.1, t := sp.2.2 }) = R := hR
   subst hN1
   refine call_ofXD (m := m59) rfl rfl (by decide) (k_start ?_)
   unfold m59
   refine kq <| rn 3 ?_
   refine kD (k_skip_seq (kq ?_))
   refine rn 4 <| runs_len (D.strip (D.strip TR)) _ kr kr asm <| rn 2 ?_
   refine kD (k_skip_seq (kq (kq ?_)))
   refine rn 1 <| rcs ([.ptr 1 0]) kr kr kr kr (c43) <| rn 1 ?_
   refine kD (k_skip_seq (kq ?_))
   refine rn 2 <| kD <| k_skip_seq <| rkn 20 (decide (Prod.fst sp ≥ 0)) false (decide_eq_false asm) ?_
   refine kcf (k_skip_seq (kq ?_))
   refine rn 4 <| runs_sliceE 0 0 1 1 1 kr kr (loD_nat (k := IntKind.i64) kr) kr om om <| rca ([.sl [] none, .int .i64 0]) kr kr kr kr (c41) kr <| rn 3 ?_
   refine kD (k_skip_seq (kq (kq ?_)))
   refine rn 2 ?_
   refine kD (k_skip_seq (kct (kq ?_)))
   refine rn 2 ?_
   refine kD (k_skip_seq (k_ret ?_))
   refine ⟨.inr rfl, .inl ⟨kr, .tup [.int .i64 1, .int .i64 0], .cells (ils sp.2.1) :: SO s.l given 1 TR1 s.steps s.left s.tried :: ρ1, kr, ?_⟩⟩
   rw [← hR2]
   exact ⟨rfl, TR1, ρ1, rfl, hF1, .inr hT1⟩
  have hsnap : snap (.cells (ils sp.2.1) :: SO s.l given N TR1 s.steps s.left s.tried :: ρ1) [.msl 0 (0 + 1 * 1) (N - 1) 1, .int .i64 0] = some ([.sl (ints (sp.2.1.drop 1)) none, .int .i64 0], [0]) := by
   have he1 := elems_ils1 (σ := .cells (ils sp.2.1) :: SO s.l given N TR1 s.steps s.left s.tried :: ρ1) (o := 0) (l := sp.2.1) om rfl
   rw [hlen1] at he1
   simp only [snap, he1, Option.map_some]
  generalize idxR (sp.2.1.drop 1) 0 = ix at *
  generalize ints (sp.2.1.drop 1) = dr at *
  by_cases hv : ix + 1 = 0
  ·rw [if_pos hv] at hR
   refine call_ofXD (m := m59) rfl rfl (by decide) (k_start ?_)
   unfold m59
   refine kq <| rn 3 ?_
   refine kD (k_skip_seq (kq ?_))
   refine rn 4 <| runs_len (D.strip (D.strip TR)) _ kr kr asm <| rn 2 ?_
   refine kD (k_skip_seq (kq (kq ?_)))
   refine rn 1 <| rcs ([.ptr 1 0]) kr kr kr kr (c43) <| rn 1 ?_
   refine kD (k_skip_seq (kq ?_))
   refine rn 2 <| kD <| k_skip_seq <| rkn 20 (decide (Prod.fst sp ≥ 0)) false (decide_eq_false asm) ?_
   refine kcf (k_skip_seq (kq ?_))
   refine rn 4 <| runs_sliceM 0 0 (N) 1 (N) kr kr (loD_nat (k := IntKind.i64) kr) kr om om <| rcS ([.msl 0 1 (N - 1) 1, .int .i64 0]) _ _ kr kr kr asm (c41) kr kr <| rvW (ix + 1) (0 : Int) ((congrArg (Go.IntKind.wrap IntKind.i64) hv).trans kr) <| rn 2 ?_
   refine kD (k_skip_seq (kq (kq ?_)))
   refine rn 2 ?_
   refine kD (k_skip_seq (kct (kq ?_)))
   refine rn 2 ?_
   refine kD (k_skip_seq (k_ret ?_))
   refine ⟨.inr rfl, .inl ⟨kr, .tup [.int .i64 1, .int .i64 0], .cells (ils sp.2.1) :: SO s.l given N TR1 s.steps s.left s.tried :: ρ1, kr, ?_⟩⟩
   rw [← hR]
   exact ⟨rfl, TR1, ρ1, rfl, hF1, .inr hT1⟩
  rw [if_neg hv] at hR
  obtain ⟨v1, v2, v3⟩ := hvz hv
  have v2b := v2.2
  have hT0 : TrRep TR1 (ρ1 ++ [Obj.cells [D.ptr 1 0]] ++ [Obj.cells [D.int .i64 (ix + 1)]] ++ [Obj.cells [D.int .i64 (s.t.length : Int)]]) sp.2.2 := ((hT1.app _).app _).app _
  have hF0 : Fr2 ρ1 (ρ1 ++ [Obj.cells [D.ptr 1 0]] ++ [Obj.cells [D.int .i64 (ix + 1)]] ++ [Obj.cells [D.int .i64 (s.t.length : Int)]]) := ((Fr2.app ρ1 _).trans (.app _ _)).trans (.app _ _)
  have g1 : (ρ1 ++ [Obj.cells [D.ptr 1 0]] ++ [Obj.cells [D.int .i64 (ix + 1)]] ++ [Obj.cells [D.int .i64 (s.t.length : Int)]])[(List.length ρ1)]? = some (.cells [.ptr 1 0]) := by simp
  have g2 : (ρ1 ++ [Obj.cells [D.ptr 1 0]] ++ [Obj.cells [D.int .i64 (ix + 1)]] ++ [Obj.cells [D.int .i64 (s.t.length : Int)]])[(List.length (ρ1 ++ [Obj.cells [D.ptr 1 0]]))]? = some (.cells [.int .i64 (ix + 1)]) := by simp
  have g3 : (ρ1 ++ [Obj.cells [D.ptr 1 0]] ++ [Obj.cells [D.int .i64 (ix + 1)]] ++ [Obj.cells [D.int .i64 (s.t.length : Int)]])[(List.length (ρ1 ++ [Obj.cells [D.ptr 1 0]] ++ [Obj.cells [D.int .i64 (ix + 1)]]))]? = some (.cells [.int .i64 (s.t.length : Int)]) := by simp
  have hwas : s.t.length ≤ sp.2.2.length := by rw [he]; simp
  by_cases hl : s.left - 1 < 0
  ·rw [if_pos hl] at hR
   obtain ⟨TRf, c46, hBf⟩ := fin_ok (f2 + 2) N (s2R s sp) given TR1 (ρ1 ++ [Obj.cells [D.ptr 1 0]] ++ [Obj.cells [D.int .i64 (ix + 1)]] ++ [Obj.cells [D.int .i64 (s.t.length : Int)]]) (ix + 1) s.t.length (List.length ρ1) (List.length (ρ1 ++ [Obj.cells [D.ptr 1 0]])) (List.length (ρ1 ++ [Obj.cells [D.ptr 1 0]] ++ [Obj.cells [D.int .i64 (ix + 1)]])) hN om hs.wf hT0 g1 g2 g3 v1 v2 hwas
   refine call_ofXD (m := m59) rfl rfl (by decide) (k_start ?_)
   unfold m59
   refine kq <| rn 3 ?_
   refine kD (k_skip_seq (kq ?_))
   refine rn 4 <| runs_len (D.strip (D.strip TR)) _ kr kr asm <| rn 2 ?_
   refine kD (k_skip_seq (kq (kq ?_)))
   refine rn 1 <| rcs ([.ptr 1 0]) kr kr kr kr (c43) <| rn 1 ?_
   refine kD (k_skip_seq (kq ?_))
   refine rn 2 <| kD <| k_skip_seq <| rkn 20 (decide (Prod.fst sp ≥ 0)) false (decide_eq_false asm) ?_
   refine kcf (k_skip_seq (kq ?_))
   refine rn 4 <| runs_sliceM 0 0 (N) 1 (N) kr kr (loD_nat (k := IntKind.i64) kr) kr om om <| rcS ([.msl 0 1 (N - 1) 1, .int .i64 0]) _ _ kr kr kr asm (c41) kr kr <| rvw (ix + 1) wE <| rn 2 ?_
   refine kD (k_skip_seq (kq (kq ?_)))
   refine rn 2 <| kD <| k_skip_seq <| rkn 36 (ix + 1 == 0) false (decide_eq_false asm) ?_
   refine kcf (k_skip_seq (kq ?_))
   refine rgf (D.func 91 [D.ptr (List.length ρ1 + 2) 0, D.ptr (List.length (ρ1 ++ [Obj.cells [D.ptr 1 0]]) + 2) 0, D.ptr (List.length (ρ1 ++ [Obj.cells [D.ptr 1 0]] ++ [Obj.cells [D.int IntKind.i64 (ix + 1)]]) + 2) 0]) (Obj.cells (ils sp.2.1) :: Obj.cells [D.sl (rows s.l) (some 133), D.int IntKind.i64 (↑given : Int), D.msl 0 0 N 1, TR1, D.sl (trips s.steps) (some 210), D.int IntKind.i64 s.left, D.int IntKind.i64 s.tried] :: (ρ1 ++ [Obj.cells [D.ptr 1 0]] ++ [Obj.cells [D.int IntKind.i64 (ix + 1)]] ++ [Obj.cells [D.int IntKind.i64 (↑(List.length s.t) : Int)]])) <| rgf (D.junk) (Obj.cells (ils sp.2.1) :: Obj.cells [D.sl (rows s.l) (some 133), D.int IntKind.i64 (↑given : Int), D.msl 0 0 N 1, TR1, D.sl (trips s.steps) (some 210), D.int IntKind.i64 s.left, D.int IntKind.i64 s.tried] :: (ρ1 ++ [Obj.cells [D.ptr 1 0]] ++ [Obj.cells [D.int IntKind.i64 (ix + 1)]] ++ [Obj.cells [D.int IntKind.i64 (↑(List.length s.t) : Int)]])) ?_
   refine kD (k_skip_seq (kq ?_))
   refine rlp (List.length ρ1 + 2) 0 _ _ kr kr (g1) rfl <| rn 3 <| rvw (Sv.tried s + 1) wE <| rn 2 <| rgf (D.junk) (Obj.cells (ils sp.2.1) :: Obj.cells [D.sl (rows s.l) (some 133), D.int IntKind.i64 (↑given : Int), D.msl 0 0 N 1, TR1, D.sl (trips s.steps) (some 210), D.int IntKind.i64 s.left, D.int IntKind.i64 (Sv.tried s + 1)] :: (ρ1 ++ [Obj.cells [D.ptr 1 0]] ++ [Obj.cells [D.int IntKind.i64 (ix + 1)]] ++ [Obj.cells [D.int IntKind.i64 (↑(List.length s.t) : Int)]])) ?_
   refine kD (k_skip_seq (kq (kq ?_)))
   refine rlp (List.length ρ1 + 2) 0 _ _ kr kr (g1) rfl <| rn 3 <| rvw (Sv.left s - 1) wE <| rn 2 <| rgf (D.junk) (Obj.cells (ils sp.2.1) :: Obj.cells [D.sl (rows s.l) (some 133), D.int IntKind.i64 (↑given : Int), D.msl 0 0 N 1, TR1, D.sl (trips s.steps) (some 210), D.int IntKind.i64 (Sv.left s - 1), D.int IntKind.i64 (Sv.tried s + 1)] :: (ρ1 ++ [Obj.cells [D.ptr 1 0]] ++ [Obj.cells [D.int IntKind.i64 (ix + 1)]] ++ [Obj.cells [D.int IntKind.i64 (↑(List.length s.t) : Int)]])) ?_
   refine kD (k_skip_seq (kq ?_))
   refine rlp (List.length ρ1 + 2) 0 _ _ kr kr (g1) rfl <| rn 4 <| kD <| k_skip_seq <| rkn 56 (decide (Sv.left s - 1 < 0)) true (decide_eq_true asm) <| kct <| kq <| rn 2 ?_
   refine kD (k_skip_seq (k_ret ?_))
   refine ⟨.inr rfl, .inr ⟨91, [.ptr ((List.length ρ1) + 2) 0, .ptr ((List.length (ρ1 ++ [Obj.cells [D.ptr 1 0]])) + 2) 0, .ptr ((List.length (ρ1 ++ [Obj.cells [D.ptr 1 0]] ++ [Obj.cells [D.int .i64 (ix + 1)]])) + 2) 0], ST ((s2R s sp).fin s.t.length (ix + 1)) given N TRf (ρ1 ++ [Obj.cells [D.ptr 1 0]] ++ [Obj.cells [D.int .i64 (ix + 1)]] ++ [Obj.cells [D.int .i64 (s.t.length : Int)]]), .tup [], kr, kr, c46, .tup [.int .i64 3, .int .i64 0], ST ((s2R s sp).fin s.t.length (ix + 1)) given N TRf (ρ1 ++ [Obj.cells [D.ptr 1 0]] ++ [Obj.cells [D.int .i64 (ix + 1)]] ++ [Obj.cells [D.int .i64 (s.t.length : Int)]]), kr, ?_⟩⟩
   rw [← hR]
   refine ⟨rfl, TRf, _, rfl, hF1.trans hF0, ?_⟩
   rcases hBf with ⟨hB, hB2⟩ | hB
   ·refine .inl ⟨?_, hB2⟩
    change sp.2.2 = [] at hB
    rw [he] at hB
    exact (List.append_eq_nil_iff.1 hB).1
   ·exact .inr hB
  rw [if_neg hl] at hR
  have hpre := pre_fix h hs v2 v3 om
  obtain ⟨TR2, ρ2, c47, hT2, hF2, _⟩ := fix_ok (f2 + 1) sp.2.1 s.l given TR1 s.steps (s.left - 1) (s.tried + 1) (ρ1 ++ [Obj.cells [D.ptr 1 0]] ++ [Obj.cells [D.int .i64 (ix + 1)]] ++ [Obj.cells [D.int .i64 (s.t.length : Int)]]) sp.2.2 (ix + 1) (-1) (by rw [hlen1]; exact v2) om hT0 om
  rw [hlen1] at c47
  obtain ⟨TR3, ρ3, c38, hF3, hT3⟩ := ih ((s2R s sp).fix (ix + 1)) TR2 ρ2 (f2 + 2) hpre hT2 om
  have hp1 := try_post h0 k _ hpre
  have hpf := fun h2 => pre_fix2 h hs v2 v3 hp1 h2
  have hT3 : TrRep TR3 ρ3 (tryR N given k ((s2R s sp).fix (ix + 1))).2.2.t := by
   rcases hT3 with ⟨h3, _⟩ | h3
   ·change sp.2.2 ++ [(ix + 1, -1)] = [] at h3
    simp at h3
   ·exact h3
  have htp1 := hp1.tp
  change ∃ e, _ = (sp.2.2 ++ [(ix + 1, -1)]) ++ e at htp1
  generalize tryR N given k ((s2R s sp).fix (ix + 1)) = x1 at *
  obtain ⟨et, het⟩ := htp1
  have hF03 := (hF0.trans hF2).trans hF3
  have g13 := (hF2.trans hF3).2 _ _ g1
  have g23 := (hF2.trans hF3).2 _ _ g2
  have g33 := (hF2.trans hF3).2 _ _ g3
  have g12 := hF2.2 _ _ g1
  have g22 := hF2.2 _ _ g2
  have g32 := hF2.2 _ _ g3
  have hwas1 : s.t.length ≤ x1.2.2.t.length := by rw [het]; simp only [List.length_append]; omega
  unfold tryB at hR
  by_cases hk1 : x1.1 ≠ 2
  ·rw [if_pos hk1] at hR
   obtain ⟨TRf, c46, hBf⟩ := fin_ok (f2 + 2) N x1.2.2 given TR3 ρ3 (ix + 1) s.t.length (List.length ρ1) (List.length (ρ1 ++ [Obj.cells [D.ptr 1 0]])) (List.length (ρ1 ++ [Obj.cells [D.ptr 1 0]] ++ [Obj.cells [D.int .i64 (ix + 1)]])) hN om hp1.wf hT3 g13 g23 g33 v1 v2 hwas1
   refine call_ofXD (m := m59) rfl rfl (by decide) (k_start ?_)
   unfold m59
   refine kq <| rn 3 ?_
   refine kD (k_skip_seq (kq ?_))
   refine rn 4 <| runs_len (D.strip (D.strip TR)) _ kr kr asm <| rn 2 ?_
   refine kD (k_skip_seq (kq (kq ?_)))
   refine rn 1 <| rcs ([.ptr 1 0]) kr kr kr kr (c43) <| rn 1 ?_
   refine kD (k_skip_seq (kq ?_))
   refine rn 2 <| kD <| k_skip_seq <| rkn 20 (decide (Prod.fst sp ≥ 0)) false (decide_eq_false asm) ?_
   refine kcf (k_skip_seq (kq ?_))
   refine rn 4 <| runs_sliceM 0 0 (N) 1 (N) kr kr (loD_nat (k := IntKind.i64) kr) kr om om <| rcS ([.msl 0 1 (N - 1) 1, .int .i64 0]) _ _ kr kr kr asm (c41) kr kr <| rvw (ix + 1) wE <| rn 2 ?_
   refine kD (k_skip_seq (kq (kq ?_)))
   refine rn 2 <| kD <| k_skip_seq <| rkn 36 (ix + 1 == 0) false (decide_eq_false asm) ?_
   refine kcf (k_skip_seq (kq ?_))
   refine rgf (D.func 91 [D.ptr (List.length ρ1 + 2) 0, D.ptr (List.length (ρ1 ++ [Obj.cells [D.ptr 1 0]]) + 2) 0, D.ptr (List.length (ρ1 ++ [Obj.cells [D.ptr 1 0]] ++ [Obj.cells [D.int IntKind.i64 (ix + 1)]]) + 2) 0]) (Obj.cells (ils sp.2.1) :: Obj.cells [D.sl (rows s.l) (some 133), D.int IntKind.i64 (↑given : Int), D.msl 0 0 N 1, TR1, D.sl (trips s.steps) (some 210), D.int IntKind.i64 s.left, D.int IntKind.i64 s.tried] :: (ρ1 ++ [Obj.cells [D.ptr 1 0]] ++ [Obj.cells [D.int IntKind.i64 (ix + 1)]] ++ [Obj.cells [D.int IntKind.i64 (↑(List.length s.t) : Int)]])) <| rgf (D.junk) (Obj.cells (ils sp.2.1) :: Obj.cells [D.sl (rows s.l) (some 133), D.int IntKind.i64 (↑given : Int), D.msl 0 0 N 1, TR1, D.sl (trips s.steps) (some 210), D.int IntKind.i64 s.left, D.int IntKind.i64 s.tried] :: (ρ1 ++ [Obj.cells [D.ptr 1 0]] ++ [Obj.cells [D.int IntKind.i64 (ix + 1)]] ++ [Obj.cells [D.int IntKind.i64 (↑(List.length s.t) : Int)]])) ?_
   refine kD (k_skip_seq (kq ?_))
   refine rlp (List.length ρ1 + 2) 0 _ _ kr kr (g1) rfl <| rn 3 <| rvw (Sv.tried s + 1) wE <| rn 2 <| rgf (D.junk) (Obj.cells (ils sp.2.1) :: Obj.cells [D.sl (rows s.l) (some 133), D.int IntKind.i64 (↑given : Int), D.msl 0 0 N 1, TR1, D.sl (trips s.steps) (some 210), D.int IntKind.i64 s.left, D.int IntKind.i64 (Sv.tried s + 1)] :: (ρ1 ++ [Obj.cells [D.ptr 1 0]] ++ [Obj.cells [D.int IntKind.i64 (ix + 1)]] ++ [Obj.cells [D.int IntKind.i64 (↑(List.length s.t) : Int)]])) ?_
   refine kD (k_skip_seq (kq (kq ?_)))
   refine rlp (List.length ρ1 + 2) 0 _ _ kr kr (g1) rfl <| rn 3 <| rvw (Sv.left s - 1) wE <| rn 2 <| rgf (D.junk) (Obj.cells (ils sp.2.1) :: Obj.cells [D.sl (rows s.l) (some 133), D.int IntKind.i64 (↑given : Int), D.msl 0 0 N 1, TR1, D.sl (trips s.steps) (some 210), D.int IntKind.i64 (Sv.left s - 1), D.int IntKind.i64 (Sv.tried s + 1)] :: (ρ1 ++ [Obj.cells [D.ptr 1 0]] ++ [Obj.cells [D.int IntKind.i64 (ix + 1)]] ++ [Obj.cells [D.int IntKind.i64 (↑(List.length s.t) : Int)]])) ?_
   refine kD (k_skip_seq (kq ?_))
   refine rlp (List.length ρ1 + 2) 0 _ _ kr kr (g1) rfl <| rn 4 <| kD <| k_skip_seq <| rkn 56 (decide (Sv.left s - 1 < 0)) false (decide_eq_false asm) ?_
   refine kcf (k_skip_seq (kq ?_))
   refine rlp (List.length ρ1 + 2) 0 _ _ kr kr (g1) rfl <| rn 3 <| runs_len (D.strip (D.strip TR1)) _ kr kr asm <| rn 1 ?_
   refine kD (k_skip_seq (kq ?_))
   refine rlp (List.length ρ1 + 2) 0 _ _ kr kr (g1) rfl <| rlp (List.length (ρ1 ++ [Obj.cells [D.ptr 1 0]]) + 2) 0 _ _ kr kr (g2) rfl <| rcs ([.ptr 1 0, .int .i64 (ix + 1), .int .i64 (-1 : Int)]) kr kr kr kr (c47) ?_
   refine kD (k_skip_seq (kq ?_))
   refine rlp (List.length ρ1 + 2) 0 _ _ kr kr (g12) rfl <| rcs ([.ptr 1 0]) kr kr kr kr (c38) <| rn 5 ?_
   refine kD (k_skip_seq (kq (kq ?_)))
   refine rn 2 <| kD <| k_skip_seq <| rkn 71 (Prod.fst x1 != (2 : Int)) true (bne_iff_ne.2 asm) <| kct <| kq <| rn 3 ?_
   refine kD (k_skip_seq (k_ret ?_))
   refine ⟨.inr rfl, .inr ⟨91, [.ptr ((List.length ρ1) + 2) 0, .ptr ((List.length (ρ1 ++ [Obj.cells [D.ptr 1 0]])) + 2) 0, .ptr ((List.length (ρ1 ++ [Obj.cells [D.ptr 1 0]] ++ [Obj.cells [D.int .i64 (ix + 1)]])) + 2) 0], ST (x1.2.2.fin s.t.length (ix + 1)) given N TRf ρ3, .tup [], kr, kr, c46, .tup [.int .i64 x1.1, .int .i64 0], ST (x1.2.2.fin s.t.length (ix + 1)) given N TRf ρ3, kr, ?_⟩⟩
   rw [← hR]
   refine ⟨rfl, TRf, ρ3, rfl, hF1.trans hF03, ?_⟩
   rcases hBf with ⟨hB, hB2⟩ | hB
   ·refine .inl ⟨?_, hB2⟩
    rw [het] at hB
    simp at hB
   ·exact .inr hB
  rw [if_neg hk1] at hR
  have h2' : x1.1 = 2 := by
   by_cases h : x1.1 = 2
   ·exact h
   ·exact absurd h hk1
  obtain ⟨w1, w2, w3, w4⟩ := hpf h2'
  obtain ⟨y1, y2⟩ := hp1.res h2'
  have hxl := hp1.wf.len
  have hxs := hp1.wf.len_le h0
  have hxn : sp.2.2.length ≤ x1.2.2.t.length := by rw [het]; simp only [List.length_append]; omega
  obtain ⟨TR4, c45, hB4⟩ := back_ok (f2 + 1) x1.2.2.a x1.2.2.l given TR3 x1.2.2.steps x1.2.2.left x1.2.2.tried ρ3 x1.2.2.t sp.2.2.length om hT3 hxn om om (by rw [hxl]; exact hp1.wf.ok)
  rw [hxl] at c45
  have hT4 : TrRep TR4 ρ3 (x1.2.2.back sp.2.2.length).t := by
   rcases hB4 with ⟨hB, _⟩ | hB
   ·rw [het] at hB
    simp at hB
   ·exact hB
  have hcl1 := hp1.cl _ (List.getElem_mem y2)
  have c32 := contains_ok f2 (x1.2.2.l[x1.2.1.toNat]'y2) (0 - (ix + 1)) none [] om om
  have hgl : (x1.2.2.back sp.2.2.length).l.getD x1.2.1.toNat [] = x1.2.2.l[x1.2.1.toNat]'y2 := by
   show x1.2.2.l.getD _ _ = _
   rw [List.getD_eq_getElem?_getD, List.getElem?_eq_getElem y2]
   rfl
  have hwas4 : s.t.length ≤ (x1.2.2.back sp.2.2.length).t.length := by rw [w2]; exact hwas
  unfold tryC at hR
  rw [hgl] at hR
  by_cases hin : 0 - (ix + 1) ∉ x1.2.2.l[x1.2.1.toNat]'y2
  ·rw [if_pos hin] at hR
   rw [decide_eq_false hin] at c32
   obtain ⟨TRf, c46, hBf⟩ := fin_ok (f2 + 2) N (x1.2.2.back sp.2.2.length) given TR4 ρ3 (ix + 1) s.t.length (List.length ρ1) (List.length (ρ1 ++ [Obj.cells [D.ptr 1 0]])) (List.length (ρ1 ++ [Obj.cells [D.ptr 1 0]] ++ [Obj.cells [D.int .i64 (ix + 1)]])) hN om w1 hT4 g13 g23 g33 v1 v2 hwas4
   refine call_ofXD (m := m59) rfl rfl (by decide) (k_start ?_)
   unfold m59
   refine kq <| rn 3 ?_
   refine kD (k_skip_seq (kq ?_))
   refine rn 4 <| runs_len (D.strip (D.strip TR)) _ kr kr asm <| rn 2 ?_
   refine kD (k_skip_seq (kq (kq ?_)))
   refine rn 1 <| rcs ([.ptr 1 0]) kr kr kr kr (c43) <| rn 1 ?_
   refine kD (k_skip_seq (kq ?_))
   refine rn 2 <| kD <| k_skip_seq <| rkn 20 (decide (Prod.fst sp ≥ 0)) false (decide_eq_false asm) ?_
   refine kcf (k_skip_seq (kq ?_))
   refine rn 4 <| runs_sliceM 0 0 (N) 1 (N) kr kr (loD_nat (k := IntKind.i64) kr) kr om om <| rcS ([.msl 0 1 (N - 1) 1, .int .i64 0]) _ _ kr kr kr asm (c41) kr kr <| rvw (ix + 1) wE <| rn 2 ?_
   refine kD (k_skip_seq (kq (kq ?_)))
   refine rn 2 <| kD <| k_skip_seq <| rkn 36 (ix + 1 == 0) false (decide_eq_false asm) ?_
   refine kcf (k_skip_seq (kq ?_))
   refine rgf (D.func 91 [D.ptr (List.length ρ1 + 2) 0, D.ptr (List.length (ρ1 ++ [Obj.cells [D.ptr 1 0]]) + 2) 0, D.ptr (List.length (ρ1 ++ [Obj.cells [D.ptr 1 0]] ++ [Obj.cells [D.int IntKind.i64 (ix + 1)]]) + 2) 0]) (Obj.cells (ils sp.2.1) :: Obj.cells [D.sl (rows s.l) (some 133), D.int IntKind.i64 (↑given : Int), D.msl 0 0 N 1, TR1, D.sl (trips s.steps) (some 210), D.int IntKind.i64 s.left, D.int IntKind.i64 s.tried] :: (ρ1 ++ [Obj.cells [D.ptr 1 0]] ++ [Obj.cells [D.int IntKind.i64 (ix + 1)]] ++ [Obj.cells [D.int IntKind.i64 (↑(List.length s.t) : Int)]])) <| rgf (D.junk) (Obj.cells (ils sp.2.1) :: Obj.cells [D.sl (rows s.l) (some 133), D.int IntKind.i64 (↑given : Int), D.msl 0 0 N 1, TR1, D.sl (trips s.steps) (some 210), D.int IntKind.i64 s.left, D.int IntKind.i64 s.tried] :: (ρ1 ++ [Obj.cells [D.ptr 1 0]] ++ [Obj.cells [D.int IntKind.i64 (ix + 1)]] ++ [Obj.cells [D.int IntKind.i64 (↑(List.length s.t) : Int)]])) ?_
   refine kD (k_skip_seq (kq ?_))
   refine rlp (List.length ρ1 + 2) 0 _ _ kr kr (g1) rfl <| rn 3 <| rvw (Sv.tried s + 1) wE <| rn 2 <| rgf (D.junk) (Obj.cells (ils sp.2.1) :: Obj.cells [D.sl (rows s.l) (some 133), D.int IntKind.i64 (↑given : Int), D.msl 0 0 N 1, TR1, D.sl (trips s.steps) (some 210), D.int IntKind.i64 s.left, D.int IntKind.i64 (Sv.tried s + 1)] :: (ρ1 ++ [Obj.cells [D.ptr 1 0]] ++ [Obj.cells [D.int IntKind.i64 (ix + 1)]] ++ [Obj.cells [D.int IntKind.i64 (↑(List.length s.t) : Int)]])) ?_
   refine kD (k_skip_seq (kq (kq ?_)))
   refine rlp (List.length ρ1 + 2) 0 _ _ kr kr (g1) rfl <| rn 3 <| rvw (Sv.left s - 1) wE <| rn 2 <| rgf (D.junk) (Obj.cells (ils sp.2.1) :: Obj.cells [D.sl (rows s.l) (some 133), D.int IntKind.i64 (↑given : Int), D.msl 0 0 N 1, TR1, D.sl (trips s.steps) (some 210), D.int IntKind.i64 (Sv.left s - 1), D.int IntKind.i64 (Sv.tried s + 1)] :: (ρ1 ++ [Obj.cells [D.ptr 1 0]] ++ [Obj.cells [D.int IntKind.i64 (ix + 1)]] ++ [Obj.cells [D.int IntKind.i64 (↑(List.length s.t) : Int)]])) ?_
   refine kD (k_skip_seq (kq ?_))
   refine rlp (List.length ρ1 + 2) 0 _ _ kr kr (g1) rfl <| rn 4 <| kD <| k_skip_seq <| rkn 56 (decide (Sv.left s - 1 < 0)) false (decide_eq_false asm) ?_
   refine kcf (k_skip_seq (kq ?_))
   refine rlp (List.length ρ1 + 2) 0 _ _ kr kr (g1) rfl <| rn 3 <| runs_len (D.strip (D.strip TR1)) _ kr kr asm <| rn 1 ?_
   refine kD (k_skip_seq (kq ?_))
   refine rlp (List.length ρ1 + 2) 0 _ _ kr kr (g1) rfl <| rlp (List.length (ρ1 ++ [Obj.cells [D.ptr 1 0]]) + 2) 0 _ _ kr kr (g2) rfl <| rcs ([.ptr 1 0, .int .i64 (ix + 1), .int .i64 (-1 : Int)]) kr kr kr kr (c47) ?_
   refine kD (k_skip_seq (kq ?_))
   refine rlp (List.length ρ1 + 2) 0 _ _ kr kr (g12) rfl <| rcs ([.ptr 1 0]) kr kr kr kr (c38) <| rn 1 <| rve (.int .i64 x1.1) (.int IntKind.i64 (2 : Int)) (congrArg (D.int IntKind.i64) (show Prod.fst x1 = 2 from h2')) <| rn 3 ?_
   refine kD (k_skip_seq (kq (kq ?_)))
   refine rn 2 ?_
   refine kD (k_skip_seq (kcf (k_skip_seq (kq ?_))))
   refine rlp (List.length ρ1 + 2) 0 _ _ kr kr (g13) rfl <| rn 1 <| rcs ([.ptr 1 0, .int .i64 (↑(List.length sp.2.2) : Int)]) kr kr kr kr (c45) ?_
   refine kD (k_skip_seq (kq (kq ?_)))
   refine rlp (List.length ρ1 + 2) 0 _ _ kr kr (g13) rfl <| rn 4 <| runs_indexI (Sv.l x1.2.2) (eInts) (o := none) (kd := IntKind.i64) x1.2.1 kr kr kr asm asm kr <| rn 1 <| rlp (List.length (ρ1 ++ [Obj.cells [D.ptr 1 0]]) + 2) 0 _ _ kr kr (g23) rfl <| rvw ((0 : Int) - (ix + 1)) wE <| rca ([.sl (ints (Sv.l x1.2.2)[Int.toNat x1.2.1]) none, .int .i64 ((0 : Int) - (ix + 1))]) kr kr kr kr (c32) kr <| rn 1 ?_
   refine kD (k_skip_seq (kct (kq ?_)))
   refine rn 3 ?_
   refine kD (k_skip_seq (k_ret ?_))
   refine ⟨.inr rfl, .inr ⟨91, [.ptr ((List.length ρ1) + 2) 0, .ptr ((List.length (ρ1 ++ [Obj.cells [D.ptr 1 0]])) + 2) 0, .ptr ((List.length (ρ1 ++ [Obj.cells [D.ptr 1 0]] ++ [Obj.cells [D.int .i64 (ix + 1)]])) + 2) 0], ST ((x1.2.2.back sp.2.2.length).fin s.t.length (ix + 1)) given N TRf ρ3, .tup [], kr, kr, c46, .tup [.int .i64 2, .int .i64 x1.2.1], ST ((x1.2.2.back sp.2.2.length).fin s.t.length (ix + 1)) given N TRf ρ3, kr, ?_⟩⟩
   rw [← hR]
   refine ⟨rfl, TRf, ρ3, rfl, hF1.trans hF03, ?_⟩
   rcases hBf with ⟨hB, hB2⟩ | hB
   ·refine .inl ⟨?_, hB2⟩
    change (x1.2.2.back sp.2.2.length).t = [] at hB
    rw [w2, he] at hB
    exact (List.append_eq_nil_iff.1 hB).1
   ·exact .inr hB
  rw [if_neg hin] at hR
  have hin' : 0 - (ix + 1) ∈ x1.2.2.l[x1.2.1.toNat]'y2 := by simpa using hin
  rw [decide_eq_true hin'] at c32
  have hv2' : okL N (0 - (ix + 1)) := ⟨om, om⟩
  have hbl : (x1.2.2.back sp.2.2.length).a.length = N := w1.len
  have hbs : (x1.2.2.back sp.2.2.length).t.length ≤ 1000000 := by rw [w2]; omega
  obtain ⟨TR5, ρ5, c47b, hT5, hF5, _⟩ := fix_ok (f2 + 1) (x1.2.2.back sp.2.2.length).a x1.2.2.l given TR4 x1.2.2.steps x1.2.2.left x1.2.2.tried ρ3 (x1.2.2.back sp.2.2.length).t (0 - (ix + 1)) (-1) (by rw [hbl]; exact hv2') om hT4 hbs
  rw [hbl] at c47b
  obtain ⟨TR6, ρ6, c38b, hF6, hT6⟩ := ih ((x1.2.2.back sp.2.2.length).fix (0 - (ix + 1))) TR5 ρ5 (f2 + 2) w4 hT5 om
  have hp2 := try_post h0 k _ w4
  have hT6 : TrRep TR6 ρ6 (tryR N given k ((x1.2.2.back sp.2.2.length).fix (0 - (ix + 1)))).2.2.t := by
   rcases hT6 with ⟨h3, _⟩ | h3
   ·change (x1.2.2.back sp.2.2.length).t ++ [(0 - (ix + 1), -1)] = [] at h3
    simp at h3
   ·exact h3
  have htp2 := hp2.tp
  have hun2 := hp2.un
  have hlp2 := hp2.lp
  change ∃ e, _ = ((x1.2.2.back sp.2.2.length).t ++ [(0 - (ix + 1), -1)]) ++ e at htp2
  change _ → _ = (x1.2.2.back sp.2.2.length).t ++ [(0 - (ix + 1), -1)] at hun2
  change ∃ e, _ = x1.2.2.l ++ e at hlp2
  rw [w2] at htp2 hun2
  unfold tryD at hR
  generalize tryR N given k ((x1.2.2.back sp.2.2.length).fix (0 - (ix + 1))) = x2 at *
  obtain ⟨et2, het2⟩ := htp2
  obtain ⟨el2, hel2⟩ := hlp2
  have hF06 := (hF03.trans hF5).trans hF6
  have g15 := hF5.2 _ _ g13
  have g25 := hF5.2 _ _ g23
  have g35 := hF5.2 _ _ g33
  have g16 := hF6.2 _ _ g15
  have g26 := hF6.2 _ _ g25
  have g36 := hF6.2 _ _ g35
  have hwas2 : s.t.length ≤ x2.2.2.t.length := by rw [het2]; simp only [List.length_append]; omega
  by_cases hk2 : x2.1 ≠ 2
  ·rw [if_pos hk2] at hR
   obtain ⟨TRf, c46, hBf⟩ := fin_ok (f2 + 2) N x2.2.2 given TR6 ρ6 (ix + 1) s.t.length (List.length ρ1) (List.length (ρ1 ++ [Obj.cells [D.ptr 1 0]])) (List.length (ρ1 ++ [Obj.cells [D.ptr 1 0]] ++ [Obj.cells [D.int .i64 (ix + 1)]])) hN om hp2.wf hT6 g16 g26 g36 v1 v2 hwas2
   refine call_ofXD (m := m59) rfl rfl (by decide) (k_start ?_)
   unfold m59
   refine kq <| rn 3 ?_
   refine kD (k_skip_seq (kq ?_))
   refine rn 4 <| runs_len (D.strip (D.strip TR)) _ kr kr asm <| rn 2 ?_
   refine kD (k_skip_seq (kq (kq ?_)))
   refine rn 1 <| rcs ([.ptr 1 0]) kr kr kr kr (c43) <| rn 1 ?_
   refine kD (k_skip_seq (kq ?_))
   refine rn 2 <| kD <| k_skip_seq <| rkn 20 (decide (Prod.fst sp ≥ 0)) false (decide_eq_false asm) ?_
   refine kcf (k_skip_seq (kq ?_))
   refine rn 4 <| runs_sliceM 0 0 (N) 1 (N) kr kr (loD_nat (k := IntKind.i64) kr) kr om om <| rcS ([.msl 0 1 (N - 1) 1, .int .i64 0]) _ _ kr kr kr asm (c41) kr kr <| rvw (ix + 1) wE <| rn 2 ?_
   refine kD (k_skip_seq (kq (kq ?_)))
   refine rn 2 <| kD <| k_skip_seq <| rkn 36 (ix + 1 == 0) false (decide_eq_false asm) ?_
   refine kcf (k_skip_seq (kq ?_))
   refine rgf (D.func 91 [D.ptr (List.length ρ1 + 2) 0, D.ptr (List.length (ρ1 ++ [Obj.cells [D.ptr 1 0]]) + 2) 0, D.ptr (List.length (ρ1 ++ [Obj.cells [D.ptr 1 0]] ++ [Obj.cells [D.int IntKind.i64 (ix + 1)]]) + 2) 0]) (Obj.cells (ils sp.2.1) :: Obj.cells [D.sl (rows s.l) (some 133), D.int IntKind.i64 (↑given : Int), D.msl 0 0 N 1, TR1, D.sl (trips s.steps) (some 210), D.int IntKind.i64 s.left, D.int IntKind.i64 s.tried] :: (ρ1 ++ [Obj.cells [D.ptr 1 0]] ++ [Obj.cells [D.int IntKind.i64 (ix + 1)]] ++ [Obj.cells [D.int IntKind.i64 (↑(List.length s.t) : Int)]])) <| rgf (D.junk) (Obj.cells (ils sp.2.1) :: Obj.cells [D.sl (rows s.l) (some 133), D.int IntKind.i64 (↑given : Int), D.msl 0 0 N 1, TR1, D.sl (trips s.steps) (some 210), D.int IntKind.i64 s.left, D.int IntKind.i64 s.tried] :: (ρ1 ++ [Obj.cells [D.ptr 1 0]] ++ [Obj.cells [D.int IntKind.i64 (ix + 1)]] ++ [Obj.cells [D.int IntKind.i64 (↑(List.length s.t) : Int)]])) ?_
   refine kD (k_skip_seq (kq ?_))
   refine rlp (List.length ρ1 + 2) 0 _ _ kr kr (g1) rfl <| rn 3 <| rvw (Sv.tried s + 1) wE <| rn 2 <| rgf (D.junk) (Obj.cells (ils sp.2.1) :: Obj.cells [D.sl (rows s.l) (some 133), D.int IntKind.i64 (↑given : Int), D.msl 0 0 N 1, TR1, D.sl (trips s.steps) (some 210), D.int IntKind.i64 s.left, D.int IntKind.i64 (Sv.tried s + 1)] :: (ρ1 ++ [Obj.cells [D.ptr 1 0]] ++ [Obj.cells [D.int IntKind.i64 (ix + 1)]] ++ [Obj.cells [D.int IntKind.i64 (↑(List.length s.t) : Int)]])) ?_
   refine kD (k_skip_seq (kq (kq ?_)))
   refine rlp (List.length ρ1 + 2) 0 _ _ kr kr (g1) rfl <| rn 3 <| rvw (Sv.left s - 1) wE <| rn 2 <| rgf (D.junk) (Obj.cells (ils sp.2.1) :: Obj.cells [D.sl (rows s.l) (some 133), D.int IntKind.i64 (↑given : Int), D.msl 0 0 N 1, TR1, D.sl (trips s.steps) (some 210), D.int IntKind.i64 (Sv.left s - 1), D.int IntKind.i64 (Sv.tried s + 1)] :: (ρ1 ++ [Obj.cells [D.ptr 1 0]] ++ [Obj.cells [D.int IntKind.i64 (ix + 1)]] ++ [Obj.cells [D.int IntKind.i64 (↑(List.length s.t) : Int)]])) ?_
   refine kD (k_skip_seq (kq ?_))
   refine rlp (List.length ρ1 + 2) 0 _ _ kr kr (g1) rfl <| rn 4 <| kD <| k_skip_seq <| rkn 56 (decide (Sv.left s - 1 < 0)) false (decide_eq_false asm) ?_
   refine kcf (k_skip_seq (kq ?_))
   refine rlp (List.length ρ1 + 2) 0 _ _ kr kr (g1) rfl <| rn 3 <| runs_len (D.strip (D.strip TR1)) _ kr kr asm <| rn 1 ?_
   refine kD (k_skip_seq (kq ?_))
   refine rlp (List.length ρ1 + 2) 0 _ _ kr kr (g1) rfl <| rlp (List.length (ρ1 ++ [Obj.cells [D.ptr 1 0]]) + 2) 0 _ _ kr kr (g2) rfl <| rcs ([.ptr 1 0, .int .i64 (ix + 1), .int .i64 (-1 : Int)]) kr kr kr kr (c47) ?_
   refine kD (k_skip_seq (kq ?_))
   refine rlp (List.length ρ1 + 2) 0 _ _ kr kr (g12) rfl <| rcs ([.ptr 1 0]) kr kr kr kr (c38) <| rn 1 <| rve (.int .i64 x1.1) (.int IntKind.i64 (2 : Int)) (congrArg (D.int IntKind.i64) (show Prod.fst x1 = 2 from h2')) <| rn 3 ?_
   refine kD (k_skip_seq (kq (kq ?_)))
   refine rn 2 ?_
   refine kD (k_skip_seq (kcf (k_skip_seq (kq ?_))))
   refine rlp (List.length ρ1 + 2) 0 _ _ kr kr (g13) rfl <| rn 1 <| rcs ([.ptr 1 0, .int .i64 (↑(List.length sp.2.2) : Int)]) kr kr kr kr (c45) ?_
   refine kD (k_skip_seq (kq (kq ?_)))
   refine rlp (List.length ρ1 + 2) 0 _ _ kr kr (g13) rfl <| rn 4 <| runs_indexI (Sv.l x1.2.2) (eInts) (o := none) (kd := IntKind.i64) x1.2.1 kr kr kr asm asm kr <| rn 1 <| rlp (List.length (ρ1 ++ [Obj.cells [D.ptr 1 0]]) + 2) 0 _ _ kr kr (g23) rfl <| rvw ((0 : Int) - (ix + 1)) wE <| rca ([.sl (ints (Sv.l x1.2.2)[Int.toNat x1.2.1]) none, .int .i64 ((0 : Int) - (ix + 1))]) kr kr kr kr (c32) kr <| rn 1 ?_
   refine kD (k_skip_seq (kcf (k_skip_seq (kq ?_))))
   refine rlp (List.length ρ1 + 2) 0 _ _ kr kr (g13) rfl <| rlp (List.length (ρ1 ++ [Obj.cells [D.ptr 1 0]]) + 2) 0 _ _ kr kr (g23) rfl <| rvw ((0 : Int) - (ix + 1)) wE <| rcs ([.ptr 1 0, .int .i64 ((0 : Int) - (ix + 1)), .int .i64 (-1 : Int)]) kr kr kr kr (c47b) ?_
   refine kD (k_skip_seq (kq ?_))
   refine rlp (List.length ρ1 + 2) 0 _ _ kr kr (g15) rfl <| rcs ([.ptr 1 0]) kr kr kr kr (c38b) <| rn 5 ?_
   refine kD (k_skip_seq (kq (kq ?_)))
   refine rn 2 <| kD <| k_skip_seq <| rkn 98 (Prod.fst x2 != (2 : Int)) true (bne_iff_ne.2 asm) <| kct <| kq <| rn 3 ?_
   refine kD (k_skip_seq (k_ret ?_))
   refine ⟨.inr rfl, .inr ⟨91, [.ptr ((List.length ρ1) + 2) 0, .ptr ((List.length (ρ1 ++ [Obj.cells [D.ptr 1 0]])) + 2) 0, .ptr ((List.length (ρ1 ++ [Obj.cells [D.ptr 1 0]] ++ [Obj.cells [D.int .i64 (ix + 1)]])) + 2) 0], ST (x2.2.2.fin s.t.length (ix + 1)) given N TRf ρ6, .tup [], kr, kr, c46, .tup [.int .i64 x2.1, .int .i64 0], ST (x2.2.2.fin s.t.length (ix + 1)) given N TRf ρ6, kr, ?_⟩⟩
   rw [← hR]
   refine ⟨rfl, TRf, ρ6, rfl, hF1.trans hF06, ?_⟩
   rcases hBf with ⟨hB, hB2⟩ | hB
   ·refine .inl ⟨?_, hB2⟩
    rw [het2] at hB
    simp at hB
   ·exact .inr hB
  rw [if_neg hk2] at hR
  have h3' : x2.1 = 2 := by
   by_cases h : x2.1 = 2
   ·exact h
   ·exact absurd h hk2
  obtain ⟨z1, z2⟩ := hp2.res h3'
  have hzl := hp2.wf.len
  have hzs := hp2.wf.len_le h0
  have hzn : sp.2.2.length ≤ x2.2.2.t.length := by rw [het2]; simp only [List.length_append]; omega
  obtain ⟨TR7, c45b, hB7⟩ := back_ok (f2 + 1) x2.2.2.a x2.2.2.l given TR6 x2.2.2.steps x2.2.2.left x2.2.2.tried ρ6 x2.2.2.t sp.2.2.length om hT6 hzn om om (by rw [hzl]; exact hp2.wf.ok)
  rw [hzl] at c45b
  have hT7 : TrRep TR7 ρ6 (x2.2.2.back sp.2.2.length).t := by
   rcases hB7 with ⟨hB, _⟩ | hB
   ·rw [het2] at hB
    simp at hB
   ·exact hB
  have hbt : (x2.2.2.back sp.2.2.length).t = sp.2.2 := by
   show x2.2.2.t.take sp.2.2.length = _
   rw [hun2 h3']
   simp
  have hbw : WF N (x2.2.2.back sp.2.2.length).a (x2.2.2.back sp.2.2.length).t := hp2.wf.back sp.2.2.length
  have hwas7 : s.t.length ≤ (x2.2.2.back sp.2.2.length).t.length := by rw [hbt]; exact hwas
  have hcl2 := hp2.cl _ (List.getElem_mem z2)
  have c32b := contains_ok f2 (x2.2.2.l[x2.2.1.toNat]'z2) (ix + 1) none [] om om
  have hgl2 : (x2.2.2.back sp.2.2.length).l.getD x2.2.1.toNat [] = x2.2.2.l[x2.2.1.toNat]'z2 := by
   show x2.2.2.l.getD _ _ = _
   rw [List.getD_eq_getElem?_getD, List.getElem?_eq_getElem z2]
   rfl
  unfold tryE at hR
  rw [hgl2] at hR
  by_cases hin2 : ix + 1 ∉ x2.2.2.l[x2.2.1.toNat]'z2
  ·rw [if_pos hin2] at hR
   rw [decide_eq_false hin2] at c32b
   obtain ⟨TRf, c46, hBf⟩ := fin_ok (f2 + 2) N (x2.2.2.back sp.2.2.length) given TR7 ρ6 (ix + 1) s.t.length (List.length ρ1) (List.length (ρ1 ++ [Obj.cells [D.ptr 1 0]])) (List.length (ρ1 ++ [Obj.cells [D.ptr 1 0]] ++ [Obj.cells [D.int .i64 (ix + 1)]])) hN om hbw hT7 g16 g26 g36 v1 v2 hwas7
   refine call_ofXD (m := m59) rfl rfl (by decide) (k_start ?_)
   unfold m59
   refine kq <| rn 3 ?_
   refine kD (k_skip_seq (kq ?_))
   refine rn 4 <| runs_len (D.strip (D.strip TR)) _ kr kr asm <| rn 2 ?_
   refine kD (k_skip_seq (kq (kq ?_)))
   refine rn 1 <| rcs ([.ptr 1 0]) kr kr kr kr (c43) <| rn 1 ?_
   refine kD (k_skip_seq (kq ?_))
   refine rn 2 <| kD <| k_skip_seq <| rkn 20 (decide (Prod.fst sp ≥ 0)) false (decide_eq_false asm) ?_
   refine kcf (k_skip_seq (kq ?_))
   refine rn 4 <| runs_sliceM 0 0 (N) 1 (N) kr kr (loD_nat (k := IntKind.i64) kr) kr om om <| rcS ([.msl 0 1 (N - 1) 1, .int .i64 0]) _ _ kr kr kr asm (c41) kr kr <| rvw (ix + 1) wE <| rn 2 ?_
   refine kD (k_skip_seq (kq (kq ?_)))
   refine rn 2 <| kD <| k_skip_seq <| rkn 36 (ix + 1 == 0) false (decide_eq_false asm) ?_
   refine kcf (k_skip_seq (kq ?_))
   refine rgf (D.func 91 [D.ptr (List.length ρ1 + 2) 0, D.ptr (List.length (ρ1 ++ [Obj.cells [D.ptr 1 0]]) + 2) 0, D.ptr (List.length (ρ1 ++ [Obj.cells [D.ptr 1 0]] ++ [Obj.cells [D.int IntKind.i64 (ix + 1)]]) + 2) 0]) (Obj.cells (ils sp.2.1) :: Obj.cells [D.sl (rows s.l) (some 133), D.int IntKind.i64 (↑given : Int), D.msl 0 0 N 1, TR1, D.sl (trips s.steps) (some 210), D.int IntKind.i64 s.left, D.int IntKind.i64 s.tried] :: (ρ1 ++ [Obj.cells [D.ptr 1 0]] ++ [Obj.cells [D.int IntKind.i64 (ix + 1)]] ++ [Obj.cells [D.int IntKind.i64 (↑(List.length s.t) : Int)]])) <| rgf (D.junk) (Obj.cells (ils sp.2.1) :: Obj.cells [D.sl (rows s.l) (some 133), D.int IntKind.i64 (↑given : Int), D.msl 0 0 N 1, TR1, D.sl (trips s.steps) (some 210), D.int IntKind.i64 s.left, D.int IntKind.i64 s.tried] :: (ρ1 ++ [Obj.cells [D.ptr 1 0]] ++ [Obj.cells [D.int IntKind.i64 (ix + 1)]] ++ [Obj.cells [D.int IntKind.i64 (↑(List.length s.t) : Int)]])) ?_
   refine kD (k_skip_seq (kq ?_))
   refine rlp (List.length ρ1 + 2) 0 _ _ kr kr (g1) rfl <| rn 3 <| rvw (Sv.tried s + 1) wE <| rn 2 <| rgf (D.junk) (Obj.cells (ils sp.2.1) :: Obj.cells [D.sl (rows s.l) (some 133), D.int IntKind.i64 (↑given : Int), D.msl 0 0 N 1, TR1, D.sl (trips s.steps) (some 210), D.int IntKind.i64 s.left, D.int IntKind.i64 (Sv.tried s + 1)] :: (ρ1 ++ [Obj.cells [D.ptr 1 0]] ++ [Obj.cells [D.int IntKind.i64 (ix + 1)]] ++ [Obj.cells [D.int IntKind.i64 (↑(List.length s.t) : Int)]])) ?_
   refine kD (k_skip_seq (kq (kq ?_)))
   refine rlp (List.length ρ1 + 2) 0 _ _ kr kr (g1) rfl <| rn 3 <| rvw (Sv.left s - 1) wE <| rn 2 <| rgf (D.junk) (Obj.cells (ils sp.2.1) :: Obj.cells [D.sl (rows s.l) (some 133), D.int IntKind.i64 (↑given : Int), D.msl 0 0 N 1, TR1, D.sl (trips s.steps) (some 210), D.int IntKind.i64 (Sv.left s - 1), D.int IntKind.i64 (Sv.tried s + 1)] :: (ρ1 ++ [Obj.cells [D.ptr 1 0]] ++ [Obj.cells [D.int IntKind.i64 (ix + 1)]] ++ [Obj.cells [D.int IntKind.i64 (↑(List.length s.t) : Int)]])) ?_
   refine kD (k_skip_seq (kq ?_))
   refine rlp (List.length ρ1 + 2) 0 _ _ kr kr (g1) rfl <| rn 4 <| kD <| k_skip_seq <| rkn 56 (decide (Sv.left s - 1 < 0)) false (decide_eq_false asm) ?_
   refine kcf (k_skip_seq (kq ?_))
   refine rlp (List.length ρ1 + 2) 0 _ _ kr kr (g1) rfl <| rn 3 <| runs_len (D.strip (D.strip TR1)) _ kr kr asm <| rn 1 ?_
   refine kD (k_skip_seq (kq ?_))
   refine rlp (List.length ρ1 + 2) 0 _ _ kr kr (g1) rfl <| rlp (List.length (ρ1 ++ [Obj.cells [D.ptr 1 0]]) + 2) 0 _ _ kr kr (g2) rfl <| rcs ([.ptr 1 0, .int .i64 (ix + 1), .int .i64 (-1 : Int)]) kr kr kr kr (c47) ?_
   refine kD (k_skip_seq (kq ?_))
   refine rlp (List.length ρ1 + 2) 0 _ _ kr kr (g12) rfl <| rcs ([.ptr 1 0]) kr kr kr kr (c38) <| rn 1 <| rve (.int .i64 x1.1) (.int IntKind.i64 (2 : Int)) (congrArg (D.int IntKind.i64) (show Prod.fst x1 = 2 from h2')) <| rn 3 ?_
   refine kD (k_skip_seq (kq (kq ?_)))
   refine rn 2 ?_
   refine kD (k_skip_seq (kcf (k_skip_seq (kq ?_))))
   refine rlp (List.length ρ1 + 2) 0 _ _ kr kr (g13) rfl <| rn 1 <| rcs ([.ptr 1 0, .int .i64 (↑(List.length sp.2.2) : Int)]) kr kr kr kr (c45) ?_
   refine kD (k_skip_seq (kq (kq ?_)))
   refine rlp (List.length ρ1 + 2) 0 _ _ kr kr (g13) rfl <| rn 4 <| runs_indexI (Sv.l x1.2.2) (eInts) (o := none) (kd := IntKind.i64) x1.2.1 kr kr kr asm asm kr <| rn 1 <| rlp (List.length (ρ1 ++ [Obj.cells [D.ptr 1 0]]) + 2) 0 _ _ kr kr (g23) rfl <| rvw ((0 : Int) - (ix + 1)) wE <| rca ([.sl (ints (Sv.l x1.2.2)[Int.toNat x1.2.1]) none, .int .i64 ((0 : Int) - (ix + 1))]) kr kr kr kr (c32) kr <| rn 1 ?_
   refine kD (k_skip_seq (kcf (k_skip_seq (kq ?_))))
   refine rlp (List.length ρ1 + 2) 0 _ _ kr kr (g13) rfl <| rlp (List.length (ρ1 ++ [Obj.cells [D.ptr 1 0]]) + 2) 0 _ _ kr kr (g23) rfl <| rvw ((0 : Int) - (ix + 1)) wE <| rcs ([.ptr 1 0, .int .i64 ((0 : Int) - (ix + 1)), .int .i64 (-1 : Int)]) kr kr kr kr (c47b) ?_
   refine kD (k_skip_seq (kq ?_))
   refine rlp (List.length ρ1 + 2) 0 _ _ kr kr (g15) rfl <| rcs ([.ptr 1 0]) kr kr kr kr (c38b) <| rn 1 <| rve (.int .i64 x2.1) (.int IntKind.i64 (2 : Int)) (congrArg (D.int IntKind.i64) (show Prod.fst x2 = 2 from h3')) <| rn 3 ?_
   refine kD (k_skip_seq (kq (kq ?_)))
   refine rn 2 ?_
   refine kD (k_skip_seq (kcf (k_skip_seq (kq ?_))))
   refine rlp (List.length ρ1 + 2) 0 _ _ kr kr (g16) rfl <| rn 1 <| rcs ([.ptr 1 0, .int .i64 (↑(List.length sp.2.2) : Int)]) kr kr kr kr (c45b) ?_
   refine kD (k_skip_seq (kq (kq ?_)))
   refine rlp (List.length ρ1 + 2) 0 _ _ kr kr (g16) rfl <| rn 4 <| runs_indexI (Sv.l x2.2.2) (eInts) (o := none) (kd := IntKind.i64) x2.2.1 kr kr kr asm asm kr <| rn 1 <| rlp (List.length (ρ1 ++ [Obj.cells [D.ptr 1 0]]) + 2) 0 _ _ kr kr (g26) rfl <| rca ([.sl (ints (Sv.l x2.2.2)[Int.toNat x2.2.1]) none, .int .i64 (ix + 1)]) kr kr kr kr (c32b) kr <| rn 1 ?_
   refine kD (k_skip_seq (kct (kq ?_)))
   refine rn 3 ?_
   refine kD (k_skip_seq (k_ret ?_))
   refine ⟨.inr rfl, .inr ⟨91, [.ptr ((List.length ρ1) + 2) 0, .ptr ((List.length (ρ1 ++ [Obj.cells [D.ptr 1 0]])) + 2) 0, .ptr ((List.length (ρ1 ++ [Obj.cells [D.ptr 1 0]] ++ [Obj.cells [D.int .i64 (ix + 1)]])) + 2) 0], ST ((x2.2.2.back sp.2.2.length).fin s.t.length (ix + 1)) given N TRf ρ6, .tup [], kr, kr, c46, .tup [.int .i64 2, .int .i64 x2.2.1], ST ((x2.2.2.back sp.2.2.length).fin s.t.length (ix + 1)) given N TRf ρ6, kr, ?_⟩⟩
   rw [← hR]
   refine ⟨rfl, TRf, ρ6, rfl, hF1.trans hF06, ?_⟩
   rcases hBf with ⟨hB, hB2⟩ | hB
   ·refine .inl ⟨?_, hB2⟩
    change (x2.2.2.back sp.2.2.length).t = [] at hB
    rw [hbt, he] at hB
    exact (List.append_eq_nil_iff.1 hB).1
   ·exact .inr hB
  rw [if_neg hin2] at hR
  have hin2' : ix + 1 ∈ x2.2.2.l[x2.2.1.toNat]'z2 := by simpa using hin2
  rw [decide_eq_true hin2'] at c32b
  have hrl2 := hp2.rl
  have hrs2 := hp2.rs
  have hlf2 := hp2.l0.2 om
  have w4l := w4.rl
  have w4s := w4.rs
  have c48 := resolved_ok (f2 + 1) (.cells (ils (setz x2.2.2.a (x2.2.2.t.drop sp.2.2.length)))) x2.2.2.l given N TR7 x2.2.2.steps x2.2.2.left x2.2.2.tried ρ6 x2.2.1 x1.2.1 (ix + 1) ⟨z1, z2⟩ ⟨y1, by rw [hel2, List.length_append]; omega⟩ om om om (fun c hc => by have := (hp2.cl c hc).2; omega) om
  have g17 := (Fr2.app ρ6 [Obj.cells [D.sl (ints (madeR x2.2.2.l x2.2.1 x1.2.1 (ix + 1))) (some 3)]]).2 _ _ g16
  have g27 := (Fr2.app ρ6 [Obj.cells [D.sl (ints (madeR x2.2.2.l x2.2.1 x1.2.1 (ix + 1))) (some 3)]]).2 _ _ g26
  have g37 := (Fr2.app ρ6 [Obj.cells [D.sl (ints (madeR x2.2.2.l x2.2.1 x1.2.1 (ix + 1))) (some 3)]]).2 _ _ g36
  obtain ⟨TRf, c46, hBf⟩ := fin_ok (f2 + 2) N (addR (x2.2.2.back sp.2.2.length) x2.2.1 x1.2.1 (ix + 1)) given TR7 (ρ6 ++ [Obj.cells [D.sl (ints (madeR x2.2.2.l x2.2.1 x1.2.1 (ix + 1))) (some 3)]]) (ix + 1) s.t.length (List.length ρ1) (List.length (ρ1 ++ [Obj.cells [D.ptr 1 0]])) (List.length (ρ1 ++ [Obj.cells [D.ptr 1 0]] ++ [Obj.cells [D.int .i64 (ix + 1)]])) hN om hbw (hT7.app _) g17 g27 g37 v1 v2 hwas7
  refine call_ofXD (m := m59) rfl rfl (by decide) (k_start ?_)
  unfold m59
  refine kq <| rn 3 ?_
  refine kD (k_skip_seq (kq ?_))
  refine rn 4 <| runs_len (D.strip (D.strip TR)) _ kr kr asm <| rn 2 ?_
  refine kD (k_skip_seq (kq (kq ?_)))
  refine rn 1 <| rcs ([.ptr 1 0]) kr kr kr kr (c43) <| rn 1 ?_
  refine kD (k_skip_seq (kq ?_))
  refine rn 2 <| kD <| k_skip_seq <| rkn 20 (decide (Prod.fst sp ≥ 0)) false (decide_eq_false asm) ?_
  refine kcf (k_skip_seq (kq ?_))
  refine rn 4 <| runs_sliceM 0 0 (N) 1 (N) kr kr (loD_nat (k := IntKind.i64) kr) kr om om <| rcS ([.msl 0 1 (N - 1) 1, .int .i64 0]) _ _ kr kr kr asm (c41) kr kr <| rvw (ix + 1) wE <| rn 2 ?_
  refine kD (k_skip_seq (kq (kq ?_)))
  refine rn 2 <| kD <| k_skip_seq <| rkn 36 (ix + 1 == 0) false (decide_eq_false asm) ?_
  refine kcf (k_skip_seq (kq ?_))
  refine rgf (D.func 91 [D.ptr (List.length ρ1 + 2) 0, D.ptr (List.length (ρ1 ++ [Obj.cells [D.ptr 1 0]]) + 2) 0, D.ptr (List.length (ρ1 ++ [Obj.cells [D.ptr 1 0]] ++ [Obj.cells [D.int IntKind.i64 (ix + 1)]]) + 2) 0]) (Obj.cells (ils sp.2.1) :: Obj.cells [D.sl (rows s.l) (some 133), D.int IntKind.i64 (↑given : Int), D.msl 0 0 N 1, TR1, D.sl (trips s.steps) (some 210), D.int IntKind.i64 s.left, D.int IntKind.i64 s.tried] :: (ρ1 ++ [Obj.cells [D.ptr 1 0]] ++ [Obj.cells [D.int IntKind.i64 (ix + 1)]] ++ [Obj.cells [D.int IntKind.i64 (↑(List.length s.t) : Int)]])) <| rgf (D.junk) (Obj.cells (ils sp.2.1) :: Obj.cells [D.sl (rows s.l) (some 133), D.int IntKind.i64 (↑given : Int), D.msl 0 0 N 1, TR1, D.sl (trips s.steps) (some 210), D.int IntKind.i64 s.left, D.int IntKind.i64 s.tried] :: (ρ1 ++ [Obj.cells [D.ptr 1 0]] ++ [Obj.cells [D.int IntKind.i64 (ix + 1)]] ++ [Obj.cells [D.int IntKind.i64 (↑(List.length s.t) : Int)]])) ?_
  refine kD (k_skip_seq (kq ?_))
  refine rlp (List.length ρ1 + 2) 0 _ _ kr kr (g1) rfl <| rn 3 <| rvw (Sv.tried s + 1) wE <| rn 2 <| rgf (D.junk) (Obj.cells (ils sp.2.1) :: Obj.cells [D.sl (rows s.l) (some 133), D.int IntKind.i64 (↑given : Int), D.msl 0 0 N 1, TR1, D.sl (trips s.steps) (some 210), D.int IntKind.i64 s.left, D.int IntKind.i64 (Sv.tried s + 1)] :: (ρ1 ++ [Obj.cells [D.ptr 1 0]] ++ [Obj.cells [D.int IntKind.i64 (ix + 1)]] ++ [Obj.cells [D.int IntKind.i64 (↑(List.length s.t) : Int)]])) ?_
  refine kD (k_skip_seq (kq (kq ?_)))
  refine rlp (List.length ρ1 + 2) 0 _ _ kr kr (g1) rfl <| rn 3 <| rvw (Sv.left s - 1) wE <| rn 2 <| rgf (D.junk) (Obj.cells (ils sp.2.1) :: Obj.cells [D.sl (rows s.l) (some 133), D.int IntKind.i64 (↑given : Int), D.msl 0 0 N 1, TR1, D.sl (trips s.steps) (some 210), D.int IntKind.i64 (Sv.left s - 1), D.int IntKind.i64 (Sv.tried s + 1)] :: (ρ1 ++ [Obj.cells [D.ptr 1 0]] ++ [Obj.cells [D.int IntKind.i64 (ix + 1)]] ++ [Obj.cells [D.int IntKind.i64 (↑(List.length s.t) : Int)]])) ?_
  refine kD (k_skip_seq (kq ?_))
  refine rlp (List.length ρ1 + 2) 0 _ _ kr kr (g1) rfl <| rn 4 <| kD <| k_skip_seq <| rkn 56 (decide (Sv.left s - 1 < 0)) false (decide_eq_false asm) ?_
  refine kcf (k_skip_seq (kq ?_))
  refine rlp (List.length ρ1 + 2) 0 _ _ kr kr (g1) rfl <| rn 3 <| runs_len (D.strip (D.strip TR1)) _ kr kr asm <| rn 1 ?_
  refine kD (k_skip_seq (kq ?_))
  refine rlp (List.length ρ1 + 2) 0 _ _ kr kr (g1) rfl <| rlp (List.length (ρ1 ++ [Obj.cells [D.ptr 1 0]]) + 2) 0 _ _ kr kr (g2) rfl <| rcs ([.ptr 1 0, .int .i64 (ix + 1), .int .i64 (-1 : Int)]) kr kr kr kr (c47) ?_
  refine kD (k_skip_seq (kq ?_))
  refine rlp (List.length ρ1 + 2) 0 _ _ kr kr (g12) rfl <| rcs ([.ptr 1 0]) kr kr kr kr (c38) <| rn 1 <| rve (.int .i64 x1.1) (.int IntKind.i64 (2 : Int)) (congrArg (D.int IntKind.i64) (show Prod.fst x1 = 2 from h2')) <| rn 3 ?_
  refine kD (k_skip_seq (kq (kq ?_)))
  refine rn 2 ?_
  refine kD (k_skip_seq (kcf (k_skip_seq (kq ?_))))
  refine rlp (List.length ρ1 + 2) 0 _ _ kr kr (g13) rfl <| rn 1 <| rcs ([.ptr 1 0, .int .i64 (↑(List.length sp.2.2) : Int)]) kr kr kr kr (c45) ?_
  refine kD (k_skip_seq (kq (kq ?_)))
  refine rlp (List.length ρ1 + 2) 0 _ _ kr kr (g13) rfl <| rn 4 <| runs_indexI (Sv.l x1.2.2) (eInts) (o := none) (kd := IntKind.i64) x1.2.1 kr kr kr asm asm kr <| rn 1 <| rlp (List.length (ρ1 ++ [Obj.cells [D.ptr 1 0]]) + 2) 0 _ _ kr kr (g23) rfl <| rvw ((0 : Int) - (ix + 1)) wE <| rca ([.sl (ints (Sv.l x1.2.2)[Int.toNat x1.2.1]) none, .int .i64 ((0 : Int) - (ix + 1))]) kr kr kr kr (c32) kr <| rn 1 ?_
  refine kD (k_skip_seq (kcf (k_skip_seq (kq ?_))))
  refine rlp (List.length ρ1 + 2) 0 _ _ kr kr (g13) rfl <| rlp (List.length (ρ1 ++ [Obj.cells [D.ptr 1 0]]) + 2) 0 _ _ kr kr (g23) rfl <| rvw ((0 : Int) - (ix + 1)) wE <| rcs ([.ptr 1 0, .int .i64 ((0 : Int) - (ix + 1)), .int .i64 (-1 : Int)]) kr kr kr kr (c47b) ?_
  refine kD (k_skip_seq (kq ?_))
  refine rlp (List.length ρ1 + 2) 0 _ _ kr kr (g15) rfl <| rcs ([.ptr 1 0]) kr kr kr kr (c38b) <| rn 1 <| rve (.int .i64 x2.1) (.int IntKind.i64 (2 : Int)) (congrArg (D.int IntKind.i64) (show Prod.fst x2 = 2 from h3')) <| rn 3 ?_
  refine kD (k_skip_seq (kq (kq ?_)))
  refine rn 2 ?_
  refine kD (k_skip_seq (kcf (k_skip_seq (kq ?_))))
  refine rlp (List.length ρ1 + 2) 0 _ _ kr kr (g16) rfl <| rn 1 <| rcs ([.ptr 1 0, .int .i64 (↑(List.length sp.2.2) : Int)]) kr kr kr kr (c45b) ?_
  refine kD (k_skip_seq (kq (kq ?_)))
  refine rlp (List.length ρ1 + 2) 0 _ _ kr kr (g16) rfl <| rn 4 <| runs_indexI (Sv.l x2.2.2) (eInts) (o := none) (kd := IntKind.i64) x2.2.1 kr kr kr asm asm kr <| rn 1 <| rlp (List.length (ρ1 ++ [Obj.cells [D.ptr 1 0]]) + 2) 0 _ _ kr kr (g26) rfl <| rca ([.sl (ints (Sv.l x2.2.2)[Int.toNat x2.2.1]) none, .int .i64 (ix + 1)]) kr kr kr kr (c32b) kr <| rn 1 ?_
  refine kD (k_skip_seq (kcf (k_skip_seq (kq ?_))))
  refine rlp (List.length ρ1 + 2) 0 _ _ kr kr (g16) rfl <| rn 2 <| rlp (List.length (ρ1 ++ [Obj.cells [D.ptr 1 0]]) + 2) 0 _ _ kr kr (g26) rfl <| rcs ([.ptr 1 0, .int .i64 x2.2.1, .int .i64 x1.2.1, .int .i64 (ix + 1)]) kr kr kr kr (c48) <| rn 2 ?_
  refine kD (k_skip_seq (k_ret ?_))
  refine ⟨.inr rfl, .inr ⟨91, [.ptr ((List.length ρ1) + 2) 0, .ptr ((List.length (ρ1 ++ [Obj.cells [D.ptr 1 0]])) + 2) 0, .ptr ((List.length (ρ1 ++ [Obj.cells [D.ptr 1 0]] ++ [Obj.cells [D.int .i64 (ix + 1)]])) + 2) 0], ST ((addR (x2.2.2.back sp.2.2.length) x2.2.1 x1.2.1 (ix + 1)).fin s.t.length (ix + 1)) given N TRf (ρ6 ++ [Obj.cells [D.sl (ints (madeR x2.2.2.l x2.2.1 x1.2.1 (ix + 1))) (some 3)]]), .tup [], kr, kr, c46, .tup [.int .i64 2, .int .i64 (x2.2.2.l.length : Int)], ST ((addR (x2.2.2.back sp.2.2.length) x2.2.1 x1.2.1 (ix + 1)).fin s.t.length (ix + 1)) given N TRf (ρ6 ++ [Obj.cells [D.sl (ints (madeR x2.2.2.l x2.2.1 x1.2.1 (ix + 1))) (some 3)]]), kr, ?_⟩⟩
  rw [← hR]
  refine ⟨rfl, TRf, (ρ6 ++ [Obj.cells [D.sl (ints (madeR x2.2.2.l x2.2.1 x1.2.1 (ix + 1))) (some 3)]]), rfl, hF1.trans (hF06.trans (.app _ _)), ?_⟩
  rcases hBf with ⟨hB, hB2⟩ | hB
  ·refine .inl ⟨?_, hB2⟩
   change (x2.2.2.back sp.2.2.length).t = [] at hB
   rw [hbt, he] at hB
   exact (List.append_eq_nil_iff.1 hB).1
  ·exact .inr hB
end Go.Abs.W
