import Derived.Test.YtnjoledlgacpeaaCopyF
set_option linter.unusedVariables false
set_option linter.unusedSimpArgs false
/-
  A copy of a tree: the walk, whole.
-/
namespace Go.Abs.C
open Go Go.Abs Go.RowKit Go.Sort Go.Proofs Go.Proofs.Ytnjoledlgacpeaa
theorem run18_bba {σ : St} {ot om oh : Nat} {hs : List (D × D)} (ht : σ[ot]? = some (.cells [.map om, .map oh])) (hh : σ[oh]? = some (.map hs)) :
    ∃ fr, runC cloneCal 0 p18_bba (frC (.ptr ot 0) .junk .junk none) σ = some (.normal, fr, σ ++ [.map [], .map hs]) ∧ fr.clear [0, 3, 16] = frC (.ptr ot 0) (.lptr 16 0) .junk (some [.map σ.length, .map (σ.length + 1)]) := by
  have hlt : ot < σ.length := (List.getElem?_eq_some_iff.1 ht).1
  have hlt2 : oh < σ.length := (List.getElem?_eq_some_iff.1 hh).1
  have ht' : (σ ++ [Go.Abs.Obj.map []])[ot]? = some (.cells [.map om, .map oh]) := by rw [List.getElem?_append_left hlt]; exact ht
  have hh' : (σ ++ [Go.Abs.Obj.map []])[oh]? = some (.map hs) := by rw [List.getElem?_append_left hlt2]; exact hh
  have hc : cloneCal 31 [.map oh] (σ ++ [Go.Abs.Obj.map []]) = some (.map (σ.length + 1), σ ++ [.map [], .map hs]) := by
    simp [cloneCal, cloneM, hh']
  refine ⟨_, by simp [ht', hc, doCall, pureArg, D.pure1, D.deep, D.bare, Fr.promoteAll, Fr.promoteX, p18_bba, frC, fillD, setAt, D.cells, D.raw, D.ripe, Fr.newBox, Fr.boxAt, Fr.setBox, D.notL, runC, runOps, runOp, wantedD, evalOp, Fr.val, Fr.at, Fr.put, Fr.set, Fr.take, cellsAt, D.strip, D.plain]; rfl, ?_⟩
  rfl
theorem run18_4 {σ : St} {ot om : Nat} {cs : List D} {b : Option (List D)} (h : σ[ot]? = some (.cells (.map om :: cs))) :
    runOps noCal false c18_4 (frC (.ptr ot 0) (.lptr 16 0) .junk b) σ = some (((((frC (.ptr ot 0) (.lptr 16 0) .junk b).put (some 17) (.ptr ot 0)).put (some 18) (.ptr ot 0)).put (some 19) (.ptr ot 0)).put (some 20) (.map om), σ) := by
  simp [c18_4, frC, runOps, runOp, wantedD, evalOp, Fr.val, Fr.at, Fr.put, Fr.set, cellsAt, D.strip, h]
theorem copy_nil {g : Gh} {w : World} {σ : St} (hi : HInv Try.prog g w σ) (hbase : g.base = []) {v0 : Value} (hr : Rep g v0 .nilp) :
    Calls Try.prog 18 #[v0] w (fun e w' => ∃ v, e = .returned v ∧ Gives Try.prog g w w' σ v .nilp) := by
  refine (callsIn_wide (n := 0)).1 (callsIn_of_wp Try.func18 body18 trivial ?_ rfl)
  rw [nt18]
  have hra : AllRep (Rep g) (#[v0] : Array Value).toList [D.nilp] := ⟨rfl, fun i v d h1 h2 => by
    cases i with
    | zero => simp at h1 h2; subst h1 h2; exact hr
    | succ i => simp at h2⟩
  have i0 := enter_inv (m := ⟨1, 36, [], .skip⟩) (nt := 36) rfl hi hbase hra rfl rfl (show (1 : Nat) ≤ 36 by decide)
  rw [show enterFr ⟨1, 36, [], .skip⟩ [D.nilp] = frC .nilp .junk .junk none from rfl] at i0
  refine wpIn_seq (wide_code hmix noCal_ok noCal_in comp18_a 0 (ae := .normal) (fr' := _) (σ' := σ) rfl i0 (fun a1 w1 g1 e1 i1 => ?_))
  refine wpIn_seq (wide_code hmix noCal_ok noCal_in comp18_ba 0 (ae := .ret) (fr' := _) (σ' := σ) rfl i1 (fun a2 w2 g2 e2 i2 => ?_))
  obtain ⟨v, r1, g3, e3, r3⟩ := results_ok i2 rs18 (d := .nilp) (σ' := σ) rfl
  exact ⟨defers_nil i2 (e2.base.trans (e1.base.trans hbase)) rfl, v, r1, v, rfl, g3, (e1.trans e2).trans e3, r3⟩
theorem nodeAt_app {σ : St} {d : D} {n : NodeR} (h : nodeAt σ d = some n) (ρ : St) : nodeAt (σ ++ ρ) d = some n := by
  obtain ⟨o, rfl, ho⟩ := nodeAt_some h
  have hlt : o < σ.length := (List.getElem?_eq_some_iff.1 ho).1
  simp only [nodeAt]
  rw [List.getElem?_append_left hlt, ho]
  rfl
theorem nodesX_app {σ : St} (ρ : St) : ∀ {es : List (D × D)} {cs}, nodesX σ es = some cs → nodesX (σ ++ ρ) es = some cs
  | [], cs, h => h
  | e :: es, cs, h => by
    simp only [nodesX] at h ⊢
    split at h <;> first | (cases h; done) | skip
    rename_i s n ns h0 h1 h2
    cases h
    rw [h0, nodeAt_app h1 ρ, nodesX_app ρ h2]
theorem rep_node2 {g : Gh} {w : World} {nb : Nat} {n : NodeR} (h : ∀ (j : Nat) (u : Value), n.vals[j]? = some u → w.cell? ⟨nb, j, none⟩ = some u) (hI : ∀ (off : Nat) (u : Value), w.cell? ⟨nb, off, none⟩ = some u → g.I nb off = some u) : Rep g (.pointer (some ⟨nb, 0, none⟩)) (.ref n.cells) := by
  refine .ref nb 0 n.cells (fun i => (n.vals[i]?).getD .nilFunc) (fun i d hd => ?_) (fun i d hd => ?_) rfl
  · rw [Nat.zero_add]
    match i, hd with
    | 0, _ => exact hI _ _ (h 0 _ rfl)
    | 1, _ => exact hI _ _ (h 1 _ rfl)
    | 2, _ => exact hI _ _ (h 2 _ rfl)
    | 3, _ => exact hI _ _ (h 3 _ rfl)
    | k + 4, hd => simp [NodeR.cells] at hd
  · match i, hd with
    | 0, hd => simp [NodeR.cells] at hd; subst hd; exact rep_strV _
    | 1, hd => simp [NodeR.cells] at hd; subst hd; exact rep_strV _
    | 2, hd => simp [NodeR.cells] at hd; subst hd; exact .int _ _
    | 3, hd => simp [NodeR.cells] at hd; subst hd; exact .int _ _
    | k + 4, hd => simp [NodeR.cells] at hd
/-- From here on whatever lies in memory stays as it is, but for the new map, the new tree and the iterator. -/
def Gh.calmC (w : World) (r N H B : Nat) : Gh :=
  { I := fun b off => if b = r ∨ b = B then none else w.cell? ⟨b, off, none⟩
    n := 2
    μ := fun o => if o = 0 then N else H
    sz := fun _ => 0
    β := fun _ => B
    ω := fun b => if b = N then .obj 0 else if b = B then .box 16 else .other
    base := [] }
theorem copy_main {g : Gh} {w : World} {σ : St} (hi : HInv Try.prog g w σ) (hbase : g.base = []) {v0 : Value} {ot om oh : Nat} {es hs : List (D × D)} {cs : List (List UInt8 × NodeR)} (hr : Rep g v0 (.ptr ot 0)) (ht : σ[ot]? = some (.cells [.map om, .map oh])) (hm : σ[om]? = some (.map es)) (hh : σ[oh]? = some (.map hs)) (hcs : nodesX σ es = some cs) (hnd : (cs.map (·.1)).Nodup) :
    Calls Try.prog 18 #[v0] w (fun e w' => ∃ v, e = .returned v ∧ Gives Try.prog g w w' (σ ++ ([.map (newL (σ.length + 2) cs), .map hs] ++ (cs.map (fun p => Go.Abs.Obj.cells p.2.cells) ++ [.cells [.map σ.length, .map (σ.length + 1)]]))) v (.ptr (σ.length + 2 + cs.length) 0)) := by
  have hotlt : ot < σ.length := (List.getElem?_eq_some_iff.1 ht).1
  have homlt : om < σ.length := (List.getElem?_eq_some_iff.1 hm).1
  refine (callsIn_wide (n := 0)).1 (callsIn_of_wp Try.func18 body18 trivial ?_ rfl)
  rw [nt18]
  have hra : AllRep (Rep g) (#[v0] : Array Value).toList [D.ptr ot 0] := ⟨rfl, fun i v d h1 h2 => by
    cases i with
    | zero => simp at h1 h2; subst h1 h2; exact hr
    | succ i => simp at h2⟩
  have i0 := enter_inv (m := ⟨1, 36, [], .skip⟩) (nt := 36) rfl hi hbase hra rfl rfl (show (1 : Nat) ≤ 36 by decide)
  rw [show enterFr ⟨1, 36, [], .skip⟩ [D.ptr ot 0] = frC (.ptr ot 0) .junk .junk none from rfl] at i0
  refine wpIn_seq (wide_code hmix noCal_ok noCal_in comp18_a 0 (ae := .normal) (fr' := _) (σ' := σ) rfl i0 (fun a1 w1 g1 e1 i1 => ?_))
  refine wpIn_seq (wide_code hmix noCal_ok noCal_in comp18_ba 0 (ae := .normal) (fr' := _) (σ' := σ) rfl i1 (fun a2 w2 g2 e2 i2 => ?_))
  replace i2 := i2.clear [0]
  change Inv Try.prog g2 w2 (frC (.ptr ot 0) .junk .junk none) σ a2 at i2
  obtain ⟨fr3, hr3, hc3⟩ := run18_bba ht hh
  refine wpIn_seq (wide_code hmix cloneCal_ok cloneCal_in comp18_bba 0 hr3 i2 (fun a3 w3 g3 e3 i3 => ?_))
  replace i3 := i3.clear [0, 3, 16]
  rw [hc3] at i3
  refine wpIn_seq (wpIn_seq (wpIn_region_list ?_))
  rw [ops18_4]
  refine wide_pre (q := false) noCal_ok noCal_in _ _ (noDefer_of (by kernel_rfl : noDefer #[opAt R18 0, opAt R18 1, opAt R18 2, opAt R18 3] = true)) comp18_4 (run18_4 (by rw [List.getElem?_append_left hotlt]; exact ht)) i3 (fun a4 w4 g4 e4 i4 => ?_)
  have hm4 : (σ ++ [Go.Abs.Obj.map [], .map hs])[om]? = some (.map es) := by rw [List.getElem?_append_left homlt]; exact hm
  obtain ⟨hω, ents, clock, hbm, ⟨es1, hpm, _, hmr⟩, hborn⟩ := i4.h.maps om es hm4
  obtain ⟨hωN, entsN, clkN, hbN, hmN, hbornN⟩ := i4.h.maps σ.length [] (by simp)
  obtain ⟨hωH, _⟩ := i4.h.maps (σ.length + 1) hs (by simp)
  have hentsN : entsN.toList = [] := List.eq_nil_of_length_eq_zero (by have := hmN.len; simpa using this)
  obtain ⟨hωB, szB, arrB, tyB, hB1, hB2, hB3, hB4⟩ := i4.s.boxes 16 _ rfl
  have v20 : a4.eval (.tmp 20) = .map (some (g4.μ om)) := by
    have := (slot_eval i4 (t := 20) (d := .map om) rfl).1
    generalize a4.eval (.tmp 20) = v at this
    cases this
    rfl
  refine wide_value (w' := w4.alloc (.mapIter (some (g4.μ om)) clock #[] clock)) (v := .pointer (some ⟨w4.heap.size, 0, none⟩)) op18_4.2.1 (by simp only [execOp, op18_4.1, v20, Sem.run_bind, run_range_map w4 62 9 66 (g4.μ om) ents clock und62 hbm, Result.andThen]; rfl) ?_
  rw [op18_4.2.2]
  unfold wpListIn
  have hbmlt := lt_of_heap hbm
  have hbNlt := lt_of_heap hbN
  have hBlt := lt_of_heap hB1
  have hbase4 : g4.base = [] := e4.base.trans (e3.base.trans (e2.base.trans (e1.base.trans hbase)))
  have hsz4 : a4.tmps.size = 36 := i4.s.size
  obtain ⟨cs1, hcs1, hcp⟩ := nodesX_perm hpm (nodesX_app [Go.Abs.Obj.map [], .map hs] hcs)
  obtain ⟨zs, hz1, hz2, hzW⟩ := pairs18 hmr hcs1
  have hzl : zs.length = cs.length := by rw [hcp.length_eq, ← hz2]; simp
  let r := w4.heap.size
  let w5 := w4.alloc (.mapIter (some (g4.μ om)) clock #[] clock)
  let a5 := a4.put (some 21) (.pointer (some ⟨r, 0, none⟩))
  let N := g4.μ σ.length
  let H := g4.μ (σ.length + 1)
  let B := g4.β 16
  let gL : Gh := Gh.calmC w5 r N H B
  have h5r : w5.heap[r]? = some (.mapIter (some (g4.μ om)) clock #[] clock) := heap_new w4 _
  have hNB : N ≠ B := fun e => by
    have : g4.ω N = .box 16 := by rw [e]; exact hωB
    rw [hωN] at this
    cases this
  have hmN' : g4.μ om ≠ N := fun e => by
    have : g4.ω (g4.μ om) = .obj σ.length := by rw [e]; exact hωN
    rw [hω] at this
    cases this
    omega
  have hmB : g4.μ om ≠ B := fun e => by
    have : g4.ω (g4.μ om) = .box 16 := by rw [e]; exact hωB
    rw [hω] at this
    cases this
  have hωL : ∀ b, b ≠ N → b ≠ B → gL.ω b = .other := by
    intro b h1 h2
    show (if b = N then Tag.obj 0 else if b = B then .box 16 else .other) = _
    rw [if_neg h1, if_neg h2]
  have i5 : Inv Try.prog gL w5 (frC .junk (.lptr 16 0) (.val (.pointer (some ⟨r, 0, none⟩))) bxC) (stL []) a5 := by
    obtain ⟨v3, k1, k2, _⟩ := i4.s.slots 3 (.lptr 16 0) rfl
    obtain ⟨v16, m1, m2, _⟩ := i4.s.slots 16 (.lptr 16 0) rfl
    have hv3 : v3 = .pointer (some ⟨B, 0, none⟩) := by cases k2; rfl
    have hv16 : v16 = .pointer (some ⟨B, 0, none⟩) := by cases m2; rfl
    refine ⟨⟨fun b off v h => ?_, rfl, fun o cl h => ?_, fun o e h => ?_, fun o e cl h1 h2 => ?_⟩, sinv18 (v3 := v3) (v16 := v16) (by rw [size_put]; exact hsz4) (by simp [a5, Act.put, k1]) ?_ (by simp [a5, Act.put, m1]) ?_ (by simp [a5, Act.put, hsz4]) ⟨?_, szB, arrB, tyB, (heap_old w4 _ hBlt).trans hB1, hB2, fun off => ?_, fun j d hd => ?_⟩, ?_⟩
    · have h' : (if b = r ∨ b = B then none else w5.cell? ⟨b, off, none⟩) = some v := h
      split at h'
      · cases h'
      · exact h'
    · match o, h with
      | 0, h => cases h
      | 1, h => cases h
      | o + 2, h => simp [stL] at h
    · match o, h with
      | 0, h =>
        have : e = [] := by simpa [stL, newL] using h.symm
        subst this
        refine ⟨by show (if N = N then Tag.obj 0 else _) = _; rw [if_pos rfl], entsN, clkN, (heap_old w4 _ hbNlt).trans hbN, ⟨[], .refl _, .nil, by rw [hentsN]; rfl, fun i x kd h1 h2 => by simp at h2⟩, hbornN⟩
      | 1, h => cases h
      | o + 2, h => simp [stL] at h
    · match o, h1 with
      | 0, h1 => cases h1
      | 1, h1 => cases h1
      | o + 2, h1 => simp [stL] at h1
    · rw [hv3]
      exact .lptr 16 0
    · rw [hv16]
      exact .lptr 16 0
    · show (if B = N then Tag.obj 0 else if B = B then .box 16 else .other) = _
      rw [if_neg (fun e => hNB e.symm), if_pos rfl]
    · show (if B = r ∨ B = B then none else _) = none
      rw [if_pos (.inr rfl)]
    · match j, hd with
      | 0, hd =>
        simp at hd
        subst hd
        obtain ⟨_, v, q1, q2, _⟩ := hB4 0 _ rfl
        have : v = .map (some N) := by cases q2; rfl
        subst this
        exact ⟨rfl, _, q1, .map (g := gL) 0 (by show 0 < 2; omega), .of_ne rfl⟩
      | 1, hd =>
        simp at hd
        subst hd
        obtain ⟨_, v, q1, q2, _⟩ := hB4 1 _ rfl
        have : v = .map (some H) := by cases q2; rfl
        subst this
        exact ⟨rfl, _, q1, .map (g := gL) 1 (by show 1 < 2; omega), .of_ne rfl⟩
      | j + 2, hd => simp at hd
    · have hd4 : a4.defers = [] := defers_nil i4 hbase4 rfl
      exact ⟨[], by show a4.defers = [] ++ gL.base; rw [hd4]; rfl, rfl, fun k x y h => by simp at h⟩
  have hR0 : ∀ p ∈ zs, Rep gL p.1.val (.ref p.2.2.cells) := by
    intro p hp
    obtain ⟨_, o, q1, q2⟩ := hzW p hp
    have hval : p.1.val = .pointer (some ⟨g4.μ o, 0, none⟩) := by
      generalize p.1.val = v at q1
      cases q1
      rfl
    have hat : nodeAt (σ ++ [Go.Abs.Obj.map [], .map hs]) (.ptr o 0) = some p.2.2 := by
      simp only [nodeAt, q2, NodeR.cells]
    obtain ⟨nb, e1, e2⟩ := node_w i4.h hat q1
    rw [hval] at e1
    cases e1
    obtain ⟨hωo, _⟩ := i4.h.cells o _ q2
    rw [hval]
    refine rep_node2 (w := w4) e2 (fun off u hu => ?_)
    have hlt : g4.μ o < w4.heap.size := by
      unfold World.cell? at hu
      simp only at hu
      cases hb : w4.heap[g4.μ o]? with
      | none => rw [hb] at hu; cases hu
      | some ob => exact lt_of_heap hb
    show (if g4.μ o = r ∨ g4.μ o = B then none else w5.cell? ⟨g4.μ o, off, none⟩) = some u
    rw [if_neg]
    · rw [World.cell?_alloc_lt]
      · exact hu
      · exact hlt
    · rintro (h | h)
      · exact Nat.ne_of_lt hlt h
      · have : g4.ω (g4.μ o) = .box 16 := by rw [h]; exact hωB
        rw [hωo] at this
        cases this
  have hndz : (zs.map (·.2.1)).Nodup := by
    have h1 : (cs1.map (·.1)).Nodup := (hcp.map (·.1)).nodup_iff.1 hnd
    rw [← hz2, List.map_map] at h1
    exact h1
  refine wpIn_block (wpIn_loop_rounds (cs.length + 1) (loop18 (gL := gL) (wz := w5) (r := r) (bm := g4.μ om) (ents := ents) (clock := clock) (zs := zs) hz1 hborn (fun p hp => (hzW p hp).1) hndz hR0 ((heap_old w4 _ hbmlt).trans hbm) (Nat.ne_of_lt hbmlt) (hωL _ hmN' hmB) ?_ (cs.length + 1) (vz := []) (lz := zs) (seen := #[]) (by omega) (by simp) rfl
    (ExtBut.refl' _ _) i5 ⟨⟨clock, Nat.le_refl _, h5r⟩, hωL _ (fun e => Nat.ne_of_lt hbNlt e.symm) (fun e => Nat.ne_of_lt hBlt e.symm)⟩))
  intro A W gk vz hp eX iX
  have goal : T18.wpIn Fence.wide 0 Try.prog (bodyPost Try.prog Try.f18 (fun e w' => ∃ v, e = .returned v ∧ Gives Try.prog g w w' (σ ++ ([.map (newL (σ.length + 2) cs), .map hs] ++ (cs.map (fun p => Go.Abs.Obj.cells p.2.cells) ++ [.cells [.map σ.length, .map (σ.length + 1)]]))) v (.ptr (σ.length + 2 + cs.length) 0))) A W := by
    refine wide_code hmix noCal_ok noCal_in comp18_tail 0 (ae := .ret) (fr' := _) (σ' := stL (vz.map (·.2))) rfl iX (fun a7 w7 g7 e7 i7 => ?_)
    obtain ⟨u, r1, g8, e8, h8, r8, _, _⟩ := results_ok i7 rs18 (d := .ptr (stL (vz.map (·.2))).length 0) (σ' := stL (vz.map (·.2)) ++ [.cells [.map 0, .map 1]]) rfl
    have hle : gL.Le g8 := (eX.le.trans e7.le).trans e8.le
    have hs45 : w4.heap.size ≤ w5.heap.size := by show _ ≤ (w4.alloc _).heap.size; simp
    have h57 : w5.heap.size ≤ w7.heap.size := Nat.le_trans eX.size e7.size
    have hold : ∀ b, b < w4.heap.size → b ≠ N → b ≠ B → w7.heap[b]? = w4.heap[b]? ∧ g8.ω b = .other := by
      intro b h1 h2 h3
      obtain ⟨k1, k2⟩ := eX.blk b (Nat.lt_of_lt_of_le h1 hs45) (by rw [hωL b h2 h3]; rfl)
      rw [hωL b h2 h3] at k2
      obtain ⟨k3, k4⟩ := e7.blk b (Nat.lt_of_lt_of_le (Nat.lt_of_lt_of_le h1 hs45) eX.size) (by rw [k2]; rfl)
      rw [k2] at k4
      obtain ⟨_, k6⟩ := e8.blk b (Nat.lt_of_lt_of_le (Nat.lt_of_lt_of_le h1 hs45) h57) (by rw [k4]; rfl)
      exact ⟨(k3.trans (k1 (Nat.ne_of_lt h1))).trans (heap_old w4 _ h1), k6.trans k4⟩
    have hI8 : ∀ b off, b < w4.heap.size → b ≠ B → g8.I b off = none → w4.cell? ⟨b, off, none⟩ = none := by
      intro b off h1 h2 h3
      cases hc : w4.cell? ⟨b, off, none⟩ with
      | none => rfl
      | some v =>
        have h4 : gL.I b off = some v := by
          show (if b = r ∨ b = B then none else w5.cell? ⟨b, off, none⟩) = some v
          rw [if_neg (by rintro (h | h); exact Nat.ne_of_lt h1 h; exact h2 h), World.cell?_alloc_lt]
          · exact hc
          · exact h1
        rw [hle.I _ _ _ h4] at h3
        cases h3
    have hpc : (vz.map (·.2)).Perm cs := by
      refine ((hp.symm.map (·.2)).trans ?_).trans hcp.symm
      rw [hz2]
    obtain ⟨g', E, h9, h10⟩ := adopt (g4 := g4) (g8 := g8) (w4 := w4) (w7 := w7) (σ := σ) (hs := hs) (vs := vz.map (·.2)) (cs := cs) (B := B) i4.h h8 (hle.μ 0 (by show 0 < 2; omega)) (hle.μ 1 (by show 1 < 2; omega)) hωB hB3 (Nat.le_trans hs45 h57) hold hI8 hbase4 hpc hnd (e7.os.trans eX.os) (e7.tape.trans eX.tape) (e7.output.trans eX.output)
    refine ⟨defers_nil i7 (e7.base.trans eX.base) rfl, u, r1, u, rfl, g', ((((e1.trans e2).trans e3).trans e4).trans E), h9, h10 u ?_, rfl, .of_ne rfl⟩
    rw [stL_len] at r8
    exact r8
  exact goal
theorem good18 : GoodT Try.prog 18 m18 := by
  refine good_toldS Try.func18 body18 (fun ds σ d σ' h => ?_)
  unfold copyF at h
  split at h
  · cases h
    refine ⟨rfl, rfl, fun g w vals hi _ hr hbase => ?_⟩
    obtain ⟨v, rfl, hv⟩ := vals_one hr
    exact copy_nil hi hbase hv
  · rename_i ot
    split at h <;> first | (cases h; done) | skip
    rename_i om oh ht
    split at h <;> first | (cases h; done) | skip
    rename_i es hs hm hh
    split at h <;> first | (cases h; done) | skip
    rename_i cs hcs
    split at h <;> first | (cases h; done) | skip
    rename_i hnd
    cases h
    refine ⟨rfl, rfl, fun g w vals hi _ hr hbase => ?_⟩
    obtain ⟨v, rfl, hv⟩ := vals_one hr
    exact copy_main hi hbase hv ht hm hh hcs hnd
  · cases h
end Go.Abs.C
