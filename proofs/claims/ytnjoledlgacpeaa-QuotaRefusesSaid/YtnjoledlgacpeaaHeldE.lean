import Derived.Test.YtnjoledlgacpeaaHeldC
import Derived.WalkKit
set_option linter.unusedVariables false
set_option linter.unusedSimpArgs false
/-
  What is held: it is handed out, and appended.
-/
namespace Go.Abs.C
open Go Go.Abs Go.RowKit Go.Sort Go.Proofs Go.Proofs.Ytnjoledlgacpeaa

theorem exec_load1 {P : Program} {o : Oper} {a : Act} {w : World} {t : TypeId} {x : Operand} {b off : Nat} {u : Value} (hop : o.op = .load t x) (hagg : isAggT P t = some false) (hx : a.eval x = .pointer (some ⟨b, off, none⟩)) (h : w.cell? ⟨b, off, none⟩ = some u) : (execOp a.eval o).run P w = .ok (.value u) w := by
  simp only [execOp, hop, hx]
  refine run_vmap ?_
  unfold Instr.loadAt
  rw [run_bo (show (Instr.sureAddr (Value.pointer (some ⟨b, off, none⟩))).run P w = .ok ⟨b, off, none⟩ w from rfl)]
  exact load1_run hagg h
theorem exec_box {P : Program} {o : Oper} {a : Act} {w : World} {t : TypeId} {x : Operand} (hop : o.op = .box t x) : (execOp a.eval o).run P w = .ok (.value (.pointer (some ⟨w.heap.size, 0, none⟩))) (w.alloc (.cells (a.eval x).cells t)) := by
  simp only [execOp, hop]
  exact run_vmap' rfl
theorem agg63 : isAggT Try.prog 63 = some false := by kernel_rfl
theorem agg41 : isAggT Try.prog 41 = some false := by kernel_rfl
theorem nt44 : Try.f44.ntmps = 15 := by kernel_rfl
theorem rs44 : Try.f44.results = #[] := by kernel_rfl
theorem nt60 : Try.f60.ntmps = 13 := by kernel_rfl
theorem rs60 : Try.f60.results = #[.tmp 4] := by kernel_rfl
theorem ent44 : Enters Try.prog 44 := ⟨Try.f44, Try.f44.body.getD .skip, Try.func44, by kernel_rfl, by kernel_rfl⟩
def fr44x (y pm : Value) : Fr := ⟨[.val y, .val pm, .junk, .junk, .junk, .junk, .junk, .junk, .junk, .junk, .junk, .junk, .junk, .junk, .junk], [none, none, none, none, none, none, none, none, none, none, none, none, none, none, none], []⟩
theorem call44 {fc : Value} {l : Nat} {r : Loop} (hst : r.state = .ready) (hpe : r.pending = none) (hpp : r.params = #[7]) (ha : CodeR Try.prog r.assign p60_babki) (hb : CodeR Try.prog r.body p60_babkj)
    {g : Gh} {w : World} {pb bm : Nat} {ents : Array MapEntry} {clock : Nat} {zs : List (MapEntry × HeldR)} (hz : zs.map (·.1) = ents.toList) (hborn : Born ents clock) (hW : ∀ p ∈ zs, p.1.val = .agg p.2.vals.toArray) (hlen : zs.length < 1000000)
    (hpb : w.cell? ⟨pb, 0, none⟩ = some (.map (some bm))) (hbm : w.heap[bm]? = some (.map ents clock)) (hω : g.ω bm = .other) (hC : Rec Try.prog g w l r (fr60 fc)) (hi : HInv Try.prog g w (rowS [])) :
    CallsIn Fence.wide 0 Try.prog 44 (#[.func (.yield l) #[] #[]] ++ #[.pointer (some ⟨pb, 0, none⟩)]) w (fun e w2 => (∃ v, e = .returned v) ∧ ∃ g2 ae σ2, ExtBut (fun b => b = l) g w g2 w2 ∧ HInv Try.prog g2 w2 σ2 ∧ w2.heap[l]? = some (.loop (leftL r ae)) ∧ (ae = .normal ∧ ∃ vz : List (MapEntry × HeldR), zs.Perm vz ∧ σ2 = rowS (vz.map (·.2.cells)))) := by
  have hbase := hC.base
  have hra : AllRep (Rep g) (#[Value.func (.yield l) #[] #[]] ++ #[Value.pointer (some ⟨pb, 0, none⟩)]).toList [.val (.func (.yield l) #[] #[]), .val (.pointer (some ⟨pb, 0, none⟩))] := by
    refine ⟨rfl, fun i v d h1 h2 => ?_⟩
    match i, h1, h2 with
    | 0, h1, h2 => simp at h1 h2; subst h1 h2; exact .val _
    | 1, h1, h2 => simp at h1 h2; subst h1 h2; exact .val _
    | k + 2, h1, h2 => simp at h2
  have i0 := enter_inv (m := ⟨2, 15, [], .skip⟩) (nt := 15) rfl hi hbase hra rfl rfl (show (2 : Nat) ≤ 15 by decide)
  change Inv Try.prog g w (fr44x (.func (.yield l) #[] #[]) (.pointer (some ⟨pb, 0, none⟩))) (rowS []) _ at i0
  refine callsIn_of_wp (fn := Try.f44) Try.func44 body44 trivial ?_ rfl
  rw [nt44]
  generalize ha0 : ({ tmps := #[Value.func (.yield l) #[] #[]] ++ #[Value.pointer (some ⟨pb, 0, none⟩)] ++ Array.replicate (15 - (#[Value.func (.yield l) #[] #[]] ++ #[Value.pointer (some ⟨pb, 0, none⟩)]).size) undef, defers := [] } : Act) = a0 at i0 ⊢
  have v1 : a0.eval (.tmp 1) = .pointer (some ⟨pb, 0, none⟩) := (eval_slot i0 (t := 1) rfl).2
  refine wpIn_seq (wpIn_region_list ?_)
  rw [ops44_0]
  refine wide_value (w' := w) (v := .map (some bm)) op44_00.2.1 (exec_load1 op44_00.1 agg63 v1 hpb) ?_
  rw [op44_00.2.2]
  have i1 := i0.put (some 5) (d := .val (.map (some bm))) (.val _) (fun _ _ => .of_ne rfl) (fun s off e => by cases e)
  have v5 : (a0.put (some 5) (.map (some bm))).eval (.tmp 5) = .map (some bm) := (eval_slot i1 (t := 5) rfl).2
  refine wide_value (w' := w.alloc (.mapIter (some bm) clock #[] clock)) (v := .pointer (some ⟨w.heap.size, 0, none⟩)) op44_0.2.1 (by simp only [execOp, op44_0.1, v5, Sem.run_bind, run_range_map w 63 9 44 bm ents clock und63 hbm, Result.andThen]; rfl) ?_
  rw [op44_0.2.2]
  unfold wpListIn
  have hbmlt := lt_of_heap hbm
  have i2 := (i1.alloc (.mapIter (some bm) clock #[] clock) .other).put (some 6) (d := .val (.pointer (some ⟨w.heap.size, 0, none⟩))) (.val _) (fun _ _ => .of_ne rfl) (fun s off e => by cases e)
  have i3 := i2.clear [0, 1, 6]
  have e1 : Ext g w (g.tagAt w.heap.size .other) (w.alloc (.mapIter (some bm) clock #[] clock)) := Ext.alloc g w _ .other
  have hl : l < w.heap.size := (Array.getElem?_eq_some_iff.1 hC.at_).1
  have hbl : bm ≠ l := by
    rintro rfl
    rw [hC.at_] at hbm
    cases hbm
  have hC1 := hC.later rfl e1
  have hR1 : RangeAt (w.alloc (.mapIter (some bm) clock #[] clock)) (g.tagAt w.heap.size .other) w.heap.size bm clock #[] := ⟨⟨clock, Nat.le_refl _, heap_new w _⟩, by simp [Gh.tagAt]⟩
  refine wpIn_block (wpIn_loop_rounds (zs.length + 1) (loop44 (fc := fc) (g0 := g.tagAt w.heap.size .other) (wz := w.alloc (.mapIter (some bm) clock #[] clock)) (pm := .pointer (some ⟨pb, 0, none⟩)) (it := w.heap.size) (bm := bm) (ents := ents) (clock := clock) (zs := zs) hst hpe hpp ha hb hz hborn hW hlen ((heap_old w _ hbmlt).trans hbm) (by simp [Gh.tagAt, hω]) (Nat.ne_of_lt hbmlt) hbl (Nat.ne_of_lt hl) ?_ (zs.length + 1) (vz := []) (lz := zs) (seen := #[]) (by omega) (by simp) rfl (ExtBut.refl' _ _) i3 hR1 hC1))
  intro A W gk vz hp eX hX hlX hd
  have fin : bodyPost Try.prog Try.f44 (fun e w2 => (∃ v, e = .returned v) ∧ ∃ g2 ae σ2, ExtBut (fun b => b = l) g w g2 w2 ∧ HInv Try.prog g2 w2 σ2 ∧ w2.heap[l]? = some (.loop (leftL r ae)) ∧ (ae = .normal ∧ ∃ vz : List (MapEntry × HeldR), zs.Perm vz ∧ σ2 = rowS (vz.map (·.2.cells)))) .ret A W := by
    refine ⟨hd, .tuple #[], by simp [results, rs44], ⟨_, rfl⟩, gk, .normal, _, ?_, hX, by rw [leftL_normal hst hpe]; exact hlX, rfl, vz, hp, rfl⟩
    have e2 := (e1.but (X := fun b => b = l ∨ b = w.heap.size)).trans eX
    refine ⟨e2.le, e2.os, e2.tape, e2.output, e2.size, fun b hb hm => ?_, e2.new, e2.base⟩
    obtain ⟨k1, k2⟩ := e2.blk b hb hm
    exact ⟨fun hne => k1 (by rintro (h | h); exact hne h; omega), k2⟩
  exact fin
end Go.Abs.C

/-
  What is held: appended to a row, in whatever order.
-/
namespace Go.Abs.C
open Go Go.Abs Go.RowKit Go.Sort Go.Proofs Go.Proofs.Ytnjoledlgacpeaa

/-- A new row. -/
structure RowAt (w w' : World) (v : Value) (l : List HeldR) : Prop where
  size : w.heap.size ≤ w'.heap.size
  old : ∀ b, b < w.heap.size → w'.heap[b]? = w.heap[b]?
  os : w'.os = w.os
  tape : w'.tape = w.tape
  output : w'.output = w.output
  row : (l = [] ∧ ∃ p cap, v = .slice p 0 cap ∧ (p = none → cap = 0)) ∨ (l ≠ [] ∧ ∃ gb cap, v = .slice (some ⟨gb, 0, none⟩) l.toArray.size cap ∧ l.length ≤ cap ∧ w.heap.size ≤ gb ∧ gb < w'.heap.size ∧ HoldsK HeldR.vals 3 w' gb 0 l.toArray)

/-- One box, new; all else stays. -/
def gBox (w : World) : Gh := { I := fun b off => if b < w.heap.size then w.cell? ⟨b, off, none⟩ else none, n := 1, μ := fun _ => w.heap.size, sz := fun _ => 1, β := fun _ => 0, ω := fun b => if b = w.heap.size then .obj 0 else .other }
theorem hinv_box (w : World) : HInv Try.prog (gBox w) (w.alloc (.cells #[.slice none 0 0] 41)) (rowS []) := by
  refine ⟨fun b off v h => ?_, rfl, fun o cs h => ?_, fun o es h => ?_, fun o e cs h h' => ?_⟩
  · simp only [gBox] at h
    split at h
    · rename_i hb
      rw [World.cell?_alloc_lt]
      · exact h
      · exact hb
    · cases h
  · match o, h with
    | 0, h =>
      simp only [rowS, List.getElem?_cons_zero, Option.some.injEq, Obj.cells.injEq] at h
      subst h
      refine ⟨by simp [gBox], #[.slice none 0 0], 41, heap_new w _, rfl, fun off => by simp [gBox], fun j d hd => ?_⟩
      match j, hd with
      | 0, hd =>
        simp only [List.getElem?_cons_zero, Option.some.injEq] at hd
        subst hd
        refine ⟨rfl, .slice none 0 0, rfl, ?_, fun es e hd => ?_⟩
        · exact .sl none 0 0 0 0 0 [] (some 44) (fun _ _ => .nilFunc) rfl (Nat.le_refl _) (fun _ => rfl) (fun h => absurd rfl h) (fun e h => by simp at h) (fun i e j d h => by simp at h) (fun i e j d h => by simp at h)
        · cases hd
          exact .inl ⟨rfl, rfl⟩
      | j + 1, hd => simp at hd
    | o + 1, h => simp [rowS] at h
  · match o, h with
    | 0, h => simp [rowS] at h
    | o + 1, h => simp [rowS] at h
  · simp [rowS] at h'
def fr60x (fc : Value) : Fr := ⟨[.junk, .val fc, .ptr 0 0, .junk, .junk, .junk, .junk, .junk, .junk, .junk, .junk, .junk, .junk], [none, none, none, none, none, none, none, none, none, none, none, none, none], []⟩
theorem sinv60 {g : Gh} {w : World} {tm : Array Value} {fc : Value} (hs : tm.size = 13) (h1 : tm[1]? = some fc) (h2 : tm[2]? = some (.pointer (some ⟨g.μ 0, 0, none⟩))) (hn : 0 < g.n) : SInv Try.prog g w (fr60x fc) tm := by
  refine ⟨hs, rfl, fun t d hd => ?_, fun t cs hb => ?_⟩
  · have hlt : t < 13 := (List.getElem?_eq_some_iff.1 hd).1
    obtain ⟨u, hu⟩ : ∃ u, tm[t]? = some u := ⟨_, Array.getElem?_eq_getElem (by omega)⟩
    by_cases h : t = 1
    · subst h
      have : d = .val fc := by simpa [fr60x] using hd.symm
      subst this
      exact ⟨fc, h1, .val _, .of_ne rfl, fun s off e => by cases e⟩
    · by_cases h' : t = 2
      · subst h'
        have : d = .ptr 0 0 := by simpa [fr60x] using hd.symm
        subst this
        exact ⟨_, h2, .ptr 0 0 hn, .of_ne rfl, fun s off e => by cases e⟩
      · have : d = .junk := by
          have hall : ∀ (t : Nat), t < 13 → t ≠ 1 → t ≠ 2 → (fr60x fc).slots[t]? = some .junk := by
            intro t
            match t with
            | 0 | 3 | 4 | 5 | 6 | 7 | 8 | 9 | 10 | 11 | 12 => intros; rfl
            | 1 => intro _ h _; exact absurd rfl h
            | 2 => intro _ _ h; exact absurd rfl h
            | t + 13 => intro h; omega
          rw [hall t hlt h h'] at hd
          exact (Option.some.inj hd).symm
        subst this
        exact ⟨u, hu, .junk _, .of_ne rfl, fun s off e => by cases e⟩
  · have : (fr60x fc).boxes[t]? ≠ some (some cs) := by
      intro h
      have := List.mem_of_getElem? h
      simp [fr60x] at this
    exact absurd hb this

theorem collect60 {w : World} {pb bm : Nat} {ents : Array MapEntry} {clock : Nat} {zs : List (MapEntry × HeldR)} (hz : zs.map (·.1) = ents.toList) (hborn : Born ents clock) (hW : ∀ p ∈ zs, p.1.val = .agg p.2.vals.toArray) (hlen : zs.length < 1000000)
    (hpb : w.cell? ⟨pb, 0, none⟩ = some (.map (some bm))) (hbm : w.heap[bm]? = some (.map ents clock)) :
    Calls Try.prog 60 #[.slice none 0 0, .func (.func 44) #[] #[.pointer (some ⟨pb, 0, none⟩)]] w (fun e w' => ∃ v l, e = .returned v ∧ (zs.map (·.2)).Perm l ∧ RowAt w w' v l) := by
  let fc : Value := .func (.func 44) #[] #[.pointer (some ⟨pb, 0, none⟩)]
  refine (callsIn_wide (n := 0)).1 (callsIn_of_wp_marks (fn := Try.f60) Try.func60 body60 trivial ?_ rfl)
  rw [nt60]
  have hbmlt := lt_of_heap hbm
  have hpblt : pb < w.heap.size := by
    unfold World.cell? at hpb
    simp only at hpb
    cases h : w.heap[pb]? with
    | none => rw [h] at hpb; cases hpb
    | some ob => exact lt_of_heap h
  generalize ha0 : ({ tmps := #[Value.slice none 0 0, .func (.func 44) #[] #[.pointer (some ⟨pb, 0, none⟩)]] ++ Array.replicate (13 - (#[Value.slice none 0 0, .func (.func 44) #[] #[.pointer (some ⟨pb, 0, none⟩)]] : Array Value).size) undef, defers := [] } : Act) = a0
  have hs0 : a0.tmps.size = 13 := by rw [← ha0]; simp
  have hd0 : a0.defers = [] := by rw [← ha0]
  have v0 : a0.eval (.tmp 0) = .slice none 0 0 := by rw [← ha0]; rfl
  have v1 : a0.tmps[1]? = some fc := by rw [← ha0]; rfl
  refine wpIn_seq (wpIn_region_list ?_)
  rw [ops60_0]
  refine wide_value (w' := w.alloc (.cells #[.slice none 0 0] 41)) (v := .pointer (some ⟨w.heap.size, 0, none⟩)) op60_0.2.1 (by rw [exec_box op60_0.1, v0]; rfl) ?_
  rw [op60_0.2.2]
  refine wide_value (w' := w.alloc (.cells #[.slice none 0 0] 41)) (v := .slice none 0 0) op60_1.2.1 (by simp [execOp, op60_1.1, Act.eval, Sem.run]) ?_
  rw [op60_1.2.2]
  unfold wpListIn
  have i1 : Inv Try.prog (gBox w) (w.alloc (.cells #[.slice none 0 0] 41)) (fr60x fc) (rowS []) ((a0.put (some 2) (.pointer (some ⟨w.heap.size, 0, none⟩))).put (some 4) (.slice none 0 0)) :=
    ⟨hinv_box w, sinv60 (by rw [size_put, size_put]; exact hs0) (by simp [Act.put, v1]) (by simp [Act.put, hs0, gBox]) (Nat.succ_pos 0), [], by show a0.defers = [] ++ []; rw [hd0]; rfl, rfl, fun k x y h => by simp at h⟩
  refine wpIn_seq (wpIn_seq (wide_code hmix noCal_ok noCal_in comp60_baa 0 (ae := .normal) (fr' := fr60 fc) (σ' := rowS []) rfl i1 (fun a3 w3 g3 e3 i3 => wpIn_block ?_)))
  have hv : a3.eval (.tmp 6) = .func (.func 44) #[] #[.pointer (some ⟨pb, 0, none⟩)] := (eval_slot i3 (t := 6) rfl).2
  have old3 : ∀ b, b < w.heap.size → w3.heap[b]? = w.heap[b]? ∧ g3.ω b = .other := fun b hb => by
    have hne : b ≠ w.heap.size := by omega
    obtain ⟨k1, k2⟩ := e3.blk b (by rw [World.size_alloc]; omega) (by simp [gBox, hne, Tag.mine])
    exact ⟨k1.trans (heap_old w _ hb), k2.trans (by simp [gBox, hne])⟩
  refine wpIn_wide.2 (rangeFunc_ok i3 rfl hv ent44 (fun ae σ2 => ae = .normal ∧ ∃ vz : List (MapEntry × HeldR), zs.Perm vz ∧ σ2 = rowS (vz.map (·.2.cells))) ?_ ?_)
  · intro fn g4 w4 l r h1 h2 h3 h4 h5 h6 h7 h8 h9 h10 h11 h12 hsame
    have hs3 : w.heap.size ≤ w3.heap.size := Nat.le_trans (by simp) e3.size
    have old4 : ∀ b, b < w.heap.size → w4.heap[b]? = w.heap[b]? ∧ g4.ω b = .other := fun b hb => by
      obtain ⟨k1, k2⟩ := hsame b (by omega)
      obtain ⟨k3, k4⟩ := old3 b hb
      exact ⟨k1.trans k3, k2.trans k4⟩
    refine call44 (fc := fc) h2 h3 h4 (by rw [h5]; exact codeR_comp hmix _ _ comp60_babki okR60i) (by rw [h6]; exact codeR_comp hmix _ _ comp60_babkj okR60j) hz hborn hW hlen ?_ ((old4 bm hbmlt).1.trans hbm) (old4 bm hbmlt).2 ⟨h8, h9, h10, by rw [h7]; exact i3.s.later rfl h12⟩ h11
    unfold World.cell? at hpb ⊢
    simp only at hpb ⊢
    rw [(old4 pb hpblt).1]
    exact hpb
  · rintro ae σ2 a' w' g' ⟨rfl, vz, hp, rfl⟩ e' i'
    have e1' : ExtM (gBox w) (w.alloc (.cells #[.slice none 0 0] 41)) g' w' := e3.m.trans e'
    have hpv := (slot_eval i' (t := 2) (d := .ptr 0 0) rfl).1
    obtain ⟨hω0, arr, ty, hcell, hasz, hI0, hall⟩ := i'.h.cells 0 _ (show (rowS (vz.map (·.2.cells)))[0]? = some (.cells [.sl (vz.map (·.2.cells)) (some 44)]) from rfl)
    obtain ⟨_, u, hu, hru, hou⟩ := hall 0 _ rfl
    have hv2 : a'.eval (.tmp 2) = .pointer (some ⟨g'.μ 0, 0, none⟩) := by
      generalize a'.eval (.tmp 2) = x at hpv
      cases hpv
      rfl
    have hcell0 : w'.cell? ⟨g'.μ 0, 0, none⟩ = some u := by
      unfold World.cell?
      simp only [hcell]
      simpa using hu
    have goal : (Code.seq (.region (idB (sqA T60)) (opsB (sqA T60)) false) .ret).wpIn Fence.wide 0 Try.prog (bodyPostM Fence.wide 0 Try.prog Try.f60 (fun e w' => ∃ v l, e = .returned v ∧ (zs.map (·.2)).Perm l ∧ RowAt w w' v l)) a' w' := by
      refine wpIn_seq (wpIn_region_list ?_)
      rw [ops60_2]
      refine wide_value (w' := w') (v := u) op60_2.2.1 (exec_load1 op60_2.1 agg41 hv2 hcell0) ?_
      rw [op60_2.2.2]
      have i4 := i'.put (some 12) (d := .val u) (.val _) (fun _ _ => .of_ne rfl) (fun s off e => by cases e)
      have hv12 : (a'.put (some 12) u).eval (.tmp 12) = u := (eval_slot i4 (t := 12) rfl).2
      refine wide_value (w' := w') (v := u) op60_3.2.1 (by simp only [execOp, op60_3.1, hv12]; rfl) ?_
      rw [op60_3.2.2]
      unfold wpListIn
      have i5 := i4.put (some 4) (d := .val u) (.val _) (fun _ _ => .of_ne rfl) (fun s off e => by cases e)
      refine wpIn_ret ?_
      have hM0 : Marks (gBox w) (w.alloc (.cells #[.slice none 0 0] 41)) (w.alloc (.cells #[.slice none 0 0] 41)).heap.size := ⟨(fun d hd => by exact (List.not_mem_nil hd).elim), List.Pairwise.nil⟩
      have hM := e1'.marks _ (Nat.le_refl _) hM0
      have key : LeavesInM Fence.wide 0 Try.prog Try.f60 ((a'.put (some 12) u).put (some 4) u).tmps (fun e w' => ∃ v l, e = .returned v ∧ (zs.map (·.2)).Perm l ∧ RowAt w w' v l) ((a'.put (some 12) u).put (some 4) u).defers .returning w' := by
        rw [defers_base i5 rfl]
        refine leavesM _ i5 hM.1 hM.2 (fun w2 hb2 hs2 ho2 ht2 hu2 i6 => ?_)
        have h4 : ((a'.put (some 12) u).put (some 4) u).tmps[4]? = some u := (eval_slot i5 (t := 4) rfl).1
        refine ⟨u, ?_, u, vz.map (·.2), rfl, hp.map _, ?_⟩
        · have : ((a'.put (some 12) u).put (some 4) u).tmps.getD 4 undef = u := by
            rw [Array.getD_eq_getD_getElem?, h4]
            rfl
          simp [results, rs60]
          simpa using this
        · have hold1 : ∀ b, b < w.heap.size → w'.heap[b]? = w.heap[b]? ∧ g'.ω b = .other := fun b hb => by
            have hne : b ≠ w.heap.size := by omega
            obtain ⟨k1, k2⟩ := e1'.blk b (by rw [World.size_alloc]; omega) (by simp [gBox, hne, Tag.mine])
            exact ⟨k1.trans (heap_old w _ hb), k2.trans (by simp [gBox, hne])⟩
          have hs1 : w.heap.size + 1 ≤ w'.heap.size := by
            have := e1'.size
            rw [World.size_alloc] at this
            exact this
          have hμ : g'.μ 0 = w.heap.size := e1'.le.μ 0 (Nat.succ_pos 0)
          refine ⟨by omega, fun b hb => (hb2 b (by rw [World.size_alloc]; omega)).trans (hold1 b hb).1, ho2.trans e1'.os, ht2.trans e1'.tape, hu2.trans e1'.output, ?_⟩
          -- the row
          obtain ⟨_, arr2, ty2, hcell2, _, _, hall2⟩ := i6.h.cells 0 _ (show (rowS (vz.map (·.2.cells)))[0]? = some (.cells [.sl (vz.map (·.2.cells)) (some 44)]) from rfl)
          have heq : w2.heap[g'.μ 0]? = w'.heap[g'.μ 0]? := hb2 _ (by rw [hμ, World.size_alloc]; omega)
          rw [heq, hcell] at hcell2
          simp only [Option.some.injEq, Go.Obj.cells.injEq] at hcell2
          obtain ⟨rfl, rfl, _⟩ := hcell2
          obtain ⟨_, u', hu', hru', hou'⟩ := hall2 0 _ rfl
          rw [hu] at hu'
          cases hu'
          have hl : vz.map (·.2.cells) = (vz.map (·.2)).map heldK.cells := by rw [List.map_map]; rfl
          rw [hl] at hru' hou'
          generalize vz.map (·.2) = l at hru' hou'
          by_cases hne : l = []
          · subst hne
            obtain ⟨p, cap, rfl, hpc⟩ := own_nil2 hru'
            exact .inl ⟨rfl, p, cap, rfl, hpc⟩
          · obtain ⟨gb, cap, q1, q2, q3, q4, q5, _⟩ := own_holds hne (fun b off u h => i6.h.imm b off u h) hru' hou'
            refine .inr ⟨hne, gb, cap, q1, q2, ?_, q4, q5⟩
            rcases Nat.lt_or_ge gb w.heap.size with h | h
            · exfalso
              rw [(hold1 gb h).2] at q3
              cases q3
            · exact h
      exact key
    exact goal
end Go.Abs.C

/-
  What is held, by its ids.
-/
namespace Go.Abs.C
open Go Go.Abs Go.RowKit Go.Sort Go.Proofs Go.Proofs.Ytnjoledlgacpeaa

theorem enr60 : ∀ args w, (callFunc 60 args).run Try.prog w = .ok (.enter 60 args) w := Go.Abs.enter_run ⟨Try.f60, Try.f60.body.getD .skip, Try.func60, by kernel_rfl, by kernel_rfl⟩
theorem enr42 : ∀ args w, (callFunc 42 args).run Try.prog w = .ok (.enter 42 args) w := Go.Abs.enter_run ⟨Try.f42, Try.f42.body.getD .skip, Try.func42, by kernel_rfl, by kernel_rfl⟩
theorem enr43 : ∀ args w, (callFunc 43 args).run Try.prog w = .ok (.enter 43 args) w := Go.Abs.enter_run ⟨Try.f43, Try.f43.body.getD .skip, Try.func43, by kernel_rfl, by kernel_rfl⟩
theorem enr30 : ∀ args w, (callFunc 30 args).run Try.prog w = .ok (.enter 30 args) w := Go.Abs.enter_run ⟨Try.f30, Try.f30.body.getD .skip, Try.func30, by kernel_rfl, by kernel_rfl⟩
theorem collect42 {fc : Value} {w : World} {R : Value → World → Prop} (h : Calls Try.prog 60 #[.slice none 0 0, fc] w (fun e w' => ∃ v, e = .returned v ∧ R v w')) : Calls Try.prog 42 #[fc] w (fun e w' => ∃ v, e = .returned v ∧ R v w') := by
  have e60 := enr60
  go_enter Try.func42, Try.ntmps42
  go_wp2_with (go_at_call 60; refine h.mono ?_; rintro e w' ⟨v, rfl, hR⟩)
  go_ret
  exact ⟨_, rfl, hR⟩
theorem isAgg44 : ∀ w, (isAgg (sortH_ren.t 24)).run Try.prog w = .ok true w := Try.isAgg44
theorem sizeOf44 : ∀ w, (Go.sizeOf (sortH_ren.t 24)).run Try.prog w = .ok 3 w := Try.sizeOf44
theorem sort43 (d : Array HeldR) (blk cap : Nat) (w : World) (hH : HoldsK HeldR.vals 3 w blk 0 d) (hblk : blk < w.heap.size) (hsz : d.size < 4611686018427387904) :
    Calls Try.prog 43 #[.slice (some ⟨blk, 0, none⟩) d.size cap, .func (.func 30) #[] #[]] w fun e w' =>
      e = .returned (.tuple #[]) ∧ ∃ d' n os, PermIn 0 d.size d d' ∧ SortedIn (ltOf fun a b : HeldR => cmpB' a.id b.id) 0 d.size d' ∧ w' = sortWorldK HeldR.vals 3 w blk 0 n d' os :=
  AnyQ.slices_SortFunc sortH 3 isAgg44 sizeOf44 HeldR.vals heldK.vlen heldK.one (fun a b : HeldR => cmpB' a.id b.id) (swo_key HeldR.id) 30 #[] blk 0 cap d w enr30
    (fun m os dk hdk x y => by
      have := clos30 x.vals y.vals ⟨⟨x.id⟩⟩ ⟨⟨y.id⟩⟩ rfl rfl rfl rfl (heldK.one x) (heldK.one y) (sortWorldK HeldR.vals 3 w blk 0 m dk os)
      have e1 : (ByteArray.mk ⟨x.id⟩).toList = x.id := by rw [Lib.toList_data]
      have e2 : (ByteArray.mk ⟨y.id⟩).toList = y.id := by rw [Lib.toList_data]
      rw [e1, e2] at this
      exact this) hH hblk hsz
theorem row43 {w w1 : World} {v : Value} {l rs : List HeldR} (h : RowAt w w1 v l) (hp : l.Perm rs) (hnd : (rs.map HeldR.id).Nodup) (hlen : rs.length < 1000000) :
    Calls Try.prog 43 #[v, .func (.func 30) #[] #[]] w1 (fun e w2 => e = .returned (.tuple #[]) ∧ RowAt w w2 v (sortK HeldR.id rs)) := by
  rcases h.row with ⟨rfl, p, cap, rfl, hpc⟩ | ⟨hne, gb, cap, rfl, hcap, hge, hlt, hH⟩
  · have : rs = [] := by simpa using hp.symm
    subst this
    refine (AnyF.slices_SortFunc_none sortH p cap (.func (.func 30) #[] #[]) w1).mono ?_
    rintro e w2 ⟨rfl, rfl⟩
    exact ⟨rfl, h.size, h.old, h.os, h.tape, h.output, .inl ⟨rfl, p, cap, rfl, hpc⟩⟩
  · have hsz : l.toArray.size < 4611686018427387904 := by
      have := hp.length_eq
      simp only [List.size_toArray]
      omega
    refine (sort43 l.toArray gb cap w1 hH hlt hsz).mono ?_
    rintro e w2 ⟨rfl, d', n, os, hP, hS, rfl⟩
    have hd' : d'.toList = sortK HeldR.id rs := by
      refine sortK_of_sorted (d := l.toArray) hnd (by simpa using hp) hP ?_
      rw [ltOf_cmpB] at hS
      exact hS
    refine ⟨rfl, Nat.le_trans h.size sort_size, fun b hb => (sort_heap (Nat.lt_of_lt_of_le hb h.size) (by omega)).trans (h.old b hb), h.os, h.tape, h.output, .inr ⟨?_, gb, cap, ?_, ?_, hge, Nat.lt_of_lt_of_le hlt sort_size, ?_⟩⟩
    · intro h0
      have := hp.length_eq
      have h2 := (sortK_perm HeldR.id rs).length_eq
      rw [h0] at h2
      simp at h2
      rw [← h2] at this
      exact hne (List.eq_nil_of_length_eq_zero (by simpa using this))
    · rw [← hd', ← hP.1]
    · rw [← hd']
      have := hP.1
      simp at this
      simp [this, hcap]
    · rw [← hd']
      exact holdsK_sortWorldK_c HeldR.vals 3 w1 gb 0 l.toArray d' n os hH hlt hP.1
theorem sorted28 {fc : Value} {w : World} {rs : List HeldR} (hnd : (rs.map HeldR.id).Nodup) (hlen : rs.length < 1000000) (h : Calls Try.prog 60 #[.slice none 0 0, fc] w (fun e w' => ∃ v, e = .returned v ∧ ∃ l, l.Perm rs ∧ RowAt w w' v l)) :
    Calls Try.prog 28 #[fc, .func (.func 30) #[] #[]] w (fun e w' => ∃ v, e = .returned v ∧ RowAt w w' v (sortK HeldR.id rs)) := by
  have h42 := collect42 h
  have e42 := enr42
  have e43 := enr43
  clear h
  go_enter Try.func28, Try.ntmps28
  go_wp2_with (first | (go_at_call 42; refine h42.mono ?_; rintro e w' ⟨v, rfl, l, hp, hR⟩) | (go_at_call 43; refine (row43 hR hp hnd hlen).mono ?_; rintro e w'' ⟨rfl, hR2⟩))
  go_ret
  exact ⟨_, rfl, hR2⟩
end Go.Abs.C

/-
  What is held, by its ids: the function is told by what it answers.
-/
namespace Go.Abs.C
open Go Go.Abs Go.RowKit Go.Sort Go.Proofs Go.Proofs.Ytnjoledlgacpeaa

def sortedF : List D → St → Option D
  | [.func 44 [.ptr p 0], .func 30 []], σ =>
    match mapAt σ p 0 with
    | some es =>
      match heldOf es with
      | some rs => if (rs.map HeldR.id).Nodup ∧ rs.length < 1000000 then some (.sl ((sortK HeldR.id rs).map HeldR.cells) none) else none
      | none => none
    | none => none
  | _, _ => none
def m28 : MFunc := toldF 2 sortedF
theorem hinv_after {P : Program} {g : Gh} {w W : World} {σ : St} (i : HInv P g w σ) (hs : w.heap.size ≤ W.heap.size) (hb : ∀ b, b < w.heap.size → W.heap[b]? = w.heap[b]?) : HInv P (Gh.after g w W) W σ :=
  (inv_after (fr := ⟨[], [], []⟩) (a := { tmps := #[], defers := g.base }) ⟨i, ⟨rfl, rfl, fun t d h => by simp at h, fun t cs h => by simp at h⟩, ⟨[], rfl, rfl, fun k x y h => by simp at h⟩⟩ hs hb).h
theorem row_gives {g : Gh} {w w' : World} {σ : St} {v : Value} {l : List HeldR} (hi : HInv Try.prog g w σ) (h : RowAt w w' v l) : Gives Try.prog g w w' σ v (.sl (l.map HeldR.cells) none) := by
  refine ⟨Gh.after g w w', ext_after hi h.size h.old h.os h.tape h.output, hinv_after hi h.size h.old, ?_, rfl, .of_ne rfl⟩
  rcases h.row with ⟨rfl, p, cap, rfl, hpc⟩ | ⟨hne, gb, cap, rfl, hcap, hge, hlt, hH⟩
  · exact .sl p 0 cap (match p with | some a => a.block | none => 0) (match p with | some a => a.off | none => 0) 0 [] none (fun _ _ => .nilFunc) rfl (Nat.zero_le _) hpc (fun h => absurd rfl h) (fun e h => by simp at h) (fun i e j d h => by simp at h) (fun i e j d h => by simp at h)
  · have := rep_holds (K := heldK) (g := Gh.after g w w') (w := w') (gb := gb) (cap := cap) (d := l.toArray) (by simpa using hcap) (fun off u hu => by
      simp only [Gh.after, if_neg (Nat.not_lt.2 hge)]
      exact hu) hH
    rw [List.toList_toArray] at this
    exact this
theorem vals_two {g : Gh} {vals : Array Value} {d e : D} (h : AllRep (Rep g) vals.toList [d, e]) : ∃ v u, vals = #[v, u] ∧ Rep g v d ∧ Rep g u e := by
  obtain ⟨h1, h2⟩ := h
  obtain ⟨vs⟩ := vals
  match vs, h1 with
  | [v, u], _ => exact ⟨v, u, rfl, h2 0 v d rfl rfl, h2 1 u e rfl rfl⟩
theorem func_vals {g : Gh} {v : Value} {f : Nat} {ds : List D} (h : Rep g v (.func f ds)) : ∃ vs : Array Value, v = .func (.func f) #[] vs ∧ AllRep (Rep g) vs.toList ds := by
  cases h with
  | func f vs ds hl hR hp => exact ⟨vs, rfl, hl, hR⟩
theorem good28 : GoodT Try.prog 28 m28 := by
  refine good_told (c := Try.f28.body.getD .skip) Try.func28 (by kernel_rfl) (fun ds σ d h => ?_)
  unfold sortedF at h
  split at h
  · rename_i p
    split at h <;> first | (cases h; done) | skip
    rename_i es h1
    split at h <;> first | (cases h; done) | skip
    rename_i rs h2
    split at h <;> first | (cases h; done) | skip
    rename_i h3
    cases h
    refine ⟨rfl, rfl, fun g w vals hi hide hr hbase => ?_⟩
    obtain ⟨v, u, rfl, hv, hu⟩ := vals_two hr
    obtain ⟨vs, rfl, hvs⟩ := func_vals hv
    obtain ⟨us, rfl, hus⟩ := func_vals hu
    have : us = #[] := by
      have := hus.1
      apply Array.eq_empty_of_size_eq_zero
      simpa using this
    subst this
    obtain ⟨x, rfl, hx⟩ := vals_one hvs
    obtain ⟨cs, m, hσp, hcs, hσm⟩ := mapAt_some h1
    obtain ⟨_, arr, ty, hcell, _, _, hall⟩ := hi.cells p cs hσp
    obtain ⟨_, y, hy, hry, _⟩ := hall 0 _ hcs
    obtain ⟨hω, ents, clock, hbm, hmr, hborn⟩ := hi.maps m es hσm
    have hym : y = .map (some (g.μ m)) := by
      cases hry
      rfl
    subst hym
    have hxp : x = .pointer (some ⟨g.μ p, 0, none⟩) := by
      cases hx
      rfl
    subst hxp
    obtain ⟨es', hpm, _, hmr⟩ := hmr
    obtain ⟨rs', h2', hprs⟩ := heldOf_perm hpm h2
    obtain ⟨zs, hz1, hz2, hzW⟩ := hpairs (g := g) hmr h2'
    have hzl : zs.length = rs.length := by rw [hprs.length_eq, ← hz2]; simp
    have hpb : w.cell? ⟨g.μ p, 0, none⟩ = some (.map (some (g.μ m))) := by
      unfold World.cell?
      simp only [hcell]
      simpa using hy
    have hc := collect60 (w := w) hz1 hborn hzW (by omega) hpb hbm
    refine (sorted28 h3.1 h3.2 (hc.mono ?_)).mono ?_
    · rintro e w' ⟨v, l, rfl, hp, hR⟩
      refine ⟨v, rfl, l, ?_, hR⟩
      exact (by rw [← hz2]; exact hp.symm : l.Perm rs').trans hprs.symm
    · rintro e w' ⟨v, rfl, hR⟩
      exact ⟨v, rfl, row_gives hi hR⟩
  · cases h
end Go.Abs.C
