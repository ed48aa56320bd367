import Derived.Test.YtnjoledlgacpeaaTold
import Derived.Maps.RangeRun
set_option linter.unusedVariables false
set_option linter.unusedSimpArgs false
/-
  A range over a map: the iterator's own block, and a memory that stays as it is.
-/
namespace Go.Abs
open Go Go.RowKit

section
variable {P : Program} {g g' : Gh} {w w' : World} {fr fr' : Fr} {σ σ' : St} {a : Act} {o : Oper} {Q : Exit → Act → World → Prop}

theorem wide_value {ops : Array Oper} {n : Nat} {rest : List Oper} {v : Value} (hg : o.guard = none) (hr : (execOp a.eval o).run P w = .ok (.value v) w') (h : wpListIn Fence.wide n P ops Q rest (a.put o.dst v) w') : wpListIn Fence.wide n P ops Q (o :: rest) a w := by
  have hw : Region.wanted o (yielded ops a.tmps) = true := by simp [Region.wanted, hg]
  unfold wpListIn
  rw [if_pos hw]
  refine ⟨fun _ _ => trivial, ?_⟩
  have hs : Oper.semAt Fence.wide.round a.eval o = execOp a.eval o := by
    show Oper.semAt none a.eval o = _
    simp [go_sem]
  rw [hs, hr]
  exact h
theorem wide_enter {ops : Array Oper} {n : Nat} {rest : List Oper} {f : FuncId} {args : Array Value} {R : Ending → World → Prop} (hg : o.guard = none) (hr : (execOp a.eval o).run P w = .ok (.enter f args) w') (hc : Calls P f args w' R)
    (h : ∀ e w2, R e w2 → ∃ v, e = .returned v ∧ wpListIn Fence.wide n P ops Q rest (a.put o.dst v) w2) : wpListIn Fence.wide n P ops Q (o :: rest) a w := by
  have hw : Region.wanted o (yielded ops a.tmps) = true := by simp [Region.wanted, hg]
  unfold wpListIn
  rw [if_pos hw]
  refine ⟨fun _ _ => trivial, ?_⟩
  have hs : Oper.semAt Fence.wide.round a.eval o = execOp a.eval o := by
    show Oper.semAt none a.eval o = _
    simp [go_sem]
  rw [hs, hr, Oper.uponIn_enter]
  refine ⟨fun hh => absurd hh (by simp [Fence.wide]), (callsIn_wide.2 hc).mono (fun e w2 he => ?_)⟩
  obtain ⟨v, rfl, h1⟩ := h e w2 he
  exact h1

theorem Inv.drew (i : Inv P g w fr σ a) : Inv P g w.drew fr σ a :=
  i.keep (C := fun _ => False) ⟨.refl g, Nat.le_refl _, fun _ _ _ => ⟨rfl, rfl, fun _ => rfl⟩⟩ (fun _ hc => hc.elim) (fun _ _ _ => rfl) (fun b off v h => i.h.imm b off v h) rfl
theorem Ext.drew (g : Gh) (w : World) : Ext g w g w.drew :=
  ⟨.refl g, rfl, rfl, rfl, Nat.le_refl _, fun _ _ _ => ⟨rfl, rfl⟩, fun _ _ _ h => .inl h, rfl⟩

/-- From here on whatever lies in memory stays as it is, but for the block r. -/
def Gh.calm (g : Gh) (w : World) (r : Nat) : Gh :=
  { g with I := fun b off => if b = r then none else w.cell? ⟨b, off, none⟩, n := 0, ω := fun _ => .other }
theorem HInv.calm (g : Gh) (w : World) (r : Nat) : HInv P (g.calm w r) w [] := by
  refine ⟨fun b off v h => ?_, rfl, fun o cs h => by simp at h, fun o es h => by simp at h, fun o e cs h => by simp at h⟩
  simp only [Gh.calm] at h
  split at h
  · cases h
  · exact h

theorem ExtBut.refl' {X : Nat → Prop} (g : Gh) (w : World) : ExtBut X g w g w := (Ext.refl g w).but
/-- Operations of a region, one behind the other. -/
theorem wide_pre {mu q : Bool} {cal : Cal} {ops : Array Oper} {n : Nat} {rest : List Oper} (hc : CalOK P cal) (hci : CalIn P cal) : ∀ (os : List Oper) (ms : List MOper) {fr fr' : Fr} {σ σ' : St} {a : Act} {g : Gh} {w : World}, (∀ o ∈ os, ∀ c, o.op ≠ .defer c) → compOpers P mu ops.toList os = some ms →
    runOps cal q ms fr σ = some (fr', σ') → Inv P g w fr σ a → (∀ a' w' g', Ext g w g' w' → Inv P g' w' fr' σ' a' → wpListIn Fence.wide n P ops Q rest a' w') → wpListIn Fence.wide n P ops Q (os ++ rest) a w
  | [], ms, fr, fr', σ, σ', a, g, w, _, hm, hr, i, hn => by
    simp only [compOpers, Option.some.injEq] at hm
    subst hm
    simp only [runOps, Option.some.injEq, Prod.mk.injEq] at hr
    obtain ⟨rfl, rfl⟩ := hr
    exact hn a w g (.refl g w) i
  | o :: os, ms, fr, fr', σ, σ', a, g, w, hnd, hm, hr, i, hn => by
    simp only [compOpers] at hm
    split at hm <;> first | (cases hm; done) | skip
    rename_i mo mr h1 h2
    cases hm
    simp only [runOps] at hr
    split at hr <;> first | (cases hr; done) | skip
    rename_i fr1 σ1 hr1
    refine wide_op hc hci (hnd o (by simp)) h1 hr1 i (fun a1 w1 g1 e1 i1 => ?_)
    exact wide_pre hc hci os mr (fun o' ho' => hnd o' (by simp [ho'])) h2 hr i1 (fun a2 w2 g2 e2 i2 => hn a2 w2 g2 (e1.trans e2) i2)

/-! what has been visited, and what is left -/
section
variable {β : Type}
theorem visit_end {ents : Array MapEntry} {seen : Array Nat} {zs vz lz : List (MapEntry × β)} (hz : zs.map (·.1) = ents.toList) (hn : (ents.toList.map (·.born)).Nodup) (hp : zs.Perm (vz ++ lz)) (hs : seen.toList = vz.map (·.1.born)) (h0 : (leftOf ents seen).size = 0) : zs.Perm vz := by
  have hl : lz = [] := by
    cases lz with
    | nil => rfl
    | cons p l =>
      exfalso
      have hm : p ∈ zs := hp.mem_iff.2 (by simp)
      have hme : p.1 ∈ ents.toList := by rw [← hz]; exact List.mem_map.2 ⟨p, hm, rfl⟩
      have hnd : ((vz ++ p :: l).map (·.1.born)).Nodup := by
        have h1 : (zs.map (·.1.born)).Nodup := by
          have : zs.map (·.1.born) = ents.toList.map (·.born) := by rw [← hz, List.map_map]; rfl
          rw [this]
          exact hn
        exact (hp.map _).nodup_iff.1 h1
      have hns : p.1.born ∉ seen.toList := by
        rw [hs]
        rw [List.map_append, List.map_cons, List.nodup_append] at hnd
        intro hin
        exact hnd.2.2 _ hin _ (by simp) rfl
      have hin : p.1 ∈ leftOf ents seen := by
        unfold leftOf
        rw [Array.mem_filter]
        refine ⟨Array.mem_toList_iff.1 hme, ?_⟩
        cases hc : seen.contains p.1.born with
        | false => rfl
        | true => exact absurd (Array.mem_toList_iff.2 (by simpa using hc)) hns
      have : 0 < (leftOf ents seen).size := Array.size_pos_of_mem hin
      omega
  rw [hl, List.append_nil] at hp
  exact hp
theorem visit_step {ents : Array MapEntry} {seen : Array Nat} {zs vz lz : List (MapEntry × β)} (hz : zs.map (·.1) = ents.toList) (hp : zs.Perm (vz ++ lz)) (hs : seen.toList = vz.map (·.1.born)) {e : MapEntry} (he : e ∈ (leftOf ents seen).toList) :
    ∃ b l1 l2, (e, b) ∈ zs ∧ lz = l1 ++ (e, b) :: l2 ∧ zs.Perm ((vz ++ [(e, b)]) ++ (l1 ++ l2)) ∧ (seen.push e.born).toList = (vz ++ [(e, b)]).map (·.1.born) := by
  obtain ⟨h1, h2⟩ := mem_left he
  rw [← hz] at h1
  obtain ⟨⟨e', b⟩, hm, rfl⟩ := List.mem_map.1 h1
  have hm2 := hp.mem_iff.1 hm
  rcases List.mem_append.1 hm2 with hv | hl
  · exfalso
    have : e'.born ∈ seen.toList := by rw [hs]; exact List.mem_map.2 ⟨(e', b), hv, rfl⟩
    have hc : seen.contains e'.born = true := by simpa using this
    rw [hc] at h2
    cases h2
  · obtain ⟨l1, l2, rfl⟩ := List.append_of_mem hl
    refine ⟨b, l1, l2, hm, rfl, ?_, by simp [hs]⟩
    refine hp.trans ?_
    simp only [List.append_assoc, List.singleton_append]
    exact List.Perm.append_left vz List.perm_middle
end
end
end Go.Abs
