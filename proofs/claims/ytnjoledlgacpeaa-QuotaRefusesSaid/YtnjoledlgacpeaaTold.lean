import Derived.Test.YtnjoledlgacpeaaOps18
import Derived.RangeFuncLeaves
import Derived.RangeFuncRecord
import Derived.RangeFuncIn
import Derived.LoopNIn
import Derived.Test.YtnjoledlgacpeaaKont2
set_option linter.unusedVariables false
set_option linter.unusedSimpArgs false
/-
  Functions of which a statement is told: codes part by part, marks among a frame's deferred calls, ranges over functions.
-/
namespace Go.Abs
open Go Go.RowKit

section
variable {P : Program} {g g' : Gh} {w w' : World} {fr fr' : Fr} {σ σ' : St} {a : Act} {o : Oper} {d : D} {cal : Cal} {q mu : Bool} {Q : Exit → Act → World → Prop}

/-- A mark: its block, laid since n0, is open and empty. -/
def MarkAt (g : Gh) (w : World) (n0 : Nat) (d : Deferred) : Prop := ∃ b, d = { target := .collected b, args := #[] } ∧ n0 ≤ b ∧ w.heap[b]? = some (.deferred (some [])) ∧ g.ω b = .other
def Marks (g : Gh) (w : World) (n0 : Nat) : Prop := (∀ d ∈ g.base, MarkAt g w n0 d) ∧ g.base.Pairwise (fun x y => x ≠ y)

/-- As Ext, but marks may have come. -/
structure ExtM (g : Gh) (w : World) (g' : Gh) (w' : World) : Prop where
  le : g.Le g'
  os : w'.os = w.os
  tape : w'.tape = w.tape
  output : w'.output = w.output
  size : w.heap.size ≤ w'.heap.size
  blk : ∀ b, b < w.heap.size → (g.ω b).mine = false → w'.heap[b]? = w.heap[b]? ∧ g'.ω b = g.ω b
  new : ∀ (b off : Nat) (v : Value), g'.I b off = some v → g.I b off = some v ∨ w.heap.size ≤ b ∨ (g.ω b).mine = true
  marks : ∀ n0, n0 ≤ w.heap.size → Marks g w n0 → Marks g' w' n0

theorem Ext.m (e : Ext g w g' w') : ExtM g w g' w' :=
  ⟨e.le, e.os, e.tape, e.output, e.size, e.blk, e.new, fun n0 _ h => by
    refine ⟨fun d hd => ?_, by rw [e.base]; exact h.2⟩
    rw [e.base] at hd
    obtain ⟨b, h1, h2, h3, h4⟩ := h.1 d hd
    obtain ⟨k1, k2⟩ := e.blk b (lt_of_heap h3) (by rw [h4]; rfl)
    exact ⟨b, h1, h2, k1.trans h3, k2.trans h4⟩⟩
theorem ExtM.trans {g1 : Gh} {w1 : World} (h : ExtM g w g1 w1) (k : ExtM g1 w1 g' w') : ExtM g w g' w' := by
  refine ⟨h.le.trans k.le, k.os.trans h.os, k.tape.trans h.tape, k.output.trans h.output, Nat.le_trans h.size k.size, fun b hb hm => ?_, fun b off v hv => ?_, fun n0 hn hM => k.marks n0 (Nat.le_trans hn h.size) (h.marks n0 hn hM)⟩
  · obtain ⟨h1, h2⟩ := h.blk b hb hm
    obtain ⟨k1, k2⟩ := k.blk b (Nat.lt_of_lt_of_le hb h.size) (by rw [h2]; exact hm)
    exact ⟨k1.trans h1, k2.trans h2⟩
  · rcases k.new b off v hv with h1 | h1 | h1
    · exact h.new b off v h1
    · exact .inr (.inl (Nat.le_trans h.size h1))
    · rcases Nat.lt_or_ge b w.heap.size with hb | hb
      · by_cases hm : (g.ω b).mine = true
        · exact .inr (.inr hm)
        · have := (h.blk b hb (by simpa using hm)).2
          rw [this] at h1
          exact absurd h1 hm
      · exact .inr (.inl hb)
theorem ExtM.refl (g : Gh) (w : World) : ExtM g w g w := (Ext.refl g w).m

/-- A code, and what stands for it. -/
def CodeM (P : Program) (c : Code) (m : MCode) : Prop :=
  ∀ (cal : Cal) (fuel : Nat), CalOK P cal → CalIn P cal → ∀ {ae : AE} {fr fr' : Fr} {σ σ' : St} {a : Act} {g : Gh} {w : World} {Q : Exit → Act → World → Prop},
    runC cal fuel m fr σ = some (ae, fr', σ') → Inv P g w fr σ a → (∀ a' w' g', ExtM g w g' w' → Inv P g' w' fr' σ' a' → Q ae.exit' a' w') → c.wp P Q a w

theorem codeM_comp (hm : P.follows .mixedOrders = true) {keep : List Nat} {c : Code} {m : MCode} (h : compC P mu keep c = some m) : CodeM P c m :=
  fun _ fuel hc hci _ _ _ _ _ _ _ _ _ hr i hn => wp_code hm hc hci keep fuel c h hr i (fun a' w' g' e i' => hn a' w' g' e.m i')
theorem codeM_seq {x y : Code} {mx my : MCode} (hx : CodeM P x mx) (hy : CodeM P y my) : CodeM P (.seq x y) (.seq mx my) := by
  intro cal fuel hc hci ae fr fr' σ σ' a g w Q hr i hn
  simp only [runC] at hr
  split at hr
  · rename_i fr1 σ1 h1
    refine wp_seq (hx cal fuel hc hci h1 i (fun a1 w1 g1 e1 i1 => ?_))
    exact hy cal fuel hc hci hr i1 (fun a2 w2 g2 e2 i2 => hn a2 w2 g2 (e1.trans e2) i2)
  · rename_i hno
    refine wp_seq (hx cal fuel hc hci hr i (fun a1 w1 g1 e1 i1 => ?_))
    cases ae with
    | normal => exact absurd hr (hno _ _)
    | exit id => exact hn a1 w1 g1 e1 i1
    | ret => exact hn a1 w1 g1 e1 i1
theorem codeM_cond {x : Operand} {x' : X} {c1 c2 : Code} {m1 m2 : MCode} (hX : compX x = some x') (h1 : CodeM P c1 m1) (h2 : CodeM P c2 m2) : CodeM P (.cond x c1 c2) (.cond x' m1 m2) := by
  intro cal fuel hc hci ae fr fr' σ σ' a g w Q hr i hn
  have hv := (val_ok i.s hX).1
  simp only [runC] at hr
  split at hr
  · rename_i hb
    rw [hb] at hv
    exact wp_cond_true (rep_bool hv) (h1 cal fuel hc hci hr i hn)
  · rename_i hb
    rw [hb] at hv
    exact wp_cond_false (rep_bool hv) (h2 cal fuel hc hci hr i hn)
  · cases hr
theorem codeM_block {id : Nat} {c : Code} {m : MCode} (h : CodeM P c m) : CodeM P (.block id c) (.block id m) := by
  intro cal fuel hc hci ae fr fr' σ σ' a g w Q hr i hn
  simp only [runC] at hr
  split at hr
  · rename_i i' fr1 σ1 hr1
    refine wp_block (h cal fuel hc hci hr1 i (fun a1 w1 g1 e1 i1 => ?_))
    simp only [AE.exit', Exit.inBlock]
    split at hr
    · rename_i hid
      cases hr
      rw [if_pos hid]
      exact hn a1 w1 g1 e1 i1
    · rename_i hid
      cases hr
      rw [if_neg hid]
      exact hn a1 w1 g1 e1 i1
  · rename_i hno
    refine wp_block (h cal fuel hc hci hr i (fun a1 w1 g1 e1 i1 => ?_))
    cases ae with
    | normal => exact hn a1 w1 g1 e1 i1
    | exit id' => exact absurd hr (hno _ _ _)
    | ret => exact hn a1 w1 g1 e1 i1

/-- A block that nobody claims, and that is no cells, is put otherwise. -/
theorem Inv.putOther (i : Inv P g w fr σ a) {b : Nat} {ob : Go.Obj} (h0 : w.heap[b]? = some ob) (hnc : ∀ arr ty f, ob ≠ .cells arr ty f) (hω : g.ω b = .other) (ob' : Go.Obj) : Inv P g (w.putObj b ob') fr σ a := by
  refine i.keep (C := fun x => x = b) ⟨.refl g, by simp, fun c _ hc => ⟨World.putObj_heap_other hc, rfl, fun _ => rfl⟩⟩ (fun c hc h => ?_) (fun _ _ _ => rfl) (fun c off v hv => ?_) rfl
  · rw [hc, hω] at h
    exact h
  · have h1 := i.h.imm c off v hv
    have hne : c ≠ b := by
      rintro rfl
      unfold World.cell? at h1
      rw [h0] at h1
      cases ob with
      | cells arr ty f => exact hnc _ _ _ rfl
      | _ => simp at h1
    unfold World.cell? at h1 ⊢
    simp only [] at h1 ⊢
    rw [World.putObj_heap_other hne]
    exact h1
theorem HInv.putOther (i : HInv P g w σ) {b : Nat} {ob : Go.Obj} (h0 : w.heap[b]? = some ob) (hnc : ∀ arr ty f, ob ≠ .cells arr ty f) (hω : g.ω b = .other) (ob' : Go.Obj) : HInv P g (w.putObj b ob') σ :=
  (Inv.putOther (fr := ⟨[], [], []⟩) (a := { tmps := #[], defers := g.base }) ⟨i, ⟨rfl, rfl, fun t d h => by simp at h, fun t cs h => by simp at h⟩, ⟨[], rfl, rfl, fun k x y h => by simp at h⟩⟩ h0 hnc hω ob').h

/-- The frame's marks, one by one; then the results. -/
theorem leavesM {n0 : Nat} {fn : Func} {R : Ending → World → Prop} {tm : Array Value} : ∀ (ds : List Deferred) {g : Gh} {w : World} {a : Act}, Inv P g w fr σ a → (∀ d ∈ ds, MarkAt g w n0 d) → ds.Pairwise (fun x y => x ≠ y) →
    (∀ w', (∀ b, b < n0 → w'.heap[b]? = w.heap[b]?) → w.heap.size = w'.heap.size → w'.os = w.os → w'.tape = w.tape → w'.output = w.output → Inv P g w' fr σ a → ∃ v, (results fn tm).run P w' = .ok v w' ∧ R (.returned v) w') →
    LeavesInM Fence.wide 0 P fn tm R ds .returning w
  | [], g, w, a, i, _, _, hfin => hfin w (fun _ _ => rfl) rfl rfl rfl rfl i
  | d :: ds, g, w, a, i, hM, hp, hfin => by
    obtain ⟨b, rfl, h2, h3, h4⟩ := hM d (by simp)
    refine ⟨by simp, .inl ⟨b, _, rfl, run_takeDeferred h3, ?_⟩⟩
    rw [List.pairwise_cons] at hp
    refine leavesM (n0 := n0) ds (i.putOther h3 (fun _ _ _ h => by cases h) h4 (.deferred none)) (fun d' hd' => ?_) hp.2 (fun w' hb hs ho ht hu i' => ?_)
    · obtain ⟨b', rfl, k2, k3, k4⟩ := hM d' (by simp [hd'])
      have hne : b' ≠ b := fun e => hp.1 _ hd' (by rw [e])
      exact ⟨b', rfl, k2, (World.putObj_heap_other hne).trans k3, k4⟩
    · exact hfin w' (fun c hc => (hb c hc).trans (World.putObj_heap_other (by omega))) (by rw [← hs]; simp) (ho.trans rfl) (ht.trans rfl) (hu.trans rfl) i'

/-- A function, part by part. -/
theorem goodT_of {f : FuncId} {fn : Func} {c : Code} {m : MFunc} (hf : P.funcs[f]? = some fn) (hb : fn.body = some c) (hres : resTmps P fn.results.toList = some m.results) (hnt : m.ntmps = fn.ntmps) (ht : m.body.told = true) (hc : CodeM P c m.body) : GoodT P f m := by
  refine ⟨fn, c, hf, hb, ht, fun cal fuel hcal hci ds σ fr σ1 hrun hde d σ' hro g w vals hi hide hr hn hbase => ?_⟩
  unfold runBody at hrun
  split at hrun
  · rename_i hcond
    obtain ⟨c1, c2⟩ := hcond
    split at hrun
    · cases hrun
    · rename_i ae fr1 σ2 hno hrc
      cases hrun
      refine callsIn_wide.1 (callsIn_of_wp_marks (n := 0) hf hb trivial (wpIn_wide.2 (hc cal fuel hcal hci hrc (enter_inv hnt hi hbase hr hn c1 c2) (fun a' w' g' e1 i1 => ?_))) rfl)
      have hM0 : Marks g w w.heap.size := ⟨(fun d hd => by rw [hbase] at hd; exact (List.not_mem_nil hd).elim), (by rw [hbase]; exact List.Pairwise.nil)⟩
      have hM := e1.marks _ (Nat.le_refl _) hM0
      have key : LeavesInM Fence.wide 0 P fn a'.tmps (fun e w' => ∃ v, e = .returned v ∧ Gives P g w w' σ' v d) a'.defers .returning w' := by
        rw [defers_base i1 hde]
        refine leavesM (n0 := w.heap.size) g'.base i1 hM.1 hM.2 (fun w2 hb2 hs2 ho2 ht2 hu2 i2 => ?_)
        obtain ⟨v, r1, g3, e3, r2, r3, r4, r5⟩ := results_ok i2 hres hro
        refine ⟨v, r1, v, rfl, { g3 with base := g.base }, ?_, ?_, ?_, r4, ?_⟩
        · refine ⟨⟨(e1.le.trans e3.le).I, (e1.le.trans e3.le).n, (e1.le.trans e3.le).μ, (e1.le.trans e3.le).sz⟩, (e3.os.trans ho2).trans e1.os, (e3.tape.trans ht2).trans e1.tape, (e3.output.trans hu2).trans e1.output, Nat.le_trans e1.size (by rw [hs2]; exact e3.size), fun b hb hmn => ?_, fun b off v hv => ?_, rfl⟩
          · obtain ⟨q1, q2⟩ := e1.blk b hb hmn
            obtain ⟨q3, q4⟩ := e3.blk b (Nat.lt_of_lt_of_le hb (by rw [← hs2]; exact e1.size)) (by rw [q2]; exact hmn)
            exact ⟨(q3.trans (hb2 b hb)).trans q1, q4.trans q2⟩
          · rcases e3.new b off v hv with h1 | h1 | h1
            · exact e1.new b off v h1
            · exact .inr (.inl (Nat.le_trans e1.size (by rw [hs2]; exact h1)))
            · rcases Nat.lt_or_ge b w.heap.size with hlt | hge
              · by_cases hmn : (g.ω b).mine = true
                · exact .inr (.inr hmn)
                · rw [(e1.blk b hlt (by simpa using hmn)).2] at h1
                  exact absurd h1 hmn
              · exact .inr (.inl hge)
        · exact r2.to ⟨fun _ _ _ h => h, Nat.le_refl _, fun _ _ => rfl, fun _ _ => rfl⟩ rfl rfl rfl rfl (fun _ _ _ h => h)
        · exact Rep.mono (g := g3) (g' := { g3 with base := g.base }) ⟨fun _ _ _ h => h, Nat.le_refl _, fun _ _ => rfl, fun _ _ => rfl⟩ r3 (fun _ _ _ => rfl)
        · exact r5.to rfl (fun _ h => h)
      cases ae with
      | normal => exact key
      | ret => exact key
      | exit id => exact absurd rfl (hno id)
    · cases hrun
  · cases hrun
end
end Go.Abs

/-
  Ranges over functions: a round, told by what the machine code of its body comes to; the statement, by a contract of the function that is ranged over.
-/
namespace Go.Abs
open Go Go.RowKit

section
variable {P : Program} {g g' : Gh} {w w' : World} {fr fr' : Fr} {σ σ' : St} {a : Act} {o : Oper} {d : D} {cal : Cal} {q mu : Bool} {Q : Exit → Act → World → Prop}

def stillD : D → Bool
  | .sl _ (some _) => false
  | .lptr _ _ => false
  | _ => true
/-- A frame that stays as it is, whatever comes of memory. -/
def Fr.isStill (fr : Fr) : Bool := fr.slots.all stillD && fr.boxes.all Option.isNone && fr.defers.isEmpty
theorem still_parts (h : fr.isStill = true) : (∀ (t : Nat) (d : D), fr.slots[t]? = some d → stillD d = true) ∧ (∀ (t : Nat) (cs : List D), fr.boxes[t]? ≠ some (some cs)) ∧ fr.defers = [] := by
  simp only [Fr.isStill, Bool.and_eq_true] at h
  obtain ⟨⟨h1, h2⟩, h3⟩ := h
  refine ⟨fun t d hd => List.all_eq_true.1 h1 d (List.mem_of_getElem? hd), fun t cs hb => ?_, by simpa using h3⟩
  have := List.all_eq_true.1 h2 _ (List.mem_of_getElem? hb)
  cases this
theorem own_still {tag : Tag} {v : Value} (h : stillD d = true) : Own P g w tag v d := fun es e hd => by subst hd; cases h
theorem SInv.later {tm : Array Value} (hs : fr.isStill = true) (s : SInv P g w fr tm) (hle : g.Le g') : SInv P g' w' fr tm := by
  obtain ⟨h1, h2, _⟩ := still_parts hs
  refine ⟨s.size, s.blen, fun t d hd => ?_, fun t cs hb => absurd hb (h2 t cs)⟩
  obtain ⟨v, q1, q2, _, _⟩ := s.slots t d hd
  have hd' := h1 t d hd
  exact ⟨v, q1, q2.mono hle (fun t off e => by subst e; cases hd'), own_still hd', fun s off e => by subst e; cases hd'⟩
theorem isStill_set {p : Nat} (hs : fr.isStill = true) (hd : stillD d = true) : (fr.set p d).isStill = true := by
  simp only [Fr.isStill, Bool.and_eq_true] at hs ⊢
  refine ⟨⟨List.all_eq_true.2 fun x hx => ?_, hs.1.2⟩, hs.2⟩
  rcases List.mem_or_eq_of_mem_set hx with h | rfl
  · exact List.all_eq_true.1 hs.1.1 x h
  · exact hd
theorem SInv.setStill {tm : Array Value} {p : Nat} {v : Value} (s : SInv P g w fr tm) (hs : fr.isStill = true) (hv : Rep g v d) (hd : stillD d = true) : SInv P g w (fr.set p d) (tm.setIfInBounds p v) := by
  obtain ⟨h1, h2, _⟩ := still_parts hs
  refine ⟨by simp [Fr.set, s.size], by simp [Fr.set, s.blen], fun t e he => ?_, fun t cs hb => absurd hb (h2 t cs)⟩
  simp only [Fr.set] at he
  rw [list_set_get] at he
  split at he
  · rename_i hc
    obtain ⟨rfl, hlt⟩ := hc
    cases he
    exact ⟨v, by simp [s.size, hlt], hv, own_still hd, fun s off e => by subst e; cases hd⟩
  · rename_i hc
    obtain ⟨u, q1, q2, q3, q4⟩ := s.slots t e he
    have hlt : t < fr.slots.length := (List.getElem?_eq_some_iff.1 he).1
    have hne : p ≠ t := fun e => hc ⟨e.symm, by rw [e]; exact hlt⟩
    refine ⟨u, ?_, q2, q3, fun s off e => ?_⟩
    · rw [Array.getElem?_setIfInBounds_ne hne]
      exact q1
    · exact q4 s off e

/-- From one moment to a later one, but for the blocks of X. -/
structure ExtBut (X : Nat → Prop) (g : Gh) (w : World) (g' : Gh) (w' : World) : Prop where
  le : g.Le g'
  os : w'.os = w.os
  tape : w'.tape = w.tape
  output : w'.output = w.output
  size : w.heap.size ≤ w'.heap.size
  blk : ∀ b, b < w.heap.size → (g.ω b).mine = false → (¬ X b → w'.heap[b]? = w.heap[b]?) ∧ g'.ω b = g.ω b
  new : ∀ (b off : Nat) (v : Value), g'.I b off = some v → g.I b off = some v ∨ w.heap.size ≤ b ∨ (g.ω b).mine = true
  base : g'.base = g.base
theorem Ext.but {X : Nat → Prop} (e : Ext g w g' w') : ExtBut X g w g' w' := ⟨e.le, e.os, e.tape, e.output, e.size, fun b h1 h2 => ⟨fun _ => (e.blk b h1 h2).1, (e.blk b h1 h2).2⟩, e.new, e.base⟩
theorem ExtBut.trans {X : Nat → Prop} {g1 : Gh} {w1 : World} (h : ExtBut X g w g1 w1) (k : ExtBut X g1 w1 g' w') : ExtBut X g w g' w' := by
  refine ⟨h.le.trans k.le, k.os.trans h.os, k.tape.trans h.tape, k.output.trans h.output, Nat.le_trans h.size k.size, fun b hb hm => ?_, fun b off v hv => ?_, k.base.trans h.base⟩
  · obtain ⟨h1, h2⟩ := h.blk b hb hm
    obtain ⟨k1, k2⟩ := k.blk b (Nat.lt_of_lt_of_le hb h.size) (by rw [h2]; exact hm)
    exact ⟨fun hx => (k1 hx).trans (h1 hx), k2.trans h2⟩
  · rcases k.new b off v hv with h1 | h1 | h1
    · exact h.new b off v h1
    · exact .inr (.inl (Nat.le_trans h.size h1))
    · rcases Nat.lt_or_ge b w.heap.size with hb | hb
      · by_cases hm : (g.ω b).mine = true
        · exact .inr (.inr hm)
        · have := (h.blk b hb (by simpa using hm)).2
          rw [this] at h1
          exact absurd h1 hm
      · exact .inr (.inl hb)
theorem ExtBut.put {X : Nat → Prop} {b : Nat} (hb : X b) (ob : Go.Obj) : ExtBut X g w g (w.putObj b ob) :=
  ⟨.refl g, rfl, rfl, rfl, by simp, fun c _ _ => ⟨fun hx => World.putObj_heap_other (fun e => hx (e ▸ hb)), rfl⟩, fun _ _ _ h => .inl h, rfl⟩
theorem ExtBut.wider {X Y : Nat → Prop} (h : ExtBut X g w g' w') (hxy : ∀ b, X b → Y b) : ExtBut Y g w g' w' :=
  ⟨h.le, h.os, h.tape, h.output, h.size, fun b h1 h2 => ⟨fun hy => (h.blk b h1 h2).1 (fun hx => hy (hxy b hx)), (h.blk b h1 h2).2⟩, h.new, h.base⟩
/-- What was excepted is newer than the start. -/
theorem Ext.of_but {X : Nat → Prop} {g0 : Gh} {w0 : World} (e : Ext g0 w0 g w) (h : ExtBut X g w g' w') (hX : ∀ b, X b → w0.heap.size ≤ b) : Ext g0 w0 g' w' := by
  refine ⟨e.le.trans h.le, h.os.trans e.os, h.tape.trans e.tape, h.output.trans e.output, Nat.le_trans e.size h.size, fun b hb hm => ?_, fun b off v hv => ?_, h.base.trans e.base⟩
  · obtain ⟨h1, h2⟩ := e.blk b hb hm
    obtain ⟨k1, k2⟩ := h.blk b (Nat.lt_of_lt_of_le hb e.size) (by rw [h2]; exact hm)
    exact ⟨(k1 (fun hx => by have := hX b hx; omega)).trans h1, k2.trans h2⟩
  · rcases h.new b off v hv with h1 | h1 | h1
    · exact e.new b off v h1
    · exact .inr (.inl (Nat.le_trans e.size h1))
    · rcases Nat.lt_or_ge b w0.heap.size with hb | hb
      · by_cases hm : (g0.ω b).mine = true
        · exact .inr (.inr hm)
        · rw [(e.blk b hb (by simpa using hm)).2] at h1
          exact absurd h1 hm
      · exact .inr (.inl hb)

/-! codes within a round -/
def CodeR (P : Program) (c : Code) (m : MCode) : Prop :=
  ∀ (l n : Nat) (cal : Cal) (fuel : Nat), CalOK P cal → CalIn P cal → ∀ {ae : AE} {fr fr' : Fr} {σ σ' : St} {a : Act} {g : Gh} {w : World} {Q : Exit → Act → World → Prop}, ¬ LetsOut Q →
    runC cal fuel m fr σ = some (ae, fr', σ') → Inv P g w fr σ a → (∀ a' w' g', Ext g w g' w' → Inv P g' w' fr' σ' a' → Q ae.exit' a' w') → c.wpIn (Fence.wide.inRound l) n P Q a w
theorem codeR_region (hm : P.follows .mixedOrders = true) {keep : List Nat} {id : Nat} {ops : Array Oper} {draw : Bool} {m : MCode} (h : compC P mu keep (.region id ops draw) = some m) (hnd : noDefer ops = true) : CodeR P (.region id ops draw) m := by
  intro l n cal fuel hc hci ae fr fr' σ σ' a g w Q hno hr i hn
  obtain ⟨quiet, ms, rfl⟩ : ∃ quiet ms, m = .region quiet ms := by
    simp only [compC] at h
    repeat' split at h
    all_goals first | (cases h; done) | (cases h; exact ⟨_, _, rfl⟩)
  simp only [runC, Option.map_eq_some_iff] at hr
  obtain ⟨⟨fr1, σ1⟩, h1, h2⟩ := hr
  cases h2
  exact wpIn_region_code hm hc hci h hnd hno h1 i hn
theorem codeR_skip : CodeR P .skip .skip := fun l n cal fuel hc hci ae fr fr' σ σ' a g w Q hno hr i hn => by
  simp only [runC, Option.some.injEq, Prod.mk.injEq] at hr
  obtain ⟨rfl, rfl, rfl⟩ := hr
  exact wpIn_skip (hn a w g (.refl g w) i)
theorem codeR_ret : CodeR P .ret .ret := fun l n cal fuel hc hci ae fr fr' σ σ' a g w Q hno hr i hn => by
  simp only [runC, Option.some.injEq, Prod.mk.injEq] at hr
  obtain ⟨rfl, rfl, rfl⟩ := hr
  exact wpIn_ret (hn a w g (.refl g w) i)
theorem codeR_exit {id : Nat} : CodeR P (.exit id) (.exit id) := fun l n cal fuel hc hci ae fr fr' σ σ' a g w Q hno hr i hn => by
  simp only [runC, Option.some.injEq, Prod.mk.injEq] at hr
  obtain ⟨rfl, rfl, rfl⟩ := hr
  exact wpIn_exit (hn a w g (.refl g w) i)
theorem codeR_seq {x y : Code} {mx my : MCode} (hx : CodeR P x mx) (hy : CodeR P y my) : CodeR P (.seq x y) (.seq mx my) := by
  intro l n cal fuel hc hci ae fr fr' σ σ' a g w Q hno hr i hn
  have hno' : ¬ LetsOut (Exit.then (y.wpIn (Fence.wide.inRound l) n P Q) Q) := fun ⟨a, w, h⟩ => hno ⟨a, w, h⟩
  simp only [runC] at hr
  split at hr
  · rename_i fr1 σ1 h1
    refine wpIn_seq (hx l n cal fuel hc hci hno' h1 i (fun a1 w1 g1 e1 i1 => ?_))
    exact hy l n cal fuel hc hci hno hr i1 (fun a2 w2 g2 e2 i2 => hn a2 w2 g2 (e1.trans e2) i2)
  · rename_i hnn
    refine wpIn_seq (hx l n cal fuel hc hci hno' hr i (fun a1 w1 g1 e1 i1 => ?_))
    cases ae with
    | normal => exact absurd hr (hnn _ _)
    | exit id => exact hn a1 w1 g1 e1 i1
    | ret => exact hn a1 w1 g1 e1 i1
theorem codeR_cond {x : Operand} {x' : X} {c1 c2 : Code} {m1 m2 : MCode} (hX : compX x = some x') (h1 : CodeR P c1 m1) (h2 : CodeR P c2 m2) : CodeR P (.cond x c1 c2) (.cond x' m1 m2) := by
  intro l n cal fuel hc hci ae fr fr' σ σ' a g w Q hno hr i hn
  have hv := (val_ok i.s hX).1
  simp only [runC] at hr
  split at hr
  · rename_i hb
    rw [hb] at hv
    exact wpIn_cond_true (rep_bool hv) (h1 l n cal fuel hc hci hno hr i hn)
  · rename_i hb
    rw [hb] at hv
    exact wpIn_cond_false (rep_bool hv) (h2 l n cal fuel hc hci hno hr i hn)
  · cases hr
theorem codeR_block {id : Nat} {c : Code} {m : MCode} (h : CodeR P c m) : CodeR P (.block id c) (.block id m) := by
  intro l n cal fuel hc hci ae fr fr' σ σ' a g w Q hno hr i hn
  have hno' : ¬ LetsOut (Exit.inBlock id Q) := fun ⟨a, w, h⟩ => hno ⟨a, w, h⟩
  simp only [runC] at hr
  split at hr
  · rename_i i' fr1 σ1 hr1
    refine wpIn_block (h l n cal fuel hc hci hno' hr1 i (fun a1 w1 g1 e1 i1 => ?_))
    simp only [AE.exit', Exit.inBlock]
    split at hr
    · rename_i hid
      cases hr
      rw [if_pos hid]
      exact hn a1 w1 g1 e1 i1
    · rename_i hid
      cases hr
      rw [if_neg hid]
      exact hn a1 w1 g1 e1 i1
  · rename_i hnn
    refine wpIn_block (h l n cal fuel hc hci hno' hr i (fun a1 w1 g1 e1 i1 => ?_))
    cases ae with
    | normal => exact hn a1 w1 g1 e1 i1
    | exit id' => exact absurd hr (hnn _ _ _)
    | ret => exact hn a1 w1 g1 e1 i1

/-! a round -/
def AE.jump : AE → Option Code
  | .normal => none
  | .exit id => some (.exit id)
  | .ret => some .ret
/-- The loop's record behind a round that was left so. -/
def leftL (r : Loop) (ae : AE) : Loop := { r with state := if ae.jump.isNone then .ready else .done, pending := ae.jump }

theorem round_ok (hc : CalOK P cal) (hci : CalIn P cal) {fuel : Nat} {l n p : Nat} {r : Loop} {v : Value} {ma mb : MCode} {ae : AE} {fr1 fr2 : Fr} {σ1 σ2 : St}
    (hr : w.heap[l]? = some (.loop r)) (hst : r.state = .ready) (hω : g.ω l = .other) (hp : r.params = #[p]) (s : SInv P g w fr r.tmps) (hs : fr.isStill = true) (hi : HInv P g w σ) (hbase : g.base = []) (hv : Rep g v d) (hd : stillD d = true)
    (ha : CodeR P r.assign ma) (hb : CodeR P r.body mb) (h1 : runC cal fuel ma (fr.set p d) σ = some (.normal, fr1, σ1)) (h2 : runC cal fuel mb fr1 σ1 = some (ae, fr2, σ2)) :
    RoundIn Fence.wide n P l r.fn ((r.params.zip #[v]).foldl (fun tmps (t, a) => tmps.setIfInBounds t a) r.tmps) r.assign r.body w
      (fun e w' => e = .returned (.bool ae.jump.isNone) ∧ ∃ g', ExtBut (fun b => b = l) g w g' w' ∧ HInv P g' w' σ2 ∧ w'.heap[l]? = some (.loop (leftL r ae))) := by
  have ht : (r.params.zip #[v]).foldl (fun tmps (x : Tmp × Value) => tmps.setIfInBounds x.1 x.2) r.tmps = r.tmps.setIfInBounds p v := by rw [hp]; simp
  rw [show ((r.params.zip #[v]).foldl (fun tmps (t, a) => tmps.setIfInBounds t a) r.tmps) = r.tmps.setIfInBounds p v from ht]
  have i0 : Inv P g w (fr.set p d) σ { tmps := r.tmps.setIfInBounds p v, defers := [] } :=
    ⟨hi, s.setStill hs hv hd, ⟨[], by rw [hbase]; rfl, by rw [show (fr.set p d).defers = fr.defers from rfl, (still_parts hs).2.2]; exact ⟨rfl, fun k x y h => by simp at h⟩⟩⟩
  refine roundIn_of_wpIn trivial (ha l n cal fuel hc hci (fun ⟨_, _, h⟩ => h) h1 i0 (fun a1 w1 g1 e1 i1 => ?_))
  have hlt : l < w.heap.size := (Array.getElem?_eq_some_iff.1 hr).1
  obtain ⟨k1, k2⟩ := e1.blk l hlt (by rw [hω]; rfl)
  have hr1 : w1.heap[l]? = some (.loop r) := k1.trans hr
  have hω1 : g1.ω l = .other := k2.trans hω
  refine ⟨_, run_beginRound hr1 hst, ?_⟩
  have hr2 : (w1.putObj l (.loop { r with state := .busy })).heap[l]? = some (.loop { r with state := .busy }) := World.putObj_heap_same (Array.getElem?_eq_some_iff.1 hr1).1
  have e2 : ExtBut (fun b => b = l) g w g1 (w1.putObj l (.loop { r with state := .busy })) := e1.but.trans (ExtBut.put (X := fun b => b = l) (b := l) rfl _)
  refine hb l n cal fuel hc hci (fun ⟨_, _, h⟩ => h) h2 (i1.putOther hr1 (fun _ _ _ h => by cases h) hω1 _) (fun a2 w2 g2 e3 i2 => ?_)
  obtain ⟨k3, k4⟩ := e3.blk l (Array.getElem?_eq_some_iff.1 hr2).1 (by rw [hω1]; rfl)
  have hr3 : w2.heap[l]? = some (.loop { r with state := .busy }) := k3.trans hr2
  have hω2 : g2.ω l = .other := k4.trans hω1
  have fin : ∃ v w', (Instr.endRound l ae.jump).run P w2 = .ok v w' ∧ ((Ending.returned v = .returned (.bool ae.jump.isNone)) ∧ ∃ g', ExtBut (fun b => b = l) g w g' w' ∧ HInv P g' w' σ2 ∧ w'.heap[l]? = some (.loop (leftL r ae))) := by
    refine ⟨_, _, run_endRound ae.jump hr3, rfl, g2, (e2.trans e3.but).trans (ExtBut.put (X := fun b => b = l) (b := l) rfl _), i2.h.putOther hr3 (fun _ _ _ h => by cases h) hω2 _, ?_⟩
    exact World.putObj_heap_same (Array.getElem?_eq_some_iff.1 hr3).1
  cases ae with
  | normal => exact fin
  | ret => exact fin
  | exit id => exact fin

/-! a call of yield -/
theorem run_yieldOp {c : Call} {t : Tmp} {x : Operand} {l : Nat} {r : Loop} (hop : o.op = .call c) (hcal : c.callee = .value (.tmp t)) (hargs : c.args = #[x]) (hv : a.eval (.tmp t) = .func (.yield l) #[] #[]) (hr : w.heap[l]? = some (.loop r)) (hp : r.params.size = 1) :
    (execOp a.eval o).run P w = .ok (.round l r.fn ((r.params.zip #[a.eval x]).foldl (fun tmps (t, a) => tmps.setIfInBounds t a) r.tmps) r.assign r.body) w := by
  simp only [execOp, hop, resolve, hcal, hargs]
  have : Deferred.ofValue (a.eval (.tmp t)) (#[x].map a.eval) = pure { target := .fn (.yield l) #[], args := #[a.eval x] } := by
    rw [hv]
    simp [Deferred.ofValue]
  rw [this]
  simp only [pure_bind, invoke]
  exact run_yield (args := #[a.eval x]) hr (by simp [hp])
theorem oper_wide {n : Nat} {next : Act → World → Prop} (hd : ∀ c, o.op ≠ .defer c) (h : o.wp P a w next Q) : o.wpIn Fence.wide n P a w next Q := by
  refine ⟨fun _ _ => trivial, ?_⟩
  have hs : Oper.semAt Fence.wide.round a.eval o = execOp a.eval o := by
    show Oper.semAt none a.eval o = _
    simp [go_sem]
  rw [hs]
  unfold Oper.wp at h
  generalize (execOp a.eval o).run P w = r at h ⊢
  cases r with
  | ok x w' =>
    cases x <;> simp only [Oper.upon] at h <;> simp only [Oper.uponIn] <;>
      first
        | exact h.elim
        | exact h
        | exact ⟨fun hh => absurd hh (by simp [Fence.wide]), callsIn_wide.2 h⟩
        | (refine ⟨fun hh => absurd hh (by simp [Fence.wide]), fun c cs _ => ?_⟩
           obtain ⟨v, w2, h1, h2⟩ := h c cs
           exact ⟨v, w2, h1, stepsIn_wide.2 h2⟩)
  | halt x w' => cases x <;> simp only [Oper.upon] at h <;> first | exact h.elim | exact h
/-- One operation of a region that is walked at the wide fence. -/
theorem wide_op {ops : Array Oper} {n : Nat} {rest : List Oper} {m : MOper} (hc : CalOK P cal) (hci : CalIn P cal) (hnd : ∀ c, o.op ≠ .defer c) (hm : compOper P mu ops.toList o = some m) (hr : runOp cal q m fr σ = some (fr', σ')) (i : Inv P g w fr σ a)
    (hn : ∀ a' w' g', Ext g w g' w' → Inv P g' w' fr' σ' a' → wpListIn Fence.wide n P ops Q rest a' w') : wpListIn Fence.wide n P ops Q (o :: rest) a w := by
  have := snd_runOp (Q := Q) hc hci hm hr i (wpListIn Fence.wide n P ops Q rest) hn
  unfold wpListIn
  split
  · rename_i hw
    rw [if_pos hw] at this
    exact oper_wide hnd this
  · rename_i hw
    rw [if_neg hw] at this
    exact ⟨fun _ _ => trivial, this⟩
/-- The call of yield, in such a region. -/
theorem wide_yield {ops : Array Oper} {n : Nat} {rest : List Oper} {c : Call} {t : Tmp} {x : Operand} {l : Nat} {r : Loop} {R : Ending → World → Prop} (hop : o.op = .call c) (hcal : c.callee = .value (.tmp t)) (hargs : c.args = #[x]) (hg : o.guard = none)
    (hv : a.eval (.tmp t) = .func (.yield l) #[] #[]) (hr : w.heap[l]? = some (.loop r)) (hp : r.params.size = 1)
    (hR : RoundIn Fence.wide (n - 1) P l r.fn ((r.params.zip #[a.eval x]).foldl (fun tmps (t, a) => tmps.setIfInBounds t a) r.tmps) r.assign r.body w R)
    (hn : ∀ e w', R e w' → ∃ v, e = .returned v ∧ wpListIn Fence.wide n P ops Q rest (a.put o.dst v) w') : wpListIn Fence.wide n P ops Q (o :: rest) a w := by
  have hw : Region.wanted o (yielded ops a.tmps) = true := by simp [Region.wanted, hg]
  unfold wpListIn
  rw [if_pos hw]
  refine ⟨fun _ _ => trivial, ?_⟩
  have hs : Oper.semAt Fence.wide.round a.eval o = execOp a.eval o := by
    show Oper.semAt none a.eval o = _
    simp [go_sem]
  rw [hs, run_yieldOp hop hcal hargs hv hr hp]
  refine ⟨fun hh => absurd hh (by simp [Fence.wide]), RoundIn.mono hR (fun e w' he => ?_)⟩
  obtain ⟨v, rfl, h⟩ := hn e w' he
  exact h

/-! the statement -/
theorem rangeFunc_ok {t : Tmp} {ps : Array Tmp} {assign body : Code} {f : FuncId} {vs : Array Value} (i : Inv P g w fr σ a) (hs : fr.isStill = true) (hv : a.eval (.tmp t) = .func (.func f) #[] vs) (hen : Enters P f) (K : AE → St → Prop)
    (hit : ∀ (fn : FuncId) (g1 : Gh) (w1 : World) (l : Nat) (r : Loop), r.fn = fn → r.state = .ready → r.pending = none → r.params = ps → r.assign = assign → r.body = body → r.tmps = a.tmps → w1.heap[l]? = some (.loop r) → g1.ω l = .other → g1.base = [] → HInv P g1 w1 σ → g.Le g1 → (∀ b, b < w.heap.size → w1.heap[b]? = w.heap[b]? ∧ g1.ω b = g.ω b) →
      CallsIn Fence.wide 0 P f (#[.func (.yield l) #[] #[]] ++ vs) w1 (fun e w2 => (∃ v, e = .returned v) ∧ ∃ g2 ae σ2, ExtBut (fun b => b = l) g1 w1 g2 w2 ∧ HInv P g2 w2 σ2 ∧ w2.heap[l]? = some (.loop (leftL r ae)) ∧ K ae σ2))
    (hn : ∀ ae σ' a' w' g', K ae σ' → ExtM g w g' w' → Inv P g' w' fr σ' a' → Q ae.exit' a' w') : (Code.rangeFunc (.tmp t) ps assign body).wp P Q a w := by
  refine (wpIn_wide (n := 0)).1 (wpIn_rangeFunc fun fn _ => ?_)
  let b := w.heap.size
  let mk : Deferred := { target := .collected b, args := #[] }
  let r : Loop := { state := .ready, pending := none, fn, tmps := a.tmps, params := ps, assign, body, defers := b }
  let w1 : World := (w.alloc (.deferred (some []))).alloc (.loop r)
  let g1 : Gh := ((g.tagAt w.heap.size .other).tagAt (w.heap.size + 1) .other).bare
  refine ⟨b + 1, [mk], w1, { target := .fn (.func f) vs, args := #[.func (.yield (b + 1)) #[] #[]] }, w1, f, #[.func (.yield (b + 1)) #[] #[]] ++ vs, w1, run_enterLoop_outer fn a.tmps ps assign body, ?_, fun _ _ => trivial, ?_, fun hh => absurd hh (by simp [Fence.wide]), ?_⟩
  · simp only [resolve]
    have : Deferred.ofValue (a.eval (.tmp t)) #[.func (.yield (b + 1)) #[] #[]] = pure { target := .fn (.func f) vs, args := #[.func (.yield (b + 1)) #[] #[]] } := by
      rw [hv]
      simp [Deferred.ofValue]
    have hm : (#[Operand.const (.func (.yield (b + 1)) #[] #[])] : Array Operand).map a.eval = #[.func (.yield (b + 1)) #[] #[]] := by simp [Act.eval]
    rw [hm, this]
    rfl
  · simp only [invoke]
    exact enter_run hen _ _
  · have i1 : Inv P ((g.tagAt w.heap.size .other).tagAt (w.heap.size + 1) .other) w1 fr σ a := by
      have := (i.alloc (.deferred (some [])) .other).alloc (.loop r) .other
      rw [World.size_alloc] at this
      exact this
    have hl : w1.heap[b + 1]? = some (.loop r) := by
      have := heap_new (w.alloc (.deferred (some []))) (.loop r)
      rw [World.size_alloc] at this
      exact this
    have hb1 : w1.heap[b]? = some (.deferred (some [])) := by
      show ((w.alloc (.deferred (some []))).alloc (.loop r)).heap[b]? = _
      rw [heap_old _ _ (by rw [World.size_alloc]; exact Nat.lt_succ_self _)]
      exact heap_new w _
    have hωb : g1.ω b = .other := by simp [g1, Gh.bare, Gh.tagAt, b]
    have hsz : w1.heap.size = b + 2 := by simp [w1, b]
    have hsame : ∀ c, c < w.heap.size → w1.heap[c]? = w.heap[c]? ∧ g1.ω c = g.ω c := fun c hc => by
      refine ⟨?_, ?_⟩
      · show ((w.alloc (.deferred (some []))).alloc (.loop r)).heap[c]? = _
        rw [heap_old _ _ (by rw [World.size_alloc]; omega)]
        exact heap_old _ _ hc
      · have h1 : c ≠ w.heap.size := by omega
        have h2 : c ≠ w.heap.size + 1 := by omega
        simp [g1, Gh.bare, Gh.tagAt, h1, h2]
    refine CallsIn.mono (hit fn g1 w1 (b + 1) r rfl rfl rfl rfl rfl rfl rfl hl (by simp [g1, Gh.bare, Gh.tagAt, b]) rfl i1.h.bare ⟨fun _ _ _ h => h, Nat.le_refl _, fun _ _ => rfl, fun _ _ => rfl⟩ hsame) ?_
    rintro e w2 ⟨⟨v, rfl⟩, g2, ae, σ2, e2, h2, hl2, hK⟩
    have hbusy : (leftL r ae).state ≠ .busy := by cases ae <;> simp [leftL, AE.jump]
    refine ⟨ae.jump, _, run_endLoop hl2 hbusy, ?_⟩
    let w4 := w2.putObj (b + 1) (.loop { (leftL r ae) with state := .exhausted })
    let g4 : Gh := { g2 with base := mk :: g.base }
    have hω2 : g2.ω (b + 1) = .other := ((e2.blk (b + 1) (by omega) (by simp [g1, Gh.bare, Gh.tagAt, b, Tag.mine])).2).trans (by simp [g1, Gh.bare, Gh.tagAt, b])
    have h4 : HInv P g4 w4 σ2 := (h2.putOther hl2 (fun _ _ _ h => by cases h) hω2 _).to ⟨fun _ _ _ h => h, Nat.le_refl _, fun _ _ => rfl, fun _ _ => rfl⟩ rfl rfl rfl rfl (fun _ _ _ h => h)
    have hle : g.Le g4 := ⟨e2.le.I, e2.le.n, e2.le.μ, e2.le.sz⟩
    have i4 : Inv P g4 w4 fr σ2 { a with defers := [mk] ++ a.defers } := by
      refine ⟨h4, i.s.later hs hle, ?_⟩
      obtain ⟨dl, hd1, hd2⟩ := i.d
      have hdl : dl = [] := by
        have := hd2.1
        rw [(still_parts hs).2.2] at this
        exact List.eq_nil_of_length_eq_zero (by simpa using this)
      subst hdl
      refine ⟨[], ?_, ?_⟩
      · show [mk] ++ a.defers = [] ++ (mk :: g.base)
        rw [hd1]
        rfl
      · rw [(still_parts hs).2.2]
        exact ⟨rfl, fun k x y h => by simp at h⟩
    have hold : ∀ c, c < b → w4.heap[c]? = w2.heap[c]? := fun c hc => World.putObj_heap_other (by omega)
    have hw1 : ∀ c, c < b → w1.heap[c]? = w.heap[c]? := fun c hc => by
      show ((w.alloc (.deferred (some []))).alloc (.loop r)).heap[c]? = _
      rw [heap_old _ _ (by rw [World.size_alloc]; omega)]
      exact heap_old _ _ hc
    have hg1 : ∀ c, c < b → g1.ω c = g.ω c := fun c hc => by
      have h1 : c ≠ w.heap.size := by omega
      have h2 : c ≠ w.heap.size + 1 := by omega
      simp [g1, Gh.bare, Gh.tagAt, h1, h2]
    have e4 : ExtM g w g4 w4 := by
      refine ⟨hle, e2.os, e2.tape, e2.output, ?_, fun c hc hm => ?_, fun c off u hu => ?_, fun n0 hn0 hM => ?_⟩
      · have := e2.size
        rw [hsz] at this
        have h5 : w4.heap.size = w2.heap.size := World.putObj_size
        omega
      · obtain ⟨q1, q2⟩ := e2.blk c (by omega) (by rw [hg1 c hc]; exact hm)
        exact ⟨((hold c hc).trans (q1 (by omega))).trans (hw1 c hc), q2.trans (hg1 c hc)⟩
      · rcases e2.new c off u hu with h | h | h
        · exact .inl h
        · exact .inr (.inl (by omega))
        · rcases Nat.lt_or_ge c b with hlt | hge
          · rw [hg1 c hlt] at h
            exact .inr (.inr h)
          · exact .inr (.inl hge)
      · have hbb : w4.heap[b]? = some (.deferred (some [])) := by
          have q := (e2.blk b (by omega) (by rw [hωb]; rfl)).1 (by omega)
          exact ((World.putObj_heap_other (by omega)).trans q).trans hb1
        have hωb4 : g4.ω b = .other := ((e2.blk b (by omega) (by rw [hωb]; rfl)).2).trans hωb
        refine ⟨fun d hd => ?_, ?_⟩
        · rcases List.mem_cons.1 hd with rfl | hd
          · exact ⟨b, rfl, hn0, hbb, hωb4⟩
          · obtain ⟨c, q1, q2, q3, q4⟩ := hM.1 d hd
            have hc : c < b := lt_of_heap q3
            obtain ⟨k1, k2⟩ := e2.blk c (by omega) (by rw [hg1 c hc, q4]; rfl)
            exact ⟨c, q1, q2, (((hold c hc).trans (k1 (by omega))).trans (hw1 c hc)).trans q3, k2.trans ((hg1 c hc).trans q4)⟩
        · refine List.pairwise_cons.2 ⟨fun d hd e => ?_, hM.2⟩
          obtain ⟨c, q1, q2, q3, q4⟩ := hM.1 d hd
          rw [q1] at e
          have : b = c := by
            have := congrArg Deferred.target e
            simpa [mk] using this
          have hc : c < b := lt_of_heap q3
          omega
    have fin := hn ae σ2 _ _ g4 hK e4 i4
    cases ae with
    | normal => exact fin
    | ret => exact wpIn_ret fin
    | exit id => exact wpIn_exit fin
end
end Go.Abs

/-
  A range over the line of a node: what it does, told by a function.
-/
namespace Go.Abs
open Go

def noCal : Cal := fun _ _ _ => none
/-- A place of an object that is another object. -/
def mapAt (σ : St) (o k : Nat) : Option (List (D × D)) :=
  match σ[o]? with
  | some (.cells cs) =>
    match cs[k]? with
    | some (.map m) =>
      match σ[m]? with
      | some (.map es) => some es
      | _ => none
    | _ => none
  | _ => none
def ptrAt (σ : St) (p : Nat) : Option Nat :=
  match σ[p]? with
  | some (.cells (.ptr o 0 :: _)) => some o
  | _ => none
def strAt (σ : St) (p k : Nat) : Option (List UInt8) :=
  match σ[p]? with
  | some (.cells cs) =>
    match cs[k]? with
    | some (.str s) => some s
    | _ => none
  | _ => none
/-- The node of a name. -/
def nodeOf (σ : St) (o : Nat) (s : List UInt8) : Option D :=
  match mapAt σ o 0 with
  | some es => (findKey 1 (.str s) es).map fun r => r.getD .nilp
  | none => none
def stepL (σ : St) (pt nd : Nat) : Option D :=
  match ptrAt σ pt, strAt σ nd 1 with
  | some o, some s => nodeOf σ o s
  | _, _ => none
def startL (σ : St) (pt pn : Nat) : Option D :=
  match ptrAt σ pt, strAt σ pn 0 with
  | some o, some s => nodeOf σ o s
  | _, _ => none
def lineIt (round : D → St → Option (AE × St)) (pt : Nat) : Nat → D → St → Option (AE × St)
  | 0, _, _ => none
  | _ + 1, .nilp, σ => some (.normal, σ)
  | n + 1, .ptr nd 0, σ =>
    match round (.ptr nd 0) σ with
    | some (.normal, σ') =>
      match stepL σ' pt nd with
      | some d => lineIt round pt n d σ'
      | none => none
    | r => r
  | _ + 1, _, _ => none
def roundR (ma mb : MCode) (fr : Fr) (p : Nat) (x : D) (σ : St) : Option (AE × St) :=
  match runC noCal 100 ma (fr.set p x) σ with
  | some (.normal, fr1, σ1) => (runC noCal 100 mb fr1 σ1).map fun r => (r.1, r.2.2)
  | _ => none
def Fr.still (fr : Fr) : Fr := { fr with slots := fr.slots.map D.strip }
def Fr.promoteL (fr : Fr) (σ : St) : List Nat → Option (Fr × St)
  | [] => some (fr, σ)
  | t :: ts =>
    match fr.promote σ t with
    | some (fr, σ) => Fr.promoteL fr σ ts
    | none => none
/-- The statement: a range over the closure in place t, with the round's parameter in place p; the variables in ts are seen by the rounds. -/
def lineN (fid : Nat) (ts : List Nat) (t p : Nat) (ma mb : MCode) (fr : Fr) (σ : St) : RunR :=
  match fr.promoteL σ ts with
  | some (fr1, σ1) =>
    if fr1.still.isStill then
      match fr1.still.at t with
      | .func f [.ptr pt 0, .ptr pn 0] =>
        if f = fid then
          match startL σ1 pt pn with
          | some d => (lineIt (roundR ma mb fr1.still p) pt 1000 d σ1).map fun r => (r.1, fr1.still, r.2)
          | none => none
        else none
      | _ => none
    else none
  | none => none

section
variable {P : Program} {g g' : Gh} {w w' : World} {fr fr' : Fr} {σ σ' : St} {a : Act}
open Go.RowKit
theorem Inv.still (i : Inv P g w fr σ a) : Inv P g w fr.still σ a := by
  refine ⟨i.h, ⟨by simpa [Fr.still] using i.s.size, by simpa [Fr.still] using i.s.blen, fun t d hd => ?_, i.s.boxes⟩, i.d⟩
  simp only [Fr.still, List.getElem?_map, Option.map_eq_some_iff] at hd
  obtain ⟨d0, h0, rfl⟩ := hd
  obtain ⟨v, q1, q2, q3, q4⟩ := i.s.slots t d0 h0
  exact ⟨v, q1, q2.strip, .of_strip, fun s off e => q4 s off (by cases d0 <;> first | exact e | cases e)⟩
theorem promoteL_ok : ∀ (ts : List Nat) {fr fr' : Fr} {σ σ' : St} {g : Gh}, fr.promoteL σ ts = some (fr', σ') → Inv P g w fr σ a → ∃ g', Ext g w g' w ∧ Inv P g' w fr' σ' a
  | [], fr, fr', σ, σ', g, h, i => by
    simp only [Fr.promoteL, Option.some.injEq, Prod.mk.injEq] at h
    obtain ⟨rfl, rfl⟩ := h
    exact ⟨g, .refl g w, i⟩
  | t :: ts, fr, fr', σ, σ', g, h, i => by
    simp only [Fr.promoteL] at h
    split at h
    · rename_i fr1 σ1 h1
      obtain ⟨sz, i1, e1, _⟩ := i.promote h1
      obtain ⟨g2, e2, i2⟩ := promoteL_ok ts h i1
      exact ⟨g2, e1.trans e2, i2⟩
    · cases h
theorem noCal_ok : CalOK P noCal := fun _ _ _ _ _ h => by cases h
theorem noCal_in : CalIn P noCal := fun _ _ _ _ h => by cases h
theorem wide_code {mu : Bool} {cal : Cal} {n : Nat} {Q : Exit → Act → World → Prop} (hm : P.follows .mixedOrders = true) (hc : CalOK P cal) (hci : CalIn P cal) {keep : List Nat} {c : Code} {m : MCode} (h : compC P mu keep c = some m) (fuel : Nat) {ae : AE}
    (hr : runC cal fuel m fr σ = some (ae, fr', σ')) (i : Inv P g w fr σ a) (hn : ∀ a' w' g', Ext g w g' w' → Inv P g' w' fr' σ' a' → Q ae.exit' a' w') : c.wpIn Fence.wide n P Q a w :=
  wpIn_wide.2 (wp_code hm hc hci keep fuel c h hr i hn)
end
end Go.Abs
