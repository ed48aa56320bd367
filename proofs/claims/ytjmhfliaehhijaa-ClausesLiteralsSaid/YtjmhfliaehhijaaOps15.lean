/-
  Calls and deferred calls, as operations.
-/
import Derived.Test.YtjmhfliaehhijaaOps14
set_option linter.unusedVariables false
set_option linter.unusedSimpArgs false
namespace Go.Abs
open Go Go.RowKit

section
variable {P : Program} {g g' : Gh} {w w' : World} {fr fr' : Fr} {σ σ' : St} {a : Act} {o : Oper} {d : D} {cal : Cal} {q mu : Bool} {ops : List Oper}

/-- The program's function is entered when it is called. -/
def Enters (P : Program) (f : Nat) : Prop := ∃ fn c, P.funcs[f]? = some fn ∧ fn.body = some c ∧ (fn.name == "runtime.NumGoroutine") = false

def CalIn (P : Program) (cal : Cal) : Prop := ∀ (f : Nat) (ds : List D) (σ : St) (r : D × St), cal f ds σ = some r → Enters P f

theorem enter_run {f : Nat} (h : Enters P f) (args : Array Value) (w : World) : (callFunc f args).run P w = .ok (.enter f args) w := by
  obtain ⟨fn, c, hf, hb, hname⟩ := h
  have h1 : fn.name ≠ "runtime.NumGoroutine" := by simpa using hname
  simp [callFunc, hf, h1, hb]

theorem doCall_in (hci : CalIn P cal) {f : Nat} {ds : List D} {r : D × St} (h : doCall cal f ds σ = some r) : Enters P f := by
  unfold doCall at h
  split at h
  · split at h
    · cases h
    · split at h
      · cases h
      · rename_i hcal
        exact hci _ _ _ _ hcal
  · split at h
    · exact hci _ _ _ _ h
    · cases h

theorem doCallQ_in (hci : CalIn P cal) {f : Nat} {ds : List D} {r : D} (h : doCallQ cal f ds σ = some r) : Enters P f := by
  unfold doCallQ at h
  split at h
  · split at h
    · cases h
    · split at h
      · cases h
      · rename_i hcal
        exact hci _ _ _ _ hcal
  · cases h

/-- What a call answered is put into its place. -/
theorem put_answer (i : Inv P g w fr σ a) {v : Value} (hr : Rep g v d) (hn : d.notL = true) (ho : Own P g w .hand v d) (dst : Option Nat) :
    ∃ g', Ext g w g' w ∧ Inv P g' w (fr.put dst d) σ (a.put dst v) := by
  obtain ⟨g3, r1, r2, r3, r4⟩ := retag i hr ho (match dst with | some t => .sbuf t | none => .sbuf 0)
  exact ⟨g3, r1, r2.put dst r3 (fun t ht => by subst ht; exact r4) (fun s off e => by subst e; simp [D.notL] at hn)⟩

theorem snd_enter {f : Nat} {vals : Array Value} (hrun : (execOp a.eval o).run P w = .ok (.enter f vals) w)
    (h : Calls P f vals w (fun e w' => ∃ v, e = .returned v ∧ ∃ g', Ext g w g' w' ∧ Inv P g' w' fr' σ' a ∧ Rep g' v d ∧ d.notL = true ∧ Own P g' w' .hand v d)) : Snd P g w a o fr' σ' d := by
  intro next Q hn
  unfold Oper.wp
  rw [hrun, Oper.upon_enter]
  refine Calls.mono h ?_
  rintro e w' ⟨v, rfl, g1, e1, i1, r1, n1, o1⟩
  obtain ⟨g2, e2, i2⟩ := put_answer i1 r1 n1 o1 o.dst
  exact hn _ _ g2 (e1.trans e2) i2

theorem Calls.shift {f : Nat} {vals : Array Value} {g1 : Gh} (e1 : Ext g w g1 w)
    (h : Calls P f vals w (fun e w' => ∃ v, e = .returned v ∧ ∃ g', Ext g1 w g' w' ∧ Inv P g' w' fr' σ' a ∧ Rep g' v d ∧ d.notL = true ∧ Own P g' w' .hand v d)) :
    Calls P f vals w (fun e w' => ∃ v, e = .returned v ∧ ∃ g', Ext g w g' w' ∧ Inv P g' w' fr' σ' a ∧ Rep g' v d ∧ d.notL = true ∧ Own P g' w' .hand v d) :=
  Calls.mono h fun e w' ⟨v, h1, g2, h2, h3⟩ => ⟨v, h1, g2, e1.trans h2, h3⟩

theorem vals_ok' (i : Inv P g w fr σ a) : ∀ {xs : List Operand} {xs' : List X}, compXs xs = some xs' → AllRep (Rep g) (xs.map a.eval) (xs'.map fr.val)
  | [], xs', hc => by
    simp [compXs] at hc
    subst hc
    exact ⟨rfl, fun i v d h => by simp at h⟩
  | x :: xs, xs', hc => by
    simp only [compXs, List.mapM_cons, Option.bind_eq_bind, Option.pure_def, Option.bind_eq_some_iff] at hc
    obtain ⟨y, h1, ys, h2, h3⟩ := hc
    cases h3
    exact .cons (val_ok i.s h1).1 (vals_ok' i h2)

theorem deeps_ok (i : Inv P g w fr σ a) {xs : List Operand} {xs' : List X} (h : compXs xs = some xs') : AllRep (Rep g) (xs.map a.eval) (xs'.map fun x => (fr.val x).deep) := by
  have h1 := vals_ok' i h
  refine ⟨by simpa using h1.1, fun k v d h2 h3 => ?_⟩
  simp only [List.getElem?_map, Option.map_eq_some_iff] at h3
  obtain ⟨x, h3, rfl⟩ := h3
  exact (h1.2 k v (fr.val x) h2 (by simp [h3])).deep

theorem AllRep.append {R : Value → D → Prop} {vs us : List Value} {ds es : List D} (h : AllRep R vs ds) (k : AllRep R us es) : AllRep R (vs ++ us) (ds ++ es) := by
  refine ⟨by simp [h.1, k.1], fun i v d h1 h2 => ?_⟩
  by_cases hi : i < vs.length
  · rw [List.getElem?_append_left hi] at h1
    rw [List.getElem?_append_left (by rw [← h.1]; exact hi)] at h2
    exact h.2 i v d h1 h2
  · rw [List.getElem?_append_right (by omega)] at h1
    rw [List.getElem?_append_right (by rw [← h.1]; omega)] at h2
    rw [h.1] at h1
    exact k.2 _ v d h1 h2

theorem snd_call (hc : CalOK P cal) (hci : CalIn P cal) {c : Call} {f : FuncId} (hop : o.op = .call c) (hcal : c.callee = .value (.func f)) {xs : List X} (hX : compXs c.args.toList = some xs)
    (he : evalOp cal q o.dst (.call f xs) fr σ = some (d, fr', σ')) (i : Inv P g w fr σ a) : Snd P g w a o fr' σ' d := by
  have hrun : Enters P f → (execOp a.eval o).run P w = .ok (.enter f (c.args.map a.eval)) w := fun hin => by
    simp only [execOp, hop, resolve, hcal]
    have : Deferred.ofValue (a.eval (.func f)) (c.args.map a.eval) = pure { target := .fn (.func f) #[], args := c.args.map a.eval } := by
      simp [Act.eval, Deferred.ofValue]
    rw [this]
    simp only [pure_bind, invoke, Array.append_empty]
    exact enter_run hin _ _
  simp only [evalOp] at he
  split at he
  · rw [Option.map_eq_some_iff] at he
    obtain ⟨r, h1, h2⟩ := he
    cases h2
    refine snd_enter (hrun (doCallQ_in hci h1)) (doCallQ_ok hc i h1 ?_)
    rw [Array.toList_map]
    exact deeps_ok i hX
  · split at he
    · cases he
    · rename_i ds fr1 σ1 hp
      rw [Option.map_eq_some_iff] at he
      obtain ⟨⟨r, σ2⟩, h1, h2⟩ := he
      cases h2
      obtain ⟨g1, e1, i1, r1, n1, s1⟩ := promoteAll_ok i hX hp
      refine snd_enter (hrun (doCall_in hci h1)) (Calls.shift e1 (doCall_ok hc i1 h1 ?_))
      rw [Array.toList_map]
      exact r1

theorem snd_callv (hc : CalOK P cal) (hci : CalIn P cal) {c : Call} {t : Tmp} (hop : o.op = .call c) (hcal : c.callee = .value (.tmp t)) {xs : List X} (hX : compXs c.args.toList = some xs)
    (he : evalOp cal q o.dst (.callv (.tmp t) xs) fr σ = some (d, fr', σ')) (i : Inv P g w fr σ a) : Snd P g w a o fr' σ' d := by
  have hv := (val_ok i.s (x := .tmp t) (X := .tmp t) rfl).1
  simp only [evalOp] at he
  split at he
  · rename_i f caps hf
    rw [hf] at hv
    obtain ⟨vs, hvv, hvr, hvn⟩ : ∃ vs : Array Value, a.eval (.tmp t) = .func (.func f) #[] vs ∧ AllRep (Rep g) vs.toList caps ∧ caps.all D.notL = true := by
      generalize a.eval (.tmp t) = v at hv
      cases hv with
      | func _ vs _ hl hR hp => exact ⟨vs, rfl, ⟨hl, hR⟩, hp⟩
    have hrun : Enters P f → (execOp a.eval o).run P w = .ok (.enter f (c.args.map a.eval ++ vs)) w := fun hin => by
      simp only [execOp, hop, resolve, hcal]
      have : Deferred.ofValue (a.eval (.tmp t)) (c.args.map a.eval) = pure { target := .fn (.func f) vs, args := c.args.map a.eval } := by
        rw [hvv]
        simp [Deferred.ofValue]
      rw [this]
      simp only [pure_bind, invoke]
      exact enter_run hin _ _
    split at he
    · rw [Option.map_eq_some_iff] at he
      obtain ⟨r, h1, h2⟩ := he
      cases h2
      refine snd_enter (hrun (doCallQ_in hci h1)) (doCallQ_ok hc i h1 ?_)
      rw [Array.toList_append, Array.toList_map]
      exact (deeps_ok i hX).append hvr
    · split at he
      · cases he
      · rename_i ds fr1 σ1 hp
        rw [Option.map_eq_some_iff] at he
        obtain ⟨⟨r, σ2⟩, h1, h2⟩ := he
        cases h2
        obtain ⟨g1, e1, i1, r1, n1, s1⟩ := promoteAll_ok i hX hp
        refine snd_enter (hrun (doCall_in hci h1)) (Calls.shift e1 (doCall_ok hc i1 h1 ?_))
        rw [Array.toList_append, Array.toList_map]
        exact r1.append (hvr.mono e1.le hvn)
  · cases he

theorem Inv.newDefer (i : Inv P g w fr σ a) {df : Deferred} {f : D × List D} (h : ∃ fn caps, df.target = .fn (.func fn) caps ∧ ∃ cd, f.1 = .func fn cd ∧ Rep g (.func (.func fn) #[] caps) f.1 ∧ AllRep (Rep g) df.args.toList f.2 ∧ f.2.all D.notL = true) :
    Inv P g w { fr with defers := f :: fr.defers } σ { a with defers := df :: a.defers } := by
  refine ⟨i.h, ⟨i.s.size, i.s.blen, i.s.slots, i.s.boxes⟩, ⟨by simpa using i.d.1, fun k x y h1 h2 => ?_⟩⟩
  cases k with
  | zero =>
    simp at h1 h2
    subst h1 h2
    exact h
  | succ k => exact i.d.2 k x y (by simpa using h1) (by simpa using h2)

theorem snd_defer {c : Call} {t : Tmp} (hop : o.op = .defer c) (hcal : c.callee = .value (.tmp t)) {xs : List X} (hX : compXs c.args.toList = some xs)
    (he : evalOp cal q o.dst (.defer (.tmp t) xs) fr σ = some (d, fr', σ')) (i : Inv P g w fr σ a) : Snd P g w a o fr' σ' d := by
  have hv := (val_ok i.s (x := .tmp t) (X := .tmp t) rfl).1
  simp only [evalOp] at he
  split at he
  · rename_i f caps hf
    rw [hf] at hv
    obtain ⟨vs, hvv, hvr, hvn⟩ : ∃ vs : Array Value, a.eval (.tmp t) = .func (.func f) #[] vs ∧ AllRep (Rep g) vs.toList caps ∧ caps.all D.notL = true := by
      generalize a.eval (.tmp t) = v at hv
      cases hv with
      | func _ vs _ hl hR hp => exact ⟨vs, rfl, ⟨hl, hR⟩, hp⟩
    split at he
    · cases he
    · rename_i ds fr1 σ1 hp
      cases he
      obtain ⟨g1, e1, i1, r1, n1, s1⟩ := promoteAll_ok i hX hp
      intro next Q hn
      have hrun : (execOp a.eval o).run P w = .ok (.defer { target := .fn (.func f) vs, args := c.args.map a.eval }) w := by
        simp only [execOp, hop, resolve, hcal]
        have : Deferred.ofValue (a.eval (.tmp t)) (c.args.map a.eval) = pure { target := .fn (.func f) vs, args := c.args.map a.eval } := by
          rw [hvv]
          simp [Deferred.ofValue]
        rw [this]
        rfl
      unfold Oper.wp
      rw [hrun, Oper.upon_defer]
      refine hn _ _ g1 e1 ((i1.newDefer ⟨f, vs, rfl, caps, rfl, ?_, ?_, n1⟩).put o.dst (.junk _) (fun _ _ => .of_ne rfl) (fun s off e => by cases e))
      · exact .func f vs caps hvr.1 (hvr.mono e1.le hvn).2 hvn
      · rw [Array.toList_map]
        exact r1
  · cases he

end
end Go.Abs
