import Derived.Test.YtnjoledlgacpeaaOpsM
set_option linter.unusedVariables false
set_option linter.unusedSimpArgs false
/-
  A byte of a text; entries that are taken out of a map.
-/
namespace Go.Abs
open Go Go.RowKit

section
variable {P : Program} {g g' : Gh} {w w' : World} {fr fr' : Fr} {σ σ' : St} {a : Act} {o : Oper} {d : D} {cal : Cal} {q mu : Bool} {ops : List Oper}

theorem snd_indexStr {t : TypeId} {x y : Operand} (hop : o.op = .index t x y) (ht : P.underlying t = some .string)
    {x' y' : X} (hX : compX x = some x') (hY : compX y = some y') (he : evalOp cal q o.dst (.indexStr x' y') fr σ = some (d, fr', σ')) (i : Inv P g w fr σ a) : Snd P g w a o fr' σ' d := by
  have hv := (val_ok i.s hX).1
  have hy := (val_ok i.s hY).1
  simp only [evalOp] at he
  split at he
  · cases he
  · rename_i m hn
    obtain ⟨k, hyv, _⟩ := asIntOf_run (P := P) (w := w) hy hn
    split at he
    · rename_i hb
      split at he
      · rename_i l hx
        rw [hx] at hv
        obtain ⟨s, h1, rfl⟩ := rep_str hv
        simp only [Option.map_eq_some_iff] at he
        obtain ⟨b, h2, he⟩ := he
        cases he
        refine snd_plain i (v := .int .u8 b.toNat) ?_ (.int _ _) rfl rfl
        simp only [execOp, hop, h1, hyv]
        refine run_vmap ?_
        unfold Instr.index
        rw [run_bo (show (asIntOf (Value.int k m)).run P w = .ok (k, m) w from rfl)]
        simp only
        rw [run_bo (run_und ht)]
        have hs : s[m.toNat]? = some b := by
          have hlt : m.toNat < s.data.toList.length := (List.getElem?_eq_some_iff.1 h2).1
          have hlt' : m.toNat < s.size := by simpa using hlt
          rw [getElem?_pos s m.toNat hlt']
          have := (List.getElem?_eq_some_iff.1 h2).2
          simp only [Array.getElem_toList] at this
          exact congrArg some this
        simp only [hb, if_true, hs]
        rfl
      · cases he
    · cases he

/-- The entry that is found, and what is left without it. -/
theorem delKey_at {de : TypeDesc} {kk : Nat} (hk : (kk = 0 ∧ ∃ k, de = .int k) ∨ (kk = 1 ∧ de = .string) ∨ (kk = 2 ∧ de = .bool)) {u : Value} {x : D} (hu : Rep g u x) :
    ∀ (ents : List MapEntry) (es : List (D × D)) (n : Nat) (r : List (D × D)), MapRow g ents es → delKey kk x es = some r →
      (r = es ∧ Instr.findNow de u ents n = some none) ∨ ∃ (j : Nat) (v : Value), j < ents.length ∧ r = es.eraseIdx j ∧ Instr.findNow de u ents n = some (some (n + j, v))
  | [], [], n, r, hm, h => by
    simp only [delKey, Option.some.injEq] at h
    exact .inl ⟨h.symm, rfl⟩
  | [], _ :: _, _, _, hm, _ => by simp [MapRow] at hm
  | _ :: _, [], _, _, hm, _ => by simp [MapRow] at hm
  | e :: ents, (k', v') :: es, n, r, hm, h => by
    obtain ⟨q1, q2, q3, q4, q5⟩ := hm.2 0 e (k', v') rfl rfl
    have hm' : MapRow g ents es := ⟨by simpa using hm.1, fun i e kd h1 h2 => hm.2 (i + 1) e kd (by simpa using h1) (by simpa using h2)⟩
    simp only [delKey] at h
    split at h
    · rename_i hq
      cases h
      have := sameNow_of hk hu q1 hq
      exact .inr ⟨0, e.val, by simp, rfl, by simp [Instr.findNow, this]⟩
    · rename_i hq
      simp only [Option.map_eq_some_iff] at h
      obtain ⟨r', h1, rfl⟩ := h
      have := sameNow_of hk hu q1 hq
      rcases delKey_at hk hu ents es (n + 1) r' hm' h1 with ⟨rfl, r2⟩ | ⟨j, v, r1, r2, r3⟩
      · exact .inl ⟨rfl, by simp [Instr.findNow, this, r2]⟩
      · exact .inr ⟨j + 1, v, by simp; omega, by rw [r2]; rfl, by simp [Instr.findNow, this, r3]; omega⟩
    · cases h

theorem mapRep_erase {ents : List MapEntry} {es : List (D × D)} (h : MapRow g ents es) (j : Nat) : MapRow g (ents.eraseIdx j) (es.eraseIdx j) := by
  refine ⟨by simp [List.length_eraseIdx, h.1], fun i e kd h1 h2 => ?_⟩
  rw [List.getElem?_eraseIdx] at h1 h2
  split at h1
  · rename_i hlt
    rw [if_pos hlt] at h2
    exact h.2 i e kd h1 h2
  · rename_i hlt
    rw [if_neg hlt] at h2
    exact h.2 (i + 1) e kd h1 h2

theorem toList_eraseIf (ents : Array MapEntry) (j : Nat) : (ents.eraseIdxIfInBounds j).toList = ents.toList.eraseIdx j := by
  unfold Array.eraseIdxIfInBounds
  split
  · simp
  · rename_i h
    rw [List.eraseIdx_of_length_le (by simpa using h)]

theorem snd_delete {c : Call} (hop : o.op = .call c) (hb : c.callee = .builtin .delete) {x y : Operand} {t kt e : TypeId} (hargs : c.args.toList = [x, y]) (hty : c.argTypes.toList = [t, kt]) (ht : P.underlying t = some (.map kt e))
    {kk : Nat} (hkk : keyKind P kt = some kk) {x' y' : X} (hX : compX x = some x') (hY : compX y = some y')
    (he : evalOp cal q o.dst (.delete kk x' y') fr σ = some (d, fr', σ')) (i : Inv P g w fr σ a) : Snd P g w a o fr' σ' d := by
  have hv := (val_ok i.s hX).1
  have hy := (val_ok i.s hY).1
  simp only [evalOp] at he
  split at he <;> first | (cases he; done) | skip
  rename_i ob hx
  split at he <;> first | (cases he; done) | skip
  rename_i es hm
  split at he <;> first | (cases he; done) | skip
  rename_i hkd
  simp only [Option.map_eq_some_iff] at he
  obtain ⟨r, hdel, he⟩ := he
  cases he
  rw [hx] at hv
  have hvx : a.eval x = .map (some (g.μ ob)) := by
    generalize a.eval x = vx at hv
    cases hv
    rfl
  obtain ⟨ho, ents, clock, h2, ⟨es', hpm, hko, h3⟩, hbn⟩ := i.h.maps ob es hm
  have hkr := KeysOK.del hdel hko
  obtain ⟨r', hdel', hpr⟩ := delKey_perm hpm hko hdel
  obtain ⟨de, hu1, hu2⟩ := keyKind_und hkk
  have fin : ∀ (ents' : Array MapEntry), (execOp a.eval o).run P w = .ok (.value (.tuple #[])) { w with heap := w.heap.setIfInBounds (g.μ ob) (.map ents' clock) } → MapRow g ents'.toList r' → Born ents' clock →
      Snd P g w a o fr (σ.set ob (.map r)) .junk := fun ents' hrun hrep hbn' next Q hn => by
    have hk := setObj_ext (g := g) (ents' := ents') (clock' := clock) h2
    refine wp_value hrun (hn _ _ g (Ext.of_keep hk (fun c hc _ => by rw [hc, ho]; rfl) rfl rfl rfl) ((i.writeMap hm hk (imm_map i.h h2) ⟨ents', clock, ?_, ⟨r', hpr, hkr, hrep⟩, hbn'⟩).put o.dst (.junk _) (fun _ _ => .of_ne rfl) (fun s off e => by cases e)))
    simp [lt_of_heap h2]
  have head : ∀ (find : Option (Nat × Value)) (ents' : Array MapEntry), Instr.findNow de (a.eval y) ents.toList 0 = some find → ents' = (match find with | some (j, _) => ents.eraseIdxIfInBounds j | none => ents) →
      (execOp a.eval o).run P w = .ok (.value (.tuple #[])) { w with heap := w.heap.setIfInBounds (g.μ ob) (.map ents' clock) } := fun find ents' hf he => by
    subst he
    refine call_builtin hop hb fun consts => ?_
    simp only [builtin]
    refine run_vmap' ?_
    unfold Builtin.delete_
    have e1 : c.argTypes = #[t, kt] := by simpa using congrArg List.toArray hty
    have e2 : c.args.map a.eval = #[a.eval x, a.eval y] := by
      apply Array.ext'
      rw [Array.toList_map, hargs]
      rfl
    rw [e1, e2]
    simp only [List.getElem?_toArray, List.getElem?_cons_zero, List.getElem?_cons_succ]
    rw [run_bo (run_und ht)]
    simp only [hvx]
    rw [run_bo (getMap_run h2)]
    simp only
    have hfk : (Instr.findKey kt (a.eval y) ents.toList).run P w = .ok find w := by
      unfold Instr.findKey
      rw [run_bo (run_und hu1)]
      simp only [hf]
      rfl
    rw [run_bo (checkKey_run hkk hy hkd _), run_bo hfk]
    cases find with
    | none => rw [run_bo (setMap_run h2)]; rfl
    | some p => rw [run_bo (setMap_run h2)]; rfl
  rcases delKey_at hu2 hy ents.toList es' 0 r' h3 hdel' with ⟨rfl, q1⟩ | ⟨j, v, q1, q2, q3⟩
  · exact fin ents (head none ents q1 rfl) h3 hbn
  · rw [Nat.zero_add] at q3
    subst q2
    exact fin (ents.eraseIdxIfInBounds j) (head (some (j, v)) _ q3 rfl) (by rw [toList_eraseIf]; exact mapRep_erase h3 j) (born_sub hbn (by rw [toList_eraseIf]; exact List.eraseIdx_sublist _ _))

end
end Go.Abs
