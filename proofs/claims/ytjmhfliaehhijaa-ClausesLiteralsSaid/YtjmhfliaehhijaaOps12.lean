/-
  Look-ups and stores in maps.
-/
import Derived.Test.YtjmhfliaehhijaaOps11
import Derived.MapKept
set_option linter.unusedVariables false
set_option linter.unusedSimpArgs false
namespace Go.Abs
open Go Go.RowKit

section
variable {P : Program} {g g' : Gh} {w w' : World} {fr fr' : Fr} {σ σ' : St} {a : Act} {o : Oper} {d : D} {cal : Cal} {q mu : Bool} {ops : List Oper}

theorem bytes_eq (s t : ByteArray) : (s == t) = (s.data.toList == t.data.toList) := by
  by_cases h : s = t
  · subst h
    rw [(MapKept.bytes_beq s s).2 rfl]
    simp
  · have h1 : (s == t) = false := by
      cases hb : s == t
      · rfl
      · exact absurd ((MapKept.bytes_beq s t).1 hb) h
    have h2 : s.data.toList ≠ t.data.toList := fun e => h (by
      have h3 := Array.toList_inj.1 e
      cases s
      cases t
      simp at h3
      subst h3
      rfl)
    rw [h1]
    symm
    simpa using h2

/-- A key's kind, as the type table has it. -/
theorem keyKind_und {t : TypeId} {kk : Nat} (h : keyKind P t = some kk) : ∃ de, P.underlying t = some de ∧ ((kk = 0 ∧ ∃ k, de = .int k) ∨ (kk = 1 ∧ de = .string) ∨ (kk = 2 ∧ de = .bool)) := by
  unfold keyKind at h
  split at h <;> first | (cases h; done) | skip
  · rename_i k hk
    cases h
    exact ⟨_, hk, .inl ⟨rfl, k, rfl⟩⟩
  · rename_i hk
    cases h
    exact ⟨_, hk, .inr (.inl ⟨rfl, rfl⟩)⟩
  · rename_i hk
    cases h
    exact ⟨_, hk, .inr (.inr ⟨rfl, rfl⟩)⟩

theorem checkKey_run {t : TypeId} {kk : Nat} (h : keyKind P t = some kk) {v : Value} {d : D} (hr : Rep g v d) (hk : keyD kk d = true) (em : Bool) : (Instr.checkKey em 10000 t v).run P w = .ok () w := by
  obtain ⟨de, h1, h2⟩ := keyKind_und h
  unfold Instr.checkKey
  rw [run_bo (run_und h1)]
  rcases h2 with ⟨rfl, k, rfl⟩ | ⟨rfl, rfl⟩ | ⟨rfl, rfl⟩
  all_goals
    unfold keyD at hk
    split at hk <;> first | (cases hk; done) | skip
    all_goals first
      | (rw [rep_int hr]; rfl)
      | (obtain ⟨s, rfl, _⟩ := rep_str hr; rfl)
      | (rw [rep_bool hr]; rfl)
      | (rename_i hh; simp at hh)

theorem sameNow_of {de : TypeDesc} {kk : Nat} (hk : (kk = 0 ∧ ∃ k, de = .int k) ∨ (kk = 1 ∧ de = .string) ∨ (kk = 2 ∧ de = .bool)) {u v : Value} {x y : D} (hu : Rep g u x) (hv : Rep g v y) {b : Bool} (h : eqKey kk x y = some b) :
    Instr.sameNow de u v = some b := by
  unfold eqKey at h
  split at h <;> first | (cases h; done) | skip
  · rename_i k1 a1 k2 a2
    rw [rep_int hu, rep_int hv]
    rcases hk with ⟨_, k, rfl⟩ | ⟨h0, _⟩ | ⟨h0, _⟩
    · exact h
    · cases h0
    · cases h0
  · obtain ⟨s, rfl, rfl⟩ := rep_str hu
    obtain ⟨t, rfl, rfl⟩ := rep_str hv
    rcases hk with ⟨h0, _⟩ | ⟨_, rfl⟩ | ⟨h0, _⟩
    · cases h0
    · simp only [Instr.sameNow]
      rw [bytes_eq]
      exact h
    · cases h0
  · rw [rep_bool hu, rep_bool hv]
    rcases hk with ⟨h0, _⟩ | ⟨h0, _⟩ | ⟨_, rfl⟩
    · cases h0
    · cases h0
    · exact h

/-- The entry that is found, and its place. -/
theorem findNow_ok {de : TypeDesc} {kk : Nat} (hk : (kk = 0 ∧ ∃ k, de = .int k) ∨ (kk = 1 ∧ de = .string) ∨ (kk = 2 ∧ de = .bool)) {u : Value} {x : D} (hu : Rep g u x) :
    ∀ (ents : List MapEntry) (es : List (D × D)) (n : Nat) (r : Option D), MapRep g ents es → findKey kk x es = some r →
      (r = none ∧ Instr.findNow de u ents n = some none) ∨ ∃ (j : Nat) (e : MapEntry) (kd : D × D), ents[j]? = some e ∧ es[j]? = some kd ∧ r = some kd.2 ∧ Instr.findNow de u ents n = some (some (n + j, e.val))
  | [], [], n, r, hm, h => by
    simp only [findKey, Option.some.injEq] at h
    exact .inl ⟨h.symm, rfl⟩
  | [], _ :: _, _, _, hm, _ => by simp [MapRep] at hm
  | _ :: _, [], _, _, hm, _ => by simp [MapRep] at hm
  | e :: ents, (k', v') :: es, n, r, hm, h => by
    obtain ⟨q1, q2, q3, q4, q5⟩ := hm.2 0 e (k', v') rfl rfl
    have hm' : MapRep g ents es := ⟨by simpa using hm.1, fun i e kd h1 h2 => hm.2 (i + 1) e kd (by simpa using h1) (by simpa using h2)⟩
    simp only [findKey] at h
    split at h
    · rename_i hq
      cases h
      have := sameNow_of hk hu q1 hq
      exact .inr ⟨0, e, (k', v'), rfl, rfl, rfl, by simp [Instr.findNow, this]⟩
    · rename_i hq
      have := sameNow_of hk hu q1 hq
      rcases findNow_ok hk hu ents es (n + 1) r hm' h with ⟨r1, r2⟩ | ⟨j, e', kd, r1, r2, r3, r4⟩
      · exact .inl ⟨r1, by simp [Instr.findNow, this, r2]⟩
      · exact .inr ⟨j + 1, e', kd, r1, r2, r3, by simp [Instr.findNow, this, r4]; omega⟩
    · cases h

theorem findKey_run {t : TypeId} {kk : Nat} (hkk : keyKind P t = some kk) {u : Value} {x : D} (hu : Rep g u x) {ents : List MapEntry} {es : List (D × D)} {r : Option D} (hm : MapRep g ents es) (h : findKey kk x es = some r) :
    (r = none ∧ (Instr.findKey t u ents).run P w = .ok none w) ∨ ∃ (j : Nat) (e : MapEntry) (kd : D × D), ents[j]? = some e ∧ es[j]? = some kd ∧ r = some kd.2 ∧ (Instr.findKey t u ents).run P w = .ok (some (j, e.val)) w := by
  obtain ⟨de, h1, h2⟩ := keyKind_und hkk
  have hrun : ∀ r, Instr.findNow de u ents 0 = some r → (Instr.findKey t u ents).run P w = .ok r w := fun r hr => by
    unfold Instr.findKey
    rw [run_bo (run_und h1)]
    simp only [hr]
    rfl
  rcases findNow_ok h2 hu ents es 0 r hm h with ⟨r1, r2⟩ | ⟨j, e', kd, r1, r2, r3, r4⟩
  · exact .inl ⟨r1, hrun _ r2⟩
  · rw [Nat.zero_add] at r4
    exact .inr ⟨j, e', kd, r1, r2, r3, hrun _ r4⟩

theorem getMap_run {b : Nat} {ents : Array MapEntry} {clock : Nat} (h : w.heap[b]? = some (.map ents clock)) : (getObj b).run P w = .ok (.map ents clock) w := by
  simp [getObj, Sem.run, h]

theorem setMap_run {b : Nat} {ents ents' : Array MapEntry} {clock clock' : Nat} (h : w.heap[b]? = some (.map ents clock)) : (setObj b (.map ents' clock')).run P w = .ok () { w with heap := w.heap.setIfInBounds b (.map ents' clock') } := by
  simp [setObj, Sem.run, h]

theorem zeroAgg_ok {t : TypeId} {agg : Bool} (h : zeroAgg P t = some agg) {z : List D} (hz : zeroOf P t = some z) :
    ∃ zv, (P.info? t).bind (·.zero) = some zv ∧ (agg = true → Rep g zv (.agg z)) ∧ (agg = false → ∀ z0, z = [z0] → Rep g zv z0) ∧ z.all D.pure1 = true := by
  obtain ⟨zv, z1, z2, z3, z4⟩ := zeroOf_ok (g := g) hz
  refine ⟨zv, z1, fun ha => ?_, fun ha z0 hz0 => ?_, z3⟩
  · unfold zeroAgg at h
    rw [z1] at h
    subst ha
    simp only [Option.map_some, Option.some.injEq] at h
    cases zv <;> simp at h
    exact agg_of z2 (List.all_eq_true.2 fun x hx => plain_of_pure1 (List.all_eq_true.1 z3 x hx))
  · unfold zeroAgg at h
    rw [z1] at h
    subst ha
    simp only [Option.map_some, Option.some.injEq] at h
    have hc : zv.cells = #[zv] := by cases zv <;> first | rfl | simp at h
    rw [hc, hz0] at z2
    exact z2.2 0 zv z0 rfl rfl

theorem snd_lookup {t k e : TypeId} {x y : Operand} {ok : Bool} (hop : o.op = .lookup t x y ok) (ht : P.underlying t = some (.map k e)) {kk : Nat} (hkk : keyKind P k = some kk) {agg : Bool} (hagg : zeroAgg P e = some agg) {z : List D} (hz : zeroOf P e = some z)
    {x' y' : X} (hX : compX x = some x') (hY : compX y = some y') (he : evalOp cal q o.dst (.lookup kk agg z x' y' ok) fr σ = some (d, fr', σ')) (i : Inv P g w fr σ a) : Snd P g w a o fr' σ' d := by
  have hv := (val_ok i.s hX).1
  have hy := (val_ok i.s hY).1
  simp only [evalOp] at he
  split at he <;> first | (cases he; done) | skip
  rename_i m hx
  split at he <;> first | (cases he; done) | skip
  rename_i es hm
  split at he <;> first | (cases he; done) | skip
  rename_i hkd
  rw [hx] at hv
  have hvx : a.eval x = .map (some (g.μ m)) := by
    generalize a.eval x = vx at hv
    cases hv
    rfl
  obtain ⟨_, ents, clock, h2, h3⟩ := i.h.maps m es hm
  obtain ⟨zv, z1, z2, z3, z4⟩ := zeroAgg_ok (g := g) hagg hz
  have hmain : ∀ (find : Option (Nat × Value)) (vv : Value) (b : Bool), (Instr.findKey k (a.eval y) ents.toList).run P w = .ok find w → (find = none → vv = zv ∧ b = false) → (∀ n u, find = some (n, u) → vv = u ∧ b = true) →
      (execOp a.eval o).run P w = .ok (.value (if ok then .tuple #[vv, .bool b] else vv)) w := fun find vv b h1 h4 h5 => by
    simp only [execOp, hop, hvx]
    refine run_vmap ?_
    unfold Instr.lookup
    rw [run_bo (run_und ht)]
    simp only [bind_assoc]
    rw [run_bo (getMap_run h2)]
    simp only [pure_bind]
    rw [run_bo (checkKey_run hkk hy hkd _), run_bo h1]
    cases find with
    | none =>
      obtain ⟨rfl, rfl⟩ := h4 rfl
      simp only [bind_assoc, pure_bind]
      rw [run_bo (zeroValue_run z1)]
      rfl
    | some r =>
      obtain ⟨n, u⟩ := r
      obtain ⟨rfl, rfl⟩ := h5 n u rfl
      rfl
  rcases hf : findKey kk (fr.val y') es with _ | r
  · rw [hf] at he; cases he
  · rw [hf] at he
    rcases findKey_run (w := w) hkk hy h3 hf with ⟨rfl, q1⟩ | ⟨j, e', kd, q1, q2, rfl, q3⟩
    · simp only at he
      have hr := hmain none zv false q1 (fun _ => ⟨rfl, rfl⟩) (fun n u e => by cases e)
      split at he
      · rename_i z0 rest
        split at he
        · rename_i ha
          subst ha
          cases he
          refine snd_plain i hr ?_ ?_ ?_
          · cases ok
            · exact z2 rfl
            · refine .tup _ _ rfl (fun n v d h1 h2 => ?_) rfl
              match n with
              | 0 => simp at h1 h2; subst h1 h2; exact z2 rfl
              | 1 => simp at h1 h2; subst h1 h2; exact .bool _
              | n + 2 => simp at h2
          · cases ok <;> rfl
          · cases ok <;> rfl
        · rename_i ha
          have ha : agg = false := by simpa using ha
          split at he
          · rename_i hrest
            have hrest : rest = [] := by simpa using hrest
            subst hrest
            cases he
            have z5 := (z3 ha z0 rfl).strip
            have hn : z0.notL = true := notL_of_pure1 (by simpa using z4)
            refine snd_plain i hr ?_ ?_ ?_
            · cases ok
              · exact z5
              · refine .tup _ _ rfl (fun n v d h1 h2 => ?_) (by simp only [List.all_cons, List.all_nil, notL_strip, hn]; rfl)
                match n with
                | 0 => simp at h1 h2; subst h1 h2; exact z5
                | 1 => simp at h1 h2; subst h1 h2; exact .bool _
                | n + 2 => simp at h2
            · cases ok
              · exact strip_strip _
              · rfl
            · cases ok
              · simpa [notL_strip] using hn
              · rfl
          · cases he
      · cases he
    · simp only at he
      cases he
      obtain ⟨_, m1, m2, m3, m4⟩ := h3.2 j e' kd q1 q2
      have hr := hmain (some (j, e'.val)) e'.val true q3 (fun e => by cases e) (fun n u e => by cases e; exact ⟨rfl, rfl⟩)
      refine snd_plain i hr ?_ ?_ ?_
      · cases ok
        · exact m1
        · refine .tup _ _ rfl (fun n v d h1 h2 => ?_) (by simp only [List.all_cons, List.all_nil, m3]; rfl)
          match n with
          | 0 => simp at h1 h2; subst h1 h2; exact m1
          | 1 => simp at h1 h2; subst h1 h2; exact .bool _
          | n + 2 => simp at h2
      · cases ok
        · exact m4
        · rfl
      · cases ok
        · exact m3
        · rfl

/-! stores in maps -/
theorem Inv.writeMap (i : Inv P g w fr σ a) {ob : Nat} {es es' : List (D × D)} (hb : σ[ob]? = some (.map es)) (k : Keep g w g w' (fun b => b = g.μ ob))
    (himm : ∀ (b off : Nat) (v : Value), g.I b off = some v → w'.cell? ⟨b, off, none⟩ = some v) (hnew : ∃ ents clock, w'.heap[g.μ ob]? = some (.map ents clock) ∧ MapRep g ents.toList es') : Inv P g w' fr (σ.set ob (.map es')) a := by
  obtain ⟨ho, _⟩ := i.h.maps ob es hb
  have hC : ∀ b, b = g.μ ob → ¬ claims fr [] (g.ω b) := by
    rintro b rfl
    rw [ho]
    rintro (⟨cs, h⟩ | ⟨es, h⟩) <;> simp at h
  refine ⟨⟨himm, by simpa using i.h.n, fun o1 cs1 h1 => ?_, fun o1 es1 h1 => ?_⟩, i.s.keep k hC (fun _ _ _ => rfl), i.d⟩
  · rw [list_set_get] at h1
    split at h1
    · cases h1
    · rename_i hc
      obtain ⟨h2, h3⟩ := i.h.cells o1 cs1 h1
      have hne : g.μ o1 ≠ g.μ ob := fun e => by
        rw [e, ho] at h2
        cases h2
        exact hc ⟨rfl, (List.getElem?_eq_some_iff.1 hb).1⟩
      exact ⟨h2, h3.keep k hne (fun j es e hj b hb' => by rw [hb', ho]; simp)⟩
  · rw [list_set_get] at h1
    split at h1
    · rename_i hc
      obtain ⟨rfl, _⟩ := hc
      cases h1
      exact ⟨ho, hnew⟩
    · rename_i hc
      obtain ⟨h2, ents, clock, h3, h4⟩ := i.h.maps o1 es1 h1
      have hne : g.μ o1 ≠ g.μ ob := fun e => by
        rw [e, ho] at h2
        cases h2
        exact hc ⟨rfl, (List.getElem?_eq_some_iff.1 hb).1⟩
      exact ⟨h2, ents, clock, ((k.blk _ (lt_of_heap h3) hne).1).trans h3, h4⟩

theorem putKey_none {kk : Nat} {k x : D} : ∀ {es r : List (D × D)}, putKey kk k x es = some r → findKey kk k es = some none → r = es ++ [(k, x)]
  | [], r, h, _ => by simpa [putKey] using h.symm
  | (k', v') :: es, r, h, hf => by
    simp only [putKey] at h
    simp only [findKey] at hf
    split at h
    · rename_i hq; rw [hq] at hf; cases hf
    · rename_i hq
      rw [hq] at hf
      simp only [Option.map_eq_some_iff] at h
      obtain ⟨r', h1, rfl⟩ := h
      rw [putKey_none h1 hf]
      rfl
    · cases h

theorem putKey_find {kk : Nat} {k x : D} : ∀ {es r : List (D × D)}, putKey kk k x es = some r → ∃ s, findKey kk k es = some s
  | [], r, h => ⟨none, rfl⟩
  | (k', v') :: es, r, h => by
    simp only [putKey] at h
    split at h
    · rename_i hq; exact ⟨some v', by simp only [findKey, hq]⟩
    · rename_i hq
      simp only [Option.map_eq_some_iff] at h
      obtain ⟨r', h1, rfl⟩ := h
      obtain ⟨s, hs⟩ := putKey_find h1
      exact ⟨s, by simp only [findKey, hq, hs]⟩
    · cases h

theorem eqKey_eq {kk : Nat} {u v : Value} {x y : D} (hu : Rep g u x) (hv : Rep g v y) (h : eqKey kk x y = some true) : u = v ∧ ∀ n, Instr.sameBits n u v = true := by
  unfold eqKey at h
  split at h <;> first | (cases h; done) | skip
  · rename_i k1 a1 k2 a2
    split at h
    · rename_i hk
      subst hk
      have : a1 = a2 := by simpa using h
      subst this
      rw [rep_int hu, rep_int hv]
      exact ⟨rfl, fun n => by cases n <;> simp [Instr.sameBits]⟩
    · cases h
  · obtain ⟨s, rfl, rfl⟩ := rep_str hu
    obtain ⟨t, rfl, ht⟩ := rep_str hv
    have hb : (s == t) = true := by
      rw [bytes_eq, ht]
      simpa using h
    have : s = t := (MapKept.bytes_beq s t).1 hb
    subst this
    exact ⟨rfl, fun n => by cases n <;> simp [Instr.sameBits, hb]⟩
  · rename_i a1 a2
    have : a1 = a2 := by simpa using h
    subst this
    rw [rep_bool hu, rep_bool hv]
    exact ⟨rfl, fun n => by cases n <;> simp [Instr.sameBits]⟩

/-- The entry that is found, with its key; and what the store makes of the entries. -/
theorem putKey_at {de : TypeDesc} {kk : Nat} (hk : (kk = 0 ∧ ∃ k, de = .int k) ∨ (kk = 1 ∧ de = .string) ∨ (kk = 2 ∧ de = .bool)) {u : Value} {x y : D} (hu : Rep g u x) :
    ∀ (ents : List MapEntry) (es : List (D × D)) (n : Nat) (r : List (D × D)) (s : D), MapRep g ents es → putKey kk x y es = some r → findKey kk x es = some (some s) →
      ∃ (j : Nat) (e : MapEntry) (kd : D × D), ents[j]? = some e ∧ es[j]? = some kd ∧ r = es.set j (x, y) ∧ Instr.findNow de u ents n = some (some (n + j, e.val)) ∧ e.key = u
  | [], [], n, r, s, hm, h, hf => by simp [findKey] at hf
  | [], _ :: _, _, _, _, hm, _, _ => by simp [MapRep] at hm
  | _ :: _, [], _, _, _, hm, _, _ => by simp [MapRep] at hm
  | e :: ents, (k', v') :: es, n, r, s, hm, h, hf => by
    obtain ⟨q1, q2, q3, q4, q5⟩ := hm.2 0 e (k', v') rfl rfl
    have hm' : MapRep g ents es := ⟨by simpa using hm.1, fun i e kd h1 h2 => hm.2 (i + 1) e kd (by simpa using h1) (by simpa using h2)⟩
    simp only [putKey] at h
    simp only [findKey] at hf
    split at h
    · rename_i hq
      cases h
      have := sameNow_of hk hu q1 hq
      exact ⟨0, e, (k', v'), rfl, rfl, rfl, by simp [Instr.findNow, this], (eqKey_eq hu q1 hq).1.symm⟩
    · rename_i hq
      rw [hq] at hf
      simp only [Option.map_eq_some_iff] at h
      obtain ⟨r', h1, rfl⟩ := h
      have := sameNow_of hk hu q1 hq
      obtain ⟨j, e', kd, r1, r2, r3, r4, r5⟩ := putKey_at hk hu ents es (n + 1) r' s hm' h1 hf
      exact ⟨j + 1, e', kd, r1, r2, by rw [r3]; rfl, by simp [Instr.findNow, this, r4]; omega, r5⟩
    · cases h

theorem setObj_ext {b : Nat} {ents ents' : Array MapEntry} {clock clock' : Nat} (_h : w.heap[b]? = some (.map ents clock)) :
    Keep g w g { w with heap := w.heap.setIfInBounds b (.map ents' clock') } (fun x => x = b) :=
  ⟨.refl g, by simp, fun c _ hc => ⟨by simp only []; rw [Array.getElem?_setIfInBounds_ne (fun e => hc e.symm)], rfl, fun _ => rfl⟩⟩

theorem imm_map {σ : St} (h : HInv P g w σ) {b : Nat} {ents ents' : Array MapEntry} {clock clock' : Nat} (hb : w.heap[b]? = some (.map ents clock)) (c off : Nat) (v : Value) (hv : g.I c off = some v) :
    ({ w with heap := w.heap.setIfInBounds b (.map ents' clock') } : World).cell? ⟨c, off, none⟩ = some v := by
  have h1 := h.imm c off v hv
  have hne : b ≠ c := by
    rintro rfl
    unfold World.cell? at h1
    simp [hb] at h1
  unfold World.cell? at h1 ⊢
  simp only [] at h1 ⊢
  rw [Array.getElem?_setIfInBounds_ne hne]
  exact h1

theorem snd_mapUpdate {t kt e : TypeId} {m y z : Operand} (hop : o.op = .mapUpdate t m y z) (ht : P.underlying t = some (.map kt e)) {kk : Nat} (hkk : keyKind P kt = some kk)
    {m' y' z' : X} (hM : compX m = some m') (hY : compX y = some y') (hZ : compX z = some z') (he : evalOp cal q o.dst (.mapUpdate kk m' y' z') fr σ = some (d, fr', σ')) (i : Inv P g w fr σ a) : Snd P g w a o fr' σ' d := by
  have hv := (val_ok i.s hM).1
  have hy := (val_ok i.s hY).1
  have hz := val_ok i.s hZ
  simp only [evalOp] at he
  split at he <;> first | (cases he; done) | skip
  rename_i ob hx
  split at he <;> first | (cases he; done) | skip
  rename_i es hm
  split at he <;> first | (cases he; done) | skip
  rename_i hkd
  obtain ⟨hkd, hnl⟩ := hkd
  simp only [Option.map_eq_some_iff] at he
  obtain ⟨r, hput, he⟩ := he
  cases he
  rw [hx] at hv
  have hvx : a.eval m = .map (some (g.μ ob)) := by
    generalize a.eval m = vx at hv
    cases hv
    rfl
  obtain ⟨ho, ents, clock, h2, h3⟩ := i.h.maps ob es hm
  obtain ⟨s, hs⟩ := putKey_find hput
  have hkn : (fr.val y').notL = true := by
    unfold keyD at hkd
    split at hkd <;> first | (cases hkd; done) | simp_all [D.notL]
  obtain ⟨de, hu1, hu2⟩ := keyKind_und hkk
  have fin : ∀ (ents' : Array MapEntry) (clock' : Nat), (execOp a.eval o).run P w = .ok .skip { w with heap := w.heap.setIfInBounds (g.μ ob) (.map ents' clock') } → MapRep g ents'.toList r →
      Snd P g w a o fr (σ.set ob (.map r)) .junk := fun ents' clock' hrun hrep next Q hn => by
    have hk := setObj_ext (g := g) (ents' := ents') (clock' := clock') h2
    refine wp_skipOp hrun (hn _ _ g (Ext.of_keep hk (fun c hc _ => by rw [hc, ho]; rfl) rfl rfl rfl) ((i.writeMap hm hk (imm_map i.h h2) ⟨ents', clock', ?_, hrep⟩).put o.dst (.junk _) (fun _ _ => .of_ne rfl) (fun s off e => by cases e)))
    simp [lt_of_heap h2]
  cases s with
  | none =>
    have hr := putKey_none hput hs
    rcases findKey_run (w := w) hkk hy h3 hs with ⟨_, q1⟩ | ⟨j, e', kd, _, _, q2, _⟩
    · refine fin (ents.push { key := a.eval y, val := a.eval z, born := clock }) (clock + 1) ?_ ?_
      · simp only [execOp, hop, hvx]
        refine run_umap ?_
        unfold Instr.mapUpdate
        rw [run_bo (run_und ht)]
        simp only
        rw [run_bo (getMap_run h2)]
        simp only
        rw [run_bo (checkKey_run hkk hy hkd _), run_bo q1]
        exact setMap_run h2
      · subst hr
        refine ⟨by simp [h3.1], fun k e1 kd1 k1 k2 => ?_⟩
        simp only [Array.toList_push] at k1
        by_cases hlt : k < ents.toList.length
        · rw [List.getElem?_append_left hlt] at k1
          rw [List.getElem?_append_left (by rw [← h3.1]; exact hlt)] at k2
          exact h3.2 k e1 kd1 k1 k2
        · have hlt' : k = ents.toList.length := by
            have := get_lt k1
            simp at this hlt ⊢
            omega
          subst hlt'
          rw [List.getElem?_append_right (Nat.le_refl _)] at k1
          rw [List.getElem?_append_right (by rw [h3.1]; exact Nat.le_refl _)] at k2
          simp [h3.1] at k1 k2
          subst k1 k2
          exact ⟨hy, hz.1, hkn, hnl, hz.2.1⟩
    · cases q2
  | some s =>
    obtain ⟨j, e', kd, q1, q2, q3, q4, q5⟩ := putKey_at hu2 hy ents.toList es 0 r s h3 hput hs
    rw [Nat.zero_add] at q4
    refine fin (ents.modify j fun e => { e with key := a.eval y, val := a.eval z }) clock ?_ ?_
    · simp only [execOp, hop, hvx]
      refine run_umap ?_
      unfold Instr.mapUpdate
      rw [run_bo (run_und ht)]
      simp only
      rw [run_bo (getMap_run h2)]
      simp only
      have hfk : (Instr.findKey kt (a.eval y) ents.toList).run P w = .ok (some (j, e'.val)) w := by
        unfold Instr.findKey
        rw [run_bo (run_und hu1)]
        simp only [q4]
        rfl
      rw [run_bo (checkKey_run hkk hy hkd _), run_bo hfk]
      simp only
      have hej : ents[j]? = some e' := by simpa using q1
      have hst : (Instr.keyThatStays (((ents[j]?).map (·.key)).getD (a.eval y)) (a.eval y)).run P w = .ok (a.eval y) w := by
        rw [hej]
        simp only [Option.map_some, Option.getD_some, q5]
        unfold Instr.keyThatStays
        rw [if_pos]
        · rfl
        · obtain ⟨hkk1, _⟩ : True ∧ True := ⟨trivial, trivial⟩
          unfold keyD at hkd
          split at hkd <;> first | (cases hkd; done) | skip
          all_goals first
            | (rename_i hh; rw [hh] at hy; first | (rw [rep_int hy]; simp [Instr.sameBits]) | (rw [rep_bool hy]; simp [Instr.sameBits]) | (obtain ⟨s, hs1, _⟩ := rep_str hy; rw [hs1]; simp [Instr.sameBits, (MapKept.bytes_beq s s).2 rfl]))
            | skip
      rw [run_bo hst]
      exact setMap_run h2
    · subst q3
      refine ⟨by simp [h3.1], fun k e1 kd1 k1 k2 => ?_⟩
      have hlj : j < es.length := get_lt q2
      rw [list_set_get] at k2
      have k1' : (ents.modify j fun e => { e with key := a.eval y, val := a.eval z })[k]? = some e1 := by rw [← Array.getElem?_toList]; exact k1
      rw [Array.getElem?_modify] at k1'
      by_cases hjk : j = k
      · subst hjk
        rw [if_pos ⟨rfl, hlj⟩] at k2
        cases k2
        rw [if_pos rfl] at k1'
        simp only [Option.map_eq_some_iff] at k1'
        obtain ⟨e0, _, rfl⟩ := k1'
        exact ⟨hy, hz.1, hkn, hnl, hz.2.1⟩
      · rw [if_neg hjk] at k1'
        rw [if_neg (fun h => hjk h.1.symm)] at k2
        exact h3.2 k e1 kd1 (by simpa using k1') k2

end
end Go.Abs
