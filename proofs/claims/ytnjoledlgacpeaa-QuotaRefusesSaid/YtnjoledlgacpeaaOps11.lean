import Derived.Test.YtnjoledlgacpeaaOps6
import Derived.MapKept
set_option linter.unusedVariables false
set_option linter.unusedSimpArgs false
/-
  Variables that become objects; closures; maps.
-/
namespace Go.Abs
open Go Go.RowKit

section
variable {P : Program} {g g' : Gh} {w w' : World} {fr fr' : Fr} {σ σ' : St} {a : Act} {o : Oper} {d : D} {cal : Cal} {q mu : Bool} {ops : List Oper}

def promF (t n : Nat) : Tag → Tag
  | .box s => if s = t then .obj n else .box s
  | .bbuf s j => if s = t then .obuf n j else .bbuf s j
  | x => x

def Gh.promote (g : Gh) (t sz : Nat) : Gh :=
  { g.rename (promF t g.n) with n := g.n + 1, μ := fun o => if o = g.n then g.β t else g.μ o, sz := fun o => if o = g.n then sz else g.sz o }

theorem promote_le (g : Gh) (t sz : Nat) : g.Le (g.promote t sz) :=
  ⟨fun _ _ _ h => h, Nat.le_succ _, fun o ho => by simp [Gh.promote, Nat.ne_of_lt ho], fun o ho => by simp [Gh.promote, Nat.ne_of_lt ho]⟩

theorem Own.promote {t sz : Nat} {tag : Tag} {v : Value} {d : D} (h : Own P g w tag v d) : Own P (g.promote t sz) w (promF t g.n tag) v d := by
  intro es e hd
  rcases h es e hd with h0 | ⟨i, xs, h1, h2, h3, h4, h5⟩
  · exact .inl h0
  exact .inr ⟨i, xs, h1, h2, h3, h4, fun b hb => ⟨by simp [Gh.promote, Gh.rename, (h5 b hb).1], (h5 b hb).2⟩⟩

theorem Blk.promote {t sz b s : Nat} {tag tag' : Nat → Tag} {cs : List D} (h : Blk P g w b s tag cs) (ht : ∀ j, promF t g.n (tag j) = tag' j) : Blk P (g.promote t sz) w b s tag' cs := by
  obtain ⟨arr, ty, h1, h2, h3, h4⟩ := h
  refine ⟨arr, ty, h1, h2, h3, fun j d hd => ?_⟩
  obtain ⟨p1, v, p2, p3, p4⟩ := h4 j d hd
  refine ⟨p1, v, p2, p3.mono (promote_le g t sz) (fun k off e => by subst e; simp [D.plain] at p1), ?_⟩
  have := p4.promote (t := t) (sz := sz)
  rw [ht] at this
  exact this

theorem relink_notL (t n : Nat) {d : D} (h : d.notL = true) : relinkL t n d = d := by cases d <;> simp_all [relinkL, D.notL]

theorem Rep.relink {t sz : Nat} {v : Value} {d : D} (h : Rep g v d) : Rep (g.promote t sz) v (relinkL t g.n d) := by
  cases h with
  | lptr s off =>
    simp only [relinkL]
    split
    · rename_i hs
      subst hs
      have := Rep.ptr (g := g.promote s sz) g.n off (Nat.lt_succ_self _)
      simpa [Gh.promote] using this
    · exact (Rep.lptr (g := g) s off).mono (promote_le g t sz) (fun _ _ _ => rfl)
  | _ =>
    rw [relink_notL t g.n (by rfl)]
    exact Rep.mono (promote_le g t sz) (by constructor <;> assumption) (fun _ _ e => by cases e)

theorem Inv.promote (i : Inv P g w fr σ a) {t : Nat} (h : fr.promote σ t = some (fr', σ')) :
    ∃ sz, Inv P (g.promote t sz) w fr' σ' a ∧ Ext g w (g.promote t sz) w ∧ σ.length = g.n := by
  unfold Fr.promote at h
  split at h
  · rename_i cs hcs
    cases h
    have hb := boxAt_some hcs
    obtain ⟨hω, sz, hblk⟩ := i.s.boxes t cs hb
    have hn : σ.length = g.n := i.h.n.symm
    refine ⟨sz, ⟨⟨i.h.imm, by simp [Gh.promote, i.h.n], fun ob cs' h1 => ?_, fun ob es' h1 => ?_, rows_snoc (fun e h => by cases h) (fun ob e cs' h1 h2 => by
      obtain ⟨arr, h3⟩ := i.h.rows ob e cs' h1 h2
      have hne : ob ≠ g.n := by
        have := (List.getElem?_eq_some_iff.1 h1).1
        omega
      exact ⟨arr, by simpa [Gh.promote, hne] using h3⟩)⟩, ⟨by simpa using i.s.size, by simpa using i.s.blen, fun k e hk => ?_, fun s cs' hs => ?_⟩, i.d.mono (promote_le g t sz)⟩,
      ⟨promote_le g t sz, rfl, rfl, rfl, Nat.le_refl _, fun b _ hm => ⟨rfl, ?_⟩, fun b off v hv => .inl hv, rfl⟩, hn⟩
    · by_cases hlt : ob < σ.length
      · rw [List.getElem?_append_left hlt] at h1
        obtain ⟨q1, q2⟩ := i.h.cells ob cs' h1
        have hne : ob ≠ g.n := by omega
        refine ⟨by simp [Gh.promote, Gh.rename, hne, q1, promF], ?_⟩
        have := q2.promote (t := t) (sz := sz) (tag' := .obuf ob) (fun j => rfl)
        simpa [Gh.promote, hne] using this
      · rw [List.getElem?_append_right (by omega)] at h1
        have h0 : ob - σ.length = 0 := by
          have := get_lt h1
          simp at this
          omega
        rw [h0] at h1
        simp at h1
        subst h1
        have he : ob = g.n := by omega
        subst he
        refine ⟨by simp [Gh.promote, Gh.rename, hω, promF], ?_⟩
        have := hblk.promote (t := t) (sz := sz) (tag' := .obuf g.n) (fun j => by simp [promF])
        simpa [Gh.promote] using this
    · by_cases hlt : ob < σ.length
      · rw [List.getElem?_append_left hlt] at h1
        obtain ⟨q1, ents, clock, q2, q3, q4⟩ := i.h.maps ob es' h1
        have hne : ob ≠ g.n := by omega
        exact ⟨by simp [Gh.promote, Gh.rename, hne, q1, promF], ents, clock, by simpa [Gh.promote, hne] using q2, q3.mono (promote_le g t sz), q4⟩
      · rw [List.getElem?_append_right (by omega)] at h1
        have h0 : ob - σ.length = 0 := by
          have := get_lt h1
          simp at this
          omega
        rw [h0] at h1
        simp at h1
    · simp only [List.getElem?_map, Option.map_eq_some_iff] at hk
      obtain ⟨e0, h1, rfl⟩ := hk
      obtain ⟨v, q1, q2, q3, q4⟩ := i.s.slots k e0 h1
      rw [hn]
      refine ⟨v, q1, q2.relink, ?_, fun s off e => ?_⟩
      · by_cases hl : e0.notL = true
        · rw [relink_notL t _ hl]
          exact q3.promote
        · refine .of_ne ?_
          cases e0 <;> simp [D.notL] at hl
          simp only [relinkL]
          split <;> rfl
      · have : e0 = .lptr s off ∧ s ≠ t := by
          cases e0 <;> simp [relinkL] at e
          split at e
          · cases e
          · cases e
            exact ⟨rfl, by assumption⟩
        obtain ⟨cs0, hc0⟩ := q4 s off this.1
        refine ⟨cs0, ?_⟩
        simp only []
        rw [list_set_get, if_neg]
        · exact hc0
        · rintro ⟨rfl, _⟩
          exact this.2 rfl
    · obtain ⟨hne, h1⟩ := box_set_none hs
      obtain ⟨q1, sz', q2⟩ := i.s.boxes s cs' h1
      refine ⟨by simp [Gh.promote, Gh.rename, q1, promF, hne], sz', ?_⟩
      have := q2.promote (t := t) (sz := sz) (tag' := .bbuf s) (fun j => by simp [promF, hne])
      simpa [Gh.promote, Gh.rename] using this
    · simp only [Gh.promote, Gh.rename]
      cases hq : g.ω b <;> rw [hq] at hm <;> simp [Tag.mine] at hm <;> rfl
  · cases h

theorem promoteX_ok (i : Inv P g w fr σ a) {x : Operand} {x' : X} (hX : compX x = some x') {d : D} (h : fr.promoteX σ x' = some (d, fr', σ')) :
    ∃ g', Ext g w g' w ∧ Inv P g' w fr' σ' a ∧ Rep g' (a.eval x) d ∧ d.notL = true ∧ d.strip = d := by
  have hv := val_ok i.s hX
  cases x with
  | tmp t =>
    simp only [compX, Option.some.injEq] at hX
    subst hX
    simp only [Fr.promoteX] at h
    split at h
    · rename_i s off hs
      simp only [Option.map_eq_some_iff] at h
      obtain ⟨⟨fr1, σ1⟩, h1, h2⟩ := h
      cases h2
      obtain ⟨sz, i1, e1, hn⟩ := i.promote h1
      have hr := hv.1
      simp only [Fr.val, hs, D.strip] at hr
      have := hr.relink (t := s) (sz := sz)
      simp only [relinkL, if_true] at this
      rw [hn]
      exact ⟨_, e1, i1, this, rfl, rfl⟩
    · rename_i hno
      cases h
      refine ⟨g, .refl g w, i, Rep.deep_of_strip hv.1, ?_, deep_strip _⟩
      cases hd : fr.at t <;> first | rfl | exact absurd hd (hno _ _)
  | const v =>
    simp only [compX, Option.map_eq_some_iff] at hX
    obtain ⟨d0, hd, rfl⟩ := hX
    simp only [Fr.promoteX] at h
    cases h
    obtain ⟨h1, h2, h3⟩ := constD_rep (g := g) hd
    exact ⟨g, .refl g w, i, hv.1, by rw [notL_strip]; exact h3, strip_strip _⟩
  | func f =>
    simp only [compX, Option.some.injEq] at hX
    subst hX
    simp only [Fr.promoteX] at h
    cases h
    exact ⟨g, .refl g w, i, hv.1, rfl, rfl⟩
  | global n => simp [compX] at hX

theorem promoteAll_ok : ∀ {xs : List Operand} {xs' : List X} {ds : List D} {g : Gh} {fr : Fr} {σ : St}, Inv P g w fr σ a → compXs xs = some xs' → fr.promoteAll σ xs' = some (ds, fr', σ') →
    ∃ g', Ext g w g' w ∧ Inv P g' w fr' σ' a ∧ AllRep (Rep g') (xs.map a.eval) ds ∧ ds.all D.notL = true ∧ ∀ d ∈ ds, d.strip = d
  | [], xs', ds, g, fr, σ, i, hc, h => by
    simp [compXs] at hc
    subst hc
    simp only [Fr.promoteAll] at h
    cases h
    exact ⟨g, .refl g w, i, ⟨rfl, fun i v d h => by simp at h⟩, rfl, by simp⟩
  | x :: xs, xs', ds, g, fr, σ, i, hc, h => by
    simp only [compXs, List.mapM_cons, Option.bind_eq_bind, Option.pure_def, Option.bind_eq_some_iff] at hc
    obtain ⟨y, h1, ys, h2, h3⟩ := hc
    cases h3
    simp only [Fr.promoteAll] at h
    split at h
    · rename_i d1 fr1 σ1 hp
      simp only [Option.map_eq_some_iff] at h
      obtain ⟨⟨ds1, fr2, σ2⟩, k1, k2⟩ := h
      cases k2
      obtain ⟨g1, e1, i1, r1, n1, s1⟩ := promoteX_ok i h1 hp
      obtain ⟨g2, e2, i2, r2, n2, s2⟩ := promoteAll_ok i1 h2 k1
      refine ⟨g2, e1.trans e2, i2, ⟨by simpa using r2.1, fun k v d q1 q2 => ?_⟩, by simp [n1, n2], fun d hd => ?_⟩
      · cases k with
        | zero =>
          simp at q1 q2
          subst q1 q2
          exact r1.mono e2.le (fun t off e => by subst e; simp [D.notL] at n1)
        | succ k => exact r2.2 k v d (by simpa using q1) (by simpa using q2)
      · rcases List.mem_cons.1 hd with rfl | hd
        · exact s1
        · exact s2 d hd
    · cases h

theorem snd_mkfunc {f : FuncId} {first caps : Array Operand} (hop : o.op = .makeFunc (.func f) first caps) (hf : first.isEmpty = true) {caps' : List X} (hX : compXs caps.toList = some caps')
    (he : evalOp cal q o.dst (.mkfunc f caps') fr σ = some (d, fr', σ')) (i : Inv P g w fr σ a) : Snd P g w a o fr' σ' d := by
  simp only [evalOp, Option.map_eq_some_iff] at he
  obtain ⟨⟨ds, fr1, σ1⟩, h1, h2⟩ := he
  cases h2
  obtain ⟨g1, e1, i1, r1, n1, s1⟩ := promoteAll_ok i hX h1
  intro next Q hn
  have hrun : (execOp a.eval o).run P w = .ok (.value (.func (.func f) #[] (caps.map a.eval))) w := by
    simp only [execOp, hop]
    refine run_vmap ?_
    rw [Array.isEmpty_iff.1 hf, Array.map_empty]
    rfl
  refine wp_value hrun (hn _ _ g1 e1 (i1.put o.dst ?_ (fun _ _ => .of_ne rfl) (fun s off e => by cases e)))
  refine .func f _ ds (by rw [Array.toList_map]; exact r1.1) (fun k v d q1 q2 => r1.2 k v d (by rw [← Array.toList_map]; exact q1) q2) n1

/-! new objects -/
def Gh.push (g : Gh) (b sz : Nat) : Gh :=
  { g with n := g.n + 1, μ := fun o => if o = g.n then b else g.μ o, sz := fun o => if o = g.n then sz else g.sz o, ω := fun x => if x = b then .obj g.n else g.ω x }

theorem push_le (g : Gh) (b sz : Nat) : g.Le (g.push b sz) :=
  ⟨fun _ _ _ h => h, Nat.le_succ _, fun o ho => by simp [Gh.push, Nat.ne_of_lt ho], fun o ho => by simp [Gh.push, Nat.ne_of_lt ho]⟩

theorem push_keep (g : Gh) (w : World) (b sz : Nat) : Keep g w (g.push b sz) w (fun x => x = b) :=
  ⟨push_le g b sz, Nat.le_refl _, fun c _ hc => ⟨rfl, by simp [Gh.push, hc], fun _ => rfl⟩⟩

theorem Inv.push (i : Inv P g w fr σ a) {b sz : Nat} (hω : g.ω b = .hand) (ob : Obj) (hcells : ∀ cs, ob = .cells cs → Blk P (g.push b sz) w b sz (.obuf g.n) cs)
    (hmap : ∀ es, ob = .map es → ∃ ents clock, w.heap[b]? = some (.map ents clock) ∧ MapRep (g.push b sz) ents.toList es ∧ Born ents clock) (hrow : ∀ e, ob ≠ .row e := by intro e h; cases h) : Inv P (g.push b sz) w fr (σ ++ [ob]) a ∧ Ext g w (g.push b sz) w := by
  have hk := push_keep g w b sz
  have hC : ∀ x, x = b → ¬ claims fr σ (g.ω x) := by
    rintro x rfl
    rw [hω]
    exact fun h => h
  have hn : σ.length = g.n := i.h.n.symm
  refine ⟨⟨⟨i.h.imm, by simp [Gh.push, i.h.n], fun o1 cs h1 => ?_, fun o1 es h1 => ?_, rows_snoc hrow (fun o1 e cs h1 h2 => i.h.rows_keep hk hC o1 e cs h1 h2)⟩, i.s.keep hk hC (fun _ _ _ => rfl), i.d.mono hk.le⟩, Ext.of_keep hk (fun c hc _ => by rw [hc, hω]; rfl) rfl rfl rfl⟩
  · by_cases hlt : o1 < σ.length
    · rw [List.getElem?_append_left hlt] at h1
      exact i.h.cells_keep hk hC o1 cs h1
    · rw [List.getElem?_append_right (by omega)] at h1
      have h0 : o1 - σ.length = 0 := by
        have := get_lt h1
        simp at this
        omega
      rw [h0] at h1
      simp at h1
      have he : o1 = g.n := by omega
      subst he
      exact ⟨by simp [Gh.push], by simpa [Gh.push] using hcells cs h1⟩
  · by_cases hlt : o1 < σ.length
    · rw [List.getElem?_append_left hlt] at h1
      exact i.h.maps_keep hk hC o1 es h1
    · rw [List.getElem?_append_right (by omega)] at h1
      have h0 : o1 - σ.length = 0 := by
        have := get_lt h1
        simp at this
        omega
      rw [h0] at h1
      simp at h1
      have he : o1 = g.n := by omega
      subst he
      obtain ⟨ents, clock, q1, q2⟩ := hmap es h1
      exact ⟨by simp [Gh.push], ents, clock, by simpa [Gh.push] using q1, q2⟩

theorem snd_mkmap {t : TypeId} (hop : o.op = .makeMap t none) (he : evalOp cal q o.dst .mkmap fr σ = some (d, fr', σ')) (i : Inv P g w fr σ a) : Snd P g w a o fr' σ' d := by
  simp only [evalOp] at he
  cases he
  intro next Q hn
  have hrun : (execOp a.eval o).run P w = .ok (.value (.map (some w.heap.size))) (w.alloc (.map #[] 0)) := by
    simp only [execOp, hop]
    exact run_vmap' rfl
  have i1 := i.alloc (.map #[] 0) .hand
  obtain ⟨i2, e2⟩ := i1.push (b := w.heap.size) (sz := 0) (by simp [Gh.tagAt]) (.map []) (fun cs h => by cases h) (fun es h => by
    cases h
    exact ⟨#[], 0, heap_new w _, ⟨[], .refl _, .nil, rfl, fun i e kd h => by simp at h⟩, by simp [Born]⟩)
  refine wp_value hrun (hn _ _ _ ((Ext.alloc g w _ .hand).trans e2) (i2.put o.dst ?_ (fun _ _ => .of_ne rfl) (fun s off e => by cases e)))
  have := Rep.map (g := (g.tagAt w.heap.size .hand).push w.heap.size 0) g.n (Nat.lt_succ_self _)
  rw [← i.h.n]
  simpa [Gh.push, Gh.tagAt] using this

end
end Go.Abs

/-
  Look-ups and stores in maps.
-/
namespace Go.Abs
open Go Go.RowKit

section
variable {P : Program} {g g' : Gh} {w w' : World} {fr fr' : Fr} {σ σ' : St} {a : Act} {o : Oper} {d : D} {cal : Cal} {q mu : Bool} {ops : List Oper}

theorem bytes_eq (s t : ByteArray) : (s == t) = (s.data.toList == t.data.toList) := by
  by_cases h : s = t
  · subst h
    rw [(MapKept.bytes_beq s s).2 rfl]
    simp
  · have h1 : (s == t) = false := by
      cases hb : s == t
      · rfl
      · exact absurd ((MapKept.bytes_beq s t).1 hb) h
    have h2 : s.data.toList ≠ t.data.toList := fun e => h (by
      have h3 := Array.toList_inj.1 e
      cases s
      cases t
      simp at h3
      subst h3
      rfl)
    rw [h1]
    symm
    simpa using h2

/-- A key's kind, as the type table has it. -/
theorem keyKind_und {t : TypeId} {kk : Nat} (h : keyKind P t = some kk) : ∃ de, P.underlying t = some de ∧ ((kk = 0 ∧ ∃ k, de = .int k) ∨ (kk = 1 ∧ de = .string) ∨ (kk = 2 ∧ de = .bool)) := by
  unfold keyKind at h
  split at h <;> first | (cases h; done) | skip
  · rename_i k hk
    cases h
    exact ⟨_, hk, .inl ⟨rfl, k, rfl⟩⟩
  · rename_i hk
    cases h
    exact ⟨_, hk, .inr (.inl ⟨rfl, rfl⟩)⟩
  · rename_i hk
    cases h
    exact ⟨_, hk, .inr (.inr ⟨rfl, rfl⟩)⟩

theorem checkKey_run {t : TypeId} {kk : Nat} (h : keyKind P t = some kk) {v : Value} {d : D} (hr : Rep g v d) (hk : keyD kk d = true) (em : Bool) : (Instr.checkKey em 10000 t v).run P w = .ok () w := by
  obtain ⟨de, h1, h2⟩ := keyKind_und h
  unfold Instr.checkKey
  rw [run_bo (run_und h1)]
  rcases h2 with ⟨rfl, k, rfl⟩ | ⟨rfl, rfl⟩ | ⟨rfl, rfl⟩
  all_goals
    unfold keyD at hk
    split at hk <;> first | (cases hk; done) | skip
    all_goals first
      | (rw [rep_int hr]; rfl)
      | (obtain ⟨s, rfl, _⟩ := rep_str hr; rfl)
      | (rw [rep_bool hr]; rfl)
      | (rename_i hh; simp at hh)

theorem sameNow_of {de : TypeDesc} {kk : Nat} (hk : (kk = 0 ∧ ∃ k, de = .int k) ∨ (kk = 1 ∧ de = .string) ∨ (kk = 2 ∧ de = .bool)) {u v : Value} {x y : D} (hu : Rep g u x) (hv : Rep g v y) {b : Bool} (h : eqKey kk x y = some b) :
    Instr.sameNow de u v = some b := by
  unfold eqKey at h
  split at h <;> first | (cases h; done) | skip
  · rename_i k1 a1 k2 a2
    rw [rep_int hu, rep_int hv]
    rcases hk with ⟨_, k, rfl⟩ | ⟨h0, _⟩ | ⟨h0, _⟩
    · exact h
    · cases h0
    · cases h0
  · obtain ⟨s, rfl, rfl⟩ := rep_str hu
    obtain ⟨t, rfl, rfl⟩ := rep_str hv
    rcases hk with ⟨h0, _⟩ | ⟨_, rfl⟩ | ⟨h0, _⟩
    · cases h0
    · simp only [Instr.sameNow]
      rw [bytes_eq]
      exact h
    · cases h0
  · rw [rep_bool hu, rep_bool hv]
    rcases hk with ⟨h0, _⟩ | ⟨h0, _⟩ | ⟨_, rfl⟩
    · cases h0
    · cases h0
    · exact h

/-- The entry that is found, and its place. -/
theorem findNow_ok {de : TypeDesc} {kk : Nat} (hk : (kk = 0 ∧ ∃ k, de = .int k) ∨ (kk = 1 ∧ de = .string) ∨ (kk = 2 ∧ de = .bool)) {u : Value} {x : D} (hu : Rep g u x) :
    ∀ (ents : List MapEntry) (es : List (D × D)) (n : Nat) (r : Option D), MapRow g ents es → findKey kk x es = some r →
      (r = none ∧ Instr.findNow de u ents n = some none) ∨ ∃ (j : Nat) (e : MapEntry) (kd : D × D), ents[j]? = some e ∧ es[j]? = some kd ∧ r = some kd.2 ∧ Instr.findNow de u ents n = some (some (n + j, e.val))
  | [], [], n, r, hm, h => by
    simp only [findKey, Option.some.injEq] at h
    exact .inl ⟨h.symm, rfl⟩
  | [], _ :: _, _, _, hm, _ => by simp [MapRow] at hm
  | _ :: _, [], _, _, hm, _ => by simp [MapRow] at hm
  | e :: ents, (k', v') :: es, n, r, hm, h => by
    obtain ⟨q1, q2, q3, q4, q5⟩ := hm.2 0 e (k', v') rfl rfl
    have hm' : MapRow g ents es := ⟨by simpa using hm.1, fun i e kd h1 h2 => hm.2 (i + 1) e kd (by simpa using h1) (by simpa using h2)⟩
    simp only [findKey] at h
    split at h
    · rename_i hq
      cases h
      have := sameNow_of hk hu q1 hq
      exact .inr ⟨0, e, (k', v'), rfl, rfl, rfl, by simp [Instr.findNow, this]⟩
    · rename_i hq
      have := sameNow_of hk hu q1 hq
      rcases findNow_ok hk hu ents es (n + 1) r hm' h with ⟨r1, r2⟩ | ⟨j, e', kd, r1, r2, r3, r4⟩
      · exact .inl ⟨r1, by simp [Instr.findNow, this, r2]⟩
      · exact .inr ⟨j + 1, e', kd, r1, r2, r3, by simp [Instr.findNow, this, r4]; omega⟩
    · cases h

theorem findKey_run {t : TypeId} {kk : Nat} (hkk : keyKind P t = some kk) {u : Value} {x : D} (hu : Rep g u x) {ents : List MapEntry} {es : List (D × D)} {r : Option D} (hm : MapRow g ents es) (h : findKey kk x es = some r) :
    (r = none ∧ (Instr.findKey t u ents).run P w = .ok none w) ∨ ∃ (j : Nat) (e : MapEntry) (kd : D × D), ents[j]? = some e ∧ es[j]? = some kd ∧ r = some kd.2 ∧ (Instr.findKey t u ents).run P w = .ok (some (j, e.val)) w := by
  obtain ⟨de, h1, h2⟩ := keyKind_und hkk
  have hrun : ∀ r, Instr.findNow de u ents 0 = some r → (Instr.findKey t u ents).run P w = .ok r w := fun r hr => by
    unfold Instr.findKey
    rw [run_bo (run_und h1)]
    simp only [hr]
    rfl
  rcases findNow_ok h2 hu ents es 0 r hm h with ⟨r1, r2⟩ | ⟨j, e', kd, r1, r2, r3, r4⟩
  · exact .inl ⟨r1, hrun _ r2⟩
  · rw [Nat.zero_add] at r4
    exact .inr ⟨j, e', kd, r1, r2, r3, hrun _ r4⟩

theorem getMap_run {b : Nat} {ents : Array MapEntry} {clock : Nat} (h : w.heap[b]? = some (.map ents clock)) : (getObj b).run P w = .ok (.map ents clock) w := by
  simp [getObj, Sem.run, h]

theorem setMap_run {b : Nat} {ents ents' : Array MapEntry} {clock clock' : Nat} (h : w.heap[b]? = some (.map ents clock)) : (setObj b (.map ents' clock')).run P w = .ok () { w with heap := w.heap.setIfInBounds b (.map ents' clock') } := by
  simp [setObj, Sem.run, h]

theorem zeroAgg_ok {t : TypeId} {agg : Bool} (h : zeroAgg P t = some agg) {z : List D} (hz : zeroOf P t = some z) :
    ∃ zv, (P.info? t).bind (·.zero) = some zv ∧ (agg = true → Rep g zv (.agg z)) ∧ (agg = false → ∀ z0, z = [z0] → Rep g zv z0) ∧ z.all D.pure1 = true := by
  obtain ⟨zv, z1, z2, z3, z4⟩ := zeroOf_ok (g := g) hz
  refine ⟨zv, z1, fun ha => ?_, fun ha z0 hz0 => ?_, z3⟩
  · unfold zeroAgg at h
    rw [z1] at h
    subst ha
    simp only [Option.map_some, Option.some.injEq] at h
    cases zv <;> simp at h
    exact agg_of z2 (List.all_eq_true.2 fun x hx => plain_of_pure1 (List.all_eq_true.1 z3 x hx))
  · unfold zeroAgg at h
    rw [z1] at h
    subst ha
    simp only [Option.map_some, Option.some.injEq] at h
    have hc : zv.cells = #[zv] := by cases zv <;> first | rfl | simp at h
    rw [hc, hz0] at z2
    exact z2.2 0 zv z0 rfl rfl

theorem snd_lookup {t k e : TypeId} {x y : Operand} {ok : Bool} (hop : o.op = .lookup t x y ok) (ht : P.underlying t = some (.map k e)) {kk : Nat} (hkk : keyKind P k = some kk) {agg : Bool} (hagg : zeroAgg P e = some agg) {z : List D} (hz : zeroOf P e = some z)
    {x' y' : X} (hX : compX x = some x') (hY : compX y = some y') (he : evalOp cal q o.dst (.lookup kk agg z x' y' ok) fr σ = some (d, fr', σ')) (i : Inv P g w fr σ a) : Snd P g w a o fr' σ' d := by
  have hv := (val_ok i.s hX).1
  have hy := (val_ok i.s hY).1
  simp only [evalOp] at he
  split at he <;> first | (cases he; done) | skip
  rename_i m hx
  split at he <;> first | (cases he; done) | skip
  rename_i es hm
  split at he <;> first | (cases he; done) | skip
  rename_i hkd
  rw [hx] at hv
  have hvx : a.eval x = .map (some (g.μ m)) := by
    generalize a.eval x = vx at hv
    cases hv
    rfl
  obtain ⟨_, ents, clock, h2, ⟨es', hpm, hko, h3⟩, _⟩ := i.h.maps m es hm
  obtain ⟨zv, z1, z2, z3, z4⟩ := zeroAgg_ok (g := g) hagg hz
  have hmain : ∀ (find : Option (Nat × Value)) (vv : Value) (b : Bool), (Instr.findKey k (a.eval y) ents.toList).run P w = .ok find w → (find = none → vv = zv ∧ b = false) → (∀ n u, find = some (n, u) → vv = u ∧ b = true) →
      (execOp a.eval o).run P w = .ok (.value (if ok then .tuple #[vv, .bool b] else vv)) w := fun find vv b h1 h4 h5 => by
    simp only [execOp, hop, hvx]
    refine run_vmap ?_
    unfold Instr.lookup
    rw [run_bo (run_und ht)]
    simp only [bind_assoc]
    rw [run_bo (getMap_run h2)]
    simp only [pure_bind]
    rw [run_bo (checkKey_run hkk hy hkd _), run_bo h1]
    cases find with
    | none =>
      obtain ⟨rfl, rfl⟩ := h4 rfl
      simp only [bind_assoc, pure_bind]
      rw [run_bo (zeroValue_run z1)]
      rfl
    | some r =>
      obtain ⟨n, u⟩ := r
      obtain ⟨rfl, rfl⟩ := h5 n u rfl
      rfl
  rcases hf : findKey kk (fr.val y') es with _ | r
  · rw [hf] at he; cases he
  · rw [hf] at he
    rcases findKey_run (w := w) hkk hy h3 (findKey_perm hpm hko hf) with ⟨rfl, q1⟩ | ⟨j, e', kd, q1, q2, rfl, q3⟩
    · simp only at he
      have hr := hmain none zv false q1 (fun _ => ⟨rfl, rfl⟩) (fun n u e => by cases e)
      split at he
      · rename_i z0 rest
        split at he
        · rename_i ha
          subst ha
          cases he
          refine snd_plain i hr ?_ ?_ ?_
          · cases ok
            · exact z2 rfl
            · refine .tup _ _ rfl (fun n v d h1 h2 => ?_) rfl
              match n with
              | 0 => simp at h1 h2; subst h1 h2; exact z2 rfl
              | 1 => simp at h1 h2; subst h1 h2; exact .bool _
              | n + 2 => simp at h2
          · cases ok <;> rfl
          · cases ok <;> rfl
        · rename_i ha
          have ha : agg = false := by simpa using ha
          split at he
          · rename_i hrest
            have hrest : rest = [] := by simpa using hrest
            subst hrest
            cases he
            have z5 := (z3 ha z0 rfl).strip
            have hn : z0.notL = true := notL_of_pure1 (by simpa using z4)
            refine snd_plain i hr ?_ ?_ ?_
            · cases ok
              · exact z5
              · refine .tup _ _ rfl (fun n v d h1 h2 => ?_) (by simp only [List.all_cons, List.all_nil, notL_strip, hn]; rfl)
                match n with
                | 0 => simp at h1 h2; subst h1 h2; exact z5
                | 1 => simp at h1 h2; subst h1 h2; exact .bool _
                | n + 2 => simp at h2
            · cases ok
              · exact strip_strip _
              · rfl
            · cases ok
              · simpa [notL_strip] using hn
              · rfl
          · cases he
      · cases he
    · simp only at he
      cases he
      obtain ⟨_, m1, m2, m3, m4⟩ := h3.2 j e' kd q1 q2
      have hr := hmain (some (j, e'.val)) e'.val true q3 (fun e => by cases e) (fun n u e => by cases e; exact ⟨rfl, rfl⟩)
      refine snd_plain i hr ?_ ?_ ?_
      · cases ok
        · exact m1
        · refine .tup _ _ rfl (fun n v d h1 h2 => ?_) (by simp only [List.all_cons, List.all_nil, m3]; rfl)
          match n with
          | 0 => simp at h1 h2; subst h1 h2; exact m1
          | 1 => simp at h1 h2; subst h1 h2; exact .bool _
          | n + 2 => simp at h2
      · cases ok
        · exact m4
        · rfl
      · cases ok
        · exact m3
        · rfl

/-! stores in maps -/
theorem Inv.writeMap (i : Inv P g w fr σ a) {ob : Nat} {es es' : List (D × D)} (hb : σ[ob]? = some (.map es)) (k : Keep g w g w' (fun b => b = g.μ ob))
    (himm : ∀ (b off : Nat) (v : Value), g.I b off = some v → w'.cell? ⟨b, off, none⟩ = some v) (hnew : ∃ ents clock, w'.heap[g.μ ob]? = some (.map ents clock) ∧ MapRep g ents.toList es' ∧ Born ents clock) : Inv P g w' fr (σ.set ob (.map es')) a := by
  obtain ⟨ho, _⟩ := i.h.maps ob es hb
  have hC : ∀ b, b = g.μ ob → ¬ claims fr [] (g.ω b) := by
    rintro b rfl
    rw [ho]
    rintro (⟨cs, h⟩ | ⟨es, h⟩) <;> simp at h
  refine ⟨⟨himm, by simpa using i.h.n, fun o1 cs1 h1 => ?_, fun o1 es1 h1 => ?_, rows_set (fun e h => by cases h) (fun _ h => by cases h) (fun o1 e cs1 h1 h2 => ?_)⟩, i.s.keep k hC (fun _ _ _ => rfl), i.d⟩
  · rw [list_set_get] at h1
    split at h1
    · cases h1
    · rename_i hc
      obtain ⟨h2, h3⟩ := i.h.cells o1 cs1 h1
      have hne : g.μ o1 ≠ g.μ ob := fun e => by
        rw [e, ho] at h2
        cases h2
        exact hc ⟨rfl, (List.getElem?_eq_some_iff.1 hb).1⟩
      exact ⟨h2, h3.keep k hne (fun j es e hj b hb' => by rw [hb', ho]; simp)⟩
  · rw [list_set_get] at h1
    split at h1
    · rename_i hc
      obtain ⟨rfl, _⟩ := hc
      cases h1
      exact ⟨ho, hnew⟩
    · rename_i hc
      obtain ⟨h2, ents, clock, h3, h4⟩ := i.h.maps o1 es1 h1
      have hne : g.μ o1 ≠ g.μ ob := fun e => by
        rw [e, ho] at h2
        cases h2
        exact hc ⟨rfl, (List.getElem?_eq_some_iff.1 hb).1⟩
      exact ⟨h2, ents, clock, ((k.blk _ (lt_of_heap h3) hne).1).trans h3, h4⟩
  · obtain ⟨arr, h3⟩ := i.h.rows o1 e cs1 h1 h2
    obtain ⟨h4, _⟩ := i.h.cells o1 cs1 h1
    have hne : g.μ o1 ≠ g.μ ob := fun e => by
      rw [e, ho] at h4
      cases h4
      rw [hb] at h1
      cases h1
    exact ⟨arr, (k.blk _ (lt_of_heap h3) hne).1.trans h3⟩

theorem putKey_none {kk : Nat} {k x : D} : ∀ {es r : List (D × D)}, putKey kk k x es = some r → findKey kk k es = some none → r = es ++ [(k, x)]
  | [], r, h, _ => by simpa [putKey] using h.symm
  | (k', v') :: es, r, h, hf => by
    simp only [putKey] at h
    simp only [findKey] at hf
    split at h
    · rename_i hq; rw [hq] at hf; cases hf
    · rename_i hq
      rw [hq] at hf
      simp only [Option.map_eq_some_iff] at h
      obtain ⟨r', h1, rfl⟩ := h
      rw [putKey_none h1 hf]
      rfl
    · cases h

theorem putKey_find {kk : Nat} {k x : D} : ∀ {es r : List (D × D)}, putKey kk k x es = some r → ∃ s, findKey kk k es = some s
  | [], r, h => ⟨none, rfl⟩
  | (k', v') :: es, r, h => by
    simp only [putKey] at h
    split at h
    · rename_i hq; exact ⟨some v', by simp only [findKey, hq]⟩
    · rename_i hq
      simp only [Option.map_eq_some_iff] at h
      obtain ⟨r', h1, rfl⟩ := h
      obtain ⟨s, hs⟩ := putKey_find h1
      exact ⟨s, by simp only [findKey, hq, hs]⟩
    · cases h

theorem eqKey_eq {kk : Nat} {u v : Value} {x y : D} (hu : Rep g u x) (hv : Rep g v y) (h : eqKey kk x y = some true) : u = v ∧ ∀ n, Instr.sameBits n u v = true := by
  unfold eqKey at h
  split at h <;> first | (cases h; done) | skip
  · rename_i k1 a1 k2 a2
    split at h
    · rename_i hk
      subst hk
      have : a1 = a2 := by simpa using h
      subst this
      rw [rep_int hu, rep_int hv]
      exact ⟨rfl, fun n => by cases n <;> simp [Instr.sameBits]⟩
    · cases h
  · obtain ⟨s, rfl, rfl⟩ := rep_str hu
    obtain ⟨t, rfl, ht⟩ := rep_str hv
    have hb : (s == t) = true := by
      rw [bytes_eq, ht]
      simpa using h
    have : s = t := (MapKept.bytes_beq s t).1 hb
    subst this
    exact ⟨rfl, fun n => by cases n <;> simp [Instr.sameBits, hb]⟩
  · rename_i a1 a2
    have : a1 = a2 := by simpa using h
    subst this
    rw [rep_bool hu, rep_bool hv]
    exact ⟨rfl, fun n => by cases n <;> simp [Instr.sameBits]⟩

/-- The entry that is found, with its key; and what the store makes of the entries. -/
theorem putKey_at {de : TypeDesc} {kk : Nat} (hk : (kk = 0 ∧ ∃ k, de = .int k) ∨ (kk = 1 ∧ de = .string) ∨ (kk = 2 ∧ de = .bool)) {u : Value} {x y : D} (hu : Rep g u x) :
    ∀ (ents : List MapEntry) (es : List (D × D)) (n : Nat) (r : List (D × D)) (s : D), MapRow g ents es → putKey kk x y es = some r → findKey kk x es = some (some s) →
      ∃ (j : Nat) (e : MapEntry) (kd : D × D), ents[j]? = some e ∧ es[j]? = some kd ∧ r = es.set j (x, y) ∧ Instr.findNow de u ents n = some (some (n + j, e.val)) ∧ e.key = u
  | [], [], n, r, s, hm, h, hf => by simp [findKey] at hf
  | [], _ :: _, _, _, _, hm, _, _ => by simp [MapRow] at hm
  | _ :: _, [], _, _, _, hm, _, _ => by simp [MapRow] at hm
  | e :: ents, (k', v') :: es, n, r, s, hm, h, hf => by
    obtain ⟨q1, q2, q3, q4, q5⟩ := hm.2 0 e (k', v') rfl rfl
    have hm' : MapRow g ents es := ⟨by simpa using hm.1, fun i e kd h1 h2 => hm.2 (i + 1) e kd (by simpa using h1) (by simpa using h2)⟩
    simp only [putKey] at h
    simp only [findKey] at hf
    split at h
    · rename_i hq
      cases h
      have := sameNow_of hk hu q1 hq
      exact ⟨0, e, (k', v'), rfl, rfl, rfl, by simp [Instr.findNow, this], (eqKey_eq hu q1 hq).1.symm⟩
    · rename_i hq
      rw [hq] at hf
      simp only [Option.map_eq_some_iff] at h
      obtain ⟨r', h1, rfl⟩ := h
      have := sameNow_of hk hu q1 hq
      obtain ⟨j, e', kd, r1, r2, r3, r4, r5⟩ := putKey_at hk hu ents es (n + 1) r' s hm' h1 hf
      exact ⟨j + 1, e', kd, r1, r2, by rw [r3]; rfl, by simp [Instr.findNow, this, r4]; omega, r5⟩
    · cases h

theorem setObj_ext {b : Nat} {ents ents' : Array MapEntry} {clock clock' : Nat} (_h : w.heap[b]? = some (.map ents clock)) :
    Keep g w g { w with heap := w.heap.setIfInBounds b (.map ents' clock') } (fun x => x = b) :=
  ⟨.refl g, by simp, fun c _ hc => ⟨by simp only []; rw [Array.getElem?_setIfInBounds_ne (fun e => hc e.symm)], rfl, fun _ => rfl⟩⟩

theorem imm_map {σ : St} (h : HInv P g w σ) {b : Nat} {ents ents' : Array MapEntry} {clock clock' : Nat} (hb : w.heap[b]? = some (.map ents clock)) (c off : Nat) (v : Value) (hv : g.I c off = some v) :
    ({ w with heap := w.heap.setIfInBounds b (.map ents' clock') } : World).cell? ⟨c, off, none⟩ = some v := by
  have h1 := h.imm c off v hv
  have hne : b ≠ c := by
    rintro rfl
    unfold World.cell? at h1
    simp [hb] at h1
  unfold World.cell? at h1 ⊢
  simp only [] at h1 ⊢
  rw [Array.getElem?_setIfInBounds_ne hne]
  exact h1

theorem born_push {ents : Array MapEntry} {clock : Nat} (h : Born ents clock) (key val : Value) : Born (ents.push { key, val, born := clock }) (clock + 1) := by
  refine ⟨fun e he => ?_, ?_⟩
  · simp only [Array.toList_push, List.mem_append, List.mem_singleton] at he
    rcases he with he | rfl
    · exact Nat.lt_succ_of_lt (h.1 e he)
    · exact Nat.lt_succ_self _
  · simp only [Array.toList_push, List.map_append, List.map_cons, List.map_nil]
    refine List.nodup_append.2 ⟨h.2, by simp, fun a ha b hb => ?_⟩
    simp only [List.mem_singleton] at hb
    subst hb
    obtain ⟨e, he, rfl⟩ := List.mem_map.1 ha
    exact Nat.ne_of_lt (h.1 e he)
theorem born_same {ents ents' : Array MapEntry} {clock : Nat} (h : Born ents clock) (he : ents'.toList.map (·.born) = ents.toList.map (·.born)) : Born ents' clock := by
  refine ⟨fun e hm => ?_, by rw [he]; exact h.2⟩
  have : e.born ∈ ents.toList.map (·.born) := by rw [← he]; exact List.mem_map.2 ⟨e, hm, rfl⟩
  obtain ⟨e0, h0, h1⟩ := List.mem_map.1 this
  rw [← h1]
  exact h.1 e0 h0
theorem born_sub {ents ents' : Array MapEntry} {clock : Nat} (h : Born ents clock) (he : ents'.toList.Sublist ents.toList) : Born ents' clock :=
  ⟨fun e hm => h.1 e (he.subset hm), (he.map _).nodup h.2⟩
theorem born_modify {ents : Array MapEntry} {clock : Nat} (h : Born ents clock) (j : Nat) (f : MapEntry → MapEntry) (hf : ∀ e, (f e).born = e.born) : Born (ents.modify j f) clock := by
  refine born_same h ?_
  apply List.ext_getElem?
  intro k
  simp only [List.getElem?_map, Array.getElem?_toList, Array.getElem?_modify]
  split
  · cases ents[k]? <;> simp [hf]
  · rfl

theorem snd_mapUpdate {t kt e : TypeId} {m y z : Operand} (hop : o.op = .mapUpdate t m y z) (ht : P.underlying t = some (.map kt e)) {kk : Nat} (hkk : keyKind P kt = some kk)
    {m' y' z' : X} (hM : compX m = some m') (hY : compX y = some y') (hZ : compX z = some z') (he : evalOp cal q o.dst (.mapUpdate kk m' y' z') fr σ = some (d, fr', σ')) (i : Inv P g w fr σ a) : Snd P g w a o fr' σ' d := by
  have hv := (val_ok i.s hM).1
  have hy := (val_ok i.s hY).1
  have hz := val_ok i.s hZ
  simp only [evalOp] at he
  split at he <;> first | (cases he; done) | skip
  rename_i ob hx
  split at he <;> first | (cases he; done) | skip
  rename_i es hm
  split at he <;> first | (cases he; done) | skip
  rename_i hkd
  obtain ⟨hkd, hnl⟩ := hkd
  simp only [Option.map_eq_some_iff] at he
  obtain ⟨r, hput, he⟩ := he
  cases he
  rw [hx] at hv
  have hvx : a.eval m = .map (some (g.μ ob)) := by
    generalize a.eval m = vx at hv
    cases hv
    rfl
  obtain ⟨ho, ents, clock, h2, ⟨es', hpm, hko, h3⟩, hbn⟩ := i.h.maps ob es hm
  have hkr := KeysOK.put hput hko
  obtain ⟨r', hput', hpr⟩ := putKey_perm hpm hko hput
  obtain ⟨s, hs⟩ := putKey_find hput'
  have hkn : (fr.val y').notL = true := by
    unfold keyD at hkd
    split at hkd <;> first | (cases hkd; done) | simp_all [D.notL]
  obtain ⟨de, hu1, hu2⟩ := keyKind_und hkk
  have fin : ∀ (ents' : Array MapEntry) (clock' : Nat), (execOp a.eval o).run P w = .ok .skip { w with heap := w.heap.setIfInBounds (g.μ ob) (.map ents' clock') } → MapRow g ents'.toList r' → Born ents' clock' →
      Snd P g w a o fr (σ.set ob (.map r)) .junk := fun ents' clock' hrun hrep hbn' next Q hn => by
    have hk := setObj_ext (g := g) (ents' := ents') (clock' := clock') h2
    refine wp_skipOp hrun (hn _ _ g (Ext.of_keep hk (fun c hc _ => by rw [hc, ho]; rfl) rfl rfl rfl) ((i.writeMap hm hk (imm_map i.h h2) ⟨ents', clock', ?_, ⟨r', hpr, hkr, hrep⟩, hbn'⟩).put o.dst (.junk _) (fun _ _ => .of_ne rfl) (fun s off e => by cases e)))
    simp [lt_of_heap h2]
  cases s with
  | none =>
    have hr := putKey_none hput' hs
    rcases findKey_run (w := w) hkk hy h3 hs with ⟨_, q1⟩ | ⟨j, e', kd, _, _, q2, _⟩
    · refine fin (ents.push { key := a.eval y, val := a.eval z, born := clock }) (clock + 1) ?_ ?_ (born_push hbn _ _)
      · simp only [execOp, hop, hvx]
        refine run_umap ?_
        unfold Instr.mapUpdate
        rw [run_bo (run_und ht)]
        simp only
        rw [run_bo (getMap_run h2)]
        simp only
        rw [run_bo (checkKey_run hkk hy hkd _), run_bo q1]
        exact setMap_run h2
      · subst hr
        refine ⟨by simp [h3.1], fun k e1 kd1 k1 k2 => ?_⟩
        simp only [Array.toList_push] at k1
        by_cases hlt : k < ents.toList.length
        · rw [List.getElem?_append_left hlt] at k1
          rw [List.getElem?_append_left (by rw [← h3.1]; exact hlt)] at k2
          exact h3.2 k e1 kd1 k1 k2
        · have hlt' : k = ents.toList.length := by
            have := get_lt k1
            simp at this hlt ⊢
            omega
          subst hlt'
          rw [List.getElem?_append_right (Nat.le_refl _)] at k1
          rw [List.getElem?_append_right (by rw [h3.1]; exact Nat.le_refl _)] at k2
          simp [h3.1] at k1 k2
          subst k1 k2
          exact ⟨hy, hz.1, hkn, hnl, hz.2.1⟩
    · cases q2
  | some s =>
    obtain ⟨j, e', kd, q1, q2, q3, q4, q5⟩ := putKey_at hu2 hy ents.toList es' 0 r' s h3 hput' hs
    rw [Nat.zero_add] at q4
    refine fin (ents.modify j fun e => { e with key := a.eval y, val := a.eval z }) clock ?_ ?_ (born_modify hbn _ _ (fun _ => rfl))
    · simp only [execOp, hop, hvx]
      refine run_umap ?_
      unfold Instr.mapUpdate
      rw [run_bo (run_und ht)]
      simp only
      rw [run_bo (getMap_run h2)]
      simp only
      have hfk : (Instr.findKey kt (a.eval y) ents.toList).run P w = .ok (some (j, e'.val)) w := by
        unfold Instr.findKey
        rw [run_bo (run_und hu1)]
        simp only [q4]
        rfl
      rw [run_bo (checkKey_run hkk hy hkd _), run_bo hfk]
      simp only
      have hej : ents[j]? = some e' := by simpa using q1
      have hst : (Instr.keyThatStays (((ents[j]?).map (·.key)).getD (a.eval y)) (a.eval y)).run P w = .ok (a.eval y) w := by
        rw [hej]
        simp only [Option.map_some, Option.getD_some, q5]
        unfold Instr.keyThatStays
        rw [if_pos]
        · rfl
        · obtain ⟨hkk1, _⟩ : True ∧ True := ⟨trivial, trivial⟩
          unfold keyD at hkd
          split at hkd <;> first | (cases hkd; done) | skip
          all_goals first
            | (rename_i hh; rw [hh] at hy; first | (rw [rep_int hy]; simp [Instr.sameBits]) | (rw [rep_bool hy]; simp [Instr.sameBits]) | (obtain ⟨s, hs1, _⟩ := rep_str hy; rw [hs1]; simp [Instr.sameBits, (MapKept.bytes_beq s s).2 rfl]))
            | skip
      rw [run_bo hst]
      exact setMap_run h2
    · subst q3
      refine ⟨by simp [h3.1], fun k e1 kd1 k1 k2 => ?_⟩
      have hlj : j < es'.length := get_lt q2
      rw [list_set_get] at k2
      have k1' : (ents.modify j fun e => { e with key := a.eval y, val := a.eval z })[k]? = some e1 := by rw [← Array.getElem?_toList]; exact k1
      rw [Array.getElem?_modify] at k1'
      by_cases hjk : j = k
      · subst hjk
        rw [if_pos ⟨rfl, hlj⟩] at k2
        cases k2
        rw [if_pos rfl] at k1'
        simp only [Option.map_eq_some_iff] at k1'
        obtain ⟨e0, _, rfl⟩ := k1'
        exact ⟨hy, hz.1, hkn, hnl, hz.2.1⟩
      · rw [if_neg hjk] at k1'
        rw [if_neg (fun h => hjk h.1.symm)] at k2
        exact h3.2 k e1 kd1 (by simpa using k1') k2

theorem Snd.ahead {g1 : Gh} (e : Ext g w g1 w) {fr' : Fr} {σ' : St} (h : Snd P g1 w a o fr' σ' d) : Snd P g w a o fr' σ' d :=
  fun next Q hn => h next Q (fun a' w' g' e' i' => hn a' w' g' (e.trans e') i')
theorem ownP_ok {x : X} (i : Inv P g w fr σ a) (h : fr.ownP σ x = some (fr', σ')) : ∃ g', Ext g w g' w ∧ Inv P g' w fr' σ' a := by
  unfold Fr.ownP at h
  split at h
  · obtain ⟨sz, i1, e1, _⟩ := i.promote h
    exact ⟨_, e1, i1⟩
  · simp only [Option.some.injEq, Prod.mk.injEq] at h
    obtain ⟨rfl, rfl⟩ := h
    exact ⟨g, .refl g w, i⟩
theorem snd_mapUpdateP {t kt e : TypeId} {m y z : Operand} (hop : o.op = .mapUpdate t m y z) (ht : P.underlying t = some (.map kt e)) {kk : Nat} (hkk : keyKind P kt = some kk)
    {m' y' z' : X} (hM : compX m = some m') (hY : compX y = some y') (hZ : compX z = some z') (he : evalOp cal q o.dst (.mapUpdateP kk m' y' z') fr σ = some (d, fr', σ')) (i : Inv P g w fr σ a) : Snd P g w a o fr' σ' d := by
  simp only [evalOp] at he
  split at he <;> first | (cases he; done) | skip
  rename_i fr1 σ1 hown
  obtain ⟨g1, e1, i1⟩ := ownP_ok i hown
  refine Snd.ahead e1 (snd_mapUpdate (cal := cal) (q := q) hop ht hkk hM hY hZ ?_ i1)
  simp only [evalOp]
  exact he
end
end Go.Abs

/-
  What a call asks of the callee, and what it gives back to the caller.
-/
namespace Go.Abs
open Go Go.RowKit

section
variable {P : Program} {g g' : Gh} {w w' : World} {fr fr' : Fr} {σ σ' : St} {a : Act} {o : Oper} {d : D} {cal : Cal} {q mu : Bool} {ops : List Oper}

def hideF : Tag → Tag
  | .obj o => .obj o
  | .obuf o j => .obuf o j
  | .free => .free
  | _ => .other

def outF : Tag → Tag
  | .obj o => .obj o
  | .obuf o j => .obuf o j
  | .hand => .hand
  | .free => .free
  | _ => .other

/-- What the callee answers, in the world behind it. -/
def Gives (P : Program) (g : Gh) (w w' : World) (σ' : St) (v : Value) (d : D) : Prop :=
  ∃ g', Ext g w g' w' ∧ HInv P g' w' σ' ∧ Rep g' v d ∧ d.notL = true ∧ Own P g' w' .hand v d

def CalOK (P : Program) (cal : Cal) : Prop :=
  ∀ (f : Nat) (ds : List D) (σ : St) (d : D) (σ' : St), cal f ds σ = some (d, σ') → ∀ (g : Gh) (w : World) (vals : Array Value), HInv P g w σ → (∀ b, hideF (g.ω b) = g.ω b) →
    AllRep (Rep g) vals.toList ds → ds.all D.notL = true → Calls P f vals w (fun e w' => ∃ v, e = .returned v ∧ Gives P g w w' σ' v d)

theorem hideF_hideF (t : Tag) : hideF (hideF t) = hideF t := by cases t <;> rfl
theorem hideF_mine {t : Tag} (h : t.mine = false) : hideF t = t := by cases t <;> simp_all [Tag.mine, hideF]
theorem outF_mine {t : Tag} (h : t.mine = false) : outF t = t := by cases t <;> simp_all [Tag.mine, outF]

theorem AllRep.mono {vs : List Value} {ds : List D} (h : AllRep (Rep g) vs ds) (k : g.Le g') (hn : ds.all D.notL = true) : AllRep (Rep g') vs ds :=
  ⟨h.1, fun i v d h1 h2 => (h.2 i v d h1 h2).mono k (fun t off e => by subst e; exact absurd (all_get hn h2) (by simp [D.notL]))⟩

/-- Blocks that this call has for its own, not through the store. -/
def locF : Tag → Bool
  | .sbuf _ | .box _ | .bbuf _ _ | .hand => true
  | _ => false

/-- The caller's ghost behind a call. -/
def Gh.back (g g2 : Gh) (w : World) : Gh :=
  { I := g2.I, n := g2.n, μ := g2.μ, sz := g2.sz, β := g.β, ω := fun b => if b < w.heap.size ∧ locF (g.ω b) = true then g.ω b else outF (g2.ω b), base := g.base }

theorem Own.to {g2 : Gh} {tag : Tag} {v : Value} {d : D} (h : Own P g2 w' tag v d) (hI : g'.I = g2.I) (hω : ∀ b, g2.ω b = tag → g'.ω b = tag) : Own P g' w' tag v d := by
  intro es e hd
  rcases h es e hd with h0 | ⟨i, xs, h1, h2, h3, h4, h5⟩
  · exact .inl h0
  exact .inr ⟨i, xs, h1, h2, h3, h4, fun b hb => ⟨hω b (h5 b hb).1, by rw [hI]; exact (h5 b hb).2⟩⟩

theorem Blk.to {g2 : Gh} {b sz : Nat} {tag : Nat → Tag} {cs : List D} (h : Blk P g2 w' b sz tag cs) (hle : g2.Le g') (hI : g'.I = g2.I) (hω : ∀ j b, g2.ω b = tag j → g'.ω b = tag j) : Blk P g' w' b sz tag cs := by
  obtain ⟨arr, ty, h1, h2, h3, h4⟩ := h
  refine ⟨arr, ty, h1, h2, by rw [hI]; exact h3, fun j d hd => ?_⟩
  obtain ⟨p1, v, p2, p3, p4⟩ := h4 j d hd
  exact ⟨p1, v, p2, p3.mono hle (fun t off e => by subst e; simp [D.plain] at p1), p4.to hI (hω j)⟩

theorem HInv.to {g2 : Gh} (h : HInv P g2 w' σ') (hle : g2.Le g') (hI : g'.I = g2.I) (hn : g'.n = g2.n) (hμ : g'.μ = g2.μ) (hsz : g'.sz = g2.sz) (hω : ∀ b t, (∃ o, t = .obj o) ∨ (∃ o j, t = .obuf o j) → g2.ω b = t → g'.ω b = t) : HInv P g' w' σ' := by
  refine ⟨by rw [hI]; exact h.imm, hn.trans h.n, fun o cs ho => ?_, fun o es ho => ?_, fun o e cs h1 h2 => by rw [hμ]; exact h.rows o e cs h1 h2⟩
  · obtain ⟨h1, h2⟩ := h.cells o cs ho
    rw [hμ, hsz]
    exact ⟨hω _ _ (.inl ⟨o, rfl⟩) h1, h2.to hle hI (fun j b hb => hω b _ (.inr ⟨o, j, rfl⟩) hb)⟩
  · obtain ⟨h1, ents, clock, h2, h3, h4⟩ := h.maps o es ho
    rw [hμ]
    exact ⟨hω _ _ (.inl ⟨o, rfl⟩) h1, ents, clock, h2, h3.mono hle, h4⟩

theorem HInv.hide (h : HInv P g w σ) : HInv P (g.rename hideF) w σ :=
  h.to (g.rename_le hideF) rfl rfl rfl rfl (fun b t ht hb => by
    show hideF (g.ω b) = t
    rw [hb]
    rcases ht with ⟨o, rfl⟩ | ⟨o, j, rfl⟩ <;> rfl)

/-- What a call gives back to the caller's frame. -/
theorem gives_back (i : Inv P g w fr σ a) {v : Value} (h : Gives P (g.rename hideF) w w' σ' v d) : ∃ g', Ext g w g' w' ∧ Inv P g' w' fr σ' a ∧ Rep g' v d ∧ d.notL = true ∧ Own P g' w' .hand v d := by
  obtain ⟨g2, e1, i2, r2, n2, o2⟩ := h
  refine ⟨g.back g2 w, ?_⟩
  have hle2 : g2.Le (g.back g2 w) := ⟨fun _ _ _ h => h, Nat.le_refl _, fun _ _ => rfl, fun _ _ => rfl⟩
  have hle : g.Le (g.back g2 w) := ⟨e1.le.I, e1.le.n, e1.le.μ, e1.le.sz⟩
  -- a block that is the caller's own stays hidden
  have hid : ∀ b, b < w.heap.size → locF (g.ω b) = true → g2.ω b = .other ∧ w'.heap[b]? = w.heap[b]? := fun b hb hl => by
    have h1 : (g.rename hideF).ω b = .other := by
      show hideF (g.ω b) = .other
      cases hg : g.ω b <;> rw [hg] at hl <;> first | rfl | cases hl
    obtain ⟨k1, k2⟩ := e1.blk b hb (by rw [h1]; rfl)
    exact ⟨k2.trans h1, k1⟩
  have hω : ∀ b t, outF t = t → t ≠ .other → g2.ω b = t → (g.back g2 w).ω b = t := fun b t ht hno hb => by
    show (if _ then _ else _) = t
    split
    · rename_i hc
      have := (hid b hc.1 hc.2).1
      rw [hb] at this
      exact absurd this hno
    · rw [hb, ht]
  have hmine : ∀ b, (g.ω b).mine = false → (g.rename hideF).ω b = g.ω b := fun b hb => hideF_mine hb
  have hext : Ext g w (g.back g2 w) w' := by
    refine ⟨hle, e1.os, e1.tape, e1.output, e1.size, fun b hb hm => ?_, fun b off v hv => ?_, rfl⟩
    · obtain ⟨k1, k2⟩ := e1.blk b hb (by rw [hmine b hm]; exact hm)
      refine ⟨k1, ?_⟩
      show (if _ then _ else _) = _
      split
      · rfl
      · rw [k2, hmine b hm, outF_mine hm]
    · rcases e1.new b off v hv with h1 | h1 | h1
      · exact .inl h1
      · exact .inr (.inl h1)
      · refine .inr (.inr ?_)
        have : (hideF (g.ω b)).mine = true := h1
        cases hg : g.ω b <;> rw [hg] at this <;> first | rfl | cases this
  have hkeep : Keep g w (g.back g2 w) w' (fun b => locF (g.ω b) = false ∧ (g.ω b).mine = true) := by
    refine ⟨hle, e1.size, fun b hb hnc => ?_⟩
    have hIeq : ((g.rename hideF).ω b).mine = false → ∀ off, g2.I b off = g.I b off := fun hm off => by
      cases hv : g2.I b off with
      | none =>
        cases hv2 : g.I b off with
        | none => rfl
        | some u => exact absurd (e1.le.I b off u hv2) (by rw [hv]; simp)
      | some u =>
        rcases e1.new b off u hv with h1 | h1 | h1
        · exact h1.symm
        · omega
        · rw [hm] at h1; cases h1
    by_cases hl : locF (g.ω b) = true
    · have h1 : (g.rename hideF).ω b = .other := by
        show hideF (g.ω b) = .other
        cases hg : g.ω b <;> rw [hg] at hl <;> first | rfl | cases hl
      refine ⟨(hid b hb hl).2, ?_, hIeq (by rw [h1]; rfl)⟩
      show (if _ then _ else _) = _
      rw [if_pos ⟨hb, hl⟩]
    · have hm : (g.ω b).mine = false := by
        cases hmm : (g.ω b).mine
        · rfl
        · exact absurd ⟨by simpa using hl, hmm⟩ hnc
      obtain ⟨k1, k2⟩ := hext.blk b hb hm
      exact ⟨k1, k2, hIeq (by rw [hmine b hm]; exact hm)⟩
  refine ⟨hext, ⟨i2.to hle2 rfl rfl rfl rfl (fun b t ht hb => hω b t (by rcases ht with ⟨o, rfl⟩ | ⟨o, j, rfl⟩ <;> rfl) (by rcases ht with ⟨o, rfl⟩ | ⟨o, j, rfl⟩ <;> simp) hb),
    i.s.keep (σ := []) hkeep ?_ (fun _ _ _ => rfl), i.d.mono hle⟩, r2.mono hle2 (fun t off e => by subst e; simp [D.notL] at n2), n2, o2.to rfl (fun b hb => hω b .hand rfl (by simp) hb)⟩
  rintro b ⟨h1, h2⟩ hcl
  cases hg : g.ω b <;> rw [hg] at h1 h2 hcl <;> first
    | (cases h1; done)
    | (cases h2; done)
    | (simp [claims] at hcl)

/-- A call that sees the store. -/
theorem call_heap (hc : CalOK P cal) (i : Inv P g w fr σ a) {f : Nat} {ds : List D} {vals : Array Value} (h : cal f ds σ = some (d, σ')) (hr : AllRep (Rep g) vals.toList ds) (hn : ds.all D.notL = true) :
    Calls P f vals w (fun e w' => ∃ v, e = .returned v ∧ ∃ g', Ext g w g' w' ∧ Inv P g' w' fr σ' a ∧ Rep g' v d ∧ d.notL = true ∧ Own P g' w' .hand v d) := by
  refine Calls.mono (hc f ds σ d σ' h (g.rename hideF) w vals i.h.hide (fun b => hideF_hideF _) (hr.mono (g.rename_le hideF) hn) hn) ?_
  rintro e w' ⟨v, rfl, h1⟩
  exact ⟨v, rfl, gives_back i h1⟩

/-! what is shown to a call without the store -/
open Classical in
noncomputable def Gh.frz (g : Gh) (w : World) (S : Nat → Prop) : Gh := { g with I := fun b off => if S b then w.cell? ⟨b, off, none⟩ else g.I b off }

theorem frz_le (imm : ∀ (b off : Nat) (v : Value), g.I b off = some v → w.cell? ⟨b, off, none⟩ = some v) (S : Nat → Prop) : g.Le (g.frz w S) :=
  ⟨fun b off v h => by
    simp only [Gh.frz]
    split
    · exact imm b off v h
    · exact h, Nat.le_refl _, fun _ _ => rfl, fun _ _ => rfl⟩

theorem frz_imm (imm : ∀ (b off : Nat) (v : Value), g.I b off = some v → w.cell? ⟨b, off, none⟩ = some v) (S : Nat → Prop) (b off : Nat) (v : Value) (h : (g.frz w S).I b off = some v) : w.cell? ⟨b, off, none⟩ = some v := by
  simp only [Gh.frz] at h
  split at h
  · exact h
  · exact imm b off v h

theorem rep_frozen (i : HInv P g w σ) {v : Value} {ob off n esz : Nat} (h : Rep g v (.msl ob off n esz)) {es : List (List D)} (he : elems σ (.msl ob off n esz) = some es) {S : Nat → Prop} (hS : S (g.μ ob)) :
    Rep (g.frz w S) v (.sl es none) := by
  obtain ⟨⟨av, c, hv, hsh⟩, h0⟩ := shows_msl i h he
  cases h with
  | msl _ _ _ _ cap ho hcp hsz =>
    simp only [Value.slice.injEq] at hv
    obtain ⟨hav, hn, hcc⟩ := hv
    rcases hsh with ⟨h1, _⟩ | ⟨ad, vs, h1, h2, h3⟩
    · rw [← hav] at h1; cases h1
    · rw [← hav] at h1
      cases h1
      rw [hn]
      refine (h2.mono (frz_le i.imm S)).rep_sl (by omega) (fun k u hu => ?_)
      have := h3 k u hu
      rw [Addr.add_lit] at this
      simp only [Gh.frz]
      rw [if_pos hS]
      exact this

theorem snap_ok (i : HInv P g w σ) {S : Nat → Prop} : ∀ {ds : List D} {vals : List Value} {ds' : List D} {os : List Nat}, snap σ ds = some (ds', os) → AllRep (Rep g) vals ds → ds.all pureArg = true → (∀ ob ∈ os, S (g.μ ob)) →
    AllRep (Rep (g.frz w S)) vals ds' ∧ ds'.all pureD = true ∧ ds'.all D.notL = true ∧ ∀ ob ∈ os, ∃ cs, σ[ob]? = some (.cells cs)
  | [], vals, ds', os, h, hr, hp, hS => by
    simp only [snap, Option.some.injEq, Prod.mk.injEq] at h
    obtain ⟨rfl, rfl⟩ := h
    have : vals = [] := List.eq_nil_of_length_eq_zero (by simpa using hr.1)
    subst this
    exact ⟨⟨rfl, by simp⟩, rfl, rfl, by simp⟩
  | d :: ds, [], ds', os, h, hr, hp, hS => by simp [AllRep] at hr
  | d :: ds, v :: vals, ds', os, h, hr, hp, hS => by
    have hr' : AllRep (Rep g) vals ds := ⟨by simpa using hr.1, fun i v d h1 h2 => hr.2 (i + 1) v d (by simpa using h1) (by simpa using h2)⟩
    have h0 := hr.2 0 v d rfl rfl
    simp only [List.all_cons, Bool.and_eq_true] at hp
    have cons : ∀ {d' : D} {r : List D}, Rep (g.frz w S) v d' → AllRep (Rep (g.frz w S)) vals r → AllRep (Rep (g.frz w S)) (v :: vals) (d' :: r) := fun h1 h2 =>
      ⟨by simp [h2.1], fun k u e k1 k2 => by
        cases k with
        | zero => simp at k1 k2; subst k1 k2; exact h1
        | succ k => exact h2.2 k u e (by simpa using k1) (by simpa using k2)⟩
    by_cases hm : ∃ ob off n esz, d = .msl ob off n esz
    · obtain ⟨ob, off, n, esz, rfl⟩ := hm
      simp only [snap] at h
      split at h
      · rename_i es r os1 h1 h2
        simp only [Option.some.injEq, Prod.mk.injEq] at h
        obtain ⟨rfl, rfl⟩ := h
        obtain ⟨k1, k2, k3, k4⟩ := snap_ok i h2 hr' hp.2 (fun x hx => hS x (List.mem_cons_of_mem _ hx))
        refine ⟨cons (rep_frozen i h0 h1 (hS ob (List.mem_cons_self ..))) k1, by simp only [List.all_cons, k2, Bool.and_true]; rfl, by simp only [List.all_cons, k3, Bool.and_true]; rfl, fun x hx => ?_⟩
        rcases List.mem_cons.1 hx with rfl | hx
        · simp only [elems] at h1
          split at h1
          · rename_i cs hcs
            exact ⟨cs, hcs⟩
          · cases h1
        · exact k4 x hx
      · cases h
    · have hsn : snap σ (d :: ds) = (snap σ ds).map fun (r, os) => (d :: r, os) := by
        cases d <;> first | rfl | exact absurd ⟨_, _, _, _, rfl⟩ hm
      rw [hsn, Option.map_eq_some_iff] at h
      obtain ⟨⟨r, os1⟩, h2, h3⟩ := h
      simp only [Prod.mk.injEq] at h3
      obtain ⟨rfl, rfl⟩ := h3
      obtain ⟨k1, k2, k3, k4⟩ := snap_ok i h2 hr' hp.2 hS
      have hpd : pureD d = true := by
        have := hp.1
        cases d <;> first | exact this | exact absurd ⟨_, _, _, _, rfl⟩ hm | (simp [pureArg, D.pure1] at this)
      have hnl : d.notL = true := by
        have := hp.1
        cases d <;> first | rfl | (simp [pureArg, D.pure1] at this)
      exact ⟨cons (h0.out (frz_le i.imm S).I hpd) k1, by simp [hpd, k2], by simp [hnl, k3], k4⟩

end
end Go.Abs

/-
  Calls that do not see the store.
-/
namespace Go.Abs
open Go Go.RowKit

section
variable {P : Program} {g g' : Gh} {w w' : World} {fr fr' : Fr} {σ σ' : St} {a : Act} {o : Oper} {d : D} {cal : Cal} {q mu : Bool} {ops : List Oper}

theorem rep_scalar1 {v : Value} {d : D} (h : Rep g v d) (hs : scalar1 d = true) : Rep g' v d := by
  cases h <;> first | (constructor; done) | (simp [scalar1] at hs)

theorem rep_scalar {v : Value} {d : D} (h : Rep g v d) (hs : scalar d = true) : Rep g' v d := by
  cases d with
  | tup ds =>
    cases h with
    | tup vs _ hl hR hq => exact .tup vs ds hl (fun i v d h1 h2 => rep_scalar1 (hR i v d h1 h2) (List.all_eq_true.1 hs d (List.mem_of_getElem? h2))) hq
  | _ => exact rep_scalar1 h hs

/-- All that the store shows is shown for good. -/
def shown (g : Gh) (σ : St) (b : Nat) : Prop := ∃ o cs, b = g.μ o ∧ σ[o]? = some (.cells cs)

theorem freeze1_ok (i : HInv P g w σ) {v : Value} {d d' : D} (h : Rep g v d) (hf : freeze1 σ d = some d') : Rep (g.frz w (shown g σ)) v d' ∧ d'.pure1 = true ∧ (d'.strip = d' ∨ d' = d) := by
  have hle := frz_le (g := g) (w := w) i.imm (shown g σ)
  unfold freeze1 at hf
  split at hf <;> first | (cases hf; done) | skip
  case h_10 ob off n esz =>
    rw [Option.map_eq_some_iff] at hf
    obtain ⟨es, h1, rfl⟩ := hf
    have h2 : ∃ cs, σ[ob]? = some (.cells cs) := by
      simp only [elems] at h1
      split at h1
      · rename_i cs hcs; exact ⟨cs, hcs⟩
      · cases h1
    obtain ⟨cs, hcs⟩ := h2
    exact ⟨rep_frozen i h h1 ⟨ob, cs, rfl, hcs⟩, rfl, .inl rfl⟩
  all_goals
    cases hf
    exact ⟨h.mono hle (fun t off e => by cases e), rfl, .inr rfl⟩

theorem AllRep.cons {R : Value → D → Prop} {v : Value} {d : D} {vs : List Value} {ds : List D} (h1 : R v d) (h2 : AllRep R vs ds) : AllRep R (v :: vs) (d :: ds) :=
  ⟨by simp [h2.1], fun k u e k1 k2 => by
    cases k with
    | zero => simp at k1 k2; subst k1 k2; exact h1
    | succ k => exact h2.2 k u e (by simpa using k1) (by simpa using k2)⟩

theorem AllRep.tail {R : Value → D → Prop} {v : Value} {d : D} {vs : List Value} {ds : List D} (h : AllRep R (v :: vs) (d :: ds)) : R v d ∧ AllRep R vs ds :=
  ⟨h.2 0 v d rfl rfl, by simpa using h.1, fun i v d h1 h2 => h.2 (i + 1) v d (by simpa using h1) (by simpa using h2)⟩

theorem freezeL_ok (i : HInv P g w σ) : ∀ {ds : List D} {vals : List Value} {ds' : List D}, freezeL σ ds = some ds' → AllRep (Rep g) vals ds → AllRep (Rep (g.frz w (shown g σ))) vals ds' ∧ ds'.all D.pure1 = true
  | [], vals, ds', h, hr => by
    simp only [freezeL, Option.some.injEq] at h
    subst h
    exact ⟨⟨hr.1, by simp⟩, rfl⟩
  | d :: ds, [], ds', h, hr => by simp [AllRep] at hr
  | d :: ds, v :: vals, ds', h, hr => by
    simp only [freezeL] at h
    split at h
    · rename_i d1 h1
      rw [Option.map_eq_some_iff] at h
      obtain ⟨r, h2, rfl⟩ := h
      obtain ⟨q1, q2⟩ := hr.tail
      obtain ⟨k1, k2, _⟩ := freeze1_ok i q1 h1
      obtain ⟨m1, m2⟩ := freezeL_ok i h2 q2
      exact ⟨.cons k1.strip m1, by simp [pure1_strip, k2, m2]⟩
    · cases h

theorem rep_agg_of {vs : Array Value} {ds : List D} (h : AllRep (Rep g) vs.toList ds) (hp : ds.all D.pure1 = true) : Rep g (.agg vs) (.agg ds) :=
  .agg vs ds h.1 h.2 (List.all_eq_true.2 fun x hx => plain_of_pure1 (List.all_eq_true.1 hp x hx))

theorem freezeT_ok (i : HInv P g w σ) : ∀ {ds : List D} {vals : List Value} {ds' : List D}, freezeT σ ds = some ds' → AllRep (Rep g) vals ds → AllRep (Rep (g.frz w (shown g σ))) vals ds' ∧ ds'.all D.notL = true ∧
    (ds'.all fun | .agg cs => cs.all D.pure1 | d => d.pure1) = true
  | [], vals, ds', h, hr => by
    simp only [freezeT, Option.some.injEq] at h
    subst h
    exact ⟨⟨hr.1, by simp⟩, rfl, rfl⟩
  | d :: ds, [], ds', h, hr => by simp [AllRep] at hr
  | d :: ds, v :: vals, ds', h, hr => by
    obtain ⟨q1, q2⟩ := hr.tail
    by_cases hm : ∃ cs, d = .agg cs
    · obtain ⟨cs, rfl⟩ := hm
      simp only [freezeT] at h
      split at h
      · rename_i cs1 h1
        rw [Option.map_eq_some_iff] at h
        obtain ⟨r, h2, rfl⟩ := h
        obtain ⟨vs, rfl, k1, _⟩ := rep_agg q1
        obtain ⟨l1, l2⟩ := freezeL_ok i h1 k1
        obtain ⟨m1, m2, m3⟩ := freezeT_ok i h2 q2
        exact ⟨.cons (rep_agg_of l1 l2) m1, by simp only [List.all_cons, m2, Bool.and_true]; rfl, by simp only [List.all_cons, l2, m3, Bool.and_true]⟩
      · cases h
    · have he : freezeT σ (d :: ds) = match freeze1 σ d with | some d => (freezeT σ ds).map (d.strip :: ·) | none => none := by
        cases d <;> first | rfl | exact absurd ⟨_, rfl⟩ hm
      rw [he] at h
      split at h
      · rename_i d1 h1
        rw [Option.map_eq_some_iff] at h
        obtain ⟨r, h2, rfl⟩ := h
        obtain ⟨k1, k2, _⟩ := freeze1_ok i q1 h1
        obtain ⟨m1, m2, m3⟩ := freezeT_ok i h2 q2
        have hp : d1.strip.pure1 = true := by rw [pure1_strip]; exact k2
        refine ⟨.cons k1.strip m1, by simp [notL_of_pure1 hp, m2], ?_⟩
        simp only [List.all_cons, m3, Bool.and_true]
        cases hd : d1.strip <;> rw [hd] at hp <;> first | exact hp | rfl | (simp [D.pure1] at hp)
      · cases h

theorem freeze_ok (i : HInv P g w σ) {v : Value} {d d' : D} (h : Rep g v d) (hf : freeze σ d = some d') : Rep (g.frz w (shown g σ)) v d' ∧ pureD d' = true ∧ d'.notL = true ∧ (d'.strip = d' ∨ d' = d) := by
  by_cases hm : ∃ cs, d = .agg cs
  · obtain ⟨cs, rfl⟩ := hm
    simp only [freeze, Option.map_eq_some_iff] at hf
    obtain ⟨cs', h1, rfl⟩ := hf
    obtain ⟨vs, rfl, k1, _⟩ := rep_agg h
    obtain ⟨l1, l2⟩ := freezeL_ok i h1 k1
    exact ⟨rep_agg_of l1 l2, l2, rfl, .inl rfl⟩
  · by_cases hm2 : ∃ vs, d = .tup vs
    · obtain ⟨cs, rfl⟩ := hm2
      simp only [freeze, Option.map_eq_some_iff] at hf
      obtain ⟨cs', h1, rfl⟩ := hf
      obtain ⟨vs, rfl, k1, _⟩ := rep_tup h
      obtain ⟨l1, l2, l3⟩ := freezeT_ok i h1 k1
      exact ⟨.tup vs cs' l1.1 l1.2 l2, l3, rfl, .inl rfl⟩
    · have he : freeze σ d = freeze1 σ d := by
        cases d <;> first | rfl | exact absurd ⟨_, rfl⟩ hm | exact absurd ⟨_, rfl⟩ hm2
      rw [he] at hf
      obtain ⟨k1, k2, k3⟩ := freeze1_ok i h hf
      refine ⟨k1, ?_, notL_of_pure1 k2, k3⟩
      cases d' <;> first | exact k2 | rfl | (simp [D.pure1] at k2)

/-! the call itself -/
def outH : Tag → Tag
  | .hand => .hand
  | _ => .other

def Gh.alone (I : Nat → Nat → Option Value) : Gh := { I, n := 0, μ := fun _ => 0, sz := fun _ => 0, β := fun _ => 0, ω := fun _ => .other }

def Gh.join (g g3 : Gh) (w : World) (J : Nat → Nat → Option Value) : Gh :=
  { I := fun b off => if b < w.heap.size then J b off else g3.I b off, n := g.n, μ := g.μ, sz := g.sz, β := g.β, ω := fun b => if b < w.heap.size then g.ω b else outH (g3.ω b), base := g.base }

theorem cell_same {b off : Nat} (h : w'.heap[b]? = w.heap[b]?) : w'.cell? ⟨b, off, none⟩ = w.cell? ⟨b, off, none⟩ := by
  simp only [World.cell?, h]

theorem HInv.alone {I : Nat → Nat → Option Value} (h : ∀ (b off : Nat) (v : Value), I b off = some v → w.cell? ⟨b, off, none⟩ = some v) : HInv P (Gh.alone I) w [] :=
  ⟨h, rfl, fun o cs ho => by simp at ho, fun o es ho => by simp at ho, fun o e cs ho => by simp at ho⟩

theorem call_pure_J (hc : CalOK P cal) (i : Inv P g w fr σ a) {f : Nat} {ds : List D} {vals : Array Value} {r r' : D} {σc : St} (h : cal f ds [] = some (r, σc)) (hf : freeze σc r = some r')
    {I1 J : Nat → Nat → Option Value} (hI1 : ∀ (b off : Nat) (v : Value), I1 b off = some v → w.cell? ⟨b, off, none⟩ = some v)
    (hr : AllRep (Rep (Gh.alone I1)) vals.toList ds) (hn : ds.all D.notL = true) {C : Nat → Prop}
    (hJ1 : ∀ (b off : Nat) (v : Value), g.I b off = some v → J b off = some v) (hJ2 : ∀ (b off : Nat) (v : Value), J b off = some v → w.cell? ⟨b, off, none⟩ = some v)
    (hJ3 : ∀ b, ¬ C b → ∀ off, J b off = g.I b off) (hC : ∀ b, C b → ¬ claims fr σ (g.ω b)) (hCm : ∀ b, C b → (g.ω b).mine = true)
    (hJ4 : scalar r' = true ∨ ∀ (b off : Nat) (v : Value), I1 b off = some v → J b off = some v) :
    Calls P f vals w (fun e w' => ∃ v, e = .returned v ∧ ∃ g', Ext g w g' w' ∧ Inv P g' w' fr σ a ∧ Rep g' v r' ∧ r'.notL = true ∧ Own P g' w' .hand v r') := by
  refine Calls.mono (hc f ds [] r σc h (Gh.alone I1) w vals (.alone hI1) (fun b => rfl) hr hn) ?_
  rintro e w' ⟨v, rfl, g2, e1, i2, r2, n2, o2⟩
  obtain ⟨k1, k2, k3, k4⟩ := freeze_ok i2 r2 hf
  have hold : ∀ b, b < w.heap.size → w'.heap[b]? = w.heap[b]? ∧ g2.ω b = .other := fun b hb => e1.blk b hb rfl
  have hshown : ∀ b, shown g2 σc b → w.heap.size ≤ b := by
    rintro b ⟨o, cs, rfl, ho⟩
    rcases Nat.lt_or_ge (g2.μ o) w.heap.size with hb | hb
    · have h1 := (i2.cells o cs ho).1
      rw [(hold _ hb).2] at h1
      cases h1
    · exact hb
  have hle : g.Le (g.join (g2.frz w' (shown g2 σc)) w J) := ⟨fun b off v hv => by
    simp only [Gh.join]
    rw [if_pos (imm_lt i.h hv)]
    exact hJ1 b off v hv, Nat.le_refl _, fun _ _ => rfl, fun _ _ => rfl⟩
  have hkeep : Keep g w (g.join (g2.frz w' (shown g2 σc)) w J) w' C := ⟨hle, e1.size, fun b hb hnc => ⟨(hold b hb).1, by simp [Gh.join, hb], fun off => by
    simp only [Gh.join]
    rw [if_pos hb]
    exact hJ3 b hnc off⟩⟩
  have himm : ∀ (b off : Nat) (v : Value), (g.join (g2.frz w' (shown g2 σc)) w J).I b off = some v → w'.cell? ⟨b, off, none⟩ = some v := fun b off v hv => by
    simp only [Gh.join] at hv
    split at hv
    · rename_i hb
      rw [cell_same (hold b hb).1]
      exact hJ2 b off v hv
    · exact frz_imm i2.imm _ b off v hv
  refine ⟨v, rfl, g.join (g2.frz w' (shown g2 σc)) w J, Ext.of_keep hkeep (fun b hb _ => hCm b hb) e1.os e1.tape e1.output, i.keep hkeep hC (fun _ _ _ => rfl) himm rfl, ?_, k3, ?_⟩
  · rcases hJ4 with hs | hs
    · exact rep_scalar k1 hs
    · refine k1.out (fun b off u hu => ?_) k2
      simp only [Gh.join]
      split
      · rename_i hb
        simp only [Gh.frz] at hu
        rw [if_neg (fun hsh => by have := hshown b hsh; omega)] at hu
        rcases e1.new b off u hu with h1 | h1 | h1
        · exact hs b off u h1
        · omega
        · cases h1
      · exact hu
  · rcases k4 with hs | rfl
    · exact .of_ne hs
    · intro es ty hd
      rcases o2 es ty hd with h0 | ⟨inf, xs, h1, h2, h3, h4, h5⟩
      · exact .inl h0
      refine .inr ⟨inf, xs, h1, h2, h3, h4, fun b hb => ?_⟩
      obtain ⟨q1, q2⟩ := h5 b hb
      have hge : ¬ b < w.heap.size := fun hlt => by
        rw [(hold b hlt).2] at q1
        cases q1
      refine ⟨by simp only [Gh.join]; rw [if_neg hge]; simp [Gh.frz, q1, outH], fun off ho => ?_⟩
      simp only [Gh.join]
      rw [if_neg hge]
      simp only [Gh.frz]
      rw [if_neg]
      · exact q2 off ho
      · rintro ⟨ob, cs, rfl, hob⟩
        rw [(i2.cells ob cs hob).1] at q1
        cases q1

/-! objects that die -/
theorem Inv.kill (i : Inv P g w fr σ a) (ob : Nat) : Inv P g w fr (σ.set ob .dead) a := by
  refine ⟨⟨i.h.imm, by simpa using i.h.n, fun o cs h => ?_, fun o es h => ?_, rows_set (fun e h => by cases h) (fun _ h => by cases h) i.h.rows⟩, i.s, i.d⟩
  · rw [list_set_get] at h
    split at h
    · cases h
    · exact i.h.cells o cs h
  · rw [list_set_get] at h
    split at h
    · cases h
    · exact i.h.maps o es h

theorem Inv.killAll : ∀ (os : List Nat) {σ : St}, Inv P g w fr σ a → Inv P g w fr (killAll σ os) a
  | [], _, i => i
  | o :: os, _, i => (i.kill o).killAll os

theorem killAll_dead : ∀ (os : List Nat) {σ : St} {ob : Nat}, (σ[ob]? = some .dead ∨ (ob ∈ os ∧ ob < σ.length)) → (killAll σ os)[ob]? = some .dead
  | [], σ, ob, h => by
    rcases h with h | ⟨h, _⟩
    · exact h
    · simp at h
  | o :: os, σ, ob, h => by
    refine killAll_dead os ?_
    rw [list_set_get]
    rcases h with h | ⟨h, hl⟩
    · left
      split
      · rfl
      · exact h
    · rcases List.mem_cons.1 h with rfl | h
      · left
        rw [if_pos ⟨rfl, hl⟩]
      · exact .inr ⟨h, by simpa using hl⟩

/-- A call that does not see the store. -/
theorem call_pure (hc : CalOK P cal) (i : Inv P g w fr σ a) {f : Nat} {ds ds' : List D} {os : List Nat} {vals : Array Value} {r r' : D} {σc : St} (hp : ds.all pureArg = true) (hs : snap σ ds = some (ds', os))
    (h : cal f ds' [] = some (r, σc)) (hf : freeze σc r = some r') (hr : AllRep (Rep g) vals.toList ds) :
    Calls P f vals w (fun e w' => ∃ v, e = .returned v ∧ ∃ g', Ext g w g' w' ∧ Inv P g' w' fr (if os.isEmpty || scalar r' then σ else killAll σ os) a ∧ Rep g' v r' ∧ r'.notL = true ∧ Own P g' w' .hand v r') := by
  let S : Nat → Prop := fun b => ∃ ob ∈ os, b = g.μ ob
  obtain ⟨k1, k2, k3, k4⟩ := snap_ok (S := S) i.h hs hr hp (fun ob ho => ⟨ob, ho, rfl⟩)
  have himm1 := frz_imm (g := g) (w := w) i.h.imm S
  have hr1 : AllRep (Rep (Gh.alone (g.frz w S).I)) vals.toList ds' := ⟨k1.1, fun n v d h1 h2 => Rep.out (g := g.frz w S) (g' := Gh.alone (g.frz w S).I) (fun _ _ _ h => h) (k1.2 n v d h1 h2) (List.all_eq_true.1 k2 d (List.mem_of_getElem? h2))⟩
  by_cases hsc : os.isEmpty || scalar r'
  · rw [if_pos hsc]
    refine call_pure_J hc i h hf himm1 hr1 k3 (J := g.I) (C := fun _ => False) (fun _ _ _ h => h) i.h.imm (fun _ _ _ => rfl) (fun _ hc => hc.elim) (fun _ hc => hc.elim) ?_
    simp only [Bool.or_eq_true] at hsc
    rcases hsc with hsc | hsc
    · right
      have hos : os = [] := by simpa using hsc
      intro b off v hv
      simp only [Gh.frz] at hv
      rw [if_neg] at hv
      · exact hv
      · rintro ⟨ob, hob, _⟩
        rw [hos] at hob
        cases hob
    · exact .inl hsc
  · rw [if_neg hsc]
    refine call_pure_J hc (i.killAll os) h hf himm1 hr1 k3 (J := (g.frz w S).I) (C := S) (frz_le i.h.imm S).I himm1 (fun b hb off => by simp only [Gh.frz]; rw [if_neg hb]) ?_ ?_ (.inr fun _ _ _ h => h)
    · rintro b ⟨ob, hob, rfl⟩
      obtain ⟨cs, hcs⟩ := k4 ob hob
      rw [(i.h.cells ob cs hcs).1]
      have hd := killAll_dead os (σ := σ) (ob := ob) (.inr ⟨hob, get_lt hcs⟩)
      rintro (⟨cs, h⟩ | ⟨es, h⟩) <;> rw [hd] at h <;> cases h
    · rintro b ⟨ob, hob, rfl⟩
      obtain ⟨cs, hcs⟩ := k4 ob hob
      rw [(i.h.cells ob cs hcs).1]
      rfl

/-- A call, as the interpreter does it. -/
theorem doCall_ok (hc : CalOK P cal) (i : Inv P g w fr σ a) {f : Nat} {ds : List D} {vals : Array Value} (h : doCall cal f ds σ = some (d, σ')) (hr : AllRep (Rep g) vals.toList ds) :
    Calls P f vals w (fun e w' => ∃ v, e = .returned v ∧ ∃ g', Ext g w g' w' ∧ Inv P g' w' fr σ' a ∧ Rep g' v d ∧ d.notL = true ∧ Own P g' w' .hand v d) := by
  unfold doCall at h
  split at h
  · rename_i hp
    split at h
    · cases h
    · rename_i ds' os hs
      split at h
      · cases h
      · rename_i r σc hcal
        split at h
        · split at h
          · rename_i hn
            exact call_heap hc i h hr hn
          · cases h
        · rename_i r' hf
          cases h
          exact call_pure hc i hp hs hcal hf hr
  · split at h
    · rename_i hn
      exact call_heap hc i h hr hn
    · cases h

theorem doCallQ_ok (hc : CalOK P cal) (i : Inv P g w fr σ a) {f : Nat} {ds : List D} {vals : Array Value} (h : doCallQ cal f ds σ = some d) (hr : AllRep (Rep g) vals.toList ds) :
    Calls P f vals w (fun e w' => ∃ v, e = .returned v ∧ ∃ g', Ext g w g' w' ∧ Inv P g' w' fr σ a ∧ Rep g' v d ∧ d.notL = true ∧ Own P g' w' .hand v d) := by
  unfold doCallQ at h
  split at h
  · rename_i hp
    split at h
    · cases h
    · rename_i ds' os hs
      split at h
      · cases h
      · rename_i r σc hcal
        split at h
        · cases h
        · rename_i r' hf
          split at h
          · rename_i hsc
            cases h
            have := call_pure hc i hp hs hcal hf hr
            rw [if_pos hsc] at this
            exact this
          · cases h
  · cases h

end
end Go.Abs

/-
  Calls and deferred calls, as operations.
-/
namespace Go.Abs
open Go Go.RowKit

section
variable {P : Program} {g g' : Gh} {w w' : World} {fr fr' : Fr} {σ σ' : St} {a : Act} {o : Oper} {d : D} {cal : Cal} {q mu : Bool} {ops : List Oper}

/-- The program's function is entered when it is called. -/
def Enters (P : Program) (f : Nat) : Prop := ∃ fn c, P.funcs[f]? = some fn ∧ fn.body = some c ∧ (fn.name == "runtime.NumGoroutine") = false

def CalIn (P : Program) (cal : Cal) : Prop := ∀ (f : Nat) (ds : List D) (σ : St) (r : D × St), cal f ds σ = some r → Enters P f

theorem enter_run {f : Nat} (h : Enters P f) (args : Array Value) (w : World) : (callFunc f args).run P w = .ok (.enter f args) w := by
  obtain ⟨fn, c, hf, hb, hname⟩ := h
  have h1 : fn.name ≠ "runtime.NumGoroutine" := by simpa using hname
  simp [callFunc, hf, h1, hb]

theorem doCall_in (hci : CalIn P cal) {f : Nat} {ds : List D} {r : D × St} (h : doCall cal f ds σ = some r) : Enters P f := by
  unfold doCall at h
  split at h
  · split at h
    · cases h
    · split at h
      · cases h
      · rename_i hcal
        exact hci _ _ _ _ hcal
  · split at h
    · exact hci _ _ _ _ h
    · cases h

theorem doCallQ_in (hci : CalIn P cal) {f : Nat} {ds : List D} {r : D} (h : doCallQ cal f ds σ = some r) : Enters P f := by
  unfold doCallQ at h
  split at h
  · split at h
    · cases h
    · split at h
      · cases h
      · rename_i hcal
        exact hci _ _ _ _ hcal
  · cases h

/-- What a call answered is put into its place. -/
theorem put_answer (i : Inv P g w fr σ a) {v : Value} (hr : Rep g v d) (hn : d.notL = true) (ho : Own P g w .hand v d) (dst : Option Nat) :
    ∃ g', Ext g w g' w ∧ Inv P g' w (fr.put dst d) σ (a.put dst v) := by
  obtain ⟨g3, r1, r2, r3, r4⟩ := retag i hr ho (match dst with | some t => .sbuf t | none => .sbuf 0)
  exact ⟨g3, r1, r2.put dst r3 (fun t ht => by subst ht; exact r4) (fun s off e => by subst e; simp [D.notL] at hn)⟩

theorem snd_enter {f : Nat} {vals : Array Value} (hrun : (execOp a.eval o).run P w = .ok (.enter f vals) w)
    (h : Calls P f vals w (fun e w' => ∃ v, e = .returned v ∧ ∃ g', Ext g w g' w' ∧ Inv P g' w' fr' σ' a ∧ Rep g' v d ∧ d.notL = true ∧ Own P g' w' .hand v d)) : Snd P g w a o fr' σ' d := by
  intro next Q hn
  unfold Oper.wp
  rw [hrun, Oper.upon_enter]
  refine Calls.mono h ?_
  rintro e w' ⟨v, rfl, g1, e1, i1, r1, n1, o1⟩
  obtain ⟨g2, e2, i2⟩ := put_answer i1 r1 n1 o1 o.dst
  exact hn _ _ g2 (e1.trans e2) i2

theorem Calls.shift {f : Nat} {vals : Array Value} {g1 : Gh} (e1 : Ext g w g1 w)
    (h : Calls P f vals w (fun e w' => ∃ v, e = .returned v ∧ ∃ g', Ext g1 w g' w' ∧ Inv P g' w' fr' σ' a ∧ Rep g' v d ∧ d.notL = true ∧ Own P g' w' .hand v d)) :
    Calls P f vals w (fun e w' => ∃ v, e = .returned v ∧ ∃ g', Ext g w g' w' ∧ Inv P g' w' fr' σ' a ∧ Rep g' v d ∧ d.notL = true ∧ Own P g' w' .hand v d) :=
  Calls.mono h fun e w' ⟨v, h1, g2, h2, h3⟩ => ⟨v, h1, g2, e1.trans h2, h3⟩

theorem vals_ok' (i : Inv P g w fr σ a) : ∀ {xs : List Operand} {xs' : List X}, compXs xs = some xs' → AllRep (Rep g) (xs.map a.eval) (xs'.map fr.val)
  | [], xs', hc => by
    simp [compXs] at hc
    subst hc
    exact ⟨rfl, fun i v d h => by simp at h⟩
  | x :: xs, xs', hc => by
    simp only [compXs, List.mapM_cons, Option.bind_eq_bind, Option.pure_def, Option.bind_eq_some_iff] at hc
    obtain ⟨y, h1, ys, h2, h3⟩ := hc
    cases h3
    exact .cons (val_ok i.s h1).1 (vals_ok' i h2)

theorem deeps_ok (i : Inv P g w fr σ a) {xs : List Operand} {xs' : List X} (h : compXs xs = some xs') : AllRep (Rep g) (xs.map a.eval) (xs'.map fun x => (fr.val x).deep) := by
  have h1 := vals_ok' i h
  refine ⟨by simpa using h1.1, fun k v d h2 h3 => ?_⟩
  simp only [List.getElem?_map, Option.map_eq_some_iff] at h3
  obtain ⟨x, h3, rfl⟩ := h3
  exact (h1.2 k v (fr.val x) h2 (by simp [h3])).deep

theorem AllRep.append {R : Value → D → Prop} {vs us : List Value} {ds es : List D} (h : AllRep R vs ds) (k : AllRep R us es) : AllRep R (vs ++ us) (ds ++ es) := by
  refine ⟨by simp [h.1, k.1], fun i v d h1 h2 => ?_⟩
  by_cases hi : i < vs.length
  · rw [List.getElem?_append_left hi] at h1
    rw [List.getElem?_append_left (by rw [← h.1]; exact hi)] at h2
    exact h.2 i v d h1 h2
  · rw [List.getElem?_append_right (by omega)] at h1
    rw [List.getElem?_append_right (by rw [← h.1]; omega)] at h2
    rw [h.1] at h1
    exact k.2 _ v d h1 h2

theorem snd_call (hc : CalOK P cal) (hci : CalIn P cal) {c : Call} {f : FuncId} (hop : o.op = .call c) (hcal : c.callee = .value (.func f)) {xs : List X} (hX : compXs c.args.toList = some xs)
    (he : evalOp cal q o.dst (.call f xs) fr σ = some (d, fr', σ')) (i : Inv P g w fr σ a) : Snd P g w a o fr' σ' d := by
  have hrun : Enters P f → (execOp a.eval o).run P w = .ok (.enter f (c.args.map a.eval)) w := fun hin => by
    simp only [execOp, hop, resolve, hcal]
    have : Deferred.ofValue (a.eval (.func f)) (c.args.map a.eval) = pure { target := .fn (.func f) #[], args := c.args.map a.eval } := by
      simp [Act.eval, Deferred.ofValue]
    rw [this]
    simp only [pure_bind, invoke, Array.append_empty]
    exact enter_run hin _ _
  simp only [evalOp] at he
  split at he
  · rw [Option.map_eq_some_iff] at he
    obtain ⟨r, h1, h2⟩ := he
    cases h2
    refine snd_enter (hrun (doCallQ_in hci h1)) (doCallQ_ok hc i h1 ?_)
    rw [Array.toList_map]
    exact deeps_ok i hX
  · split at he
    · cases he
    · rename_i ds fr1 σ1 hp
      rw [Option.map_eq_some_iff] at he
      obtain ⟨⟨r, σ2⟩, h1, h2⟩ := he
      cases h2
      obtain ⟨g1, e1, i1, r1, n1, s1⟩ := promoteAll_ok i hX hp
      refine snd_enter (hrun (doCall_in hci h1)) (Calls.shift e1 (doCall_ok hc i1 h1 ?_))
      rw [Array.toList_map]
      exact r1

theorem snd_callv (hc : CalOK P cal) (hci : CalIn P cal) {c : Call} {t : Tmp} (hop : o.op = .call c) (hcal : c.callee = .value (.tmp t)) {xs : List X} (hX : compXs c.args.toList = some xs)
    (he : evalOp cal q o.dst (.callv (.tmp t) xs) fr σ = some (d, fr', σ')) (i : Inv P g w fr σ a) : Snd P g w a o fr' σ' d := by
  have hv := (val_ok i.s (x := .tmp t) (X := .tmp t) rfl).1
  simp only [evalOp] at he
  split at he
  · rename_i f caps hf
    rw [hf] at hv
    obtain ⟨vs, hvv, hvr, hvn⟩ : ∃ vs : Array Value, a.eval (.tmp t) = .func (.func f) #[] vs ∧ AllRep (Rep g) vs.toList caps ∧ caps.all D.notL = true := by
      generalize a.eval (.tmp t) = v at hv
      cases hv with
      | func _ vs _ hl hR hp => exact ⟨vs, rfl, ⟨hl, hR⟩, hp⟩
    have hrun : Enters P f → (execOp a.eval o).run P w = .ok (.enter f (c.args.map a.eval ++ vs)) w := fun hin => by
      simp only [execOp, hop, resolve, hcal]
      have : Deferred.ofValue (a.eval (.tmp t)) (c.args.map a.eval) = pure { target := .fn (.func f) vs, args := c.args.map a.eval } := by
        rw [hvv]
        simp [Deferred.ofValue]
      rw [this]
      simp only [pure_bind, invoke]
      exact enter_run hin _ _
    split at he
    · rw [Option.map_eq_some_iff] at he
      obtain ⟨r, h1, h2⟩ := he
      cases h2
      refine snd_enter (hrun (doCallQ_in hci h1)) (doCallQ_ok hc i h1 ?_)
      rw [Array.toList_append, Array.toList_map]
      exact (deeps_ok i hX).append hvr
    · split at he
      · cases he
      · rename_i ds fr1 σ1 hp
        rw [Option.map_eq_some_iff] at he
        obtain ⟨⟨r, σ2⟩, h1, h2⟩ := he
        cases h2
        obtain ⟨g1, e1, i1, r1, n1, s1⟩ := promoteAll_ok i hX hp
        refine snd_enter (hrun (doCall_in hci h1)) (Calls.shift e1 (doCall_ok hc i1 h1 ?_))
        rw [Array.toList_append, Array.toList_map]
        exact r1.append (hvr.mono e1.le hvn)
  · cases he

theorem Inv.newDefer (i : Inv P g w fr σ a) {df : Deferred} {f : D × List D} (h : ∃ fn caps, df.target = .fn (.func fn) caps ∧ ∃ cd, f.1 = .func fn cd ∧ Rep g (.func (.func fn) #[] caps) f.1 ∧ AllRep (Rep g) df.args.toList f.2 ∧ f.2.all D.notL = true) :
    Inv P g w { fr with defers := f :: fr.defers } σ { a with defers := df :: a.defers } := by
  obtain ⟨l, hl, hd⟩ := i.d
  refine ⟨i.h, ⟨i.s.size, i.s.blen, i.s.slots, i.s.boxes⟩, ⟨df :: l, by simp [hl], by simpa using hd.1, fun k x y h1 h2 => ?_⟩⟩
  cases k with
  | zero =>
    simp at h1 h2
    subst h1 h2
    exact h
  | succ k => exact hd.2 k x y (by simpa using h1) (by simpa using h2)

theorem snd_defer {c : Call} {t : Tmp} (hop : o.op = .defer c) (hcal : c.callee = .value (.tmp t)) {xs : List X} (hX : compXs c.args.toList = some xs)
    (he : evalOp cal q o.dst (.defer (.tmp t) xs) fr σ = some (d, fr', σ')) (i : Inv P g w fr σ a) : Snd P g w a o fr' σ' d := by
  have hv := (val_ok i.s (x := .tmp t) (X := .tmp t) rfl).1
  simp only [evalOp] at he
  split at he
  · rename_i f caps hf
    rw [hf] at hv
    obtain ⟨vs, hvv, hvr, hvn⟩ : ∃ vs : Array Value, a.eval (.tmp t) = .func (.func f) #[] vs ∧ AllRep (Rep g) vs.toList caps ∧ caps.all D.notL = true := by
      generalize a.eval (.tmp t) = v at hv
      cases hv with
      | func _ vs _ hl hR hp => exact ⟨vs, rfl, ⟨hl, hR⟩, hp⟩
    split at he
    · cases he
    · rename_i ds fr1 σ1 hp
      cases he
      obtain ⟨g1, e1, i1, r1, n1, s1⟩ := promoteAll_ok i hX hp
      intro next Q hn
      have hrun : (execOp a.eval o).run P w = .ok (.defer { target := .fn (.func f) vs, args := c.args.map a.eval }) w := by
        simp only [execOp, hop, resolve, hcal]
        have : Deferred.ofValue (a.eval (.tmp t)) (c.args.map a.eval) = pure { target := .fn (.func f) vs, args := c.args.map a.eval } := by
          rw [hvv]
          simp [Deferred.ofValue]
        rw [this]
        rfl
      unfold Oper.wp
      rw [hrun, Oper.upon_defer]
      refine hn _ _ g1 e1 ((i1.newDefer ⟨f, vs, rfl, caps, rfl, ?_, ?_, n1⟩).put o.dst (.junk _) (fun _ _ => .of_ne rfl) (fun s off e => by cases e))
      · exact .func f vs caps hvr.1 (hvr.mono e1.le hvn).2 hvn
      · rw [Array.toList_map]
        exact r1
  · cases he

end
end Go.Abs
