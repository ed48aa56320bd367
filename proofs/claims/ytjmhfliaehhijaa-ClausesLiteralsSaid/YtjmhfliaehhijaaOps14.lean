/-
  Calls that do not see the store.
-/
import Derived.Test.YtjmhfliaehhijaaOps13
set_option linter.unusedVariables false
set_option linter.unusedSimpArgs false
namespace Go.Abs
open Go Go.RowKit

section
variable {P : Program} {g g' : Gh} {w w' : World} {fr fr' : Fr} {σ σ' : St} {a : Act} {o : Oper} {d : D} {cal : Cal} {q mu : Bool} {ops : List Oper}

theorem rep_scalar1 {v : Value} {d : D} (h : Rep g v d) (hs : scalar1 d = true) : Rep g' v d := by
  cases h <;> first | (constructor; done) | (simp [scalar1] at hs)

theorem rep_scalar {v : Value} {d : D} (h : Rep g v d) (hs : scalar d = true) : Rep g' v d := by
  cases d with
  | tup ds =>
    cases h with
    | tup vs _ hl hR hq => exact .tup vs ds hl (fun i v d h1 h2 => rep_scalar1 (hR i v d h1 h2) (List.all_eq_true.1 hs d (List.mem_of_getElem? h2))) hq
  | _ => exact rep_scalar1 h hs

/-- All that the store shows is shown for good. -/
def shown (g : Gh) (σ : St) (b : Nat) : Prop := ∃ o cs, b = g.μ o ∧ σ[o]? = some (.cells cs)

theorem freeze1_ok (i : HInv P g w σ) {v : Value} {d d' : D} (h : Rep g v d) (hf : freeze1 σ d = some d') : Rep (g.frz w (shown g σ)) v d' ∧ d'.pure1 = true ∧ (d'.strip = d' ∨ d' = d) := by
  have hle := frz_le (g := g) (w := w) i.imm (shown g σ)
  unfold freeze1 at hf
  split at hf <;> first | (cases hf; done) | skip
  case h_10 ob off n esz =>
    rw [Option.map_eq_some_iff] at hf
    obtain ⟨es, h1, rfl⟩ := hf
    have h2 : ∃ cs, σ[ob]? = some (.cells cs) := by
      simp only [elems] at h1
      split at h1
      · rename_i cs hcs; exact ⟨cs, hcs⟩
      · cases h1
    obtain ⟨cs, hcs⟩ := h2
    exact ⟨rep_frozen i h h1 ⟨ob, cs, rfl, hcs⟩, rfl, .inl rfl⟩
  all_goals
    cases hf
    exact ⟨h.mono hle (fun t off e => by cases e), rfl, .inr rfl⟩

theorem AllRep.cons {R : Value → D → Prop} {v : Value} {d : D} {vs : List Value} {ds : List D} (h1 : R v d) (h2 : AllRep R vs ds) : AllRep R (v :: vs) (d :: ds) :=
  ⟨by simp [h2.1], fun k u e k1 k2 => by
    cases k with
    | zero => simp at k1 k2; subst k1 k2; exact h1
    | succ k => exact h2.2 k u e (by simpa using k1) (by simpa using k2)⟩

theorem AllRep.tail {R : Value → D → Prop} {v : Value} {d : D} {vs : List Value} {ds : List D} (h : AllRep R (v :: vs) (d :: ds)) : R v d ∧ AllRep R vs ds :=
  ⟨h.2 0 v d rfl rfl, by simpa using h.1, fun i v d h1 h2 => h.2 (i + 1) v d (by simpa using h1) (by simpa using h2)⟩

theorem freezeL_ok (i : HInv P g w σ) : ∀ {ds : List D} {vals : List Value} {ds' : List D}, freezeL σ ds = some ds' → AllRep (Rep g) vals ds → AllRep (Rep (g.frz w (shown g σ))) vals ds' ∧ ds'.all D.pure1 = true
  | [], vals, ds', h, hr => by
    simp only [freezeL, Option.some.injEq] at h
    subst h
    exact ⟨⟨hr.1, by simp⟩, rfl⟩
  | d :: ds, [], ds', h, hr => by simp [AllRep] at hr
  | d :: ds, v :: vals, ds', h, hr => by
    simp only [freezeL] at h
    split at h
    · rename_i d1 h1
      rw [Option.map_eq_some_iff] at h
      obtain ⟨r, h2, rfl⟩ := h
      obtain ⟨q1, q2⟩ := hr.tail
      obtain ⟨k1, k2, _⟩ := freeze1_ok i q1 h1
      obtain ⟨m1, m2⟩ := freezeL_ok i h2 q2
      exact ⟨.cons k1.strip m1, by simp [pure1_strip, k2, m2]⟩
    · cases h

theorem rep_agg_of {vs : Array Value} {ds : List D} (h : AllRep (Rep g) vs.toList ds) (hp : ds.all D.pure1 = true) : Rep g (.agg vs) (.agg ds) :=
  .agg vs ds h.1 h.2 (List.all_eq_true.2 fun x hx => plain_of_pure1 (List.all_eq_true.1 hp x hx))

theorem freezeT_ok (i : HInv P g w σ) : ∀ {ds : List D} {vals : List Value} {ds' : List D}, freezeT σ ds = some ds' → AllRep (Rep g) vals ds → AllRep (Rep (g.frz w (shown g σ))) vals ds' ∧ ds'.all D.notL = true ∧
    (ds'.all fun | .agg cs => cs.all D.pure1 | d => d.pure1) = true
  | [], vals, ds', h, hr => by
    simp only [freezeT, Option.some.injEq] at h
    subst h
    exact ⟨⟨hr.1, by simp⟩, rfl, rfl⟩
  | d :: ds, [], ds', h, hr => by simp [AllRep] at hr
  | d :: ds, v :: vals, ds', h, hr => by
    obtain ⟨q1, q2⟩ := hr.tail
    by_cases hm : ∃ cs, d = .agg cs
    · obtain ⟨cs, rfl⟩ := hm
      simp only [freezeT] at h
      split at h
      · rename_i cs1 h1
        rw [Option.map_eq_some_iff] at h
        obtain ⟨r, h2, rfl⟩ := h
        obtain ⟨vs, rfl, k1, _⟩ := rep_agg q1
        obtain ⟨l1, l2⟩ := freezeL_ok i h1 k1
        obtain ⟨m1, m2, m3⟩ := freezeT_ok i h2 q2
        exact ⟨.cons (rep_agg_of l1 l2) m1, by simp only [List.all_cons, m2, Bool.and_true]; rfl, by simp only [List.all_cons, l2, m3, Bool.and_true]⟩
      · cases h
    · have he : freezeT σ (d :: ds) = match freeze1 σ d with | some d => (freezeT σ ds).map (d.strip :: ·) | none => none := by
        cases d <;> first | rfl | exact absurd ⟨_, rfl⟩ hm
      rw [he] at h
      split at h
      · rename_i d1 h1
        rw [Option.map_eq_some_iff] at h
        obtain ⟨r, h2, rfl⟩ := h
        obtain ⟨k1, k2, _⟩ := freeze1_ok i q1 h1
        obtain ⟨m1, m2, m3⟩ := freezeT_ok i h2 q2
        have hp : d1.strip.pure1 = true := by rw [pure1_strip]; exact k2
        refine ⟨.cons k1.strip m1, by simp [notL_of_pure1 hp, m2], ?_⟩
        simp only [List.all_cons, m3, Bool.and_true]
        cases hd : d1.strip <;> rw [hd] at hp <;> first | exact hp | rfl | (simp [D.pure1] at hp)
      · cases h

theorem freeze_ok (i : HInv P g w σ) {v : Value} {d d' : D} (h : Rep g v d) (hf : freeze σ d = some d') : Rep (g.frz w (shown g σ)) v d' ∧ pureD d' = true ∧ d'.notL = true ∧ (d'.strip = d' ∨ d' = d) := by
  by_cases hm : ∃ cs, d = .agg cs
  · obtain ⟨cs, rfl⟩ := hm
    simp only [freeze, Option.map_eq_some_iff] at hf
    obtain ⟨cs', h1, rfl⟩ := hf
    obtain ⟨vs, rfl, k1, _⟩ := rep_agg h
    obtain ⟨l1, l2⟩ := freezeL_ok i h1 k1
    exact ⟨rep_agg_of l1 l2, l2, rfl, .inl rfl⟩
  · by_cases hm2 : ∃ vs, d = .tup vs
    · obtain ⟨cs, rfl⟩ := hm2
      simp only [freeze, Option.map_eq_some_iff] at hf
      obtain ⟨cs', h1, rfl⟩ := hf
      obtain ⟨vs, rfl, k1, _⟩ := rep_tup h
      obtain ⟨l1, l2, l3⟩ := freezeT_ok i h1 k1
      exact ⟨.tup vs cs' l1.1 l1.2 l2, l3, rfl, .inl rfl⟩
    · have he : freeze σ d = freeze1 σ d := by
        cases d <;> first | rfl | exact absurd ⟨_, rfl⟩ hm | exact absurd ⟨_, rfl⟩ hm2
      rw [he] at hf
      obtain ⟨k1, k2, k3⟩ := freeze1_ok i h hf
      refine ⟨k1, ?_, notL_of_pure1 k2, k3⟩
      cases d' <;> first | exact k2 | rfl | (simp [D.pure1] at k2)

/-! the call itself -/
def outH : Tag → Tag
  | .hand => .hand
  | _ => .other

def Gh.alone (I : Nat → Nat → Option Value) : Gh := { I, n := 0, μ := fun _ => 0, sz := fun _ => 0, β := fun _ => 0, ω := fun _ => .other }

def Gh.join (g g3 : Gh) (w : World) (J : Nat → Nat → Option Value) : Gh :=
  { I := fun b off => if b < w.heap.size then J b off else g3.I b off, n := g.n, μ := g.μ, sz := g.sz, β := g.β, ω := fun b => if b < w.heap.size then g.ω b else outH (g3.ω b) }

theorem cell_same {b off : Nat} (h : w'.heap[b]? = w.heap[b]?) : w'.cell? ⟨b, off, none⟩ = w.cell? ⟨b, off, none⟩ := by
  simp only [World.cell?, h]

theorem HInv.alone {I : Nat → Nat → Option Value} (h : ∀ (b off : Nat) (v : Value), I b off = some v → w.cell? ⟨b, off, none⟩ = some v) : HInv P (Gh.alone I) w [] :=
  ⟨h, rfl, fun o cs ho => by simp at ho, fun o es ho => by simp at ho⟩

theorem call_pure_J (hc : CalOK P cal) (i : Inv P g w fr σ a) {f : Nat} {ds : List D} {vals : Array Value} {r r' : D} {σc : St} (h : cal f ds [] = some (r, σc)) (hf : freeze σc r = some r')
    {I1 J : Nat → Nat → Option Value} (hI1 : ∀ (b off : Nat) (v : Value), I1 b off = some v → w.cell? ⟨b, off, none⟩ = some v)
    (hr : AllRep (Rep (Gh.alone I1)) vals.toList ds) (hn : ds.all D.notL = true) {C : Nat → Prop}
    (hJ1 : ∀ (b off : Nat) (v : Value), g.I b off = some v → J b off = some v) (hJ2 : ∀ (b off : Nat) (v : Value), J b off = some v → w.cell? ⟨b, off, none⟩ = some v)
    (hJ3 : ∀ b, ¬ C b → ∀ off, J b off = g.I b off) (hC : ∀ b, C b → ¬ claims fr σ (g.ω b)) (hCm : ∀ b, C b → (g.ω b).mine = true)
    (hJ4 : scalar r' = true ∨ ∀ (b off : Nat) (v : Value), I1 b off = some v → J b off = some v) :
    Calls P f vals w (fun e w' => ∃ v, e = .returned v ∧ ∃ g', Ext g w g' w' ∧ Inv P g' w' fr σ a ∧ Rep g' v r' ∧ r'.notL = true ∧ Own P g' w' .hand v r') := by
  refine Calls.mono (hc f ds [] r σc h (Gh.alone I1) w vals (.alone hI1) (fun b => rfl) hr hn) ?_
  rintro e w' ⟨v, rfl, g2, e1, i2, r2, n2, o2⟩
  obtain ⟨k1, k2, k3, k4⟩ := freeze_ok i2 r2 hf
  have hold : ∀ b, b < w.heap.size → w'.heap[b]? = w.heap[b]? ∧ g2.ω b = .other := fun b hb => e1.blk b hb rfl
  have hshown : ∀ b, shown g2 σc b → w.heap.size ≤ b := by
    rintro b ⟨o, cs, rfl, ho⟩
    rcases Nat.lt_or_ge (g2.μ o) w.heap.size with hb | hb
    · have h1 := (i2.cells o cs ho).1
      rw [(hold _ hb).2] at h1
      cases h1
    · exact hb
  have hle : g.Le (g.join (g2.frz w' (shown g2 σc)) w J) := ⟨fun b off v hv => by
    simp only [Gh.join]
    rw [if_pos (imm_lt i.h hv)]
    exact hJ1 b off v hv, Nat.le_refl _, fun _ _ => rfl, fun _ _ => rfl⟩
  have hkeep : Keep g w (g.join (g2.frz w' (shown g2 σc)) w J) w' C := ⟨hle, e1.size, fun b hb hnc => ⟨(hold b hb).1, by simp [Gh.join, hb], fun off => by
    simp only [Gh.join]
    rw [if_pos hb]
    exact hJ3 b hnc off⟩⟩
  have himm : ∀ (b off : Nat) (v : Value), (g.join (g2.frz w' (shown g2 σc)) w J).I b off = some v → w'.cell? ⟨b, off, none⟩ = some v := fun b off v hv => by
    simp only [Gh.join] at hv
    split at hv
    · rename_i hb
      rw [cell_same (hold b hb).1]
      exact hJ2 b off v hv
    · exact frz_imm i2.imm _ b off v hv
  refine ⟨v, rfl, g.join (g2.frz w' (shown g2 σc)) w J, Ext.of_keep hkeep (fun b hb _ => hCm b hb) e1.os e1.tape e1.output, i.keep hkeep hC (fun _ _ _ => rfl) himm rfl, ?_, k3, ?_⟩
  · rcases hJ4 with hs | hs
    · exact rep_scalar k1 hs
    · refine k1.out (fun b off u hu => ?_) k2
      simp only [Gh.join]
      split
      · rename_i hb
        simp only [Gh.frz] at hu
        rw [if_neg (fun hsh => by have := hshown b hsh; omega)] at hu
        rcases e1.new b off u hu with h1 | h1 | h1
        · exact hs b off u h1
        · omega
        · cases h1
      · exact hu
  · rcases k4 with hs | rfl
    · exact .of_ne hs
    · intro es ty hd
      rcases o2 es ty hd with h0 | ⟨inf, xs, h1, h2, h3, h4, h5⟩
      · exact .inl h0
      refine .inr ⟨inf, xs, h1, h2, h3, h4, fun b hb => ?_⟩
      obtain ⟨q1, q2⟩ := h5 b hb
      have hge : ¬ b < w.heap.size := fun hlt => by
        rw [(hold b hlt).2] at q1
        cases q1
      refine ⟨by simp only [Gh.join]; rw [if_neg hge]; simp [Gh.frz, q1, outH], fun off ho => ?_⟩
      simp only [Gh.join]
      rw [if_neg hge]
      simp only [Gh.frz]
      rw [if_neg]
      · exact q2 off ho
      · rintro ⟨ob, cs, rfl, hob⟩
        rw [(i2.cells ob cs hob).1] at q1
        cases q1

/-! objects that die -/
theorem Inv.kill (i : Inv P g w fr σ a) (ob : Nat) : Inv P g w fr (σ.set ob .dead) a := by
  refine ⟨⟨i.h.imm, by simpa using i.h.n, fun o cs h => ?_, fun o es h => ?_⟩, i.s, i.d⟩
  · rw [list_set_get] at h
    split at h
    · cases h
    · exact i.h.cells o cs h
  · rw [list_set_get] at h
    split at h
    · cases h
    · exact i.h.maps o es h

theorem Inv.killAll : ∀ (os : List Nat) {σ : St}, Inv P g w fr σ a → Inv P g w fr (killAll σ os) a
  | [], _, i => i
  | o :: os, _, i => (i.kill o).killAll os

theorem killAll_dead : ∀ (os : List Nat) {σ : St} {ob : Nat}, (σ[ob]? = some .dead ∨ (ob ∈ os ∧ ob < σ.length)) → (killAll σ os)[ob]? = some .dead
  | [], σ, ob, h => by
    rcases h with h | ⟨h, _⟩
    · exact h
    · simp at h
  | o :: os, σ, ob, h => by
    refine killAll_dead os ?_
    rw [list_set_get]
    rcases h with h | ⟨h, hl⟩
    · left
      split
      · rfl
      · exact h
    · rcases List.mem_cons.1 h with rfl | h
      · left
        rw [if_pos ⟨rfl, hl⟩]
      · exact .inr ⟨h, by simpa using hl⟩

/-- A call that does not see the store. -/
theorem call_pure (hc : CalOK P cal) (i : Inv P g w fr σ a) {f : Nat} {ds ds' : List D} {os : List Nat} {vals : Array Value} {r r' : D} {σc : St} (hp : ds.all pureArg = true) (hs : snap σ ds = some (ds', os))
    (h : cal f ds' [] = some (r, σc)) (hf : freeze σc r = some r') (hr : AllRep (Rep g) vals.toList ds) :
    Calls P f vals w (fun e w' => ∃ v, e = .returned v ∧ ∃ g', Ext g w g' w' ∧ Inv P g' w' fr (if os.isEmpty || scalar r' then σ else killAll σ os) a ∧ Rep g' v r' ∧ r'.notL = true ∧ Own P g' w' .hand v r') := by
  let S : Nat → Prop := fun b => ∃ ob ∈ os, b = g.μ ob
  obtain ⟨k1, k2, k3, k4⟩ := snap_ok (S := S) i.h hs hr hp (fun ob ho => ⟨ob, ho, rfl⟩)
  have himm1 := frz_imm (g := g) (w := w) i.h.imm S
  have hr1 : AllRep (Rep (Gh.alone (g.frz w S).I)) vals.toList ds' := ⟨k1.1, fun n v d h1 h2 => Rep.out (g := g.frz w S) (g' := Gh.alone (g.frz w S).I) (fun _ _ _ h => h) (k1.2 n v d h1 h2) (List.all_eq_true.1 k2 d (List.mem_of_getElem? h2))⟩
  by_cases hsc : os.isEmpty || scalar r'
  · rw [if_pos hsc]
    refine call_pure_J hc i h hf himm1 hr1 k3 (J := g.I) (C := fun _ => False) (fun _ _ _ h => h) i.h.imm (fun _ _ _ => rfl) (fun _ hc => hc.elim) (fun _ hc => hc.elim) ?_
    simp only [Bool.or_eq_true] at hsc
    rcases hsc with hsc | hsc
    · right
      have hos : os = [] := by simpa using hsc
      intro b off v hv
      simp only [Gh.frz] at hv
      rw [if_neg] at hv
      · exact hv
      · rintro ⟨ob, hob, _⟩
        rw [hos] at hob
        cases hob
    · exact .inl hsc
  · rw [if_neg hsc]
    refine call_pure_J hc (i.killAll os) h hf himm1 hr1 k3 (J := (g.frz w S).I) (C := S) (frz_le i.h.imm S).I himm1 (fun b hb off => by simp only [Gh.frz]; rw [if_neg hb]) ?_ ?_ (.inr fun _ _ _ h => h)
    · rintro b ⟨ob, hob, rfl⟩
      obtain ⟨cs, hcs⟩ := k4 ob hob
      rw [(i.h.cells ob cs hcs).1]
      have hd := killAll_dead os (σ := σ) (ob := ob) (.inr ⟨hob, get_lt hcs⟩)
      rintro (⟨cs, h⟩ | ⟨es, h⟩) <;> rw [hd] at h <;> cases h
    · rintro b ⟨ob, hob, rfl⟩
      obtain ⟨cs, hcs⟩ := k4 ob hob
      rw [(i.h.cells ob cs hcs).1]
      rfl

/-- A call, as the interpreter does it. -/
theorem doCall_ok (hc : CalOK P cal) (i : Inv P g w fr σ a) {f : Nat} {ds : List D} {vals : Array Value} (h : doCall cal f ds σ = some (d, σ')) (hr : AllRep (Rep g) vals.toList ds) :
    Calls P f vals w (fun e w' => ∃ v, e = .returned v ∧ ∃ g', Ext g w g' w' ∧ Inv P g' w' fr σ' a ∧ Rep g' v d ∧ d.notL = true ∧ Own P g' w' .hand v d) := by
  unfold doCall at h
  split at h
  · rename_i hp
    split at h
    · cases h
    · rename_i ds' os hs
      split at h
      · cases h
      · rename_i r σc hcal
        split at h
        · cases h
        · rename_i r' hf
          cases h
          exact call_pure hc i hp hs hcal hf hr
  · split at h
    · rename_i hn
      exact call_heap hc i h hr hn
    · cases h

theorem doCallQ_ok (hc : CalOK P cal) (i : Inv P g w fr σ a) {f : Nat} {ds : List D} {vals : Array Value} (h : doCallQ cal f ds σ = some d) (hr : AllRep (Rep g) vals.toList ds) :
    Calls P f vals w (fun e w' => ∃ v, e = .returned v ∧ ∃ g', Ext g w g' w' ∧ Inv P g' w' fr σ a ∧ Rep g' v d ∧ d.notL = true ∧ Own P g' w' .hand v d) := by
  unfold doCallQ at h
  split at h
  · rename_i hp
    split at h
    · cases h
    · rename_i ds' os hs
      split at h
      · cases h
      · rename_i r σc hcal
        split at h
        · cases h
        · rename_i r' hf
          split at h
          · rename_i hsc
            cases h
            have := call_pure hc i hp hs hcal hf hr
            rw [if_pos hsc] at this
            exact this
          · cases h
  · cases h

end
end Go.Abs
