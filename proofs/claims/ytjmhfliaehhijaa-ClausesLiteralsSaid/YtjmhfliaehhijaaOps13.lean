/-
  What a call asks of the callee, and what it gives back to the caller.
-/
import Derived.Test.YtjmhfliaehhijaaOps12
set_option linter.unusedVariables false
set_option linter.unusedSimpArgs false
namespace Go.Abs
open Go Go.RowKit

section
variable {P : Program} {g g' : Gh} {w w' : World} {fr fr' : Fr} {σ σ' : St} {a : Act} {o : Oper} {d : D} {cal : Cal} {q mu : Bool} {ops : List Oper}

def hideF : Tag → Tag
  | .obj o => .obj o
  | .obuf o j => .obuf o j
  | .free => .free
  | _ => .other

def outF : Tag → Tag
  | .obj o => .obj o
  | .obuf o j => .obuf o j
  | .hand => .hand
  | .free => .free
  | _ => .other

/-- What the callee answers, in the world behind it. -/
def Gives (P : Program) (g : Gh) (w w' : World) (σ' : St) (v : Value) (d : D) : Prop :=
  ∃ g', Ext g w g' w' ∧ HInv P g' w' σ' ∧ Rep g' v d ∧ d.notL = true ∧ Own P g' w' .hand v d

def CalOK (P : Program) (cal : Cal) : Prop :=
  ∀ (f : Nat) (ds : List D) (σ : St) (d : D) (σ' : St), cal f ds σ = some (d, σ') → ∀ (g : Gh) (w : World) (vals : Array Value), HInv P g w σ → (∀ b, hideF (g.ω b) = g.ω b) →
    AllRep (Rep g) vals.toList ds → ds.all D.notL = true → Calls P f vals w (fun e w' => ∃ v, e = .returned v ∧ Gives P g w w' σ' v d)

theorem hideF_hideF (t : Tag) : hideF (hideF t) = hideF t := by cases t <;> rfl
theorem hideF_mine {t : Tag} (h : t.mine = false) : hideF t = t := by cases t <;> simp_all [Tag.mine, hideF]
theorem outF_mine {t : Tag} (h : t.mine = false) : outF t = t := by cases t <;> simp_all [Tag.mine, outF]

theorem AllRep.mono {vs : List Value} {ds : List D} (h : AllRep (Rep g) vs ds) (k : g.Le g') (hn : ds.all D.notL = true) : AllRep (Rep g') vs ds :=
  ⟨h.1, fun i v d h1 h2 => (h.2 i v d h1 h2).mono k (fun t off e => by subst e; exact absurd (all_get hn h2) (by simp [D.notL]))⟩

/-- Blocks that this call has for its own, not through the store. -/
def locF : Tag → Bool
  | .sbuf _ | .box _ | .bbuf _ _ | .hand => true
  | _ => false

/-- The caller's ghost behind a call. -/
def Gh.back (g g2 : Gh) (w : World) : Gh :=
  { I := g2.I, n := g2.n, μ := g2.μ, sz := g2.sz, β := g.β, ω := fun b => if b < w.heap.size ∧ locF (g.ω b) = true then g.ω b else outF (g2.ω b) }

theorem Own.to {g2 : Gh} {tag : Tag} {v : Value} {d : D} (h : Own P g2 w' tag v d) (hI : g'.I = g2.I) (hω : ∀ b, g2.ω b = tag → g'.ω b = tag) : Own P g' w' tag v d := by
  intro es e hd
  rcases h es e hd with h0 | ⟨i, xs, h1, h2, h3, h4, h5⟩
  · exact .inl h0
  exact .inr ⟨i, xs, h1, h2, h3, h4, fun b hb => ⟨hω b (h5 b hb).1, by rw [hI]; exact (h5 b hb).2⟩⟩

theorem Blk.to {g2 : Gh} {b sz : Nat} {tag : Nat → Tag} {cs : List D} (h : Blk P g2 w' b sz tag cs) (hle : g2.Le g') (hI : g'.I = g2.I) (hω : ∀ j b, g2.ω b = tag j → g'.ω b = tag j) : Blk P g' w' b sz tag cs := by
  obtain ⟨arr, ty, h1, h2, h3, h4⟩ := h
  refine ⟨arr, ty, h1, h2, by rw [hI]; exact h3, fun j d hd => ?_⟩
  obtain ⟨p1, v, p2, p3, p4⟩ := h4 j d hd
  exact ⟨p1, v, p2, p3.mono hle (fun t off e => by subst e; simp [D.plain] at p1), p4.to hI (hω j)⟩

theorem HInv.to {g2 : Gh} (h : HInv P g2 w' σ') (hle : g2.Le g') (hI : g'.I = g2.I) (hn : g'.n = g2.n) (hμ : g'.μ = g2.μ) (hsz : g'.sz = g2.sz) (hω : ∀ b t, (∃ o, t = .obj o) ∨ (∃ o j, t = .obuf o j) → g2.ω b = t → g'.ω b = t) : HInv P g' w' σ' := by
  refine ⟨by rw [hI]; exact h.imm, hn.trans h.n, fun o cs ho => ?_, fun o es ho => ?_⟩
  · obtain ⟨h1, h2⟩ := h.cells o cs ho
    rw [hμ, hsz]
    exact ⟨hω _ _ (.inl ⟨o, rfl⟩) h1, h2.to hle hI (fun j b hb => hω b _ (.inr ⟨o, j, rfl⟩) hb)⟩
  · obtain ⟨h1, ents, clock, h2, h3⟩ := h.maps o es ho
    rw [hμ]
    exact ⟨hω _ _ (.inl ⟨o, rfl⟩) h1, ents, clock, h2, h3.mono hle⟩

theorem HInv.hide (h : HInv P g w σ) : HInv P (g.rename hideF) w σ :=
  h.to (g.rename_le hideF) rfl rfl rfl rfl (fun b t ht hb => by
    show hideF (g.ω b) = t
    rw [hb]
    rcases ht with ⟨o, rfl⟩ | ⟨o, j, rfl⟩ <;> rfl)

/-- What a call gives back to the caller's frame. -/
theorem gives_back (i : Inv P g w fr σ a) {v : Value} (h : Gives P (g.rename hideF) w w' σ' v d) : ∃ g', Ext g w g' w' ∧ Inv P g' w' fr σ' a ∧ Rep g' v d ∧ d.notL = true ∧ Own P g' w' .hand v d := by
  obtain ⟨g2, e1, i2, r2, n2, o2⟩ := h
  refine ⟨g.back g2 w, ?_⟩
  have hle2 : g2.Le (g.back g2 w) := ⟨fun _ _ _ h => h, Nat.le_refl _, fun _ _ => rfl, fun _ _ => rfl⟩
  have hle : g.Le (g.back g2 w) := ⟨e1.le.I, e1.le.n, e1.le.μ, e1.le.sz⟩
  -- a block that is the caller's own stays hidden
  have hid : ∀ b, b < w.heap.size → locF (g.ω b) = true → g2.ω b = .other ∧ w'.heap[b]? = w.heap[b]? := fun b hb hl => by
    have h1 : (g.rename hideF).ω b = .other := by
      show hideF (g.ω b) = .other
      cases hg : g.ω b <;> rw [hg] at hl <;> first | rfl | cases hl
    obtain ⟨k1, k2⟩ := e1.blk b hb (by rw [h1]; rfl)
    exact ⟨k2.trans h1, k1⟩
  have hω : ∀ b t, outF t = t → t ≠ .other → g2.ω b = t → (g.back g2 w).ω b = t := fun b t ht hno hb => by
    show (if _ then _ else _) = t
    split
    · rename_i hc
      have := (hid b hc.1 hc.2).1
      rw [hb] at this
      exact absurd this hno
    · rw [hb, ht]
  have hmine : ∀ b, (g.ω b).mine = false → (g.rename hideF).ω b = g.ω b := fun b hb => hideF_mine hb
  have hext : Ext g w (g.back g2 w) w' := by
    refine ⟨hle, e1.os, e1.tape, e1.output, e1.size, fun b hb hm => ?_, fun b off v hv => ?_⟩
    · obtain ⟨k1, k2⟩ := e1.blk b hb (by rw [hmine b hm]; exact hm)
      refine ⟨k1, ?_⟩
      show (if _ then _ else _) = _
      split
      · rfl
      · rw [k2, hmine b hm, outF_mine hm]
    · rcases e1.new b off v hv with h1 | h1 | h1
      · exact .inl h1
      · exact .inr (.inl h1)
      · refine .inr (.inr ?_)
        have : (hideF (g.ω b)).mine = true := h1
        cases hg : g.ω b <;> rw [hg] at this <;> first | rfl | cases this
  have hkeep : Keep g w (g.back g2 w) w' (fun b => locF (g.ω b) = false ∧ (g.ω b).mine = true) := by
    refine ⟨hle, e1.size, fun b hb hnc => ?_⟩
    have hIeq : ((g.rename hideF).ω b).mine = false → ∀ off, g2.I b off = g.I b off := fun hm off => by
      cases hv : g2.I b off with
      | none =>
        cases hv2 : g.I b off with
        | none => rfl
        | some u => exact absurd (e1.le.I b off u hv2) (by rw [hv]; simp)
      | some u =>
        rcases e1.new b off u hv with h1 | h1 | h1
        · exact h1.symm
        · omega
        · rw [hm] at h1; cases h1
    by_cases hl : locF (g.ω b) = true
    · have h1 : (g.rename hideF).ω b = .other := by
        show hideF (g.ω b) = .other
        cases hg : g.ω b <;> rw [hg] at hl <;> first | rfl | cases hl
      refine ⟨(hid b hb hl).2, ?_, hIeq (by rw [h1]; rfl)⟩
      show (if _ then _ else _) = _
      rw [if_pos ⟨hb, hl⟩]
    · have hm : (g.ω b).mine = false := by
        cases hmm : (g.ω b).mine
        · rfl
        · exact absurd ⟨by simpa using hl, hmm⟩ hnc
      obtain ⟨k1, k2⟩ := hext.blk b hb hm
      exact ⟨k1, k2, hIeq (by rw [hmine b hm]; exact hm)⟩
  refine ⟨hext, ⟨i2.to hle2 rfl rfl rfl rfl (fun b t ht hb => hω b t (by rcases ht with ⟨o, rfl⟩ | ⟨o, j, rfl⟩ <;> rfl) (by rcases ht with ⟨o, rfl⟩ | ⟨o, j, rfl⟩ <;> simp) hb),
    i.s.keep (σ := []) hkeep ?_ (fun _ _ _ => rfl), i.d.mono hle⟩, r2.mono hle2 (fun t off e => by subst e; simp [D.notL] at n2), n2, o2.to rfl (fun b hb => hω b .hand rfl (by simp) hb)⟩
  rintro b ⟨h1, h2⟩ hcl
  cases hg : g.ω b <;> rw [hg] at h1 h2 hcl <;> first
    | (cases h1; done)
    | (cases h2; done)
    | (simp [claims] at hcl)

/-- A call that sees the store. -/
theorem call_heap (hc : CalOK P cal) (i : Inv P g w fr σ a) {f : Nat} {ds : List D} {vals : Array Value} (h : cal f ds σ = some (d, σ')) (hr : AllRep (Rep g) vals.toList ds) (hn : ds.all D.notL = true) :
    Calls P f vals w (fun e w' => ∃ v, e = .returned v ∧ ∃ g', Ext g w g' w' ∧ Inv P g' w' fr σ' a ∧ Rep g' v d ∧ d.notL = true ∧ Own P g' w' .hand v d) := by
  refine Calls.mono (hc f ds σ d σ' h (g.rename hideF) w vals i.h.hide (fun b => hideF_hideF _) (hr.mono (g.rename_le hideF) hn) hn) ?_
  rintro e w' ⟨v, rfl, h1⟩
  exact ⟨v, rfl, gives_back i h1⟩

/-! what is shown to a call without the store -/
open Classical in
noncomputable def Gh.frz (g : Gh) (w : World) (S : Nat → Prop) : Gh := { g with I := fun b off => if S b then w.cell? ⟨b, off, none⟩ else g.I b off }

theorem frz_le (imm : ∀ (b off : Nat) (v : Value), g.I b off = some v → w.cell? ⟨b, off, none⟩ = some v) (S : Nat → Prop) : g.Le (g.frz w S) :=
  ⟨fun b off v h => by
    simp only [Gh.frz]
    split
    · exact imm b off v h
    · exact h, Nat.le_refl _, fun _ _ => rfl, fun _ _ => rfl⟩

theorem frz_imm (imm : ∀ (b off : Nat) (v : Value), g.I b off = some v → w.cell? ⟨b, off, none⟩ = some v) (S : Nat → Prop) (b off : Nat) (v : Value) (h : (g.frz w S).I b off = some v) : w.cell? ⟨b, off, none⟩ = some v := by
  simp only [Gh.frz] at h
  split at h
  · exact h
  · exact imm b off v h

theorem rep_frozen (i : HInv P g w σ) {v : Value} {ob off n esz : Nat} (h : Rep g v (.msl ob off n esz)) {es : List (List D)} (he : elems σ (.msl ob off n esz) = some es) {S : Nat → Prop} (hS : S (g.μ ob)) :
    Rep (g.frz w S) v (.sl es none) := by
  obtain ⟨⟨av, c, hv, hsh⟩, h0⟩ := shows_msl i h he
  cases h with
  | msl _ _ _ _ cap ho hcp hsz =>
    simp only [Value.slice.injEq] at hv
    obtain ⟨hav, hn, hcc⟩ := hv
    rcases hsh with ⟨h1, _⟩ | ⟨ad, vs, h1, h2, h3⟩
    · rw [← hav] at h1; cases h1
    · rw [← hav] at h1
      cases h1
      rw [hn]
      refine (h2.mono (frz_le i.imm S)).rep_sl (by omega) (fun k u hu => ?_)
      have := h3 k u hu
      rw [Addr.add_lit] at this
      simp only [Gh.frz]
      rw [if_pos hS]
      exact this

theorem snap_ok (i : HInv P g w σ) {S : Nat → Prop} : ∀ {ds : List D} {vals : List Value} {ds' : List D} {os : List Nat}, snap σ ds = some (ds', os) → AllRep (Rep g) vals ds → ds.all pureArg = true → (∀ ob ∈ os, S (g.μ ob)) →
    AllRep (Rep (g.frz w S)) vals ds' ∧ ds'.all pureD = true ∧ ds'.all D.notL = true ∧ ∀ ob ∈ os, ∃ cs, σ[ob]? = some (.cells cs)
  | [], vals, ds', os, h, hr, hp, hS => by
    simp only [snap, Option.some.injEq, Prod.mk.injEq] at h
    obtain ⟨rfl, rfl⟩ := h
    have : vals = [] := List.eq_nil_of_length_eq_zero (by simpa using hr.1)
    subst this
    exact ⟨⟨rfl, by simp⟩, rfl, rfl, by simp⟩
  | d :: ds, [], ds', os, h, hr, hp, hS => by simp [AllRep] at hr
  | d :: ds, v :: vals, ds', os, h, hr, hp, hS => by
    have hr' : AllRep (Rep g) vals ds := ⟨by simpa using hr.1, fun i v d h1 h2 => hr.2 (i + 1) v d (by simpa using h1) (by simpa using h2)⟩
    have h0 := hr.2 0 v d rfl rfl
    simp only [List.all_cons, Bool.and_eq_true] at hp
    have cons : ∀ {d' : D} {r : List D}, Rep (g.frz w S) v d' → AllRep (Rep (g.frz w S)) vals r → AllRep (Rep (g.frz w S)) (v :: vals) (d' :: r) := fun h1 h2 =>
      ⟨by simp [h2.1], fun k u e k1 k2 => by
        cases k with
        | zero => simp at k1 k2; subst k1 k2; exact h1
        | succ k => exact h2.2 k u e (by simpa using k1) (by simpa using k2)⟩
    by_cases hm : ∃ ob off n esz, d = .msl ob off n esz
    · obtain ⟨ob, off, n, esz, rfl⟩ := hm
      simp only [snap] at h
      split at h
      · rename_i es r os1 h1 h2
        simp only [Option.some.injEq, Prod.mk.injEq] at h
        obtain ⟨rfl, rfl⟩ := h
        obtain ⟨k1, k2, k3, k4⟩ := snap_ok i h2 hr' hp.2 (fun x hx => hS x (List.mem_cons_of_mem _ hx))
        refine ⟨cons (rep_frozen i h0 h1 (hS ob (List.mem_cons_self ..))) k1, by simp only [List.all_cons, k2, Bool.and_true]; rfl, by simp only [List.all_cons, k3, Bool.and_true]; rfl, fun x hx => ?_⟩
        rcases List.mem_cons.1 hx with rfl | hx
        · simp only [elems] at h1
          split at h1
          · rename_i cs hcs
            exact ⟨cs, hcs⟩
          · cases h1
        · exact k4 x hx
      · cases h
    · have hsn : snap σ (d :: ds) = (snap σ ds).map fun (r, os) => (d :: r, os) := by
        cases d <;> first | rfl | exact absurd ⟨_, _, _, _, rfl⟩ hm
      rw [hsn, Option.map_eq_some_iff] at h
      obtain ⟨⟨r, os1⟩, h2, h3⟩ := h
      simp only [Prod.mk.injEq] at h3
      obtain ⟨rfl, rfl⟩ := h3
      obtain ⟨k1, k2, k3, k4⟩ := snap_ok i h2 hr' hp.2 hS
      have hpd : pureD d = true := by
        have := hp.1
        cases d <;> first | exact this | exact absurd ⟨_, _, _, _, rfl⟩ hm | (simp [pureArg, D.pure1] at this)
      have hnl : d.notL = true := by
        have := hp.1
        cases d <;> first | rfl | (simp [pureArg, D.pure1] at this)
      exact ⟨cons (h0.out (frz_le i.imm S).I hpd) k1, by simp [hpd, k2], by simp [hnl, k3], k4⟩

end
end Go.Abs
