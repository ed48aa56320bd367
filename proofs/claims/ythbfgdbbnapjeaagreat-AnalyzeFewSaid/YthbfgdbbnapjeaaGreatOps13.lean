/-
  A part of AnalyzeFew's proof.
-/
import Derived.Test.YthbfgdbbnapjeaaGreatOps7
import Derived.Laws.MakeOwn
set_option linter.unusedVariables false
set_option linter.unusedSimpArgs false
namespace Go.Abs
open Go Go.RowKit
section
variable {P : Program} {g g' : Gh} {w w' : World} {fr fr' : Fr} {σ σ' : St} {a : Act} {o : Oper} {d : D} {cal : Cal} {q : Bool} {mu : List Nat} {ops : List Oper}
def hideF : Tag → Tag
 | .ro o => .ro o
 | .obj o => .obj o
 | .obuf o j => .obuf o j
 | .free => .free
 | _ => .other
def outF : Tag → Tag
 | .ro o => .ro o
 | .obj o => .obj o
 | .obuf o j => .obuf o j
 | .hand => .hand
 | .free => .free
 | _ => .other
def Gives (P : Program) (g : Gh) (w w' : World) (σ' : St) (v : Value) (d : D) : Prop :=
 ∃ g', Ext g w g' w' ∧ HInv P g' w' σ' ∧ Rep g' v d ∧ d.notL = true ∧ Own P g' w' .hand v d
def CalOK (P : Program) (cal : Cal) : Prop :=
 ∀ (f : Nat) (ds : List D) (σ : St) (d : D) (σ' : St), cal f ds σ = some (d, σ') → ∀ (g : Gh) (w : World) (vals : Array Value), HInv P g w σ → (∀ b, hideF (g.ω b) = g.ω b) →
  AllRep (Rep g) vals.toList ds → ds.all D.notL = true → Calls P f vals w (fun e w' => ∃ v, e = .returned v ∧ Gives P g w w' σ' v d)
theorem hideF_hideF (t : Tag) : hideF (hideF t) = hideF t := by cases t <;> rfl
theorem hideF_mine {t : Tag} (h : t.mine = false) : hideF t = t := by cases t <;> simp_all [Tag.mine, hideF]
theorem outF_mine {t : Tag} (h : t.mine = false) : outF t = t := by cases t <;> simp_all [Tag.mine, outF]
theorem AllRep.mono {vs : List Value} {ds : List D} (h : AllRep (Rep g) vs ds) (k : g.Le g') (hn : ds.all D.notL = true) : AllRep (Rep g') vs ds :=
 ⟨h.1, fun i v d h1 h2 => (h.2 i v d h1 h2).mono k (fun t off e => by subst e; exact absurd (all_get hn h2) (by simp [D.notL]))⟩
def locF : Tag → Bool
 | .sbuf _ | .box _ | .bbuf _ _ | .hand => true
 | _ => false
def Gh.back (g g2 : Gh) (w : World) : Gh :=
 { I := g2.I, n := g2.n, μ := g2.μ, sz := g2.sz, β := g.β, ω := fun b => if b < w.heap.size ∧ locF (g.ω b) = true then g.ω b else outF (g2.ω b), base := g.base }
theorem Own.to {g2 : Gh} {tag : Tag} {v : Value} {d : D} (h : Own P g2 w' tag v d) (hI : g'.I = g2.I) (hω : ∀ b, g2.ω b = tag → g'.ω b = tag) : Own P g' w' tag v d := by
 intro es e hd
 rcases h es e hd with h0 | ⟨i, xs, h1, h2, h3, h4, h5⟩
 ·exact .inl h0
 exact .inr ⟨i, xs, h1, h2, h3, h4, fun b hb => ⟨hω b (h5 b hb).1, by rw [hI]; exact (h5 b hb).2⟩⟩
theorem Blk.to {g2 : Gh} {b sz : Nat} {tag : Nat → Tag} {cs : List D} (h : Blk P g2 w' b sz tag cs) (hle : g2.Le g') (hI : g'.I = g2.I) (hω : ∀ j b, g2.ω b = tag j → g'.ω b = tag j) : Blk P g' w' b sz tag cs := by
 obtain ⟨arr, ty, h1, h2, h3, h4⟩ := h
 refine ⟨arr, ty, h1, h2, by rw [hI]; exact h3, fun j d hd => ?_⟩
 obtain ⟨p1, v, p2, p3, p4⟩ := h4 j d hd
 exact ⟨p1, v, p2, p3.mono hle (fun t off e => by subst e; simp [D.plain] at p1), p4.to hI (hω j)⟩
theorem HInv.to {g2 : Gh} (h : HInv P g2 w' σ') (hle : g2.Le g') (hI : g'.I = g2.I) (hn : g'.n = g2.n) (hμ : g'.μ = g2.μ) (hsz : g'.sz = g2.sz) (hω : ∀ b t, (∃ o, t = .obj o) ∨ (∃ o j, t = .obuf o j) ∨ (∃ o, t = .ro o) → g2.ω b = t → g'.ω b = t) : HInv P g' w' σ' := by
 refine ⟨by rw [hI]; exact h.imm, hn.trans h.n, fun o cs ho => ?_, fun o es ho => ?_, fun o e cs h1 h2 => by rw [hμ]; exact h.rows o e cs h1 h2, fun o es ho => ?_⟩
 ·obtain ⟨h1, h2⟩ := h.cells o cs ho
  rw [hμ, hsz]
  exact ⟨hω _ _ (.inl ⟨o, rfl⟩) h1, h2.to hle hI (fun j b hb => hω b _ (.inr (.inl ⟨o, j, rfl⟩)) hb)⟩
 ·obtain ⟨h1, ents, clock, h2, h3, h4⟩ := h.maps o es ho
  rw [hμ]
  exact ⟨hω _ _ (.inl ⟨o, rfl⟩) h1, ents, clock, h2, h3.mono hle, h4⟩
 ·obtain ⟨h1, ents, clock, h2, h3, h4⟩ := h.mapsR o es ho
  rw [hμ]
  exact ⟨hω _ _ (.inr (.inr ⟨o, rfl⟩)) h1, ents, clock, h2, h3.mono hle, h4⟩
theorem HInv.hide (h : HInv P g w σ) : HInv P (g.rename hideF) w σ :=
 h.to (g.rename_le hideF) rfl rfl rfl rfl (fun b t ht hb => by
  show hideF (g.ω b) = t
  rw [hb]
  rcases ht with ⟨o, rfl⟩ | ⟨o, j, rfl⟩ | ⟨o, rfl⟩ <;> rfl)
theorem gives_back (i : Inv P g w fr σ a) {v : Value} (h : Gives P (g.rename hideF) w w' σ' v d) : ∃ g', Ext g w g' w' ∧ Inv P g' w' fr σ' a ∧ Rep g' v d ∧ d.notL = true ∧ Own P g' w' .hand v d := by
 obtain ⟨g2, e1, i2, r2, n2, o2⟩ := h
 refine ⟨g.back g2 w, ?_⟩
 have hle2 : g2.Le (g.back g2 w) := ⟨fun _ _ _ h => h, Nat.le_refl _, fun _ _ => rfl, fun _ _ => rfl⟩
 have hle : g.Le (g.back g2 w) := ⟨e1.le.I, e1.le.n, e1.le.μ, e1.le.sz⟩
 -- a block that is the caller's own stays hidden
 have hid : ∀ b, b < w.heap.size → locF (g.ω b) = true → g2.ω b = .other ∧ w'.heap[b]? = w.heap[b]? := fun b hb hl => by
  have h1 : (g.rename hideF).ω b = .other := by
   show hideF (g.ω b) = .other
   cases hg : g.ω b <;> rw [hg] at hl <;> first | rfl | cases hl
  obtain ⟨k1, k2⟩ := e1.blk b hb (by rw [h1]; rfl)
  exact ⟨k2.trans h1, k1⟩
 have hω : ∀ b t, outF t = t → t ≠ .other → g2.ω b = t → (g.back g2 w).ω b = t := fun b t ht hno hb => by
  show (if _ then _ else _) = t
  split
  ·rename_i hc
   have := (hid b hc.1 hc.2).1
   rw [hb] at this
   exact absurd this hno
  ·rw [hb, ht]
 have hmine : ∀ b, (g.ω b).mine = false → (g.rename hideF).ω b = g.ω b := fun b hb => hideF_mine hb
 have hext : Ext g w (g.back g2 w) w' := by
  refine ⟨hle, e1.os, e1.tape, e1.output, e1.size, fun b hb hm => ?_, fun b off v hv => ?_, rfl⟩
  ·obtain ⟨k1, k2⟩ := e1.blk b hb (by rw [hmine b hm]; exact hm)
   refine ⟨k1, ?_⟩
   show (if _ then _ else _) = _
   split
   ·rfl
   ·rw [k2, hmine b hm, outF_mine hm]
  ·rcases e1.new b off v hv with h1 | h1 | h1
   ·exact .inl h1
   ·exact .inr (.inl h1)
   ·refine .inr (.inr ?_)
    have : (hideF (g.ω b)).mine = true := h1
    cases hg : g.ω b <;> rw [hg] at this <;> first | rfl | cases this
 have hkeep : Keep g w (g.back g2 w) w' (fun b => locF (g.ω b) = false ∧ (g.ω b).mine = true) := by
  refine ⟨hle, e1.size, fun b hb hnc => ?_⟩
  have hIeq : ((g.rename hideF).ω b).mine = false → ∀ off, g2.I b off = g.I b off := fun hm off => by
   cases hv : g2.I b off with
   | none =>
    cases hv2 : g.I b off with
    | none => rfl
    | some u => exact absurd (e1.le.I b off u hv2) (by rw [hv]; simp)
   | some u =>
    rcases e1.new b off u hv with h1 | h1 | h1
    ·exact h1.symm
    ·omega
    ·rw [hm] at h1; cases h1
  by_cases hl : locF (g.ω b) = true
  ·have h1 : (g.rename hideF).ω b = .other := by
    show hideF (g.ω b) = .other
    cases hg : g.ω b <;> rw [hg] at hl <;> first | rfl | cases hl
   refine ⟨(hid b hb hl).2, ?_, hIeq (by rw [h1]; rfl)⟩
   show (if _ then _ else _) = _
   rw [if_pos ⟨hb, hl⟩]
  ·have hm : (g.ω b).mine = false := by
    cases hmm : (g.ω b).mine
    ·rfl
    ·exact absurd ⟨by simpa using hl, hmm⟩ hnc
   obtain ⟨k1, k2⟩ := hext.blk b hb hm
   exact ⟨k1, k2, hIeq (by rw [hmine b hm]; exact hm)⟩
 refine ⟨hext, ⟨i2.to hle2 rfl rfl rfl rfl (fun b t ht hb => hω b t (by rcases ht with ⟨o, rfl⟩ | ⟨o, j, rfl⟩ | ⟨o, rfl⟩ <;> rfl) (by rcases ht with ⟨o, rfl⟩ | ⟨o, j, rfl⟩ | ⟨o, rfl⟩ <;> simp) hb),
  i.s.keep (σ := []) hkeep ?_ (fun _ _ _ => rfl), i.d.mono hle⟩, r2.mono hle2 (fun t off e => by subst e; simp [D.notL] at n2), n2, o2.to rfl (fun b hb => hω b .hand rfl (by simp) hb)⟩
 rintro b ⟨h1, h2⟩ hcl
 cases hg : g.ω b <;> rw [hg] at h1 h2 hcl <;> first
  | (cases h1; done)
  | (cases h2; done)
  | (simp [claims] at hcl)
theorem call_heap (hc : CalOK P cal) (i : Inv P g w fr σ a) {f : Nat} {ds : List D} {vals : Array Value} (h : cal f ds σ = some (d, σ')) (hr : AllRep (Rep g) vals.toList ds) (hn : ds.all D.notL = true) :
  Calls P f vals w (fun e w' => ∃ v, e = .returned v ∧ ∃ g', Ext g w g' w' ∧ Inv P g' w' fr σ' a ∧ Rep g' v d ∧ d.notL = true ∧ Own P g' w' .hand v d) := by
 refine Calls.mono (hc f ds σ d σ' h (g.rename hideF) w vals i.h.hide (fun b => hideF_hideF _) (hr.mono (g.rename_le hideF) hn) hn) ?_
 rintro e w' ⟨v, rfl, h1⟩
 exact ⟨v, rfl, gives_back i h1⟩
open Classical in
noncomputable def Gh.frz (g : Gh) (w : World) (S : Nat → Prop) : Gh := { g with I := fun b off => if S b then w.cell? ⟨b, off, none⟩ else g.I b off }
theorem frz_le (imm : ∀ (b off : Nat) (v : Value), g.I b off = some v → w.cell? ⟨b, off, none⟩ = some v) (S : Nat → Prop) : g.Le (g.frz w S) :=
 ⟨fun b off v h => by
  simp only [Gh.frz]
  split
  ·exact imm b off v h
  ·exact h, Nat.le_refl _, fun _ _ => rfl, fun _ _ => rfl⟩
theorem frz_imm (imm : ∀ (b off : Nat) (v : Value), g.I b off = some v → w.cell? ⟨b, off, none⟩ = some v) (S : Nat → Prop) (b off : Nat) (v : Value) (h : (g.frz w S).I b off = some v) : w.cell? ⟨b, off, none⟩ = some v := by
 simp only [Gh.frz] at h
 split at h
 ·exact h
 ·exact imm b off v h
theorem rep_frozen (i : HInv P g w σ) {v : Value} {ob off n esz : Nat} (h : Rep g v (.msl ob off n esz)) {es : List (List D)} (he : elems σ (.msl ob off n esz) = some es) {S : Nat → Prop} (hS : S (g.μ ob)) :
  Rep (g.frz w S) v (.sl es none) := by
 obtain ⟨⟨av, c, hv, hsh⟩, h0⟩ := shows_msl i h he
 cases h with
 | msl _ _ _ _ cap ho hcp hsz =>
  simp only [Value.slice.injEq] at hv
  obtain ⟨hav, hn, hcc⟩ := hv
  rcases hsh with ⟨h1, _⟩ | ⟨ad, vs, h1, h2, h3⟩
  ·rw [← hav] at h1; cases h1
  ·rw [← hav] at h1
   cases h1
   rw [hn]
   refine (h2.mono (frz_le i.imm S)).rep_sl om (fun k u hu => ?_)
   have := h3 k u hu
   rw [Addr.add_lit] at this
   simp only [Gh.frz]
   rw [if_pos hS]
   exact this
theorem snap_ok (i : HInv P g w σ) {S : Nat → Prop} : ∀ {ds : List D} {vals : List Value} {ds' : List D} {os : List Nat}, snap σ ds = some (ds', os) → AllRep (Rep g) vals ds → ds.all pureArg = true → (∀ ob ∈ os, S (g.μ ob)) →
  AllRep (Rep (g.frz w S)) vals ds' ∧ ds'.all pureD = true ∧ ds'.all D.notL = true ∧ ∀ ob ∈ os, ∃ cs, σ[ob]? = some (.cells cs)
 | [], vals, ds', os, h, hr, hp, hS => by
  simp only [snap, Option.some.injEq, Prod.mk.injEq] at h
  obtain ⟨rfl, rfl⟩ := h
  have : vals = [] := List.eq_nil_of_length_eq_zero (by simpa using hr.1)
  subst this
  exact ⟨⟨rfl, by simp⟩, rfl, rfl, by simp⟩
 | d :: ds, [], ds', os, h, hr, hp, hS => by simp [AllRep] at hr
 | d :: ds, v :: vals, ds', os, h, hr, hp, hS => by
  have hr' : AllRep (Rep g) vals ds := ⟨by simpa using hr.1, fun i v d h1 h2 => hr.2 (i + 1) v d (by simpa using h1) (by simpa using h2)⟩
  have h0 := hr.2 0 v d rfl rfl
  simp only [List.all_cons, Bool.and_eq_true] at hp
  have cons : ∀ {d' : D} {r : List D}, Rep (g.frz w S) v d' → AllRep (Rep (g.frz w S)) vals r → AllRep (Rep (g.frz w S)) (v :: vals) (d' :: r) := fun h1 h2 =>
   ⟨by simp [h2.1], fun k u e k1 k2 => by
    cases k with
    | zero => simp at k1 k2; subst k1 k2; exact h1
    | succ k => exact h2.2 k u e (by simpa using k1) (by simpa using k2)⟩
  by_cases hm : ∃ ob off n esz, d = .msl ob off n esz
  ·obtain ⟨ob, off, n, esz, rfl⟩ := hm
   simp only [snap] at h
   split at h
   ·rename_i es r os1 h1 h2
    simp only [Option.some.injEq, Prod.mk.injEq] at h
    obtain ⟨rfl, rfl⟩ := h
    obtain ⟨k1, k2, k3, k4⟩ := snap_ok i h2 hr' hp.2 (fun x hx => hS x (List.mem_cons_of_mem _ hx))
    refine ⟨cons (rep_frozen i h0 h1 (hS ob (List.mem_cons_self ..))) k1, by simp only [List.all_cons, k2, Bool.and_true]; rfl, by simp only [List.all_cons, k3, Bool.and_true]; rfl, fun x hx => ?_⟩
    rcases List.mem_cons.1 hx with rfl | hx
    ·simp only [elems] at h1
     split at h1
     ·rename_i cs hcs
      exact ⟨cs, hcs⟩
     ·cases h1
    ·exact k4 x hx
   ·cases h
  ·have hsn : snap σ (d :: ds) = (snap σ ds).map fun (r, os) => (d :: r, os) := by
    cases d <;> first | rfl | exact absurd ⟨_, _, _, _, rfl⟩ hm
   rw [hsn, Option.map_eq_some_iff] at h
   obtain ⟨⟨r, os1⟩, h2, h3⟩ := h
   simp only [Prod.mk.injEq] at h3
   obtain ⟨rfl, rfl⟩ := h3
   obtain ⟨k1, k2, k3, k4⟩ := snap_ok i h2 hr' hp.2 hS
   have hpd : pureD d = true := by
    have := hp.1
    cases d <;> first | exact this | exact absurd ⟨_, _, _, _, rfl⟩ hm | (simp [pureArg, D.pure1] at this)
   have hnl : d.notL = true := by
    have := hp.1
    cases d <;> first | rfl | (simp [pureArg, D.pure1] at this)
   exact ⟨cons (h0.out (frz_le i.imm S).I hpd) k1, by simp [hpd, k2], by simp [hnl, k3], k4⟩
end
end Go.Abs

namespace Go.Abs
open Go Go.RowKit
section
variable {P : Program} {g g' : Gh} {w w' : World} {fr fr' : Fr} {σ σ' : St} {a : Act} {o : Oper} {d : D} {cal : Cal} {q : Bool} {mu : List Nat} {ops : List Oper}
theorem rep_scalar1 {v : Value} {d : D} (h : Rep g v d) (hs : scalar1 d = true) : Rep g' v d := by
 cases h <;> first | (constructor; done) | (simp [scalar1] at hs)
theorem rep_scalar {v : Value} {d : D} (h : Rep g v d) (hs : scalar d = true) : Rep g' v d := by
 cases d with
 | tup ds =>
  cases h with
  | tup vs _ hl hR hq => exact .tup vs ds hl (fun i v d h1 h2 => rep_scalar1 (hR i v d h1 h2) (List.all_eq_true.1 hs d (List.mem_of_getElem? h2))) hq
 | _ => exact rep_scalar1 h hs
def shown (g : Gh) (σ : St) (b : Nat) : Prop := ∃ o cs, b = g.μ o ∧ σ[o]? = some (.cells cs)
theorem freeze1_ok (i : HInv P g w σ) {v : Value} {d d' : D} (h : Rep g v d) (hf : freeze1 σ d = some d') : Rep (g.frz w (shown g σ)) v d' ∧ d'.pure1 = true ∧ (d'.strip = d' ∨ d' = d) := by
 have hle := frz_le (g := g) (w := w) i.imm (shown g σ)
 unfold freeze1 at hf
 split at hf <;> first | (cases hf; done) | skip
 case h_10 ob off n esz =>
  rw [Option.map_eq_some_iff] at hf
  obtain ⟨es, h1, rfl⟩ := hf
  have h2 : ∃ cs, σ[ob]? = some (.cells cs) := by
   simp only [elems] at h1
   split at h1
   ·rename_i cs hcs; exact ⟨cs, hcs⟩
   ·cases h1
  obtain ⟨cs, hcs⟩ := h2
  exact ⟨rep_frozen i h h1 ⟨ob, cs, rfl, hcs⟩, rfl, .inl rfl⟩
 all_goals
  cases hf
  exact ⟨h.mono hle (fun t off e => by cases e), rfl, .inr rfl⟩
theorem AllRep.cons {R : Value → D → Prop} {v : Value} {d : D} {vs : List Value} {ds : List D} (h1 : R v d) (h2 : AllRep R vs ds) : AllRep R (v :: vs) (d :: ds) :=
 ⟨by simp [h2.1], fun k u e k1 k2 => by
  cases k with
  | zero => simp at k1 k2; subst k1 k2; exact h1
  | succ k => exact h2.2 k u e (by simpa using k1) (by simpa using k2)⟩
theorem AllRep.tail {R : Value → D → Prop} {v : Value} {d : D} {vs : List Value} {ds : List D} (h : AllRep R (v :: vs) (d :: ds)) : R v d ∧ AllRep R vs ds :=
 ⟨h.2 0 v d rfl rfl, by simpa using h.1, fun i v d h1 h2 => h.2 (i + 1) v d (by simpa using h1) (by simpa using h2)⟩
theorem freezeL_ok (i : HInv P g w σ) : ∀ {ds : List D} {vals : List Value} {ds' : List D}, freezeL σ ds = some ds' → AllRep (Rep g) vals ds → AllRep (Rep (g.frz w (shown g σ))) vals ds' ∧ ds'.all D.pure1 = true
 | [], vals, ds', h, hr => by
  simp only [freezeL, Option.some.injEq] at h
  subst h
  exact ⟨⟨hr.1, by simp⟩, rfl⟩
 | d :: ds, [], ds', h, hr => by simp [AllRep] at hr
 | d :: ds, v :: vals, ds', h, hr => by
  simp only [freezeL] at h
  split at h
  ·rename_i d1 h1
   rw [Option.map_eq_some_iff] at h
   obtain ⟨r, h2, rfl⟩ := h
   obtain ⟨q1, q2⟩ := hr.tail
   obtain ⟨k1, k2, _⟩ := freeze1_ok i q1 h1
   obtain ⟨m1, m2⟩ := freezeL_ok i h2 q2
   exact ⟨.cons k1.strip m1, by simp [pure1_strip, k2, m2]⟩
  ·cases h
theorem rep_agg_of {vs : Array Value} {ds : List D} (h : AllRep (Rep g) vs.toList ds) (hp : ds.all D.pure1 = true) : Rep g (.agg vs) (.agg ds) :=
 .agg vs ds h.1 h.2 (List.all_eq_true.2 fun x hx => plain_of_pure1 (List.all_eq_true.1 hp x hx))
theorem freezeT_ok (i : HInv P g w σ) : ∀ {ds : List D} {vals : List Value} {ds' : List D}, freezeT σ ds = some ds' → AllRep (Rep g) vals ds → AllRep (Rep (g.frz w (shown g σ))) vals ds' ∧ ds'.all D.notL = true ∧
  (ds'.all fun | .agg cs => cs.all D.pure1 | d => d.pure1) = true
 | [], vals, ds', h, hr => by
  simp only [freezeT, Option.some.injEq] at h
  subst h
  exact ⟨⟨hr.1, by simp⟩, rfl, rfl⟩
 | d :: ds, [], ds', h, hr => by simp [AllRep] at hr
 | d :: ds, v :: vals, ds', h, hr => by
  obtain ⟨q1, q2⟩ := hr.tail
  by_cases hm : ∃ cs, d = .agg cs
  ·obtain ⟨cs, rfl⟩ := hm
   simp only [freezeT] at h
   split at h
   ·rename_i cs1 h1
    rw [Option.map_eq_some_iff] at h
    obtain ⟨r, h2, rfl⟩ := h
    obtain ⟨vs, rfl, k1, _⟩ := rep_agg q1
    obtain ⟨l1, l2⟩ := freezeL_ok i h1 k1
    obtain ⟨m1, m2, m3⟩ := freezeT_ok i h2 q2
    exact ⟨.cons (rep_agg_of l1 l2) m1, by simp only [List.all_cons, m2, Bool.and_true]; rfl, by simp only [List.all_cons, l2, m3, Bool.and_true]⟩
   ·cases h
  ·have he : freezeT σ (d :: ds) = match freeze1 σ d with | some d => (freezeT σ ds).map (d.strip :: ·) | none => none := by
    cases d <;> first | rfl | exact absurd ⟨_, rfl⟩ hm
   rw [he] at h
   split at h
   ·rename_i d1 h1
    rw [Option.map_eq_some_iff] at h
    obtain ⟨r, h2, rfl⟩ := h
    obtain ⟨k1, k2, _⟩ := freeze1_ok i q1 h1
    obtain ⟨m1, m2, m3⟩ := freezeT_ok i h2 q2
    have hp : d1.strip.pure1 = true := by rw [pure1_strip]; exact k2
    refine ⟨.cons k1.strip m1, by simp [notL_of_pure1 hp, m2], ?_⟩
    simp only [List.all_cons, m3, Bool.and_true]
    cases hd : d1.strip <;> rw [hd] at hp <;> first | exact hp | rfl | (simp [D.pure1] at hp)
   ·cases h
theorem freeze_ok (i : HInv P g w σ) {v : Value} {d d' : D} (h : Rep g v d) (hf : freeze σ d = some d') : Rep (g.frz w (shown g σ)) v d' ∧ pureD d' = true ∧ d'.notL = true ∧ (d'.strip = d' ∨ d' = d) := by
 by_cases hm : ∃ cs, d = .agg cs
 ·obtain ⟨cs, rfl⟩ := hm
  simp only [freeze, Option.map_eq_some_iff] at hf
  obtain ⟨cs', h1, rfl⟩ := hf
  obtain ⟨vs, rfl, k1, _⟩ := rep_agg h
  obtain ⟨l1, l2⟩ := freezeL_ok i h1 k1
  exact ⟨rep_agg_of l1 l2, l2, rfl, .inl rfl⟩
 ·by_cases hm2 : ∃ vs, d = .tup vs
  ·obtain ⟨cs, rfl⟩ := hm2
   simp only [freeze, Option.map_eq_some_iff] at hf
   obtain ⟨cs', h1, rfl⟩ := hf
   obtain ⟨vs, rfl, k1, _⟩ := rep_tup h
   obtain ⟨l1, l2, l3⟩ := freezeT_ok i h1 k1
   exact ⟨.tup vs cs' l1.1 l1.2 l2, l3, rfl, .inl rfl⟩
  ·have he : freeze σ d = freeze1 σ d := by
    cases d <;> first | rfl | exact absurd ⟨_, rfl⟩ hm | exact absurd ⟨_, rfl⟩ hm2
   rw [he] at hf
   obtain ⟨k1, k2, k3⟩ := freeze1_ok i h hf
   refine ⟨k1, ?_, notL_of_pure1 k2, k3⟩
   cases d' <;> first | exact k2 | rfl | (simp [D.pure1] at k2)
def outH : Tag → Tag
 | .hand => .hand
 | _ => .other
def Gh.alone (I : Nat → Nat → Option Value) : Gh := { I, n := 0, μ := fun _ => 0, sz := fun _ => 0, β := fun _ => 0, ω := fun _ => .other }
def Gh.join (g g3 : Gh) (w : World) (J : Nat → Nat → Option Value) : Gh :=
 { I := fun b off => if b < w.heap.size then J b off else g3.I b off, n := g.n, μ := g.μ, sz := g.sz, β := g.β, ω := fun b => if b < w.heap.size then g.ω b else outH (g3.ω b), base := g.base }
theorem cell_same {b off : Nat} (h : w'.heap[b]? = w.heap[b]?) : w'.cell? ⟨b, off, none⟩ = w.cell? ⟨b, off, none⟩ := by
 simp only [World.cell?, h]
theorem HInv.alone {I : Nat → Nat → Option Value} (h : ∀ (b off : Nat) (v : Value), I b off = some v → w.cell? ⟨b, off, none⟩ = some v) : HInv P (Gh.alone I) w [] :=
 ⟨h, rfl, fun o cs ho => by simp at ho, fun o es ho => by simp at ho, fun o e cs ho => by simp at ho, fun o es ho => by simp at ho⟩
theorem call_pure_J (hc : CalOK P cal) (i : Inv P g w fr σ a) {f : Nat} {ds : List D} {vals : Array Value} {r r' : D} {σc : St} (h : cal f ds [] = some (r, σc)) (hf : freeze σc r = some r')
  {I1 J : Nat → Nat → Option Value} (hI1 : ∀ (b off : Nat) (v : Value), I1 b off = some v → w.cell? ⟨b, off, none⟩ = some v)
  (hr : AllRep (Rep (Gh.alone I1)) vals.toList ds) (hn : ds.all D.notL = true) {C : Nat → Prop}
  (hJ1 : ∀ (b off : Nat) (v : Value), g.I b off = some v → J b off = some v) (hJ2 : ∀ (b off : Nat) (v : Value), J b off = some v → w.cell? ⟨b, off, none⟩ = some v)
  (hJ3 : ∀ b, ¬ C b → ∀ off, J b off = g.I b off) (hC : ∀ b, C b → ¬ claims fr σ (g.ω b)) (hCm : ∀ b, C b → (g.ω b).mine = true)
  (hJ4 : scalar r' = true ∨ ∀ (b off : Nat) (v : Value), I1 b off = some v → J b off = some v) :
  Calls P f vals w (fun e w' => ∃ v, e = .returned v ∧ ∃ g', Ext g w g' w' ∧ Inv P g' w' fr σ a ∧ Rep g' v r' ∧ r'.notL = true ∧ Own P g' w' .hand v r') := by
 refine Calls.mono (hc f ds [] r σc h (Gh.alone I1) w vals (.alone hI1) (fun b => rfl) hr hn) ?_
 rintro e w' ⟨v, rfl, g2, e1, i2, r2, n2, o2⟩
 obtain ⟨k1, k2, k3, k4⟩ := freeze_ok i2 r2 hf
 have hold : ∀ b, b < w.heap.size → w'.heap[b]? = w.heap[b]? ∧ g2.ω b = .other := fun b hb => e1.blk b hb rfl
 have hshown : ∀ b, shown g2 σc b → w.heap.size ≤ b := by
  rintro b ⟨o, cs, rfl, ho⟩
  rcases Nat.lt_or_ge (g2.μ o) w.heap.size with hb | hb
  ·have h1 := (i2.cells o cs ho).1
   rw [(hold _ hb).2] at h1
   cases h1
  ·exact hb
 have hle : g.Le (g.join (g2.frz w' (shown g2 σc)) w J) := ⟨fun b off v hv => by
  simp only [Gh.join]
  rw [if_pos (imm_lt i.h hv)]
  exact hJ1 b off v hv, Nat.le_refl _, fun _ _ => rfl, fun _ _ => rfl⟩
 have hkeep : Keep g w (g.join (g2.frz w' (shown g2 σc)) w J) w' C := ⟨hle, e1.size, fun b hb hnc => ⟨(hold b hb).1, by simp [Gh.join, hb], fun off => by
  simp only [Gh.join]
  rw [if_pos hb]
  exact hJ3 b hnc off⟩⟩
 have himm : ∀ (b off : Nat) (v : Value), (g.join (g2.frz w' (shown g2 σc)) w J).I b off = some v → w'.cell? ⟨b, off, none⟩ = some v := fun b off v hv => by
  simp only [Gh.join] at hv
  split at hv
  ·rename_i hb
   rw [cell_same (hold b hb).1]
   exact hJ2 b off v hv
  ·exact frz_imm i2.imm _ b off v hv
 refine ⟨v, rfl, g.join (g2.frz w' (shown g2 σc)) w J, Ext.of_keep hkeep (fun b hb _ => hCm b hb) e1.os e1.tape e1.output, i.keep hkeep hC (fun _ _ _ => rfl) himm rfl, ?_, k3, ?_⟩
 ·rcases hJ4 with hs | hs
  ·exact rep_scalar k1 hs
  ·refine k1.out (fun b off u hu => ?_) k2
   simp only [Gh.join]
   split
   ·rename_i hb
    simp only [Gh.frz] at hu
    rw [if_neg (fun hsh => by have := hshown b hsh; omega)] at hu
    rcases e1.new b off u hu with h1 | h1 | h1
    ·exact hs b off u h1
    ·omega
    ·cases h1
   ·exact hu
 ·rcases k4 with hs | rfl
  ·exact .of_ne hs
  ·intro es ty hd
   rcases o2 es ty hd with h0 | ⟨inf, xs, h1, h2, h3, h4, h5⟩
   ·exact .inl h0
   refine .inr ⟨inf, xs, h1, h2, h3, h4, fun b hb => ?_⟩
   obtain ⟨q1, q2⟩ := h5 b hb
   have hge : ¬ b < w.heap.size := fun hlt => by
    rw [(hold b hlt).2] at q1
    cases q1
   refine ⟨by simp only [Gh.join]; rw [if_neg hge]; simp [Gh.frz, q1, outH], fun off ho => ?_⟩
   simp only [Gh.join]
   rw [if_neg hge]
   simp only [Gh.frz]
   rw [if_neg]
   ·exact q2 off ho
   ·rintro ⟨ob, cs, rfl, hob⟩
    rw [(i2.cells ob cs hob).1] at q1
    cases q1
theorem Inv.kill (i : Inv P g w fr σ a) (ob : Nat) : Inv P g w fr (σ.set ob .dead) a := by
 refine ⟨⟨i.h.imm, by simpa using i.h.n, fun o cs h => ?_, fun o es h => ?_, rows_set (fun e h => by cases h) (fun _ h => by cases h) i.h.rows, fun o es h => ?_⟩, i.s, i.d⟩
 ·rw [list_set_get] at h
  split at h
  ·cases h
  ·exact i.h.cells o cs h
 ·rw [list_set_get] at h
  split at h
  ·cases h
  ·exact i.h.maps o es h
 ·rw [list_set_get] at h
  split at h
  ·cases h
  ·exact i.h.mapsR o es h
theorem Inv.killAll : ∀ (os : List Nat) {σ : St}, Inv P g w fr σ a → Inv P g w fr (killAll σ os) a
 | [], _, i => i
 | o :: os, _, i => (i.kill o).killAll os
theorem killAll_dead : ∀ (os : List Nat) {σ : St} {ob : Nat}, (σ[ob]? = some .dead ∨ (ob ∈ os ∧ ob < σ.length)) → (killAll σ os)[ob]? = some .dead
 | [], σ, ob, h => by
  rcases h with h | ⟨h, _⟩
  ·exact h
  ·simp at h
 | o :: os, σ, ob, h => by
  refine killAll_dead os ?_
  rw [list_set_get]
  rcases h with h | ⟨h, hl⟩
  ·left
   split
   ·rfl
   ·exact h
  ·rcases List.mem_cons.1 h with rfl | h
   ·left
    rw [if_pos ⟨rfl, hl⟩]
   ·exact .inr ⟨h, by simpa using hl⟩
theorem call_pure (hc : CalOK P cal) (i : Inv P g w fr σ a) {f : Nat} {ds ds' : List D} {os : List Nat} {vals : Array Value} {r r' : D} {σc : St} (hp : ds.all pureArg = true) (hs : snap σ ds = some (ds', os))
  (h : cal f ds' [] = some (r, σc)) (hf : freeze σc r = some r') (hr : AllRep (Rep g) vals.toList ds) :
  Calls P f vals w (fun e w' => ∃ v, e = .returned v ∧ ∃ g', Ext g w g' w' ∧ Inv P g' w' fr (if os.isEmpty || scalar r' then σ else killAll σ os) a ∧ Rep g' v r' ∧ r'.notL = true ∧ Own P g' w' .hand v r') := by
 let S : Nat → Prop := fun b => ∃ ob ∈ os, b = g.μ ob
 obtain ⟨k1, k2, k3, k4⟩ := snap_ok (S := S) i.h hs hr hp (fun ob ho => ⟨ob, ho, rfl⟩)
 have himm1 := frz_imm (g := g) (w := w) i.h.imm S
 have hr1 : AllRep (Rep (Gh.alone (g.frz w S).I)) vals.toList ds' := ⟨k1.1, fun n v d h1 h2 => Rep.out (g := g.frz w S) (g' := Gh.alone (g.frz w S).I) (fun _ _ _ h => h) (k1.2 n v d h1 h2) (List.all_eq_true.1 k2 d (List.mem_of_getElem? h2))⟩
 by_cases hsc : os.isEmpty || scalar r'
 ·rw [if_pos hsc]
  refine call_pure_J hc i h hf himm1 hr1 k3 (J := g.I) (C := fun _ => False) (fun _ _ _ h => h) i.h.imm (fun _ _ _ => rfl) (fun _ hc => hc.elim) (fun _ hc => hc.elim) ?_
  simp only [Bool.or_eq_true] at hsc
  rcases hsc with hsc | hsc
  ·right
   have hos : os = [] := by simpa using hsc
   intro b off v hv
   simp only [Gh.frz] at hv
   rw [if_neg] at hv
   ·exact hv
   ·rintro ⟨ob, hob, _⟩
    rw [hos] at hob
    cases hob
  ·exact .inl hsc
 ·rw [if_neg hsc]
  refine call_pure_J hc (i.killAll os) h hf himm1 hr1 k3 (J := (g.frz w S).I) (C := S) (frz_le i.h.imm S).I himm1 (fun b hb off => by simp only [Gh.frz]; rw [if_neg hb]) ?_ ?_ (.inr fun _ _ _ h => h)
  ·rintro b ⟨ob, hob, rfl⟩
   obtain ⟨cs, hcs⟩ := k4 ob hob
   rw [(i.h.cells ob cs hcs).1]
   have hd := killAll_dead os (σ := σ) (ob := ob) (.inr ⟨hob, get_lt hcs⟩)
   rintro (⟨cs, h⟩ | ⟨es, h⟩) <;> rw [hd] at h <;> cases h
  ·rintro b ⟨ob, hob, rfl⟩
   obtain ⟨cs, hcs⟩ := k4 ob hob
   rw [(i.h.cells ob cs hcs).1]
   rfl
theorem doCall_ok (hc : CalOK P cal) (i : Inv P g w fr σ a) {f : Nat} {ds : List D} {vals : Array Value} (h : doCall cal f ds σ = some (d, σ')) (hr : AllRep (Rep g) vals.toList ds) :
  Calls P f vals w (fun e w' => ∃ v, e = .returned v ∧ ∃ g', Ext g w g' w' ∧ Inv P g' w' fr σ' a ∧ Rep g' v d ∧ d.notL = true ∧ Own P g' w' .hand v d) := by
 unfold doCall at h
 split at h
 ·rename_i hp
  split at h
  ·cases h
  ·rename_i ds' os hs
   split at h
   ·split at h
    ·rename_i hn
     exact call_heap hc i h hr hn
    ·cases h
   ·rename_i r σc hcal
    split at h
    ·split at h
     ·rename_i hn
      exact call_heap hc i h hr hn
     ·cases h
    ·rename_i r' hf
     cases h
     exact call_pure hc i hp hs hcal hf hr
 ·split at h
  ·rename_i hn
   exact call_heap hc i h hr hn
  ·cases h
theorem doCallQ_ok (hc : CalOK P cal) (i : Inv P g w fr σ a) {f : Nat} {ds : List D} {vals : Array Value} (h : doCallQ cal f ds σ = some d) (hr : AllRep (Rep g) vals.toList ds) :
  Calls P f vals w (fun e w' => ∃ v, e = .returned v ∧ ∃ g', Ext g w g' w' ∧ Inv P g' w' fr σ a ∧ Rep g' v d ∧ d.notL = true ∧ Own P g' w' .hand v d) := by
 unfold doCallQ at h
 split at h
 ·rename_i hp
  split at h
  ·cases h
  ·rename_i ds' os hs
   split at h
   ·cases h
   ·rename_i r σc hcal
    split at h
    ·cases h
    ·rename_i r' hf
     split at h
     ·rename_i hsc
      cases h
      have := call_pure hc i hp hs hcal hf hr
      rw [if_pos hsc] at this
      exact this
     ·cases h
 ·cases h
end
end Go.Abs

namespace Go.Abs
open Go Go.RowKit
section
variable {P : Program} {g g' : Gh} {w w' : World} {fr fr' : Fr} {σ σ' : St} {a : Act} {o : Oper} {d : D} {cal : Cal} {q : Bool} {mu : List Nat} {ops : List Oper}
def Enters (P : Program) (f : Nat) : Prop := ∃ fn c, P.funcs[f]? = some fn ∧ fn.body = some c ∧ (fn.name == "runtime.NumGoroutine") = false
def CalIn (P : Program) (cal : Cal) : Prop := ∀ (f : Nat) (ds : List D) (σ : St) (r : D × St), cal f ds σ = some r → Enters P f
theorem enter_run {f : Nat} (h : Enters P f) (args : Array Value) (w : World) : (callFunc f args).run P w = .ok (.enter f args) w := by
 obtain ⟨fn, c, hf, hb, hname⟩ := h
 have h1 : fn.name ≠ "runtime.NumGoroutine" := by simpa using hname
 simp [callFunc, hf, h1, hb]
theorem doCall_in (hci : CalIn P cal) {f : Nat} {ds : List D} {r : D × St} (h : doCall cal f ds σ = some r) : Enters P f := by
 unfold doCall at h
 split at h
 ·split at h
  ·cases h
  ·split at h
   ·split at h
    ·exact hci _ _ _ _ h
    ·cases h
   ·rename_i hcal
    exact hci _ _ _ _ hcal
 ·split at h
  ·exact hci _ _ _ _ h
  ·cases h
theorem doCallQ_in (hci : CalIn P cal) {f : Nat} {ds : List D} {r : D} (h : doCallQ cal f ds σ = some r) : Enters P f := by
 unfold doCallQ at h
 split at h
 ·split at h
  ·cases h
  ·split at h
   ·cases h
   ·rename_i hcal
    exact hci _ _ _ _ hcal
 ·cases h
theorem put_answer (i : Inv P g w fr σ a) {v : Value} (hr : Rep g v d) (hn : d.notL = true) (ho : Own P g w .hand v d) (dst : Option Nat) :
  ∃ g', Ext g w g' w ∧ Inv P g' w (fr.put dst d) σ (a.put dst v) := by
 obtain ⟨g3, r1, r2, r3, r4⟩ := retag i hr ho (match dst with | some t => .sbuf t | none => .sbuf 0)
 exact ⟨g3, r1, r2.put dst r3 (fun t ht => by subst ht; exact r4) (fun s off e => by subst e; simp [D.notL] at hn)⟩
theorem snd_enter {f : Nat} {vals : Array Value} (hrun : (execOp a.eval o).run P w = .ok (.enter f vals) w)
  (h : Calls P f vals w (fun e w' => ∃ v, e = .returned v ∧ ∃ g', Ext g w g' w' ∧ Inv P g' w' fr' σ' a ∧ Rep g' v d ∧ d.notL = true ∧ Own P g' w' .hand v d)) : Snd P g w a o fr' σ' d := by
 intro next Q hn
 unfold Oper.wp
 rw [hrun, Oper.upon_enter]
 refine Calls.mono h ?_
 rintro e w' ⟨v, rfl, g1, e1, i1, r1, n1, o1⟩
 obtain ⟨g2, e2, i2⟩ := put_answer i1 r1 n1 o1 o.dst
 exact hn _ _ g2 (e1.trans e2) i2
theorem Calls.shift {f : Nat} {vals : Array Value} {g1 : Gh} (e1 : Ext g w g1 w)
  (h : Calls P f vals w (fun e w' => ∃ v, e = .returned v ∧ ∃ g', Ext g1 w g' w' ∧ Inv P g' w' fr' σ' a ∧ Rep g' v d ∧ d.notL = true ∧ Own P g' w' .hand v d)) :
  Calls P f vals w (fun e w' => ∃ v, e = .returned v ∧ ∃ g', Ext g w g' w' ∧ Inv P g' w' fr' σ' a ∧ Rep g' v d ∧ d.notL = true ∧ Own P g' w' .hand v d) :=
 Calls.mono h fun e w' ⟨v, h1, g2, h2, h3⟩ => ⟨v, h1, g2, e1.trans h2, h3⟩
theorem vals_ok' (i : Inv P g w fr σ a) : ∀ {xs : List Operand} {xs' : List X}, compXs xs = some xs' → AllRep (Rep g) (xs.map a.eval) (xs'.map fr.val)
 | [], xs', hc => by
  simp [compXs] at hc
  subst hc
  exact ⟨rfl, fun i v d h => by simp at h⟩
 | x :: xs, xs', hc => by
  simp only [compXs, List.mapM_cons, Option.bind_eq_bind, Option.pure_def, Option.bind_eq_some_iff] at hc
  obtain ⟨y, h1, ys, h2, h3⟩ := hc
  cases h3
  exact .cons (val_ok i.s h1).1 (vals_ok' i h2)
theorem deeps_ok (i : Inv P g w fr σ a) {xs : List Operand} {xs' : List X} (h : compXs xs = some xs') : AllRep (Rep g) (xs.map a.eval) (xs'.map fun x => (fr.val x).deep) := by
 have h1 := vals_ok' i h
 refine ⟨by simpa using h1.1, fun k v d h2 h3 => ?_⟩
 simp only [List.getElem?_map, Option.map_eq_some_iff] at h3
 obtain ⟨x, h3, rfl⟩ := h3
 exact (h1.2 k v (fr.val x) h2 (by simp [h3])).deep
theorem AllRep.append {R : Value → D → Prop} {vs us : List Value} {ds es : List D} (h : AllRep R vs ds) (k : AllRep R us es) : AllRep R (vs ++ us) (ds ++ es) := by
 refine ⟨by simp [h.1, k.1], fun i v d h1 h2 => ?_⟩
 by_cases hi : i < vs.length
 ·rw [List.getElem?_append_left hi] at h1
  rw [List.getElem?_append_left (by rw [← h.1]; exact hi)] at h2
  exact h.2 i v d h1 h2
 ·rw [List.getElem?_append_right om] at h1
  rw [List.getElem?_append_right (by rw [← h.1]; omega)] at h2
  rw [h.1] at h1
  exact k.2 _ v d h1 h2
theorem snd_call (hc : CalOK P cal) (hci : CalIn P cal) {c : Call} {f : FuncId} (hop : o.op = .call c) (hcal : c.callee = .value (.func f)) {xs : List X} (hX : compXs c.args.toList = some xs)
  (he : evalOp cal q o.dst (.call f xs) fr σ = some (d, fr', σ')) (i : Inv P g w fr σ a) : Snd P g w a o fr' σ' d := by
 have hrun : Enters P f → (execOp a.eval o).run P w = .ok (.enter f (c.args.map a.eval)) w := fun hin => by
  simp only [execOp, hop, resolve, hcal]
  have : Deferred.ofValue (a.eval (.func f)) (c.args.map a.eval) = pure { target := .fn (.func f) #[], args := c.args.map a.eval } := by
   simp [Act.eval, Deferred.ofValue]
  rw [this]
  simp only [pure_bind, invoke, Array.append_empty]
  exact enter_run hin _ _
 simp only [evalOp] at he
 split at he
 ·rw [Option.map_eq_some_iff] at he
  obtain ⟨r, h1, h2⟩ := he
  cases h2
  refine snd_enter (hrun (doCallQ_in hci h1)) (doCallQ_ok hc i h1 ?_)
  rw [Array.toList_map]
  exact deeps_ok i hX
 ·split at he
  ·cases he
  ·rename_i ds fr1 σ1 hp
   rw [Option.map_eq_some_iff] at he
   obtain ⟨⟨r, σ2⟩, h1, h2⟩ := he
   cases h2
   obtain ⟨g1, e1, i1, r1, n1, s1⟩ := promoteAll_ok i hX hp
   refine snd_enter (hrun (doCall_in hci h1)) (Calls.shift e1 (doCall_ok hc i1 h1 ?_))
   rw [Array.toList_map]
   exact r1
theorem snd_callM (hc : CalOK P cal) (hci : CalIn P cal) {c : Call} {f : FuncId} (hop : o.op = .call c) (hcal : c.callee = .value (.func f)) {xs : List X} (hX : compXs c.args.toList = some xs)
  (he : evalOp cal q o.dst (.callM f xs) fr σ = some (d, fr', σ')) (i : Inv P g w fr σ a) : Snd P g w a o fr' σ' d := by
 have hrun : Enters P f → (execOp a.eval o).run P w = .ok (.enter f (c.args.map a.eval)) w := fun hin => by
  simp only [execOp, hop, resolve, hcal]
  have : Deferred.ofValue (a.eval (.func f)) (c.args.map a.eval) = pure { target := .fn (.func f) #[], args := c.args.map a.eval } := by
   simp [Act.eval, Deferred.ofValue]
  rw [this]
  simp only [pure_bind, invoke, Array.append_empty]
  exact enter_run hin _ _
 simp only [evalOp] at he
 split at he
 ·cases he
 ·rename_i ds fr1 σ1 hp
  split at he
  ·rename_i hn
   rw [Option.map_eq_some_iff] at he
   obtain ⟨⟨r, σ2⟩, h1, h2⟩ := he
   cases h2
   obtain ⟨g1, e1, i1, r1, n1, s1⟩ := promoteAll_ok i hX hp
   refine snd_enter (hrun (hci _ _ _ _ h1)) (Calls.shift e1 (call_heap hc i1 h1 ?_ hn))
   rw [Array.toList_map]
   exact r1
  ·cases he
theorem snd_callv (hc : CalOK P cal) (hci : CalIn P cal) {c : Call} {t : Tmp} (hop : o.op = .call c) (hcal : c.callee = .value (.tmp t)) {xs : List X} (hX : compXs c.args.toList = some xs)
  (he : evalOp cal q o.dst (.callv (.tmp t) xs) fr σ = some (d, fr', σ')) (i : Inv P g w fr σ a) : Snd P g w a o fr' σ' d := by
 have hv := (val_ok i.s (x := .tmp t) (X := .tmp t) rfl).1
 simp only [evalOp] at he
 split at he
 ·rename_i f caps hf
  rw [hf] at hv
  obtain ⟨vs, hvv, hvr, hvn⟩ : ∃ vs : Array Value, a.eval (.tmp t) = .func (.func f) #[] vs ∧ AllRep (Rep g) vs.toList caps ∧ caps.all D.notL = true := by
   generalize a.eval (.tmp t) = v at hv
   cases hv with
   | func _ vs _ hl hR hp => exact ⟨vs, rfl, ⟨hl, hR⟩, hp⟩
  have hrun : Enters P f → (execOp a.eval o).run P w = .ok (.enter f (c.args.map a.eval ++ vs)) w := fun hin => by
   simp only [execOp, hop, resolve, hcal]
   have : Deferred.ofValue (a.eval (.tmp t)) (c.args.map a.eval) = pure { target := .fn (.func f) vs, args := c.args.map a.eval } := by
    rw [hvv]
    simp [Deferred.ofValue]
   rw [this]
   simp only [pure_bind, invoke]
   exact enter_run hin _ _
  split at he
  ·rw [Option.map_eq_some_iff] at he
   obtain ⟨r, h1, h2⟩ := he
   cases h2
   refine snd_enter (hrun (doCallQ_in hci h1)) (doCallQ_ok hc i h1 ?_)
   rw [Array.toList_append, Array.toList_map]
   exact (deeps_ok i hX).append hvr
  ·split at he
   ·cases he
   ·rename_i ds fr1 σ1 hp
    rw [Option.map_eq_some_iff] at he
    obtain ⟨⟨r, σ2⟩, h1, h2⟩ := he
    cases h2
    obtain ⟨g1, e1, i1, r1, n1, s1⟩ := promoteAll_ok i hX hp
    refine snd_enter (hrun (doCall_in hci h1)) (Calls.shift e1 (doCall_ok hc i1 h1 ?_))
    rw [Array.toList_append, Array.toList_map]
    exact r1.append (hvr.mono e1.le hvn)
 ·cases he
theorem Inv.newDefer (i : Inv P g w fr σ a) {df : Deferred} {f : D × List D} (h : ∃ fn caps, df.target = .fn (.func fn) caps ∧ ∃ cd, f.1 = .func fn cd ∧ Rep g (.func (.func fn) #[] caps) f.1 ∧ AllRep (Rep g) df.args.toList f.2 ∧ f.2.all D.notL = true) :
  Inv P g w { fr with defers := f :: fr.defers } σ { a with defers := df :: a.defers } := by
 obtain ⟨l, hl, hd⟩ := i.d
 refine ⟨i.h, ⟨i.s.size, i.s.blen, i.s.slots, i.s.boxes⟩, ⟨df :: l, by simp [hl], by simpa using hd.1, fun k x y h1 h2 => ?_⟩⟩
 cases k with
 | zero =>
  simp at h1 h2
  subst h1 h2
  exact h
 | succ k => exact hd.2 k x y (by simpa using h1) (by simpa using h2)
theorem snd_defer {c : Call} {t : Tmp} (hop : o.op = .defer c) (hcal : c.callee = .value (.tmp t)) {xs : List X} (hX : compXs c.args.toList = some xs)
  (he : evalOp cal q o.dst (.defer (.tmp t) xs) fr σ = some (d, fr', σ')) (i : Inv P g w fr σ a) : Snd P g w a o fr' σ' d := by
 have hv := (val_ok i.s (x := .tmp t) (X := .tmp t) rfl).1
 simp only [evalOp] at he
 split at he
 ·rename_i f caps hf
  rw [hf] at hv
  obtain ⟨vs, hvv, hvr, hvn⟩ : ∃ vs : Array Value, a.eval (.tmp t) = .func (.func f) #[] vs ∧ AllRep (Rep g) vs.toList caps ∧ caps.all D.notL = true := by
   generalize a.eval (.tmp t) = v at hv
   cases hv with
   | func _ vs _ hl hR hp => exact ⟨vs, rfl, ⟨hl, hR⟩, hp⟩
  split at he
  ·cases he
  ·rename_i ds fr1 σ1 hp
   cases he
   obtain ⟨g1, e1, i1, r1, n1, s1⟩ := promoteAll_ok i hX hp
   intro next Q hn
   have hrun : (execOp a.eval o).run P w = .ok (.defer { target := .fn (.func f) vs, args := c.args.map a.eval }) w := by
    simp only [execOp, hop, resolve, hcal]
    have : Deferred.ofValue (a.eval (.tmp t)) (c.args.map a.eval) = pure { target := .fn (.func f) vs, args := c.args.map a.eval } := by
     rw [hvv]
     simp [Deferred.ofValue]
    rw [this]
    rfl
   unfold Oper.wp
   rw [hrun, Oper.upon_defer]
   refine hn _ _ g1 e1 ((i1.newDefer ⟨f, vs, rfl, caps, rfl, ?_, ?_, n1⟩).put o.dst (.junk _) (fun _ _ => .of_ne rfl) (fun s off e => by cases e))
   ·exact .func f vs caps hvr.1 (hvr.mono e1.le hvn).2 hvn
   ·rw [Array.toList_map]
    exact r1
 ·cases he
end
end Go.Abs

namespace Go.Abs
open Go Go.RowKit
section
variable {P : Program} {g g' : Gh} {w w' : World} {fr fr' : Fr} {σ σ' : St} {a : Act} {o : Oper} {d : D} {cal : Cal} {q : Bool} {mu : List Nat} {ops : List Oper}
theorem Inv.toHand (i : Inv P g w fr σ a) {ob : Nat} {cs : List D} (ho : σ[ob]? = some (.cells cs)) :
  Inv P (g.tagAt (g.μ ob) .hand) w fr (σ.set ob .dead) a ∧ Ext g w (g.tagAt (g.μ ob) .hand) w := by
 obtain ⟨h1, h2⟩ := i.h.cells ob cs ho
 have hle : g.Le (g.tagAt (g.μ ob) .hand) := ⟨fun _ _ _ h => h, Nat.le_refl _, fun _ _ => rfl, fun _ _ => rfl⟩
 have hk : Keep g w (g.tagAt (g.μ ob) .hand) w (fun x => x = g.μ ob) := ⟨hle, Nat.le_refl _, fun c _ hc => ⟨rfl, by simp [Gh.tagAt, hc], fun _ => rfl⟩⟩
 have hlt : ob < σ.length := (List.getElem?_eq_some_iff.1 ho).1
 refine ⟨(i.kill ob).keep hk (fun c hc h => ?_) (fun _ _ _ => rfl) i.h.imm rfl, Ext.of_keep hk (fun c hc _ => by rw [hc, h1]; rfl) rfl rfl rfl⟩
 rw [hc, h1] at h
 rcases h with ⟨cs, h⟩ | ⟨es, h⟩ <;> simp [hlt] at h
theorem flat_at {sz : Nat} : ∀ (ys : List (List D)), (∀ y ∈ ys, y.length = sz) → ∀ (k : Nat) (d : D), ys.flatten[k]? = some d → ∃ (i : Nat) (e : List D) (j : Nat), k = i * sz + j ∧ ys[i]? = some e ∧ e[j]? = some d
 | [], _, k, d, h => by simp at h
 | y :: ys, hy, k, d, h => by
  rw [List.flatten_cons] at h
  have hl := hy y (by simp)
  by_cases hk : k < y.length
  ·rw [List.getElem?_append_left hk] at h
   exact ⟨0, y, k, by simp, rfl, h⟩
  ·rw [List.getElem?_append_right om] at h
   obtain ⟨i, e, j, h1, h2, h3⟩ := flat_at ys (fun z hz => hy z (by simp [hz])) _ d h
   exact ⟨i + 1, e, j, by rw [Nat.add_mul]; omega, by simpa using h2, h3⟩
theorem scalar_facts {d : D} (h : calm1 d = true) : d.strip = d ∧ d.plain = true ∧ ∀ t off, d ≠ .lptr t off := by
 unfold calm1 at h
 split at h <;> first | (cases h; done) | exact ⟨rfl, rfl, fun t off => by simp⟩
theorem Inv.mark (i : Inv P g w fr σ a) {e : Nat} (hlast : ∀ (ob : Nat) (cs : List D), ob + 1 = σ.length → σ[ob]? = some (.cells cs) → ∃ arr, w.heap[g.μ ob]? = some (.cells arr e (0, 0))) :
  Inv P { g with n := g.n + 1 } w fr (σ ++ [.row e]) a ∧ Ext g w { g with n := g.n + 1 } w := by
 have hle : g.Le { g with n := g.n + 1 } := ⟨fun _ _ _ h => h, Nat.le_succ _, fun _ _ => rfl, fun _ _ => rfl⟩
 have hk : Keep g w { g with n := g.n + 1 } w (fun _ => False) := ⟨hle, Nat.le_refl _, fun _ _ _ => ⟨rfl, rfl, fun _ => rfl⟩⟩
 have hC : ∀ b, (fun _ : Nat => False) b → ¬ claims fr σ (g.ω b) := fun _ h => h.elim
 have hone : ∀ (k : Nat) (ob : Obj), (σ ++ [.row e])[k]? = some ob → σ[k]? = some ob ∨ (k = σ.length ∧ ob = .row e) := by
  intro k ob h
  by_cases hlt : k < σ.length
  ·rw [List.getElem?_append_left hlt] at h
   exact .inl h
  ·rw [List.getElem?_append_right om] at h
   have hl := (List.getElem?_eq_some_iff.1 h).1
   simp only [List.length_cons, List.length_nil] at hl
   have h0 : k - σ.length = 0 := by omega
   rw [h0] at h
   simp at h
   exact .inr ⟨om, h.symm⟩
 refine ⟨⟨⟨i.h.imm, by simp [i.h.n], fun o1 cs h1 => ?_, fun o1 es h1 => ?_, fun o1 e1 cs h1 h2 => ?_, fun o1 es h1 => ?_⟩, i.s.keep hk hC (fun _ _ _ => rfl), i.d.mono hle⟩, Ext.of_keep hk (fun _ h => h.elim) rfl rfl rfl⟩
 ·rcases hone _ _ h1 with h | ⟨_, h⟩
  ·exact i.h.cells_keep hk hC o1 cs h
  ·cases h
 ·rcases hone _ _ h1 with h | ⟨_, h⟩
  ·exact i.h.maps_keep hk hC o1 es h
  ·cases h
 ·rcases hone _ _ h1 with h | ⟨_, h⟩
  ·rcases hone _ _ h2 with h' | ⟨h', h''⟩
   ·exact i.h.rows_keep hk hC o1 e1 cs h h'
   ·cases h''
    exact hlast o1 cs h' h
  ·cases h
 ·rcases hone _ _ h1 with h | ⟨_, h⟩
  ·exact i.h.mapsR_keep hk hC o1 es h
  ·cases h
theorem Inv.newRowObj (i : Inv P g w fr σ a) {b e : Nat} {arr : Array Value} {cs : List D} (hω : g.ω b = .hand) (hb : w.heap[b]? = some (.cells arr e (0, 0))) (hI : ∀ off, g.I b off = none)
  (hcs : ∀ (j : Nat) (d : D), cs[j]? = some d → calm1 d = true ∧ ∃ u, arr.toList[j]? = some u ∧ Rep g u d) :
  ∃ g', Ext g w g' w ∧ Inv P g' w fr (σ ++ [.cells cs, .row e]) a ∧ g.n < g'.n ∧ g'.μ g.n = b ∧ g'.sz g.n = arr.size := by
 obtain ⟨i1, e1⟩ := i.push (b := b) (sz := arr.size) hω (.cells cs) (fun cs' h => by
  cases h
  refine ⟨arr, e, hb, rfl, hI, fun j d hd => ?_⟩
  obtain ⟨h1, u, h2, h3⟩ := hcs j d hd
  obtain ⟨s1, s2, s3⟩ := scalar_facts h1
  exact ⟨s2, u, by simpa using h2, h3.mono (push_le g b arr.size) (fun t off q => absurd q (s3 t off)), .of_ne s1⟩) (fun es h => by cases h)
 have hn : σ.length = g.n := i.h.n.symm
 obtain ⟨i2, e2⟩ := i1.mark (e := e) (fun ob cs' h1 h2 => by
  simp only [List.length_append, List.length_cons, List.length_nil] at h1
  have : ob = g.n := by omega
  subst this
  exact ⟨arr, by simpa [Gh.push] using hb⟩)
 refine ⟨_, e1.trans e2, ?_, ?_, ?_, ?_⟩
 ·rw [List.append_assoc] at i2
  exact i2
 ·show g.n < g.n + 1 + 1
  omega
 ·simp [Gh.push]
 ·simp [Gh.push]
theorem Inv.pushed (i : Inv P g w fr σ a) {ob : Go.Obj} (hh : w'.heap = w.heap.push ob) (h1 : w'.os = w.os) (h2 : w'.tape = w.tape) (h3 : w'.output = w.output) :
  Inv P (g.tagAt w.heap.size .hand) w' fr σ a ∧ Ext g w (g.tagAt w.heap.size .hand) w' := by
 have hle : g.Le (g.tagAt w.heap.size .hand) := ⟨fun _ _ _ h => h, Nat.le_refl _, fun _ _ => rfl, fun _ _ => rfl⟩
 have hsame : ∀ b, b < w.heap.size → w'.heap[b]? = w.heap[b]? := fun b hb => by rw [hh, Array.getElem?_push_lt hb, Array.getElem?_eq_getElem hb]
 have hk : Keep g w (g.tagAt w.heap.size .hand) w' (fun _ => False) := ⟨hle, by rw [hh]; simp, fun b hb _ => ⟨hsame b hb, by simp [Gh.tagAt, Nat.ne_of_lt hb], fun _ => rfl⟩⟩
 exact ⟨i.keep hk (fun _ h => h.elim) (fun _ _ _ => rfl) (fun b off v hv => by
  have := i.h.imm b off v hv
  rw [cell_same (hsame b (imm_lt i.h hv))]
  exact this) rfl, Ext.of_keep hk (fun _ h => h.elim) h1 h2 h3⟩
theorem rep_msl {v : Value} {ob off n esz : Nat} (h : Rep g v (.msl ob off n esz)) : ∃ cap, v = .slice (some ⟨g.μ ob, off, none⟩) n cap ∧ ob < g.n ∧ n ≤ cap ∧ off + cap * esz ≤ g.sz ob := by
 cases h with
 | msl _ _ _ _ cap h1 h2 h3 => exact ⟨cap, rfl, h1, h2, h3⟩
theorem finRoom (i : Inv P g w fr σ a) {b e : Nat} {cur new : Array Value} {cs : List D} (hω : g.ω b = .hand) (hg : w.heap[b]? = some (.cells cur e (0, 0))) (hI : ∀ off, g.I b off = none)
  (hcs : ∀ (j : Nat) (d : D), cs[j]? = some d → calm1 d = true ∧ ∃ u, new.toList[j]? = some u ∧ Rep g u d) :
  ∃ g', Ext g w g' (w.setRow b new) ∧ Inv P g' (w.setRow b new) fr (σ ++ [.cells cs, .row e]) a ∧ g.n < g'.n ∧ g'.μ g.n = b ∧ g'.sz g.n = new.size := by
 have hk : Keep g w g (w.setRow b new) (fun x => x = b) := Keep.setRow hg
 have i2 := i.keep hk (fun x hx h => by rw [hx, hω] at h; exact h) (fun _ _ _ => rfl) (imm_setRow i.h hg hI) rfl
 have e2 : Ext g w g (w.setRow b new) := Ext.of_keep hk (fun x hx _ => by rw [hx, hω]; rfl) rfl rfl rfl
 obtain ⟨g', e3, i3, q1, q2, q3⟩ := i2.newRowObj hω (by rw [setRow_heap w b b cur new e hg, if_pos rfl]) hI hcs
 exact ⟨g', e2.trans e3, i3, q1, q2, q3⟩
theorem finGrow (i : Inv P g w fr σ a) {e : Nat} {arr : Array Value} {cs : List D} (hh : w'.heap = w.heap.push (.cells arr e)) (h1 : w'.os = w.os) (h2 : w'.tape = w.tape) (h3 : w'.output = w.output)
  (hcs : ∀ (j : Nat) (d : D), cs[j]? = some d → calm1 d = true ∧ ∃ u, arr.toList[j]? = some u ∧ Rep g u d) :
  ∃ g', Ext g w g' w' ∧ Inv P g' w' fr (σ ++ [.cells cs, .row e]) a ∧ g.n < g'.n ∧ g'.μ g.n = w.heap.size ∧ g'.sz g.n = arr.size := by
 obtain ⟨i2, e2⟩ := i.pushed hh h1 h2 h3
 have hb : w'.heap[w.heap.size]? = some (.cells arr e (0, 0)) := by rw [hh]; simp
 obtain ⟨g', e3, i3, q1, q2, q3⟩ := i2.newRowObj (b := w.heap.size) (by simp [Gh.tagAt]) hb (fun off => imm_none i.h (Nat.le_refl _) off) (fun j d hd => by
  obtain ⟨h1, u, h2, h3⟩ := hcs j d hd
  have hle : g.Le (g.tagAt w.heap.size .hand) := ⟨fun _ _ _ h => h, Nat.le_refl _, fun _ _ => rfl, fun _ _ => rfl⟩
  exact ⟨h1, u, h2, h3.mono hle (fun _ _ _ => rfl)⟩)
 exact ⟨g', e2.trans e3, i3, q1, q2, q3⟩
theorem rows_cells {g1 : Gh} {cs : List D} {n : Nat} {ys : List (List D)} {sz : Nat} {xs vs : List Value} {new : List Value} (hn : n * sz ≤ cs.length) (hxl : xs.length = n * sz) (hs1 : (cs.take (n * sz)).all calm1 = true) (hs2 : ys.flatten.all calm1 = true)
  (hx : ∀ (j : Nat) (d : D), j < n * sz → cs[j]? = some d → ∃ u, xs[j]? = some u ∧ Rep g1 u d) (hel : Elts g1 vs ys sz) (hnew : ∀ (j : Nat) (u : Value), (xs ++ vs)[j]? = some u → new[j]? = some u)
  (j : Nat) (d : D) (hd : (cs.take (n * sz) ++ ys.flatten)[j]? = some d) : calm1 d = true ∧ ∃ u, new[j]? = some u ∧ Rep g1 u d := by
 have hl : (cs.take (n * sz)).length = n * sz := by rw [List.length_take]; omega
 by_cases hj : j < n * sz
 ·rw [List.getElem?_append_left om] at hd
  refine ⟨all_get hs1 hd, ?_⟩
  rw [List.getElem?_take, if_pos hj] at hd
  obtain ⟨u, h1, h2⟩ := hx j d hj hd
  exact ⟨u, hnew j u (by rw [List.getElem?_append_left om]; exact h1), h2⟩
 ·rw [List.getElem?_append_right om, hl] at hd
  refine ⟨all_get hs2 hd, ?_⟩
  obtain ⟨i, e, k, h1, h2, h3⟩ := flat_at ys (fun y hy => (hel.each y hy).1) _ d hd
  obtain ⟨u, h4, h5⟩ := hel.rep i e k d h2 h3
  rw [← h1] at h4
  exact ⟨u, hnew j u (by rw [List.getElem?_append_right om, hxl]; exact h4), h5⟩
theorem setAt_new {cur vs : List Value} {n : Nat} (h : n + vs.length ≤ cur.length) (j : Nat) (u : Value) (hu : (cur.take n ++ vs)[j]? = some u) : (setAt cur n vs)[j]? = some u := by
 have hl : (cur.take n).length = n := by rw [List.length_take]; omega
 rw [setAt_get vs _ _ h]
 by_cases hj : j < n
 ·rw [List.getElem?_append_left om, List.getElem?_take, if_pos hj] at hu
  rw [if_neg om]
  exact hu
 ·rw [List.getElem?_append_right om, hl] at hu
  have := get_lt hu
  rw [if_pos om]
  exact hu
theorem take_new {arr : Array Value} {l : List Value} (h : arr.toList.take l.length = l) (j : Nat) (u : Value) (hu : l[j]? = some u) : arr.toList[j]? = some u := by
 have hj := get_lt hu
 rw [← h, List.getElem?_take, if_pos hj] at hu
 exact hu
theorem snd_appendM {c : Call} (hop : o.op = .call c) (hb : c.callee = .builtin .append) {x y : Operand} {t e : TypeId} (hargs : c.args.toList = [x, y]) (hty : c.argTypes.toList = [t, t]) (ht : P.underlying t = some (.slice e))
  {esz bytes : Nat} (hs : sizeT P e = some esz) (hby : bytesT P e = some bytes) {z : List D} (hz : zeroOf P e = some z) (hzl : z.length = esz) (h0 : 0 < esz) {x' y' : X} (hX : compX x = some x') (hY : compX y = some y')
  (he : evalOp cal q o.dst (.append e esz bytes true x' y') fr σ = some (d, fr', σ')) (i : Inv P g w fr σ a) : Snd P g w a o fr' σ' d := by
 have hvy := (val_ok i.s hY).1
 have hvx := (val_ok i.s hX).1
 obtain ⟨zv, z1, z2, z3, z4⟩ := zeroOf_ok (g := g) hz
 have hs' := hs
 unfold sizeT at hs
 unfold bytesT at hby
 simp only [Option.map_eq_some_iff] at hs hby
 obtain ⟨inf, hi, rfl⟩ := hs
 obtain ⟨inf', hi', rfl⟩ := hby
 rw [hi] at hi'
 cases hi'
 have hzv : inf.zero = some zv := by simpa [hi] using z1
 have hzs : zv.cells.size = inf.size := by rw [← hzl, ← z2.1]; simp
 have hσn : σ.length = g.n := i.h.n.symm
 simp only [evalOp] at he
 split at he
 ·cases he
 rename_i ys hys
 split at he
 rotate_left
 ·cases he
 rename_i hall
 simp only [if_true] at he
 have hallp : ∀ y ∈ ys, y.length = inf.size := fun y hy => by simpa using List.all_eq_true.1 hall y hy
 have hshow : ∀ {g1 : Gh}, g.Le g1 → 0 < ys.length → ∃ ad c vs, a.eval y = .slice (some ad) ys.length c ∧ Elts g1 vs ys inf.size ∧ ∀ (j : Nat) (u : Value), vs[j]? = some u → w.cell? (ad.add j) = some u := by
  intro g1 hle hy0
  have hne : ys ≠ [] := fun h => by rw [h] at hy0; simp at hy0
  have hsh : Shows g w (a.eval y) ys inf.size := by
   have hcases : (∃ own, fr.val y' = .sl ys own) ∨ ∃ ob off n esz', fr.val y' = .msl ob off n esz' := by
    cases hq : fr.val y' <;> rw [hq] at hys <;> simp [elems] at hys
    ·subst hys; exact .inl ⟨_, rfl⟩
    ·exact .inr ⟨_, _, _, _, rfl⟩
   rcases hcases with ⟨own, hq⟩ | ⟨ob, off, n, esz', hq⟩
   ·rw [hq] at hvy
    exact shows_sl i.h hvy hallp
   ·rw [hq] at hvy hys
    obtain ⟨h1, h2⟩ := shows_msl i.h hvy hys
    obtain ⟨av, cc, r1, r2⟩ := h1
    rcases r2 with r2 | ⟨ad, vs, r2, r3, r4⟩
    ·exact absurd r2.2.2 hne
    ·obtain ⟨y0, hy0m⟩ := List.exists_mem_of_ne_nil ys hne
     have : esz' = inf.size := (r3.each y0 hy0m).1.symm.trans (hallp y0 hy0m)
     subst this
     exact ⟨av, cc, r1, .inr ⟨ad, vs, r2, r3, r4⟩⟩
  obtain ⟨av, cc, r1, r2⟩ := hsh
  rcases r2 with r2 | ⟨ad, vs, r2, r3, r4⟩
  ·exact absurd r2.2.2 hne
  ·rw [r2] at r1
   exact ⟨ad, cc, vs, r1, r3.mono hle, r4⟩
 have hrun : ∀ v' w', (Builtin.append_ #[t, t] o.type #[a.eval x, a.eval y]).run P w = .ok v' w' → (execOp a.eval o).run P w = .ok (.value v') w' := fun v' w' hr => by
  refine call_builtin hop hb fun consts => ?_
  simp only [builtin]
  refine run_vmap' ?_
  have e1 : c.argTypes = #[t, t] := by
   have := congrArg List.toArray hty
   simpa using this
  have e2 : c.args.map a.eval = #[a.eval x, a.eval y] := by
   apply Array.ext'
   rw [Array.toList_map, hargs]
   rfl
  rw [e1, e2]
  exact hr
 split at he
 ·-- a row in memory
  rename_i ob off n esz' hx
  split at he
  rotate_left
  ·cases he
  rename_i cs e' hcs hrow
  split at he
  rotate_left
  ·cases he
  rename_i hc
  obtain ⟨rfl, rfl, rfl, hy0, hncs, hs1, hs2, c2, c3⟩ := hc
  cases he
  unfold room at c2
  rw [hx] at hvx
  obtain ⟨cap, hv, hob, hnc, hcz⟩ := rep_msl hvx
  rw [Nat.zero_add] at hcz
  obtain ⟨hω, cur, ty, hg, hsz, hI, hcell⟩ := i.h.cells ob cs hcs
  obtain ⟨cur', hg'⟩ := i.h.rows ob e' cs hcs hrow
  rw [hg] at hg'
  cases hg'
  intro next Q hn
  obtain ⟨i1, e1⟩ := i.toHand hcs
  obtain ⟨ad, cc, vs, hyv, hel, hmem⟩ := hshow e1.le hy0
  have hnsz : n * inf.size ≤ cur.size := by rw [hsz]; exact Nat.le_trans (Nat.mul_le_mul_right _ hnc) hcz
  have hxl : (cur.toList.take (n * inf.size)).length = n * inf.size := by rw [List.length_take]; simp; omega
  have hω1 : (g.tagAt (g.μ ob) .hand).ω (g.μ ob) = .hand := by simp [Gh.tagAt]
  have hxc : ∀ (j : Nat) (d : D), j < n * inf.size → cs[j]? = some d → ∃ u, (cur.toList.take (n * inf.size))[j]? = some u ∧ Rep (g.tagAt (g.μ ob) .hand) u d := fun j d hj hd => by
   obtain ⟨p1, u, p2, p3, _⟩ := hcell j d hd
   refine ⟨u, by rw [List.getElem?_take, if_pos hj]; simpa using p2, p3.mono e1.le (fun t off q => by subst q; simp [D.plain] at p1)⟩
  have hh62 : ¬ 4611686018427387904 ≤ n + ys.length := by omega
  by_cases hroom : n + ys.length ≤ cap
  ·have hfit : n * inf.size + vs.length ≤ cur.size := by
    rw [hel.len, ← Nat.add_mul, hsz]
    exact Nat.le_trans (Nat.mul_le_mul_right _ hroom) hcz
   have hr := run_append_room (P := P) w t o.type e' inf ht hi (g.μ ob) n cap cur hg ad ys.length cc vs hel.len hmem (hel.one h0) hroom hfit
   rw [seg_setAt _ _ _ (by simpa using hfit)] at hr
   obtain ⟨g3, e3, i3, q1, q2, q3⟩ := finRoom (new := (setAt cur.toList (n * inf.size) vs).toArray) i1 hω1 hg hI (rows_cells hncs hxl hs1 hs2 hxc hel (fun j u hu => by
    simpa using setAt_new (by simpa using hfit) j u hu))
   rw [← hv, ← hyv] at hr
   refine wp_value (hrun _ _ hr) (hn _ _ g3 (e1.trans e3) (i3.put o.dst ?_ (fun _ _ => .of_ne rfl) (fun s off e => by cases e)))
   have := Rep.msl (g := g3) g.n 0 (n + ys.length) inf.size cap q1 hroom (by
    have : g3.sz g.n = (setAt cur.toList (n * inf.size) vs).toArray.size := q3
    rw [this]
    simp [setAt_length]
    omega)
   have hμ : g3.μ g.n = g.μ ob := q2
   rw [hμ] at this
   rw [hσn]
   exact this
  ·have holds : ∀ j u, (cur.toList.take (n * inf.size))[j]? = some u → w.cell? ((⟨g.μ ob, 0, none⟩ : Addr).add j) = some u := fun j u hu => by
    rw [List.getElem?_take] at hu
    split at hu
    ·simp only [Addr.add_lit, World.cell?, hg, Option.isSome_none, Bool.false_eq_true, if_false, Nat.zero_add]
     simpa using hu
    ·cases hu
   have hr := run_append_grow (P := P) w t o.type e' inf zv ht hi hzv ⟨g.μ ob, 0, none⟩ n cap (cur.toList.take (n * inf.size)) hxl holds ad ys.length cc vs hel.len hmem om om (growslice_fits om c2)
   have hge := grownCap_ge w (n + ys.length) cap e'
   obtain ⟨g3, e3, i3, q1, q2, q3⟩ := finGrow (w' := w.drew.alloc _) (arr := (cur.toList.take (n * inf.size)).toArray ++ vs.toArray ++ Builtin.zeroCells zv.cells (grownCap w (n + ys.length) cap e' - (n + ys.length))) i1 rfl rfl rfl rfl (rows_cells (new := ((cur.toList.take (n * inf.size)).toArray ++ vs.toArray ++ Builtin.zeroCells zv.cells (grownCap w (n + ys.length) cap e' - (n + ys.length))).toList) hncs hxl hs1 hs2 hxc hel (fun j u hu => by
    simp only [Array.toList_append, List.append_assoc]
    rw [← List.append_assoc, List.getElem?_append_left (by simpa using get_lt hu)]
    simpa using hu))
   rw [← hv, ← hyv] at hr
   refine wp_value (hrun _ _ hr) (hn _ _ g3 (e1.trans e3) (i3.put o.dst ?_ (fun _ _ => .of_ne rfl) (fun s off e => by cases e)))
   have := Rep.msl (g := g3) g.n 0 (n + ys.length) inf.size (grownCap w (n + ys.length) cap e') q1 hge (by
    have hq : g3.sz g.n = _ := q3
    rw [hq]
    simp only [Array.size_append, List.size_toArray, size_zeroCells, hzs, hxl, hel.len, ← Nat.add_mul]
    rw [Nat.zero_add]
    exact Nat.mul_le_mul_right _ om)
   have hμ : g3.μ g.n = w.heap.size := q2
   rw [hμ] at this
   rw [hσn]
   exact this
 ·-- nothing yet
  rename_i own hx
  split at he
  rotate_left
  ·cases he
  rename_i e' fr1 hd
  split at he
  rotate_left
  ·cases he
  rename_i hc
  obtain ⟨rfl, hy0, hs2, c2, c3⟩ := hc
  cases he
  unfold room at c2
  intro next Q hn
  obtain ⟨g1, k1, k2, k3, k4, k5, k6, k7, k8, k9, k10⟩ := take_ok i hX .hand
  rw [hd] at k2 k3 k4
  simp only [] at k2 k3 k4
  obtain ⟨inf2, xs, o1, o2, o3, o4, o5⟩ := own_strict hi h0 k4
  rw [hi] at o1
  cases o1
  have hxs : xs = [] := List.eq_nil_of_length_eq_zero (by simpa using o4.1)
  subst hxs
  obtain ⟨ad, cc, vs0, hyv, hel0, hmem0⟩ := hshow k1.le hy0
  have hsh1 : Shows g1 w (a.eval y) ys inf.size := ⟨some ad, cc, hyv, .inr ⟨ad, vs0, rfl, hel0, hmem0⟩⟩
  rcases append_cases o.type ht hi hzv hzs h0 o4 hsh1 (by simpa using c2) (by simpa using c3) with ⟨rfl, _⟩ | ⟨vs, hel, hcase⟩
  ·simp at hy0
  have hrc : ∀ {new : List Value}, (∀ (j : Nat) (u : Value), vs[j]? = some u → new[j]? = some u) → ∀ (j : Nat) (d : D), ys.flatten[j]? = some d → calm1 d = true ∧ ∃ u, new[j]? = some u ∧ Rep g1 u d := fun {new} hnew j d hd => by
   have := rows_cells (g1 := g1) (cs := []) (n := 0) (sz := inf.size) (xs := []) (vs := vs) (ys := ys) (new := new) (by simp) (by simp) (by simp) hs2 (fun j d hj => by simp at hj) hel (fun j u hu => hnew j u (by simpa using hu)) j d (by simpa using hd)
   exact this
  rcases hcase with ⟨b, cap, cur, hv, hg, hroom, hcm, hcs, htake, hr⟩ | ⟨cap, arr, w', hroom, hcm, hasz, htake, q1, q2, q3, q4, hr⟩
  ·obtain ⟨hω, hfree⟩ := o5 b (by rw [hv]; rfl)
   simp only [List.length_nil, Nat.zero_mul, Nat.zero_add] at hr hroom hfree
   have hfit : vs.length ≤ cur.size := by rw [hel.len, hcs]; exact Nat.mul_le_mul_right _ hroom
   obtain ⟨g3, e3, i3, q1, q2, q3⟩ := finRoom (new := (setAt cur.toList 0 vs).toArray) k2 hω hg (fun off => hfree off (Nat.zero_le _)) (hrc (fun j u hu => by
    simpa using setAt_new (n := 0) (by simpa using hfit) j u (by simpa using hu)))
   refine wp_value (hrun _ _ hr) (hn _ _ g3 (k1.trans e3) (i3.put o.dst ?_ (fun _ _ => .of_ne rfl) (fun s off e => by cases e)))
   have := Rep.msl (g := g3) g1.n 0 ys.length inf.size cap q1 hroom (by
    have hq : g3.sz g1.n = _ := q3
    rw [hq]
    simp [setAt_length]
    omega)
   have hμ : g3.μ g1.n = b := q2
   rw [hμ] at this
   rw [hσn, ← k8]
   exact this
  ·simp only [List.length_nil, Nat.zero_add, List.nil_append] at hr hroom htake
   obtain ⟨g3, e3, i3, r1, r2, r3⟩ := finGrow k2 q1 q2 q3 q4 (hrc (new := arr.toList) (fun j u hu => take_new htake j u hu))
   refine wp_value (hrun _ _ hr) (hn _ _ g3 (k1.trans e3) (i3.put o.dst ?_ (fun _ _ => .of_ne rfl) (fun s off e => by cases e)))
   have := Rep.msl (g := g3) g1.n 0 ys.length inf.size cap r1 hroom (by
    have hq : g3.sz g1.n = _ := r3
    rw [hq]
    omega)
   have hμ : g3.μ g1.n = w.heap.size := r2
   rw [hμ] at this
   rw [hσn, ← k8]
   exact this
 ·cases he
theorem snd_buildM {t : TypeId} {n : Nat} {parts : Array (Nat × Operand)} (hop : o.op = .buildSlice t n parts) {e : TypeId} (ht : P.underlying t = some (.slice e)) {esz : Nat} (hs : sizeT P e = some esz) {z : List D} (hz : zeroOf P e = some z)
  (hzl : z.length = esz) (h0 : 0 < esz) (hn : n * esz ≤ 16777216) {ps : List (Nat × X)} (hps : partsE parts.toList = some ps)
  (he : evalOp cal q o.dst (.buildM e esz n z ps) fr σ = some (d, fr', σ')) (i : Inv P g w fr σ a) : Snd P g w a o fr' σ' d := by
 simp only [evalOp] at he
 split at he
 rotate_left
 ·cases he
 rename_i r h1
 split at he
 rotate_left
 ·cases he
 rename_i hc
 obtain ⟨hn0, hcalm⟩ := hc
 cases he
 obtain ⟨zv, z1, z2, z3, z4⟩ := zeroOf_ok (g := g) hz
 unfold sizeT at hs
 simp only [Option.map_eq_some_iff] at hs
 obtain ⟨inf, hi, rfl⟩ := hs
 have hzv : inf.zero = some zv := by simpa [hi] using z1
 obtain ⟨out, o1, o2⟩ := fillE_run (g := g) _ _ _ _ r (partsE_rep i.s hps) (zero_elts (n := n) z2 hzl z3) h1
 have hlen : r.length = n := by
  have : ∀ (ps : List (Nat × D)) (es r : List (List D)), fillE es inf.size ps = some r → r.length = es.length := by
   intro ps
   induction ps with
   | nil => intro es r h; simp only [fillE, Option.some.injEq] at h; rw [h]
   | cons x xs ih =>
    intro es r h
    simp only [fillE] at h
    split at h
    ·rw [ih _ _ h]; simp
    ·cases h
  rw [this _ _ _ h1]
  simp
 have hrun : (execOp a.eval o).run P w = .ok (.value (.slice (some ⟨w.heap.size, 0, none⟩) n n)) (w.alloc (.cells out e)) := by
  simp only [execOp, hop]
  refine run_vmap' ?_
  refine run_buildSlice w t e n _ out inf zv ht hi hzv om ?_ ?_
  ·intro h
   rcases Nat.mul_eq_zero.1 h with h | h <;> omega
  ·simpa using o1
 obtain ⟨g3, e3, i3, q1, q2, q3⟩ := finGrow (w' := w.alloc (.cells out e)) (e := e) (arr := out) i rfl rfl rfl rfl (cs := r.flatten) (fun j d hd => by
  have := rows_cells (g1 := g) (cs := []) (n := 0) (sz := inf.size) (xs := []) (vs := out.toList) (ys := r) (new := out.toList) (by simp) (by simp) (by simp) hcalm (fun j d hj => by simp at hj) o2 (fun j u hu => by simpa using hu) j d (by simpa using hd)
  exact this)
 have hσn : σ.length = g.n := i.h.n.symm
 intro next Q hn'
 refine wp_value hrun (hn' _ _ g3 e3 (i3.put o.dst ?_ (fun _ _ => .of_ne rfl) (fun s off e => by cases e)))
 have := Rep.msl (g := g3) g.n 0 n inf.size n q1 (Nat.le_refl _) (by
  have hq : g3.sz g.n = out.size := q3
  rw [hq]
  have hl := o2.len
  rw [hlen] at hl
  simp only [Array.length_toList] at hl
  omega)
 have hμ : g3.μ g.n = w.heap.size := q2
 rw [hμ] at this
 rw [hσn]
 exact this
theorem zeroCells_at (z : Array Value) (n i j : Nat) (hi : i < n) (hj : j < z.size) : (Builtin.zeroCells z n)[i * z.size + j]? = z[j]? := by
 have hlt : i * z.size + j < n * z.size := by
  have : (i + 1) * z.size ≤ n * z.size := Nat.mul_le_mul_right _ hi
  rw [Nat.add_mul] at this
  omega
 have hm : (i * z.size + j) % z.size = j := by
  rw [Nat.mul_comm, Nat.mul_add_mod, Nat.mod_eq_of_lt hj]
 unfold Builtin.zeroCells
 rw [Array.getElem?_map]
 simp only [Array.getElem?_range, hlt, if_true, Option.map_some, hm]
 rw [getElem!_pos z j hj, Array.getElem?_eq_getElem hj]
theorem snd_clear {c : Call} (hop : o.op = .call c) (hb : c.callee = .builtin .clear) {x : Operand} {t e : TypeId} (hargs : c.args.toList = [x]) (hty : c.argTypes.toList = [t]) (ht : P.underlying t = some (.slice e))
  {esz : Nat} {z : List D} (hz : zeroOf P e = some z) (hzl : z.length = esz) {x' : X} (hX : compX x = some x')
  (he : evalOp cal q o.dst (.clear esz z x') fr σ = some (d, fr', σ')) (i : Inv P g w fr σ a) : Snd P g w a o fr' σ' d := by
 have hv := (val_ok i.s hX).1
 have head : ∀ w', (Builtin.clear_ #[t] o.type #[a.eval x]).run P w = .ok (.tuple #[]) w' → (execOp a.eval o).run P w = .ok (.value (.tuple #[])) w' := fun w' hr => by
  refine call_builtin hop hb fun consts => ?_
  simp only [builtin]
  refine run_vmap' ?_
  have e1 : c.argTypes = #[t] := by simpa using congrArg List.toArray hty
  have e2 : c.args.map a.eval = #[a.eval x] := by
   apply Array.ext'
   rw [Array.toList_map, hargs]
   rfl
  rw [e1, e2]
  exact hr
 have fin0 : (∃ ad cap, a.eval x = .slice ad 0 cap) → Snd P g w a o fr σ .junk := fun ⟨ad, cap, hx⟩ next Q hn => by
  refine wp_value (head w ?_) (hn _ _ g (.refl g w) (i.put o.dst (.junk _) (fun _ _ => .of_ne rfl) (fun s off e => by cases e)))
  unfold Builtin.clear_
  simp only [List.getElem?_toArray, List.getElem?_cons_zero, hx]
  rw [run_bo (run_und ht)]
  cases ad <;> rfl
 simp only [evalOp] at he
 split at he
 ·rename_i own hx
  cases he
  rw [hx] at hv
  generalize hvx : a.eval x = vx at hv
  cases hv with
  | sl ad len cap b off sz es own V hl _ _ _ _ _ _ =>
   have hl0 : len = 0 := by simpa using hl
   subst hl0
   exact fin0 ⟨ad, cap, hvx⟩
 ·rename_i ob off n esz' hx
  rw [hx] at hv
  obtain ⟨cap, hvx, hob, hnc, hcz⟩ := rep_msl hv
  split at he
  ·rename_i hn0
   cases he
   subst hn0
   exact fin0 ⟨_, _, hvx⟩
  rename_i hn0
  split at he
  rotate_left
  ·cases he
  rename_i hes
  subst hes
  simp only [Option.map_eq_some_iff] at he
  obtain ⟨⟨fr2, σ2⟩, h1, h2⟩ := he
  cases h2
  simp only [storeAt] at h1
  split at h1
  rotate_left
  ·cases h1
  rename_i cs hcs
  split at h1
  rotate_left
  ·cases h1
  rename_i hle
  cases h1
  intro next Q hn
  obtain ⟨zv, z1, z2, z3, z4⟩ := zeroOf_ok (g := g) hz
  obtain ⟨hω, hblk⟩ := i.h.cells ob cs hcs
  have hzs : zv.cells.size = esz' := by rw [← hzl, ← z2.1]; simp
  have hrep : AllRep (Rep g) (Value.agg (Builtin.zeroCells zv.cells n)).cells.toList (List.replicate n (z.map D.strip)).flatten := by
   refine ⟨?_, fun k u x h1 h2 => ?_⟩
   ·show (Builtin.zeroCells zv.cells n).toList.length = _
    rw [Array.length_toList, size_zeroCells, hzs]
    simp [hzl]
   ·have h1' : (Builtin.zeroCells zv.cells n)[k]? = some u := by simpa [Value.cells] using h1
    obtain ⟨i1, e1, j1, q1, q2, q3⟩ := flat_at (sz := esz') (List.replicate n (z.map D.strip)) (fun y hy => by rw [(List.mem_replicate.1 hy).2]; simpa using hzl) k x h2
    have hi1 : i1 < n := by have := (List.getElem?_eq_some_iff.1 q2).1; simpa using this
    have he1 : e1 = z.map D.strip := by
     have := List.mem_of_getElem? q2
     exact (List.mem_replicate.1 this).2
    subst he1
    simp only [List.getElem?_map, Option.map_eq_some_iff] at q3
    obtain ⟨x0, q3, rfl⟩ := q3
    have hj1 : j1 < esz' := by rw [← hzl]; exact (List.getElem?_eq_some_iff.1 q3).1
    obtain ⟨u0, hu0⟩ : ∃ u0, zv.cells.toList[j1]? = some u0 := ⟨_, List.getElem?_eq_getElem (by rw [Array.length_toList, hzs]; exact hj1)⟩
    have hr0 := (z2.2 j1 u0 x0 hu0 q3).strip
    have : u = u0 := by
     have h3 := zeroCells_at zv.cells n i1 j1 hi1 (by rw [hzs]; exact hj1)
     rw [hzs, ← q1] at h3
     rw [h3] at h1'
     have hu0' : zv.cells[j1]? = some u0 := by simpa using hu0
     rw [hu0'] at h1'
     exact (Option.some.inj h1').symm
    rw [this]
    exact hr0
  have hplain : (List.replicate n (z.map D.strip)).flatten.all D.plain = true := by
   refine List.all_eq_true.2 fun x hx => ?_
   obtain ⟨y, hy, hxy⟩ := List.mem_flatten.1 hx
   rw [(List.mem_replicate.1 hy).2] at hxy
   obtain ⟨x0, hx0, rfl⟩ := List.mem_map.1 hxy
   rw [plain_strip]
   exact plain_of_pure1 (List.all_eq_true.1 z3 x0 hx0)
  obtain ⟨arr, ty, k1, k2, k3, k4⟩ := blk_store hblk hle hrep hplain (fun j u e hj hej => by
   have := List.mem_of_getElem? hej
   obtain ⟨y, hy, hxy⟩ := List.mem_flatten.1 this
   rw [(List.mem_replicate.1 hy).2] at hxy
   obtain ⟨x0, hx0, rfl⟩ := List.mem_map.1 hxy
   exact .of_strip) (fun j => by rw [hω]; simp)
  have hst : (storeCells ⟨g.μ ob, off, none⟩ (Builtin.zeroCells zv.cells n).toList).run P w = .ok () (w.setRow (g.μ ob) (setAt arr.toList off (Builtin.zeroCells zv.cells n).toList).toArray) := by
   have hl : (Builtin.zeroCells zv.cells n).toList.length = (List.replicate n (z.map D.strip)).flatten.length := hrep.1
   have := run_storeCells_at P (g.μ ob) off ty (Builtin.zeroCells zv.cells n).toList 0 arr w k1 om (fun u hu => by
    obtain ⟨k, hk⟩ := List.mem_iff_getElem?.1 hu
    have hkl : k < (List.replicate n (z.map D.strip)).flatten.length := by rw [← hl]; exact (List.getElem?_eq_some_iff.1 hk).1
    exact (hrep.2 k u _ hk (List.getElem?_eq_getElem hkl)).one (all_get hplain (List.getElem?_eq_getElem hkl)))
   rw [Nat.add_zero] at this
   rw [seg_setAt _ _ _ (by simp only [Array.length_toList] at hl ⊢; omega)] at this
   exact this
  have inv := i.writeObj hcs (Keep.setRow k1) (imm_setRow i.h k1 k3) k4 (fun arr2 ty2 h2 => by
   rw [k1] at h2
   cases h2
   exact ⟨_, by rw [setRow_heap w _ _ _ _ _ k1, if_pos rfl]⟩)
  refine wp_value (head _ ?_) (hn _ _ g (Ext.setRow k1 (by rw [hω]; rfl)) (inv.put o.dst (.junk _) (fun _ _ => .of_ne rfl) (fun s off e => by cases e)))
  unfold Builtin.clear_
  simp only [List.getElem?_toArray, List.getElem?_cons_zero, hvx]
  rw [run_bo (run_und ht)]
  obtain ⟨m, rfl⟩ : ∃ m, n = m + 1 := ⟨n - 1, om⟩
  simp only []
  rw [run_bo (zeroValue_run z1), run_bo hst]
  rfl
 ·cases he
end
end Go.Abs

namespace Go.Abs
open Go Go.RowKit
section
variable {P : Program} {g g' : Gh} {w w' : World} {fr fr' : Fr} {σ σ' : St} {a : Act} {o : Oper} {d : D} {cal : Cal} {q : Bool} {mu : List Nat} {ops : List Oper}
theorem snd_indexStr {t : TypeId} {x y : Operand} (hop : o.op = .index t x y) (ht : P.underlying t = some .string)
  {x' y' : X} (hX : compX x = some x') (hY : compX y = some y') (he : evalOp cal q o.dst (.indexStr x' y') fr σ = some (d, fr', σ')) (i : Inv P g w fr σ a) : Snd P g w a o fr' σ' d := by
 have hv := (val_ok i.s hX).1
 have hy := (val_ok i.s hY).1
 simp only [evalOp] at he
 split at he
 ·cases he
 ·rename_i m hn
  obtain ⟨k, hyv, _⟩ := asIntOf_run (P := P) (w := w) hy hn
  split at he
  ·rename_i hb
   split at he
   ·rename_i l hx
    rw [hx] at hv
    obtain ⟨s, h1, rfl⟩ := rep_str hv
    simp only [Option.map_eq_some_iff] at he
    obtain ⟨b, h2, he⟩ := he
    cases he
    refine snd_plain i (v := .int .u8 b.toNat) ?_ (.int _ _) rfl rfl
    simp only [execOp, hop, h1, hyv]
    refine run_vmap ?_
    unfold Instr.index
    rw [run_bo (show (asIntOf (Value.int k m)).run P w = .ok (k, m) w from rfl)]
    simp only
    rw [run_bo (run_und ht)]
    have hs : s[m.toNat]? = some b := by
     have hlt : m.toNat < s.data.toList.length := (List.getElem?_eq_some_iff.1 h2).1
     have hlt' : m.toNat < s.size := by simpa using hlt
     rw [getElem?_pos s m.toNat hlt']
     have := (List.getElem?_eq_some_iff.1 h2).2
     simp only [Array.getElem_toList] at this
     exact congrArg some this
    simp only [hb, if_true, hs]
    rfl
   ·cases he
  ·cases he
theorem mapRep_erase {ents : List MapEntry} {es : List (D × D)} (h : MapRow g ents es) (j : Nat) : MapRow g (ents.eraseIdx j) (es.eraseIdx j) := by
 refine ⟨by simp [List.length_eraseIdx, h.1], fun i e kd h1 h2 => ?_⟩
 rw [List.getElem?_eraseIdx] at h1 h2
 split at h1
 ·rename_i hlt
  rw [if_pos hlt] at h2
  exact h.2 i e kd h1 h2
 ·rename_i hlt
  rw [if_neg hlt] at h2
  exact h.2 (i + 1) e kd h1 h2
theorem toList_eraseIf (ents : Array MapEntry) (j : Nat) : (ents.eraseIdxIfInBounds j).toList = ents.toList.eraseIdx j := by
 unfold Array.eraseIdxIfInBounds
 split
 ·simp
 ·rename_i h
  rw [List.eraseIdx_of_length_le (by simpa using h)]
theorem snd_delete {c : Call} (hop : o.op = .call c) (hb : c.callee = .builtin .delete) {x y : Operand} {t kt e : TypeId} (hargs : c.args.toList = [x, y]) (hty : c.argTypes.toList = [t, kt]) (ht : P.underlying t = some (.map kt e))
  {kk : Nat} (hkk : keyKind P kt = some kk) {x' y' : X} (hX : compX x = some x') (hY : compX y = some y')
  (he : evalOp cal q o.dst (.delete kk x' y') fr σ = some (d, fr', σ')) (i : Inv P g w fr σ a) : Snd P g w a o fr' σ' d := by
 have hv := (val_ok i.s hX).1
 have hy := (val_ok i.s hY).1
 simp only [evalOp] at he
 split at he <;> first | (cases he; done) | skip
 rename_i ob hx
 split at he <;> first | (cases he; done) | skip
 rename_i es hm
 split at he <;> first | (cases he; done) | skip
 rename_i hkd
 simp only [Option.map_eq_some_iff] at he
 obtain ⟨r, hdel, he⟩ := he
 cases he
 rw [hx] at hv
 have hvx : a.eval x = .map (some (g.μ ob)) := by
  generalize a.eval x = vx at hv
  cases hv
  rfl
 obtain ⟨ho, ents, clock, h2, ⟨es', hpm, hko, h3⟩, hbn⟩ := i.h.maps ob es hm
 have hkr := KeysOK.del hdel hko
 obtain ⟨r', hdel', hpr⟩ := delKey_perm hpm hko hdel
 have fin : ∀ (ents' : Array MapEntry), (execOp a.eval o).run P w = .ok (.value (.tuple #[])) { w with heap := w.heap.setIfInBounds (g.μ ob) (.map ents' clock) } → MapRow g ents'.toList r' → Born ents' clock →
   Snd P g w a o fr (σ.set ob (.map r)) .junk := fun ents' hrun hrep hbn' next Q hn => by
  have hk := setObj_ext (g := g) (ents' := ents') (clock' := clock) h2
  refine wp_value hrun (hn _ _ g (Ext.of_keep hk (fun c hc _ => by rw [hc, ho]; rfl) rfl rfl rfl) ((i.writeMap hm hk (imm_map i.h h2) ⟨ents', clock, ?_, ⟨r', hpr, hkr, hrep⟩, hbn'⟩).put o.dst (.junk _) (fun _ _ => .of_ne rfl) (fun s off e => by cases e)))
  simp [lt_of_heap h2]
 have head : ∀ (find : Option (Nat × Value)) (ents' : Array MapEntry), (Instr.findKey kt (a.eval y) ents.toList).run P w = .ok find w → ents' = (match find with | some (j, _) => ents.eraseIdxIfInBounds j | none => ents) →
   (execOp a.eval o).run P w = .ok (.value (.tuple #[])) { w with heap := w.heap.setIfInBounds (g.μ ob) (.map ents' clock) } := fun find ents' hf he => by
  subst he
  refine call_builtin hop hb fun consts => ?_
  simp only [builtin]
  refine run_vmap' ?_
  unfold Builtin.delete_
  have e1 : c.argTypes = #[t, kt] := by simpa using congrArg List.toArray hty
  have e2 : c.args.map a.eval = #[a.eval x, a.eval y] := by
   apply Array.ext'
   rw [Array.toList_map, hargs]
   rfl
  rw [e1, e2]
  simp only [List.getElem?_toArray, List.getElem?_cons_zero, List.getElem?_cons_succ]
  rw [run_bo (run_und ht)]
  simp only [hvx]
  rw [run_bo (getMap_run h2)]
  simp only
  rw [run_bo (checkKey_run hkk hy hkd _), run_bo hf]
  cases find with
  | none => rw [run_bo (setMap_run h2)]; rfl
  | some p => rw [run_bo (setMap_run h2)]; rfl
 obtain ⟨s, hs⟩ := delKey_find hdel'
 rcases findKey_run (w := w) hkk hy h3 hs with ⟨_, q0, q1⟩ | ⟨j, e', kd, q1, q2, _, q4, q5, q3⟩
 ·have := delKey_miss q0
  rw [this] at hdel'
  cases hdel'
  exact fin ents (head none ents q1 rfl) h3 hbn
 ·have := delKey_hit q2 q4 q5
  rw [this] at hdel'
  cases hdel'
  exact fin (ents.eraseIdxIfInBounds j) (head (some (j, e'.val)) _ q3 rfl) (by rw [toList_eraseIf]; exact mapRep_erase h3 j) (born_sub hbn (by rw [toList_eraseIf]; exact List.eraseIdx_sublist _ _))
end
end Go.Abs

namespace Go.Abs
open Go Go.RowKit
section
variable {P : Program} {g g' : Gh} {w w' : World} {fr fr' : Fr} {σ σ' : St} {a : Act} {o : Oper} {d : D} {cal : Cal} {q : Bool} {mu : List Nat} {ops : List Oper}
theorem flat_get {z : List D} (h0 : 0 < z.length) : ∀ (n k : Nat) (d : D), (List.replicate n z).flatten[k]? = some d → z[k % z.length]? = some d ∧ k < n * z.length
 | 0, k, d, h => by simp at h
 | n + 1, k, d, h => by
  rw [List.replicate_succ, List.flatten_cons] at h
  by_cases hk : k < z.length
  ·rw [List.getElem?_append_left hk] at h
   rw [Nat.mod_eq_of_lt hk]
   refine ⟨h, ?_⟩
   rw [Nat.add_mul]
   omega
  ·rw [List.getElem?_append_right om] at h
   obtain ⟨h1, h2⟩ := flat_get h0 n _ d h
   rw [← Nat.mod_eq_sub_mod om] at h1
   refine ⟨h1, ?_⟩
   rw [Nat.add_mul]
   omega
theorem elemT_und {t e : TypeId} (h : elemT P t = some e) : P.underlying t = some (.slice e) := by
 unfold elemT at h
 split at h
 ·rename_i hu
  cases h
  exact hu
 ·cases h
theorem snd_mkslice {t : TypeId} {l c : Operand} (hop : o.op = .makeSlice t l c) {e : TypeId} (ht : P.underlying t = some (.slice e)) {esz bytes : Nat} (hs : sizeT P e = some esz) (hby : bytesT P e = some bytes) {z : List D} (hz : zeroOf P e = some z)
  (hzl : z.length = esz) (h0 : 0 < esz) {l' c' : X} (hL : compX l = some l') (hC : compX c = some c')
  (he : evalOp cal q o.dst (.mkslice esz bytes z l' c') fr σ = some (d, fr', σ')) (i : Inv P g w fr σ a) : Snd P g w a o fr' σ' d := by
 have hl := (val_ok i.s hL).1
 have hc := (val_ok i.s hC).1
 simp only [evalOp] at he
 split at he <;> first | (cases he; done) | skip
 rename_i n n2 q1 q2
 split at he <;> first | (cases he; done) | skip
 rename_i hcond
 obtain ⟨c1, c2, c3, c4⟩ := hcond
 cases he
 subst c2
 rw [q1] at hl
 rw [q2] at hc
 have el := rep_int hl
 have ec := rep_int hc
 obtain ⟨inf, hi, hisz⟩ : ∃ inf, P.info? e = some inf ∧ inf.size = esz := by
  unfold sizeT at hs
  rw [Option.map_eq_some_iff] at hs
  exact hs
 have hib : inf.bytes = bytes := by
  unfold bytesT at hby
  rw [hi] at hby
  simpa using hby
 obtain ⟨zv, z1, z2, z3, z4⟩ := zeroOf_ok (g := g) hz
 have hzv : inf.zero = some zv := by rw [hi] at z1; simpa using z1
 intro next Q hn
 have hm := run_make (P := P) (w := w) t e inf zv ht hi hzv .i64 .i64 n n c1 (Int.le_refl n) (by rw [hib, Int.mul_comm]; omega) om
 have hrun : (execOp a.eval o).run P w = .ok (.value (.slice (some ⟨w.heap.size, 0, none⟩) n.toNat n.toNat)) (w.alloc (.cells (madeCells zv.cells (n.toNat * inf.size)) e)) := by
  simp only [execOp, hop]
  refine run_vmap' ?_
  rw [el, ec]
  exact hm
 have hzc : zv.cells.size = z.length := by rw [← z2.1]; simp
 have i1 := i.alloc (.cells (madeCells zv.cells (n.toNat * inf.size)) e) .hand
 obtain ⟨i2, e2⟩ := i1.push (b := w.heap.size) (sz := n.toNat * inf.size) (by simp [Gh.tagAt]) (.cells (List.replicate n.toNat z).flatten) (fun cs h => by
  cases h
  refine ⟨_, e, heap_new w _, size_madeCells _ _, fun off => imm_none i.h (Nat.le_refl _) off, fun j d hd => ?_⟩
  obtain ⟨k1, k2⟩ := flat_get om _ _ _ hd
  obtain ⟨zv', y1, y2, _, y4⟩ := zeroOf_ok (g := (g.tagAt w.heap.size .hand).push w.heap.size (n.toNat * inf.size)) hz
  have : zv' = zv := by rw [z1] at y1; exact (Option.some.inj y1).symm
  subst this
  obtain ⟨u, u1, u2⟩ := y2.get k1
  have hp : d.plain = true := plain_of_pure1 (all_get z3 k1)
  refine ⟨hp, u, ?_, u2, own_nil (y4 _ u d u1 k1).1 (y4 _ u d u1 k1).2⟩
  have hlt : j < n.toNat * inf.size := by rw [hisz, ← hzl]; exact k2
  simp only [madeCells, Array.getElem?_map, Array.getElem?_range, hlt, if_true, Option.map_some, hzc]
  have hq : zv'.cells[j % z.length]? = some u := by simpa using u1
  rw [getElem!_def, hq]) (fun es h => by cases h)
 refine wp_value hrun (hn _ _ _ ((Ext.alloc g w _ .hand).trans e2) (i2.put o.dst ?_ (fun _ _ => .of_ne rfl) (fun s off e => by cases e)))
 have := Rep.msl (g := (g.tagAt w.heap.size .hand).push w.heap.size (n.toNat * inf.size)) g.n 0 n.toNat esz n.toNat (Nat.lt_succ_self _) (Nat.le_refl _) (by simp [Gh.push, Gh.tagAt, hisz])
 rw [← i.h.n]
 simpa [Gh.push, Gh.tagAt] using this
theorem snd_callOp (hc : CalOK P cal) (hci : CalIn P cal) {c : Call} (hop : o.op = .call c) {m : MOp} (h : compCall P mu c = some m) (he : evalOp cal q o.dst m fr σ = some (d, fr', σ')) (i : Inv P g w fr σ a) : Snd P g w a o fr' σ' d := by
 unfold compCall at h
 split at h
 ·rename_i hb
  split at h <;> first | (cases h; done) | skip
  rename_i x t ha ht
  split at h <;> first | (cases h; done) | skip
  ·rename_i hu hX
   cases h
   exact snd_lenS hop hb ha ht hu hX he i
  ·rename_i hu hX
   cases h
   exact snd_lenT hop hb ha ht hu hX he i
  ·rename_i hu hX
   cases h
   exact snd_lenM (n := 0) hop hb ha ht hu hX he i
 ·rename_i hb
  split at h <;> first | (cases h; done) | skip
  rename_i x y t u ha ht
  split at h <;> first | (cases h; done) | skip
  rename_i x' y' e hX hY hE
  split at h <;> first | (cases h; done) | skip
  rename_i s b z hs hby hz
  split at h <;> first | (cases h; done) | skip
  rename_i hcond
  obtain ⟨rfl, hzl, h0⟩ := hcond
  cases h
  generalize hmu : mu.contains e = bm at he
  cases bm with
  | false => exact snd_append hop hb ha ht (elemT_und hE) hs hby hz hzl h0 hX hY he i
  | true => exact snd_appendM hop hb ha ht (elemT_und hE) hs hby hz hzl h0 hX hY he i
 ·rename_i hb
  rw [Option.map_eq_some_iff] at h
  obtain ⟨xs, hX, rfl⟩ := h
  exact snd_max hop hb hX he i
 ·rename_i hb
  rw [Option.map_eq_some_iff] at h
  obtain ⟨xs, hX, rfl⟩ := h
  exact snd_min hop hb hX he i
 ·rename_i hb
  split at h <;> first | (cases h; done) | skip
  rename_i x y t u ha ht
  split at h <;> first | (cases h; done) | skip
  rename_i kt x' y' e hu hX hY
  split at h <;> first | (cases h; done) | skip
  rename_i hk
  subst hk
  rw [Option.map_eq_some_iff] at h
  obtain ⟨kk, hkk, rfl⟩ := h
  exact snd_delete hop hb ha ht hu hkk hX hY he i
 ·rename_i hb
  split at h <;> first | (cases h; done) | skip
  rename_i x t ha ht
  split at h <;> first | (cases h; done) | skip
  rename_i x' e hX hE
  split at h <;> first | (cases h; done) | skip
  rename_i s z hs hz
  split at h <;> first | (cases h; done) | skip
  rename_i hk
  cases h
  exact snd_clear hop hb ha ht (elemT_und hE) hz hk.1 hX he i
 ·rename_i f hb
  rw [Option.map_eq_some_iff] at h
  obtain ⟨xs, hX, rfl⟩ := h
  exact snd_call hc hci hop hb hX he i
 ·rename_i f hb
  rw [Option.map_eq_some_iff] at h
  obtain ⟨xs, hX, rfl⟩ := h
  exact snd_callv hc hci hop hb hX he i
 ·cases h
theorem snd_op (hc : CalOK P cal) (hci : CalIn P cal) {m : MOp} (h : compOp P mu ops o = some m) (he : evalOp cal q o.dst m fr σ = some (d, fr', σ')) (i : Inv P g w fr σ a) : Snd P g w a o fr' σ' d := by
 unfold compOp at h
 split at h
 ·-- move
  rename_i x hop
  split at h
  ·rename_i x' hX
   simp only [Option.some.injEq] at h
   subst h
   have key : ∀ st, evalOp cal q o.dst (.move x' st) fr σ = some (d, fr', σ') → Snd P g w a o fr' σ' d := fun st he => by
    cases st with
    | false => exact snd_moveCopy hop hX he i
    | true =>
     simp only [evalOp, if_true] at he
     cases he
     exact snd_take (.inl hop) hX rfl rfl i
   exact key _ he
  ·cases h
 ·-- assign nil
  rename_i hop
  split at h
  ·rename_i e hE
   split at h
   ·rename_i hok
    cases h
    exact snd_assignNil hop hok he i
   ·cases h
  ·cases h
 ·-- assign
  rename_i x _ hop
  rw [Option.map_eq_some_iff] at h
  obtain ⟨x', hX, rfl⟩ := h
  simp only [evalOp] at he
  cases he
  exact snd_take (.inr hop) hX rfl rfl i
 ·-- pick
  rename_i c x y hop
  split at h
  ·rename_i c' x' y' hC hX hY
   cases h
   exact snd_pick hop hC hX hY he i
  ·cases h
 ·-- alloc
  rename_i t hop
  rw [Option.map_eq_some_iff] at h
  obtain ⟨z, hz, rfl⟩ := h
  exact snd_alloc hop hz he i
 ·-- box
  rename_i t x hop
  rw [Option.map_eq_some_iff] at h
  obtain ⟨x', hX, rfl⟩ := h
  exact snd_box hop hX he i
 ·-- build
  rename_i t parts hop
  split at h
  ·rename_i z fs hz hu
   split at h
   ·rename_i hsz
    rw [Option.map_eq_some_iff] at h
    obtain ⟨ps, hps, rfl⟩ := h
    exact snd_buildS hop hz hu hsz hps he i
   ·cases h
  ·rename_i z n e hz hu
   split at h
   ·rename_i s hs
    rw [Option.map_eq_some_iff] at h
    obtain ⟨ps, hps, rfl⟩ := h
    exact snd_buildA hop hz hu hs hps he i
   ·cases h
  ·cases h
 ·-- buildSlice
  rename_i t n parts hop
  split at h
  ·rename_i e hE
   split at h
   ·rename_i s z ps hs hz hps
    split at h
    ·rename_i hcond
     cases h
     have key : ∀ bb : Bool, evalOp cal q o.dst (if bb = true then .buildM e s n z ps else .buildSlice e s n z ps) fr σ = some (d, fr', σ') → Snd P g w a o fr' σ' d := fun bb hb => by
      cases bb with
      | true => exact snd_buildM hop (elemT_und hE) hs hz hcond.1 hcond.2.1 hcond.2.2 hps hb i
      | false => exact snd_buildSlice hop (elemT_und hE) hs hz hcond.1 hcond.2.1 hcond.2.2 hps hb i
     exact key _ he
    ·cases h
   ·cases h
  ·cases h
 ·-- load
  rename_i t x hop
  split at h
  ·rename_i agg s x' hagg hs hX
   simp only [Option.some.injEq] at h
   subst h
   have key : ∀ st, evalOp cal q o.dst (.load agg s x' (!agg && st)) fr σ = some (d, fr', σ') → Snd P g w a o fr' σ' d := fun st he => by
    cases agg with
    | true => exact snd_load hop hagg hs hX he i
    | false =>
     cases st with
     | false => exact snd_load hop hagg hs hX he i
     | true => exact snd_loadSteal hop hagg hX he i
   exact key _ he
  ·cases h
 ·-- store
  rename_i t x y hop
  split at h
  ·rename_i s x' y' hs hX hY
   cases h
   exact snd_store hop hs hX hY he i
  ·cases h
 ·rename_i x hop
  rw [Option.map_eq_some_iff] at h
  obtain ⟨x', hX, rfl⟩ := h
  exact snd_nilCheck hop hX he i
 ·-- bin
  rename_i op t x y u hop
  unfold compBin at h
  split at h
  ·rename_i x' y' hu hX hY
   split at h
   ·cases h
    exact snd_eqb (neg := false) hop hu hX hY he i
   ·cases h
    exact snd_eqb (neg := true) hop hu hX hY he i
   ·cases h
  ·rename_i e x' hu hX hY
   split at h
   ·cases h
    exact snd_eqn (neg := false) hop hu hX hY he i
   ·cases h
    exact snd_eqn (neg := true) hop hu hX hY he i
   ·cases h
  ·rename_i fs x' y' n1 n2 hu hX hY
   split at h <;> first | (cases h; done) | skip
   rename_i hg
   split at h
   ·rw [Option.map_eq_some_iff] at h
    obtain ⟨n, hn, rfl⟩ := h
    exact snd_eqA (neg := false) hop (by simpa using hg) hn (by unfold isAggT; rw [hu]; rfl) hX hY he i
   ·rw [Option.map_eq_some_iff] at h
    obtain ⟨n, hn, rfl⟩ := h
    exact snd_eqA (neg := true) hop (by simpa using hg) hn (by unfold isAggT; rw [hu]; rfl) hX hY he i
   ·cases h
  ·rename_i m e x' y' n1 n2 hu hX hY
   split at h <;> first | (cases h; done) | skip
   rename_i hg
   split at h
   ·rw [Option.map_eq_some_iff] at h
    obtain ⟨n, hn, rfl⟩ := h
    exact snd_eqA (neg := false) hop (by simpa using hg) hn (by unfold isAggT; rw [hu]; rfl) hX hY he i
   ·rw [Option.map_eq_some_iff] at h
    obtain ⟨n, hn, rfl⟩ := h
    exact snd_eqA (neg := true) hop (by simpa using hg) hn (by unfold isAggT; rw [hu]; rfl) hX hY he i
   ·cases h
  ·rename_i td x' y' n1 n2 n3 n4 hu hX hY
   cases h
   exact snd_bin hop hX hY he i
  ·cases h
 ·rename_i op t x hop
  rw [Option.map_eq_some_iff] at h
  obtain ⟨x', hX, rfl⟩ := h
  exact snd_un hop hX he i
 ·-- convert
  rename_i s t x hop
  split at h
  ·rename_i k u x' ht hs hX
   cases h
   exact snd_conv hop ht (by rw [hs]; rfl) hX he i
  ·cases h
 ·-- makeFunc
  rename_i f first caps hop
  split at h
  ·rename_i hf
   rw [Option.map_eq_some_iff] at h
   obtain ⟨xs, hX, rfl⟩ := h
   exact snd_mkfunc hop hf hX he i
  ·cases h
 ·rename_i t hop
  cases h
  exact snd_mkmap hop he i
 ·-- makeSlice
  rename_i t l c hop
  split at h
  ·rename_i e hE
   split at h
   ·rename_i s b z l' c' hs hby hz hL hC
    split at h
    ·rename_i hcond
     cases h
     exact snd_mkslice hop (elemT_und hE) hs hby hz hcond.1 hcond.2 hL hC he i
    ·cases h
   ·cases h
  ·cases h
 ·-- slice
  rename_i t x lo hi hop
  split at h
  ·rename_i x' lo' hi' hX hlo hhi
   split at h
   ·rename_i e hu
    rw [Option.map_eq_some_iff] at h
    obtain ⟨s, hs, rfl⟩ := h
    exact snd_slice hop hu hs hX hlo hhi he i
   ·rename_i hu
    cases h
    exact snd_sliceStr hop hu hX hlo hhi he i
   ·cases h
  ·cases h
 ·-- fieldAddr
  rename_i s x f hop
  split at h
  ·rename_i fld x' hf hX
   split at h
   ·rename_i n hn
    cases h
    exact snd_fieldAddr hop hf hn hX he i
   ·cases h
  ·cases h
 ·-- field
  rename_i s x f hop
  split at h
  ·rename_i fld x' hf hX
   split at h
   ·rename_i agg sz hagg hsz
    cases h
    exact snd_field hop hf hagg hsz hX he i
   ·cases h
  ·cases h
 ·-- indexAddr
  rename_i t x y hop
  split at h
  ·rename_i x' y' hX hY
   split at h
   ·rename_i e hu
    rw [Option.map_eq_some_iff] at h
    obtain ⟨s, hs, rfl⟩ := h
    exact snd_indexAddr hop hu hs hX hY he i
   ·rename_i n e hu
    rw [Option.map_eq_some_iff] at h
    obtain ⟨s, hs, rfl⟩ := h
    exact snd_indexArrA hop hu hs hX hY he i
   ·cases h
  ·cases h
 ·-- index
  rename_i t x y hop
  split at h
  ·rename_i n e x' y' hu hX hY
   split at h
   ·rename_i agg s hagg hs
    cases h
    exact snd_indexArrV hop hu hs hagg hX hY he i
   ·cases h
  ·rename_i x' y' hu hX hY
   cases h
   exact snd_indexStr hop hu hX hY he i
  ·cases h
 ·-- lookup
  rename_i t x y ok hop
  split at h
  ·rename_i k e x' y' hu hX hY
   split at h
   ·rename_i kk agg z hkk hagg hz
    cases h
    exact snd_lookup hop hu hkk hagg hz hX hY he i
   ·cases h
  ·cases h
 ·-- mapUpdate
  rename_i t m' k x hop
  split at h
  ·rename_i kt e m1 k1 x1 hu hM hK hX
   rw [Option.map_eq_some_iff] at h
   obtain ⟨kk, hkk, h⟩ := h
   split at h
   ·cases h
    exact snd_mapUpdateP hop hu hkk hM hK hX he i
   ·cases h
    exact snd_mapUpdate hop hu hkk hM hK hX he i
  ·cases h
 ·rename_i x n hop
  rw [Option.map_eq_some_iff] at h
  obtain ⟨x', hX, rfl⟩ := h
  exact snd_extract hop hX he i
 ·cases h
  cases he
 ·cases h
  cases he
 ·rename_i c hop
  split at h
  ·rename_i e f hE hcal
   split at h
   ·rw [Option.map_eq_some_iff] at h
    obtain ⟨xs, hX, rfl⟩ := h
    exact snd_callM hc hci hop hcal hX he i
   ·exact snd_callOp hc hci hop h he i
  ·exact snd_callOp hc hci hop h he i
 ·-- defer
  rename_i c hop
  split at h
  ·rename_i t hcal
   rw [Option.map_eq_some_iff] at h
   obtain ⟨xs, hX, rfl⟩ := h
   exact snd_defer hop hcal hX he i
  ·cases h
 ·cases h
end
end Go.Abs
