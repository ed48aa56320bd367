import Derived.Test.YtnjoledlgacpeaaOps16
import Derived.LoopN
import Derived.Defers
set_option linter.unusedVariables false
set_option linter.unusedSimpArgs false
/-
  Code: sequences, choices, blocks, loops.
-/
namespace Go.Abs
open Go Go.RowKit

section
variable {P : Program} {g g' : Gh} {w w' : World} {fr fr' : Fr} {σ σ' : St} {a : Act} {o : Oper} {d : D} {cal : Cal} {q mu : Bool} {Q : Exit → Act → World → Prop}

theorem clearS_get (keep : List Nat) : ∀ (l : List D) (n i : Nat), (clearS keep n l)[i]? = (l[i]?).map fun d => if keep.contains (n + i) then keptD keep d else .junk
  | [], n, i => by simp [clearS]
  | d :: l, n, i => by
    cases i with
    | zero => simp [clearS]
    | succ i =>
      simp only [clearS, List.getElem?_cons_succ]
      rw [clearS_get keep l (n + 1) i]
      have : n + 1 + i = n + (i + 1) := by omega
      rw [this]

theorem clearB_get (keep : List Nat) : ∀ (l : List (Option (List D))) (n i : Nat), (clearB keep n l)[i]? = (l[i]?).map fun b => if keep.contains (n + i) then b else none
  | [], n, i => by simp [clearB]
  | d :: l, n, i => by
    cases i with
    | zero => simp [clearB]
    | succ i =>
      simp only [clearB, List.getElem?_cons_succ]
      rw [clearB_get keep l (n + 1) i]
      have : n + 1 + i = n + (i + 1) := by omega
      rw [this]

theorem clearS_len (keep : List Nat) : ∀ (l : List D) (n : Nat), (clearS keep n l).length = l.length
  | [], _ => rfl
  | _ :: l, n => by simp [clearS, clearS_len keep l]

theorem clearB_len (keep : List Nat) : ∀ (l : List (Option (List D))) (n : Nat), (clearB keep n l).length = l.length
  | [], _ => rfl
  | _ :: l, n => by simp [clearB, clearB_len keep l]

theorem Inv.clear (i : Inv P g w fr σ a) (keep : List Nat) : Inv P g w (fr.clear keep) σ a := by
  refine ⟨i.h, ⟨by simpa [Fr.clear, clearS_len] using i.s.size, by simpa [Fr.clear, clearS_len, clearB_len] using i.s.blen, fun t e ht => ?_, fun t cs ht => ?_⟩, i.d⟩
  · simp only [Fr.clear, clearS_get, Nat.zero_add, Option.map_eq_some_iff] at ht
    obtain ⟨e0, h1, h2⟩ := ht
    obtain ⟨v, q1, q2, q3, q4⟩ := i.s.slots t e0 h1
    by_cases hk : keep.contains t = true
    · rw [if_pos hk] at h2
      by_cases hl : ∃ s off, e0 = .lptr s off
      · obtain ⟨s, off, rfl⟩ := hl
        simp only [keptD] at h2
        split at h2
        · rename_i hs
          subst h2
          refine ⟨v, q1, q2, q3, fun s' off' e => ?_⟩
          cases e
          obtain ⟨cs, hc⟩ := q4 s off rfl
          refine ⟨cs, ?_⟩
          simp only [Fr.clear, clearB_get, Nat.zero_add, hc, Option.map_some, hs, if_true]
        · subst h2
          exact ⟨v, q1, .junk _, .of_ne rfl, fun s off e => by cases e⟩
      · have : keptD keep e0 = e0 := by
          cases e0 <;> first | rfl | exact absurd ⟨_, _, rfl⟩ hl
        rw [this] at h2
        subst h2
        exact ⟨v, q1, q2, q3, fun s off e => absurd ⟨s, off, e⟩ hl⟩
    · rw [if_neg hk] at h2
      subst h2
      exact ⟨v, q1, .junk _, .of_ne rfl, fun s off e => by cases e⟩
  · simp only [Fr.clear, clearB_get, Nat.zero_add, Option.map_eq_some_iff] at ht
    obtain ⟨b0, h1, h2⟩ := ht
    split at h2
    · subst h2
      exact i.s.boxes t cs h1
    · cases h2

def AE.exit' : AE → Exit
  | .normal => .normal
  | .exit id => .exit id
  | .ret => .ret

/-- Code: what the interpreter comes to, the model comes to. -/
theorem wp_code (hm : P.follows .mixedOrders = true) (hc : CalOK P cal) (hci : CalIn P cal) (keep : List Nat) (fuel : Nat) : ∀ (c : Code) {m : MCode} {ae : AE} {fr fr' : Fr} {σ σ' : St} {a : Act} {g : Gh} {w : World} {Q : Exit → Act → World → Prop},
    compC P mu keep c = some m → runC cal fuel m fr σ = some (ae, fr', σ') → Inv P g w fr σ a → (∀ a' w' g', Ext g w g' w' → Inv P g' w' fr' σ' a' → Q ae.exit' a' w') → c.wp P Q a w := by
  intro c
  induction c with
  | skip =>
    intro m ae fr fr' σ σ' a g w Q hcomp hr i hn
    simp only [compC, Option.some.injEq] at hcomp
    subst hcomp
    simp only [runC, Option.some.injEq, Prod.mk.injEq] at hr
    obtain ⟨rfl, rfl, rfl⟩ := hr
    exact wp_skip (hn a w g (.refl g w) i)
  | region id ops draw =>
    intro m ae fr fr' σ σ' a g w Q hcomp hr i hn
    obtain ⟨quiet, ms, rfl⟩ : ∃ quiet ms, m = .region quiet ms := by
      simp only [compC] at hcomp
      repeat' split at hcomp
      all_goals first | (cases hcomp; done) | (cases hcomp; exact ⟨_, _, rfl⟩)
    simp only [runC, Option.map_eq_some_iff] at hr
    obtain ⟨⟨fr1, σ1⟩, h1, h2⟩ := hr
    cases h2
    exact wp_region_code hm hc hci hcomp h1 i hn
  | seq x y ihx ihy =>
    intro m ae fr fr' σ σ' a g w Q hcomp hr i hn
    simp only [compC] at hcomp
    split at hcomp
    · rename_i mx my hx hy
      cases hcomp
      simp only [runC] at hr
      split at hr
      · rename_i fr1 σ1 h1
        refine wp_seq (ihx hx h1 i (fun a1 w1 g1 e1 i1 => ?_))
        exact ihy hy hr i1 (fun a2 w2 g2 e2 i2 => hn a2 w2 g2 (e1.trans e2) i2)
      · rename_i hno
        refine wp_seq (ihx hx hr i (fun a1 w1 g1 e1 i1 => ?_))
        cases ae with
        | normal => exact absurd hr (hno _ _)
        | exit id => exact hn a1 w1 g1 e1 i1
        | ret => exact hn a1 w1 g1 e1 i1
    · cases hcomp
  | cond x c1 c2 ih1 ih2 =>
    intro m ae fr fr' σ σ' a g w Q hcomp hr i hn
    simp only [compC] at hcomp
    split at hcomp
    · rename_i x' m1 m2 hX h1 h2
      cases hcomp
      have hv := (val_ok i.s hX).1
      simp only [runC] at hr
      split at hr
      · rename_i hb
        rw [hb] at hv
        exact wp_cond_true (rep_bool hv) (ih1 h1 hr i hn)
      · rename_i hb
        rw [hb] at hv
        exact wp_cond_false (rep_bool hv) (ih2 h2 hr i hn)
      · cases hr
    · cases hcomp
  | block id c ih =>
    intro m ae fr fr' σ σ' a g w Q hcomp hr i hn
    simp only [compC, Option.map_eq_some_iff] at hcomp
    obtain ⟨m1, h1, rfl⟩ := hcomp
    simp only [runC] at hr
    split at hr
    · rename_i i' fr1 σ1 hr1
      refine wp_block (ih h1 hr1 i (fun a1 w1 g1 e1 i1 => ?_))
      simp only [AE.exit', Exit.inBlock]
      split at hr
      · rename_i hid
        cases hr
        rw [if_pos hid]
        exact hn a1 w1 g1 e1 i1
      · rename_i hid
        cases hr
        rw [if_neg hid]
        exact hn a1 w1 g1 e1 i1
    · rename_i hno
      refine wp_block (ih h1 hr i (fun a1 w1 g1 e1 i1 => ?_))
      cases ae with
      | normal => exact hn a1 w1 g1 e1 i1
      | exit id' => exact absurd hr (hno _ _ _)
      | ret => exact hn a1 w1 g1 e1 i1
  | loop c ih =>
    intro m ae fr fr' σ σ' a g w Q hcomp hr i hn
    simp only [compC, Option.map_eq_some_iff] at hcomp
    obtain ⟨m1, h1, rfl⟩ := hcomp
    simp only [runC] at hr
    have key : ∀ (n : Nat) (fr : Fr) (σ : St) (a : Act) (g : Gh) (w : World), iter (runC cal fuel m1) keep n fr σ = some (ae, fr', σ') → Inv P g w fr σ a →
        (∀ a' w' g', Ext g w g' w' → Inv P g' w' fr' σ' a' → Q ae.exit' a' w') → Code.rounds P c Q n a w := by
      intro n
      induction n with
      | zero => intro fr σ a g w h; cases h
      | succ n ihn =>
        intro fr σ a g w h i hn
        simp only [iter] at h
        rw [rounds_succ]
        split at h
        · rename_i fr1 σ1 h2
          exact ih h1 h2 (i.clear keep) (fun a1 w1 g1 e1 i1 => ihn fr1 σ1 a1 g1 w1 h i1 (fun a2 w2 g2 e2 i2 => hn a2 w2 g2 (e1.trans e2) i2))
        · rename_i hno
          refine ih h1 h (i.clear keep) (fun a1 w1 g1 e1 i1 => ?_)
          cases ae with
          | normal => exact absurd h (hno _ _)
          | exit id => exact hn a1 w1 g1 e1 i1
          | ret => exact hn a1 w1 g1 e1 i1
    exact wp_loop_rounds fuel (key fuel fr σ a g w hr i hn)
  | exit id =>
    intro m ae fr fr' σ σ' a g w Q hcomp hr i hn
    simp only [compC, Option.some.injEq] at hcomp
    subst hcomp
    simp only [runC, Option.some.injEq, Prod.mk.injEq] at hr
    obtain ⟨rfl, rfl, rfl⟩ := hr
    exact wp_exit (hn a w g (.refl g w) i)
  | ret =>
    intro m ae fr fr' σ σ' a g w Q hcomp hr i hn
    simp only [compC, Option.some.injEq] at hcomp
    subst hcomp
    simp only [runC, Option.some.injEq, Prod.mk.injEq] at hr
    obtain ⟨rfl, rfl, rfl⟩ := hr
    exact wp_ret (hn a w g (.refl g w) i)
  | _ =>
    intro m ae fr fr' σ σ' a g w Q hcomp
    simp [compC] at hcomp

end
end Go.Abs

/-
  Functions: what the interpreter's call answers, the model's call answers.
-/
namespace Go.Abs
open Go Go.RowKit

section
variable {P : Program} {g g' : Gh} {w w' : World} {fr fr' : Fr} {σ σ' : St} {a : Act} {d : D} {cal : Cal} {T : Table} {mu : Bool}

/-! results -/
def resRun (tmps : Array Value) : ResultVar → Sem Value
  | .tmp t => pure (tmps.getD t undef)
  | .cell a t => do loadVar t (← asAddr (tmps.getD a undef))

theorem results_eq (fn : Func) (tmps : Array Value) : results fn tmps = (do
    let vs ← fn.results.mapM (resRun tmps)
    pure (if h : vs.size = 1 then vs[0] else .tuple vs)) := by
  unfold results
  congr 1

inductive ResC (P : Program) : ResultVar → MRes → Prop
  | tmp (t : Nat) : ResC P (.tmp t) (.tmp t)
  | cell (t : Nat) (ty : TypeId) (agg : Bool) (s : Nat) (h1 : isAggT P ty = some agg) (h2 : sizeT P ty = some s) : ResC P (.cell t ty) (.cell t agg s)

theorem resTmps_cons {r : ResultVar} {rs : List ResultVar} {ms : List MRes} (h : resTmps P (r :: rs) = some ms) : ∃ m l, ms = m :: l ∧ ResC P r m ∧ resTmps P rs = some l := by
  cases r with
  | tmp t =>
    simp only [resTmps, Option.map_eq_some_iff] at h
    obtain ⟨l, h1, rfl⟩ := h
    exact ⟨_, l, rfl, .tmp t, h1⟩
  | cell t ty =>
    simp only [resTmps] at h
    split at h
    · rename_i agg s h1 h2
      rw [Option.map_eq_some_iff] at h
      obtain ⟨l, h3, rfl⟩ := h
      exact ⟨_, l, rfl, .cell t ty agg s h1 h2, h3⟩
    · cases h

theorem cellsAt_strip (fr : Fr) (σ : St) (d : D) : cellsAt fr σ d.strip = cellsAt fr σ d := by cases d <;> rfl

theorem own_bare {tag : Tag} {v : Value} {d : D} (h : Own P g w tag v d) : Own P g w tag v d.bare := by
  cases d with
  | agg cs => intro es e hd; cases hd
  | _ => exact h
theorem bare_lptr {d : D} {s off : Nat} (h : d.bare = .lptr s off) : d = .lptr s off := by cases d <;> first | exact h | cases h

theorem resD_ok (i : Inv P g w fr σ a) {r : ResultVar} {m : MRes} (hc : ResC P r m) (h : resD fr σ m = some d) :
    ∃ v, (resRun a.tmps r).run P w = .ok v w ∧ Rep g v d ∧ (∃ t, Own P g w (.sbuf t) v d) ∧ ∀ s off, d = .lptr s off → ∃ cs, fr.boxes[s]? = some (some cs) := by
  cases hc with
  | tmp t =>
    simp only [resD, Option.some.injEq] at h
    subst h
    refine ⟨a.tmps.getD t undef, rfl, ?_⟩
    rcases at_cases fr t with h | ⟨_, hj⟩
    · obtain ⟨v, h1, h2, h3, h4⟩ := i.s.slots t _ h
      have : a.tmps.getD t undef = v := by simp [h1]
      rw [this]
      exact ⟨h2.bare, ⟨t, own_bare h3⟩, fun s off e => h4 s off (bare_lptr e)⟩
    · rw [hj]
      exact ⟨.junk _, ⟨t, .of_ne rfl⟩, fun s off e => by cases e⟩
  | cell t ty agg s h1 h2 =>
    simp only [resD] at h
    split at h
    · cases h
    · rename_i cs hcs
      have hv := (val_ok i.s (x := .tmp t) (X := .tmp t) rfl).1
      have hcs' : cellsAt fr σ (fr.val (.tmp t)) = some cs := by
        simp only [Fr.val]
        rw [cellsAt_strip]
        exact hcs
      obtain ⟨b, off, q1, q2⟩ := cellsAt_ok i hv hcs'
      have hrun : ∀ u, (loadVar ty ⟨b, off, none⟩).run P w = .ok u w → (resRun a.tmps (.cell t ty)).run P w = .ok u w := fun u hu => by
        simp only [resRun]
        have he : a.tmps.getD t undef = .pointer (some ⟨b, off, none⟩) := q1
        rw [he]
        rw [run_bo (show (asAddr (Value.pointer (some ⟨b, off, none⟩))).run P w = .ok ⟨b, off, none⟩ w from rfl)]
        exact hu
      split at h
      · rename_i ha
        subst ha
        split at h
        · rename_i hle
          cases h
          obtain ⟨v, r1, r2⟩ := loadAgg_run h1 h2 hle q2
          exact ⟨v, hrun v r1, r2, ⟨0, .of_ne rfl⟩, fun s off e => by cases e⟩
        · cases h
      · rename_i ha
        have ha' : agg = false := by simpa using ha
        subst ha'
        split at h
        · cases h
        · rename_i e rest
          cases h
          obtain ⟨p1, u, p2, p3⟩ := q2 0 e rfl
          refine ⟨u, hrun u (load1_run h1 p2), p3.strip, ⟨0, .of_strip⟩, fun s off he => ?_⟩
          have : e.strip.notL = true := by rw [notL_strip]; exact notL_of_plain p1
          rw [he] at this
          cases this

theorem resAll_ok (i : Inv P g w fr σ a) : ∀ {rs : List ResultVar} {ms : List MRes} {ds : List D}, resTmps P rs = some ms → resAll fr σ ms = some ds → ∃ vs, (rs.mapM (resRun a.tmps)).run P w = .ok vs w ∧ AllRep (Rep g) vs ds
  | [], ms, ds, h1, h2 => by
    simp only [resTmps, Option.some.injEq] at h1
    subst h1
    simp only [resAll, Option.some.injEq] at h2
    subst h2
    exact ⟨[], rfl, rfl, fun i v d h => by simp at h⟩
  | r :: rs, ms, ds, h1, h2 => by
    obtain ⟨m, l, rfl, k1, k2⟩ := resTmps_cons h1
    simp only [resAll] at h2
    split at h2
    · rename_i d1 h3
      rw [Option.map_eq_some_iff] at h2
      obtain ⟨ds', h4, rfl⟩ := h2
      obtain ⟨v, q1, q2, _, _⟩ := resD_ok i k1 h3
      obtain ⟨vs, q3, q4⟩ := resAll_ok i k2 h4
      refine ⟨v :: vs, ?_, .cons q2.strip q4⟩
      rw [List.mapM_cons, run_bo q1, run_bo q3]
      rfl
    · cases h2

theorem Gives.ext {σ2 : St} {v : Value} {w2 : World} (e : Ext g w g' w') (h : Gives P g' w' w2 σ2 v d) : Gives P g w w2 σ2 v d := by
  obtain ⟨g2, h1, h2⟩ := h
  exact ⟨g2, e.trans h1, h2⟩

def handF (t : Nat) : Tag → Tag
  | .sbuf s => if s = t then .hand else .sbuf s
  | x => x

/-- The results of a function that returns. -/
theorem results_ok (i : Inv P g w fr σ a) {fn : Func} {ms : List MRes} (hrs : resTmps P fn.results.toList = some ms) (h : resultOf fr σ ms = some (d, σ')) :
    ∃ v, (results fn a.tmps).run P w = .ok v w ∧ Gives P g w w σ' v d := by
  have hmap : ∀ vs, (fn.results.toList.mapM (resRun a.tmps)).run P w = .ok vs w → (fn.results.mapM (resRun a.tmps)).run P w = .ok vs.toArray w := fun vs hvs => by
    rw [Array.mapM_eq_mapM_toList, Sem.run_map, hvs]
    rfl
  have stay : HInv P g w σ := i.h
  by_cases hone : ∃ m, ms = [m]
  · obtain ⟨m, rfl⟩ := hone
    obtain ⟨rv, hrv, hc⟩ : ∃ rv, fn.results.toList = [rv] ∧ ResC P rv m := by
      cases hl : fn.results.toList with
      | nil => rw [hl] at hrs; simp [resTmps] at hrs
      | cons r rs =>
        rw [hl] at hrs
        obtain ⟨m', l, h1, h2, h3⟩ := resTmps_cons hrs
        cases h1
        cases rs with
        | nil => exact ⟨r, rfl, h2⟩
        | cons r2 rs2 =>
          obtain ⟨_, _, h4, _⟩ := resTmps_cons h3
          cases h4
    have hrun : ∀ v, (resRun a.tmps rv).run P w = .ok v w → (results fn a.tmps).run P w = .ok v w := fun v hv => by
      rw [results_eq, run_bo (hmap [v] (by rw [hrv, List.mapM_cons, run_bo hv]; rfl))]
      rfl
    simp only [resultOf] at h
    split at h
    · rename_i t off hd
      rw [Option.map_eq_some_iff] at h
      obtain ⟨⟨fr1, σ1⟩, h1, h2⟩ := h
      cases h2
      obtain ⟨v, q1, q2, _, _⟩ := resD_ok i hc hd
      obtain ⟨sz, i1, e1, hn⟩ := i.promote h1
      have := q2.relink (t := t) (sz := sz)
      simp only [relinkL, if_true] at this
      rw [hn]
      exact ⟨v, hrun v q1, g.promote t sz, e1, i1.h, this, rfl, .of_ne rfl⟩
    · rename_i d1 hno hd
      cases h
      obtain ⟨v, q1, q2, ⟨t, q3⟩, _⟩ := resD_ok i hc hd
      refine ⟨v, hrun v q1, g.rename (handF t), Ext.rename g w (handF t) (fun tag ht => ?_), i.h.to (g.rename_le _) rfl rfl rfl rfl (fun b tag ht hb => ?_), q2.rename _, ?_, ?_⟩
      · cases tag <;> first | rfl | exact absurd rfl ht
      · show handF t (g.ω b) = tag
        rw [hb]
        rcases ht with ⟨o, rfl⟩ | ⟨o, j, rfl⟩ <;> rfl
      · cases d <;> first | rfl | exact absurd rfl (hno _ _)
      · have := q3.rename (handF t)
        simpa [handF] using this
    · cases h
  · have h' : (match resAll fr σ ms with | some ds => if ds.all D.notL then some (D.tup ds, σ) else none | none => none) = some (d, σ') := by
      unfold resultOf at h
      split at h
      · rename_i r; exact absurd ⟨r, rfl⟩ hone
      · exact h
    split at h'
    · rename_i ds hds
      split at h'
      · rename_i hn
        cases h'
        obtain ⟨vs, q1, q2⟩ := resAll_ok i hrs hds
        have hlen : vs.length ≠ 1 := fun hl => by
          have hml : ∀ {ms : List MRes} {ds : List D}, resAll fr σ ms = some ds → ds.length = ms.length := by
            intro ms
            induction ms with
            | nil => intro ds h; simp only [resAll, Option.some.injEq] at h; subst h; rfl
            | cons m l ih =>
              intro ds h
              simp only [resAll] at h
              split at h
              · rw [Option.map_eq_some_iff] at h
                obtain ⟨ds', h4, rfl⟩ := h
                simp [ih h4]
              · cases h
          have h1 := hml hds
          rw [← q2.1, hl] at h1
          cases ms with
          | nil => cases h1
          | cons m l =>
            cases l with
            | nil => exact hone ⟨m, rfl⟩
            | cons m2 l2 => simp at h1
        refine ⟨.tuple vs.toArray, ?_, g, .refl g w, i.h, .tup _ _ q2.1 q2.2 hn, rfl, .of_ne rfl⟩
        rw [results_eq, run_bo (hmap vs q1)]
        simp only [List.size_toArray, hlen, dite_false]
        rfl
      · cases h'
    · cases h'

/-! the body -/
theorem compFn_parts {fn : Func} {m : MFunc} (h : compFn P mu fn = some m) : ∃ c keep, fn.body = some c ∧ resTmps P fn.results.toList = some m.results ∧ compC P mu keep c = some m.body ∧ m.ntmps = fn.ntmps := by
  unfold compFn at h
  split at h
  · rename_i c rs h1 h2
    simp only [Option.map_eq_some_iff] at h
    obtain ⟨mc, h3, rfl⟩ := h
    exact ⟨c, _, h1, h2, h3, rfl⟩
  · cases h

theorem enter_inv {m : MFunc} {nt : Nat} (hnt : m.ntmps = nt) {ds : List D} {vals : Array Value} (hi : HInv P g w σ) (hbase : g.base = []) (hr : AllRep (Rep g) vals.toList ds) (hn : ds.all D.notL = true) (c1 : ds.length = m.nparams) (c2 : m.nparams ≤ m.ntmps) :
    Inv P g w (enterFr m ds) σ { tmps := vals ++ Array.replicate (nt - vals.size) undef, defers := [] } := by
  have hl : vals.size = ds.length := by have := hr.1; simpa using this
  refine ⟨hi, ⟨?_, ?_, fun t e ht => ?_, fun t cs ht => ?_⟩, ⟨[], by rw [hbase]; rfl, rfl, fun k x y h1 => by simp at h1⟩⟩
  · simp [enterFr, hl, hnt]
  · simp only [enterFr, List.length_replicate, List.length_append, List.length_map]
    omega
  · simp only [enterFr] at ht
    by_cases hlt : t < ds.length
    · rw [List.getElem?_append_left (by simpa using hlt), List.getElem?_map, Option.map_eq_some_iff] at ht
      obtain ⟨d0, h1, rfl⟩ := ht
      obtain ⟨v, q1, q2⟩ := hr.get h1
      refine ⟨v, ?_, q2.strip, .of_strip, fun s off e => ?_⟩
      · rw [Array.getElem?_append_left (by omega)]
        simpa using q1
      · have := all_get hn h1
        rw [← notL_strip, e] at this
        cases this
    · rw [List.getElem?_append_right (by simpa using hlt)] at ht
      have hj := List.eq_of_mem_replicate (List.mem_of_getElem? ht)
      have hlt2 : t - ds.length < m.ntmps - ds.length := by simpa using get_lt ht
      subst hj
      refine ⟨undef, ?_, .junk _, .of_ne rfl, fun s off e => by cases e⟩
      rw [Array.getElem?_append_right (by omega), hl]
      simp [← hnt, hlt2]
  · have hj := List.eq_of_mem_replicate (List.mem_of_getElem? ht)
    cases hj

theorem body_ok (hm : P.follows .mixedOrders = true) (hc : CalOK P cal) (hci : CalIn P cal) {c : Code} {keep : List Nat} {m : MFunc} {nt : Nat} (hcomp : compC P mu keep c = some m.body) (hnt : m.ntmps = nt) {fuel : Nat} {ds : List D}
    (h : runBody cal fuel m ds σ = some (fr', σ')) {vals : Array Value} (hi : HInv P g w σ) (hbase : g.base = []) (_hide : ∀ b, hideF (g.ω b) = g.ω b) (hr : AllRep (Rep g) vals.toList ds) (hn : ds.all D.notL = true) {Q : Exit → Act → World → Prop}
    (hQ : ∀ e a' w' g', e = .normal ∨ e = .ret → Ext g w g' w' → Inv P g' w' fr' σ' a' → Q e a' w') : c.wp P Q { tmps := vals ++ Array.replicate (nt - vals.size) undef, defers := [] } w := by
  unfold runBody at h
  split at h
  · rename_i hcond
    obtain ⟨c1, c2⟩ := hcond
    split at h
    · cases h
    · rename_i ae fr1 σ1 hno hrun
      cases h
      refine wp_code hm hc hci keep fuel c hcomp hrun (enter_inv hnt hi hbase hr hn c1 c2) (fun a' w' g' e1 i1 => hQ _ a' w' g' ?_ e1 i1)
      cases ae with
      | normal => exact .inl rfl
      | ret => exact .inr rfl
      | exit id => exact absurd rfl (hno id)
    · cases h
  · cases h

/-- A machine code that stands for a function, by whatever proof. -/
def Good (P : Program) (f : Nat) (m : MFunc) : Prop :=
  ∃ fn c, P.funcs[f]? = some fn ∧ fn.body = some c ∧ ∀ (cal : Cal) (fuel : Nat), CalOK P cal → CalIn P cal → ∀ (ds : List D) (σ : St) (fr : Fr) (σ1 : St), runBody cal fuel m ds σ = some (fr, σ1) →
    fr.defers.isEmpty = true ∧ ∀ (d : D) (σ' : St), resultOf fr σ1 m.results = some (d, σ') → ∀ (g : Gh) (w : World) (vals : Array Value), HInv P g w σ → (∀ b, hideF (g.ω b) = g.ω b) → AllRep (Rep g) vals.toList ds → ds.all D.notL = true → g.base = [] →
      c.wp P (bodyPost P fn (fun e w' => ∃ v, e = .returned v ∧ Gives P g w w' σ' v d)) { tmps := vals ++ Array.replicate (fn.ntmps - vals.size) undef, defers := [] } w

/-- A machine code of which a statement is told by a function. -/
def GoodT (P : Program) (f : Nat) (m : MFunc) : Prop :=
  ∃ fn c, P.funcs[f]? = some fn ∧ fn.body = some c ∧ m.body.told = true ∧ ∀ (cal : Cal) (fuel : Nat), CalOK P cal → CalIn P cal → ∀ (ds : List D) (σ : St) (fr : Fr) (σ1 : St), runBody cal fuel m ds σ = some (fr, σ1) →
    fr.defers.isEmpty = true → ∀ (d : D) (σ' : St), resultOf fr σ1 m.results = some (d, σ') → ∀ (g : Gh) (w : World) (vals : Array Value), HInv P g w σ → (∀ b, hideF (g.ω b) = g.ω b) → AllRep (Rep g) vals.toList ds → ds.all D.notL = true → g.base = [] →
      Calls P f vals w (fun e w' => ∃ v, e = .returned v ∧ Gives P g w w' σ' v d)

def TabOK (P : Program) (T : Table) : Prop := ∀ (f : Nat) (m : MFunc), T f = some m → ∃ fn, P.funcs[f]? = some fn ∧ ((∃ mu, compFn P mu fn = some m) ∨ Good P f m ∨ GoodT P f m) ∧ (fn.name == "runtime.NumGoroutine") = false

def Gh.bare (g : Gh) : Gh := { g with base := [] }
theorem HInv.bare (h : HInv P g w σ) : HInv P g.bare w σ := h.to ⟨fun _ _ _ h => h, Nat.le_refl _, fun _ _ => rfl, fun _ _ => rfl⟩ rfl rfl rfl rfl (fun _ _ _ h => h)
theorem allRep_bare {vals : List Value} {ds : List D} (h : AllRep (Rep g) vals ds) (hn : ds.all D.notL = true) : AllRep (Rep g.bare) vals ds := h.mono ⟨fun _ _ _ h => h, Nat.le_refl _, fun _ _ => rfl, fun _ _ => rfl⟩ hn
theorem Gives.unbare {v : Value} (h : Gives P g.bare w w' σ' v d) : Gives P g w w' σ' v d := by
  obtain ⟨g2, e, h1, h2, h3, h4⟩ := h
  have hle : g2.Le { g2 with base := g.base } := ⟨fun _ _ _ h => h, Nat.le_refl _, fun _ _ => rfl, fun _ _ => rfl⟩
  exact ⟨{ g2 with base := g.base }, ⟨⟨e.le.I, e.le.n, e.le.μ, e.le.sz⟩, e.os, e.tape, e.output, e.size, e.blk, e.new, rfl⟩, h1.to hle rfl rfl rfl rfl (fun _ _ _ h => h), h2.mono hle (fun _ _ _ => rfl), h3, h4.to rfl (fun _ h => h)⟩

theorem tab_in (hT : TabOK P T) {f : Nat} {m : MFunc} (h : T f = some m) : Enters P f := by
  obtain ⟨fn, h1, h2, h3⟩ := hT f m h
  rcases h2 with ⟨mu, h2⟩ | ⟨fn', c, g1, g2, _⟩ | ⟨fn', c, g1, g2, _⟩
  · obtain ⟨c, keep, h4, _⟩ := compFn_parts h2
    exact ⟨fn, c, h1, h4, h3⟩
  · rw [h1] at g1
    cases g1
    exact ⟨fn, c, h1, g2, h3⟩
  · rw [h1] at g1
    cases g1
    exact ⟨fn, c, h1, g2, h3⟩

theorem defers_base (i : Inv P g w fr σ a) (h : fr.defers.isEmpty = true) : a.defers = g.base := by
  have h1 : fr.defers = [] := by simpa using h
  obtain ⟨l, hl, hd⟩ := i.d
  have := hd.1
  rw [h1] at this
  have : l = [] := List.eq_nil_of_length_eq_zero (by simpa using this)
  rw [hl, this, List.nil_append]
theorem defers_nil (i : Inv P g w fr σ a) (hb : g.base = []) (h : fr.defers.isEmpty = true) : a.defers = [] := (defers_base i h).trans hb

/-- A call of a function that leaves no deferred calls. -/
theorem plain_ok (hm : P.follows .mixedOrders = true) (hT : TabOK P T) (hc : CalOK P cal) (hci : CalIn P cal) {fuel f : Nat} {ds : List D} (h : plainN T cal fuel f ds σ = some (d, σ')) {vals : Array Value} (hi : HInv P g w σ) (hide : ∀ b, hideF (g.ω b) = g.ω b)
    (hr : AllRep (Rep g) vals.toList ds) (hn : ds.all D.notL = true) (u : FrameMode) : CallsD P f vals u w (fun e u' w' => u' = u ∧ ∃ v, e = .returned v ∧ Gives P g w w' σ' v d) := by
  suffices hs : CallsD P f vals u w (fun e u' w' => u' = u ∧ ∃ v, e = .returned v ∧ Gives P g.bare w w' σ' v d) from
    CallsD.mono hs (fun e u' w' ⟨h1, v, h2, h3⟩ => ⟨h1, v, h2, h3.unbare⟩)
  replace hi := hi.bare
  replace hr := allRep_bare hr hn
  have hide : ∀ b, hideF (g.bare.ω b) = g.bare.ω b := hide
  have hbase : g.bare.base = [] := rfl
  generalize g.bare = g at *
  unfold plainN at h
  split at h
  · cases h
  · rename_i m hf
    split at h
    · cases h
    rename_i hnt
    obtain ⟨fn, h1, h2, h3⟩ := hT f m hf
    rcases h2 with ⟨mu, h2⟩ | ⟨fn', c, g1, g2, g3⟩ | ⟨fn', c, g1, g2, gt, g3⟩
    rotate_left
    rotate_left
    · exact absurd gt hnt
    rotate_left
    · split at h
      · rename_i fr1 σ1 hrun
        split at h
        · exact callsD_of_wp (R := fun e w' => ∃ v, e = .returned v ∧ Gives P g w w' σ' v d) g1 g2 ((g3 cal fuel hc hci ds σ fr1 σ1 hrun).2 d σ' h g w vals hi hide hr hn hbase)
        · cases h
      · cases h
    obtain ⟨c, keep, q1, q2, q3, q4⟩ := compFn_parts h2
    split at h
    · rename_i fr1 σ1 hrun
      split at h
      · rename_i hd
        refine callsD_of_wp (R := fun e w' => ∃ v, e = .returned v ∧ Gives P g w w' σ' v d) h1 q1 (body_ok hm hc hci q3 q4 hrun hi hbase hide hr hn (fun e a' w' g' he e1 i1 => ?_))
        obtain ⟨v, r1, r2⟩ := results_ok i1 q2 h
        rcases he with rfl | rfl
        · exact ⟨defers_nil i1 (e1.base.trans hbase) hd, v, r1, v, rfl, r2.ext e1⟩
        · exact ⟨defers_nil i1 (e1.base.trans hbase) hd, v, r1, v, rfl, r2.ext e1⟩
      · cases h
    · cases h

/-- The deferred calls. -/
theorem leaves_ok (hm : P.follows .mixedOrders = true) (hT : TabOK P T) (hc : CalOK P cal) (hci : CalIn P cal) {fuel : Nat} {fn : Func} {R : Ending → World → Prop} : ∀ (fs : List (D × List D)) (ds : List Deferred) {σ : St} {g : Gh} {w : World}, Inv P g w fr σ a → DefRep g ds fs →
    runDefers (plainN T cal fuel) fs σ = some σ' → (∀ g' w', Ext g w g' w' → Inv P g' w' fr σ' a → ∃ v, (results fn a.tmps).run P w' = .ok v w' ∧ R (.returned v) w') → Leaves P fn a.tmps R ds .returning w
  | [], ds, σ, g, w, i, hd, h, hfin => by
    have : ds = [] := List.eq_nil_of_length_eq_zero (by simpa using hd.1)
    subst this
    simp only [runDefers, Option.some.injEq] at h
    subst h
    exact hfin g w (.refl g w) i
  | (f, args) :: fs, [], σ, g, w, i, hd, h, hfin => by
    have := hd.1
    simp at this
  | (f, args) :: fs, df :: ds, σ, g, w, i, hd, h, hfin => by
    obtain ⟨fi, caps, t1, cd, t2, t3, t4, t5⟩ := hd.2 0 df (f, args) rfl rfl
    simp only at t2
    subst t2
    have hd' : DefRep g ds fs := ⟨by simpa using hd.1, fun k x y h1 h2 => hd.2 (k + 1) x y (by simpa using h1) (by simpa using h2)⟩
    simp only [runDefers] at h
    split at h
    · rename_i hn
      split at h
      · rename_i r σ1 hcal
        have hin : Enters P fi := by
          unfold plainN at hcal
          split at hcal
          · cases hcal
          · rename_i m hf
            exact tab_in hT hf
        have hrep : AllRep (Rep g) (df.args ++ caps).toList (args ++ cd) := by
          rw [Array.toList_append]
          refine t4.append ?_
          cases t3 with
          | func _ vs _ hl hR hp => exact ⟨hl, hR⟩
        refine ⟨by simp, .func fi, caps, fi, df.args ++ caps, t1, ?_, ?_⟩
        · rw [t1]
          exact enter_run hin _ _
        · refine CallsD.mono (plain_ok hm hT hc hci hcal (g := g.rename hideF) i.h.hide (fun b => hideF_hideF _) (hrep.mono (g.rename_le hideF) hn) hn .returning) ?_
          rintro e u' w' ⟨rfl, v, rfl, hg⟩
          obtain ⟨g1, e1, i1, _, _, _⟩ := gives_back i hg
          exact leaves_ok hm hT hc hci fs ds i1 (hd'.mono e1.le) h (fun g2 w2 e2 i2 => hfin g2 w2 (e1.trans e2) i2)
      · cases h
    · cases h

/-- Every call. -/
theorem callN_ok (hm : P.follows .mixedOrders = true) (hT : TabOK P T) : ∀ n, CalOK P (callN T n) ∧ CalIn P (callN T n) := by
  intro n
  induction n with
  | zero =>
    refine ⟨?_, ?_⟩
    · intro f ds σ d σ' h
      simp [callN] at h
    · intro f ds σ r h
      simp [callN] at h
  | succ n ih =>
    obtain ⟨hc, hci⟩ := ih
    refine ⟨fun f ds σ d σ' h g w vals hi hide hr hn => ?_, fun f ds σ r h => ?_⟩
    · suffices hs : Calls P f vals w (fun e w' => ∃ v, e = .returned v ∧ Gives P g.bare w w' σ' v d) from
        Calls.mono hs (fun e w' ⟨v, h2, h3⟩ => ⟨v, h2, h3.unbare⟩)
      replace hi := hi.bare
      replace hr := allRep_bare hr hn
      have hide : ∀ b, hideF (g.bare.ω b) = g.bare.ω b := hide
      have hbase : g.bare.base = [] := rfl
      generalize g.bare = g at *
      simp only [callN] at h
      split at h
      · cases h
      · rename_i m hf
        obtain ⟨fn, h1, h2, h3⟩ := hT f m hf
        rcases h2 with ⟨mu, h2⟩ | ⟨fn', c, g1, g2, g3⟩ | ⟨fn', c, g1, g2, gt, g3⟩
        rotate_left
        · split at h
          · rename_i fr1 σ1 hrun
            obtain ⟨k1, k2⟩ := g3 _ n hc hci ds σ fr1 σ1 hrun
            rw [if_pos k1] at h
            exact calls_of_wp g1 g2 (k2 d σ' h g w vals hi hide hr hn hbase)
          · cases h
        · split at h
          · rename_i fr1 σ1 hrun
            by_cases k1 : fr1.defers.isEmpty = true
            · rw [if_pos k1] at h
              exact g3 _ n hc hci ds σ fr1 σ1 hrun k1 d σ' h g w vals hi hide hr hn hbase
            · rw [if_neg k1, if_pos gt] at h
              cases h
          · cases h
        obtain ⟨c, keep, q1, q2, q3, q4⟩ := compFn_parts h2
        split at h
        · rename_i fr1 σ1 hrun
          refine calls_of_wp_defers h1 q1 (body_ok hm hc hci q3 q4 hrun hi hbase hide hr hn (fun e a' w' g' he e1 i1 => ?_))
          have key : Leaves P fn a'.tmps (fun e w' => ∃ v, e = .returned v ∧ Gives P g w w' σ' v d) a'.defers .returning w' := by
            split at h
            · rename_i hd
              rw [defers_nil i1 (e1.base.trans hbase) hd]
              obtain ⟨v, r1, r2⟩ := results_ok i1 q2 h
              exact ⟨v, r1, v, rfl, r2.ext e1⟩
            · split at h
              · cases h
              split at h
              · rename_i σ2 hdef
                have hd1 : DefRep g' a'.defers fr1.defers := by
                  obtain ⟨l, hl, hd⟩ := i1.d
                  rw [e1.base.trans hbase, List.append_nil] at hl
                  rw [hl]
                  exact hd
                refine leaves_ok hm hT hc hci fr1.defers a'.defers i1 hd1 hdef (fun g2 w2 e2 i2 => ?_)
                obtain ⟨v, r1, r2⟩ := results_ok i2 q2 h
                exact ⟨v, r1, v, rfl, r2.ext (e1.trans e2)⟩
              · cases h
          rcases he with rfl | rfl
          · exact key
          · exact key
        · cases h
    · simp only [callN] at h
      split at h
      · cases h
      · rename_i m hf
        exact tab_in hT hf

end
end Go.Abs
