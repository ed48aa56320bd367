import Derived.Test.YtlmgngibnioljaaGreatOps16
import Derived.Defers
import Derived.RangeFuncLeaves
import Derived.RangeFuncRecord
import Derived.Test.YtlmgngibnioljaaGreatSem
set_option linter.unusedVariables false
set_option linter.unusedSimpArgs false
/-
  Code: sequences, choices, blocks, loops.
-/
namespace Go.Abs
open Go Go.RowKit

section
variable {P : Program} {g g' : Gh} {w w' : World} {fr fr' : Fr} {σ σ' : St} {a : Act} {o : Oper} {d : D} {cal : Cal} {q : Bool} {mu : List Nat} {Q : Exit → Act → World → Prop}

/-- Code: what the interpreter comes to, the model comes to. -/
theorem wp_codeN (hm : P.follows .mixedOrders = true) (hc : CalOK P cal) (hci : CalIn P cal) (fuel : Nat) : ∀ (N : Nat) (c : Code), SizeOf.sizeOf c < N → ∀ (keep : Lv) {m : MCode} {ae : AE} {fr fr' : Fr} {σ σ' : St} {a : Act} {g : Gh} {w : World} {Q : Exit → Act → World → Prop},
    compC P mu keep c = some m → runC cal fuel m fr σ = some (ae, fr', σ') → Inv P g w fr σ a → (∀ a' w' g', Ext g w g' w' → Inv P g' w' fr' σ' a' → Q ae.exit' a' w') → c.wp P Q a w := by
  intro N
  induction N with
  | zero => intro c h; exact absurd h (Nat.not_lt_zero _)
  | succ N IH =>
  intro c hN
  cases c with
  | skip =>
    intro keep m ae fr fr' σ σ' a g w Q hcomp hr i hn
    simp only [compC, Option.some.injEq] at hcomp
    subst hcomp
    simp only [runC, Option.some.injEq, Prod.mk.injEq] at hr
    obtain ⟨rfl, rfl, rfl⟩ := hr
    exact wp_skip (hn a w g (.refl g w) i)
  | region id ops draw =>
    intro keep m ae fr fr' σ σ' a g w Q hcomp hr i hn
    rcases compC_region hcomp with ⟨quiet, ms, rfl⟩ | ⟨ms, pre, rfl⟩ | ⟨alts, ms, pre, rfl⟩
    · simp only [runC, Option.map_eq_some_iff] at hr
      obtain ⟨⟨fr1, σ1⟩, h1, h2⟩ := hr
      cases h2
      exact wp_region_code hm hc hci hcomp h1 i hn
    · simp only [runC, Option.map_eq_some_iff] at hr
      obtain ⟨⟨fr1, σ1⟩, h1, h2⟩ := hr
      cases h2
      exact wp_region_codeA hm hc hci hcomp h1 i hn
    · have hae : ae = .normal := (wp_region_codeQ (Q := fun _ _ _ => True) hm hc hci hcomp hr i (fun _ _ _ _ _ => trivial)).1
      subst hae
      exact (wp_region_codeQ hm hc hci hcomp hr i hn).2
  | seq x y =>
    intro keep m ae fr fr' σ σ' a g w Q hcomp hr i hn
    have hx0 : SizeOf.sizeOf x < N := by simp only [Code.seq.sizeOf_spec] at hN; omega
    have hy0 : SizeOf.sizeOf y < N := by simp only [Code.seq.sizeOf_spec] at hN; omega
    simp only [compC] at hcomp
    split at hcomp
    · rename_i R hR
      obtain ⟨B, K', hsh, hbd⟩ := rangeOf_shape hR
      rw [hbd] at hcomp
      have hB0 : SizeOf.sizeOf B < N := by
        obtain ⟨id, ops, id5, ops5, id6, ops6, pre, o, t, x', n1, n2, e1, tl, kt, e, hxe, _⟩ := hsh
        subst hxe
        simp only [Code.seq.sizeOf_spec, Code.block.sizeOf_spec, Code.loop.sizeOf_spec] at hx0
        omega
      split at hcomp
      · rename_i mb mr hb hr'
        cases hcomp
        exact wp_rangeM hc hci hsh (fun h1 h2 h3 => IH B hB0 _ hb h1 h2 h3) (fun h1 h2 h3 => IH y hy0 _ hr' h1 h2 h3) hr i hn
      · cases hcomp
    have ihx := fun {K} => @IH x hx0 K
    have ihy := fun {K} => @IH y hy0 K
    split at hcomp
    · rename_i mx my hx hy
      cases hcomp
      simp only [runC] at hr
      split at hr
      · rename_i fr1 σ1 h1
        refine wp_seq (ihx hx h1 i (fun a1 w1 g1 e1 i1 => ?_))
        exact ihy hy hr i1 (fun a2 w2 g2 e2 i2 => hn a2 w2 g2 (e1.trans e2) i2)
      · rename_i hno
        refine wp_seq (ihx hx hr i (fun a1 w1 g1 e1 i1 => ?_))
        cases ae with
        | normal => exact absurd hr (hno _ _)
        | exit id => exact hn a1 w1 g1 e1 i1
        | ret => exact hn a1 w1 g1 e1 i1
    · cases hcomp
  | cond x c1 c2 =>
    intro keep m ae fr fr' σ σ' a g w Q hcomp hr i hn
    have ih1 := fun {K} => @IH c1 (by simp only [Code.cond.sizeOf_spec] at hN; omega) K
    have ih2 := fun {K} => @IH c2 (by simp only [Code.cond.sizeOf_spec] at hN; omega) K
    simp only [compC] at hcomp
    split at hcomp
    · rename_i x' m1 m2 hX h1 h2
      cases hcomp
      have hv := (val_ok i.s hX).1
      simp only [runC] at hr
      split at hr
      · rename_i hb
        rw [hb] at hv
        exact wp_cond_true (rep_bool hv) (ih1 h1 hr i hn)
      · rename_i hb
        rw [hb] at hv
        exact wp_cond_false (rep_bool hv) (ih2 h2 hr i hn)
      · cases hr
    · cases hcomp
  | block id c =>
    intro keep m ae fr fr' σ σ' a g w Q hcomp hr i hn
    have ih := fun {K} => @IH c (by simp only [Code.block.sizeOf_spec] at hN; omega) K
    simp only [compC, Option.map_eq_some_iff] at hcomp
    obtain ⟨m1, h1, rfl⟩ := hcomp
    simp only [runC] at hr
    split at hr
    · rename_i i' fr1 σ1 hr1
      refine wp_block (ih h1 hr1 i (fun a1 w1 g1 e1 i1 => ?_))
      simp only [AE.exit', Exit.inBlock]
      split at hr
      · rename_i hid
        cases hr
        rw [if_pos hid]
        exact hn a1 w1 g1 e1 i1
      · rename_i hid
        cases hr
        rw [if_neg hid]
        exact hn a1 w1 g1 e1 i1
    · rename_i hno
      refine wp_block (ih h1 hr i (fun a1 w1 g1 e1 i1 => ?_))
      cases ae with
      | normal => exact hn a1 w1 g1 e1 i1
      | exit id' => exact absurd hr (hno _ _ _)
      | ret => exact hn a1 w1 g1 e1 i1
  | loop c =>
    intro keep m ae fr fr' σ σ' a g w Q hcomp hr i hn
    have ih := fun {K} => @IH c (by simp only [Code.loop.sizeOf_spec] at hN; omega) K
    simp only [compC, Option.map_eq_some_iff] at hcomp
    obtain ⟨m1, h1, rfl⟩ := hcomp
    simp only [runC] at hr
    have key : ∀ (n : Nat) (fr : Fr) (σ : St) (a : Act) (g : Gh) (w : World), iter (runC cal fuel m1) (loopKeep c keep) n fr σ = some (ae, fr', σ') → Inv P g w fr σ a →
        (∀ a' w' g', Ext g w g' w' → Inv P g' w' fr' σ' a' → Q ae.exit' a' w') → Code.rounds P c Q n a w := by
      intro n
      induction n with
      | zero => intro fr σ a g w h; cases h
      | succ n ihn =>
        intro fr σ a g w h i hn
        simp only [iter] at h
        rw [rounds_succ]
        split at h
        · rename_i fr1 σ1 h2
          exact ih h1 h2 (i.clear (loopKeep c keep)) (fun a1 w1 g1 e1 i1 => ihn fr1 σ1 a1 g1 w1 h i1 (fun a2 w2 g2 e2 i2 => hn a2 w2 g2 (e1.trans e2) i2))
        · rename_i hno
          refine ih h1 h (i.clear (loopKeep c keep)) (fun a1 w1 g1 e1 i1 => ?_)
          cases ae with
          | normal => exact absurd h (hno _ _)
          | exit id => exact hn a1 w1 g1 e1 i1
          | ret => exact hn a1 w1 g1 e1 i1
    exact wp_loop_rounds fuel (key fuel fr σ a g w hr i hn)
  | exit id =>
    intro keep m ae fr fr' σ σ' a g w Q hcomp hr i hn
    simp only [compC, Option.some.injEq] at hcomp
    subst hcomp
    simp only [runC, Option.some.injEq, Prod.mk.injEq] at hr
    obtain ⟨rfl, rfl, rfl⟩ := hr
    exact wp_exit (hn a w g (.refl g w) i)
  | ret =>
    intro keep m ae fr fr' σ σ' a g w Q hcomp hr i hn
    simp only [compC, Option.some.injEq] at hcomp
    subst hcomp
    simp only [runC, Option.some.injEq, Prod.mk.injEq] at hr
    obtain ⟨rfl, rfl, rfl⟩ := hr
    exact wp_ret (hn a w g (.refl g w) i)
  | _ =>
    intro keep m ae fr fr' σ σ' a g w Q hcomp
    simp [compC] at hcomp

theorem wp_code (hm : P.follows .mixedOrders = true) (hc : CalOK P cal) (hci : CalIn P cal) (keep : Lv) (fuel : Nat) (c : Code) {m : MCode} {ae : AE} {fr fr' : Fr} {σ σ' : St} {a : Act} {g : Gh} {w : World} {Q : Exit → Act → World → Prop}
    (h : compC P mu keep c = some m) (hr : runC cal fuel m fr σ = some (ae, fr', σ')) (i : Inv P g w fr σ a) (hn : ∀ a' w' g', Ext g w g' w' → Inv P g' w' fr' σ' a' → Q ae.exit' a' w') : c.wp P Q a w :=
  wp_codeN hm hc hci fuel _ c (Nat.lt_succ_self _) keep h hr i hn

end
end Go.Abs

/-
  Functions: what the interpreter's call answers, the model's call answers.
-/
namespace Go.Abs
open Go Go.RowKit

section
variable {P : Program} {g g' : Gh} {w w' : World} {fr fr' : Fr} {σ σ' : St} {a : Act} {d : D} {cal : Cal} {T : Table} {mu : List Nat}

/-! results -/
def resRun (tmps : Array Value) : ResultVar → Sem Value
  | .tmp t => pure (tmps.getD t undef)
  | .cell a t => do loadVar t (← asAddr (tmps.getD a undef))

theorem results_eq (fn : Func) (tmps : Array Value) : results fn tmps = (do
    let vs ← fn.results.mapM (resRun tmps)
    pure (if h : vs.size = 1 then vs[0] else .tuple vs)) := by
  unfold results
  congr 1

inductive ResC (P : Program) : ResultVar → MRes → Prop
  | tmp (t : Nat) : ResC P (.tmp t) (.tmp t)
  | cell (t : Nat) (ty : TypeId) (agg : Bool) (s : Nat) (h1 : isAggT P ty = some agg) (h2 : sizeT P ty = some s) : ResC P (.cell t ty) (.cell t agg s)

theorem resTmps_cons {r : ResultVar} {rs : List ResultVar} {ms : List MRes} (h : resTmps P (r :: rs) = some ms) : ∃ m l, ms = m :: l ∧ ResC P r m ∧ resTmps P rs = some l := by
  cases r with
  | tmp t =>
    simp only [resTmps, Option.map_eq_some_iff] at h
    obtain ⟨l, h1, rfl⟩ := h
    exact ⟨_, l, rfl, .tmp t, h1⟩
  | cell t ty =>
    simp only [resTmps] at h
    split at h
    · rename_i agg s h1 h2
      rw [Option.map_eq_some_iff] at h
      obtain ⟨l, h3, rfl⟩ := h
      exact ⟨_, l, rfl, .cell t ty agg s h1 h2, h3⟩
    · cases h

theorem cellsAt_strip (fr : Fr) (σ : St) (d : D) : cellsAt fr σ d.strip = cellsAt fr σ d := by cases d <;> rfl

theorem own_bare {tag : Tag} {v : Value} {d : D} (h : Own P g w tag v d) : Own P g w tag v d.bare := by
  cases d with
  | agg cs => intro es e hd; cases hd
  | _ => exact h
theorem bare_lptr {d : D} {s off : Nat} (h : d.bare = .lptr s off) : d = .lptr s off := by cases d <;> first | exact h | cases h

theorem resD_ok (i : Inv P g w fr σ a) {r : ResultVar} {m : MRes} (hc : ResC P r m) (h : resD fr σ m = some d) :
    ∃ v, (resRun a.tmps r).run P w = .ok v w ∧ Rep g v d ∧ (∃ t, Own P g w (.sbuf t) v d) ∧ ∀ s off, d = .lptr s off → ∃ cs, fr.boxes[s]? = some (some cs) := by
  cases hc with
  | tmp t =>
    simp only [resD, Option.some.injEq] at h
    subst h
    refine ⟨a.tmps.getD t undef, rfl, ?_⟩
    rcases at_cases fr t with h | ⟨_, hj⟩
    · obtain ⟨v, h1, h2, h3, h4⟩ := i.s.slots t _ h
      have : a.tmps.getD t undef = v := by simp [h1]
      rw [this]
      exact ⟨h2.bare, ⟨t, own_bare h3⟩, fun s off e => h4 s off (bare_lptr e)⟩
    · rw [hj]
      exact ⟨.junk _, ⟨t, .of_ne rfl⟩, fun s off e => by cases e⟩
  | cell t ty agg s h1 h2 =>
    simp only [resD] at h
    split at h
    · cases h
    · rename_i cs hcs
      have hv := (val_ok i.s (x := .tmp t) (X := .tmp t) rfl).1
      have hcs' : cellsAt fr σ (fr.val (.tmp t)) = some cs := by
        simp only [Fr.val]
        rw [cellsAt_strip]
        exact hcs
      obtain ⟨b, off, q1, q2⟩ := cellsAt_ok i hv hcs'
      have hrun : ∀ u, (loadVar ty ⟨b, off, none⟩).run P w = .ok u w → (resRun a.tmps (.cell t ty)).run P w = .ok u w := fun u hu => by
        simp only [resRun]
        have he : a.tmps.getD t undef = .pointer (some ⟨b, off, none⟩) := q1
        rw [he]
        rw [run_bo (show (asAddr (Value.pointer (some ⟨b, off, none⟩))).run P w = .ok ⟨b, off, none⟩ w from rfl)]
        exact hu
      split at h
      · rename_i ha
        subst ha
        split at h
        · rename_i hle
          cases h
          obtain ⟨v, r1, r2⟩ := loadAgg_run h1 h2 hle q2
          exact ⟨v, hrun v r1, r2, ⟨0, .of_ne rfl⟩, fun s off e => by cases e⟩
        · cases h
      · rename_i ha
        have ha' : agg = false := by simpa using ha
        subst ha'
        split at h
        · cases h
        · rename_i e rest
          cases h
          obtain ⟨p1, u, p2, p3⟩ := q2 0 e rfl
          refine ⟨u, hrun u (load1_run h1 p2), p3.strip, ⟨0, .of_strip⟩, fun s off he => ?_⟩
          have : e.strip.notL = true := by rw [notL_strip]; exact notL_of_plain p1
          rw [he] at this
          cases this

theorem resAll_ok (i : Inv P g w fr σ a) : ∀ {rs : List ResultVar} {ms : List MRes} {ds : List D}, resTmps P rs = some ms → resAll fr σ ms = some ds → ∃ vs, (rs.mapM (resRun a.tmps)).run P w = .ok vs w ∧ AllRep (Rep g) vs ds
  | [], ms, ds, h1, h2 => by
    simp only [resTmps, Option.some.injEq] at h1
    subst h1
    simp only [resAll, Option.some.injEq] at h2
    subst h2
    exact ⟨[], rfl, rfl, fun i v d h => by simp at h⟩
  | r :: rs, ms, ds, h1, h2 => by
    obtain ⟨m, l, rfl, k1, k2⟩ := resTmps_cons h1
    simp only [resAll] at h2
    split at h2
    · rename_i d1 h3
      rw [Option.map_eq_some_iff] at h2
      obtain ⟨ds', h4, rfl⟩ := h2
      obtain ⟨v, q1, q2, _, _⟩ := resD_ok i k1 h3
      obtain ⟨vs, q3, q4⟩ := resAll_ok i k2 h4
      refine ⟨v :: vs, ?_, .cons q2.strip q4⟩
      rw [List.mapM_cons, run_bo q1, run_bo q3]
      rfl
    · cases h2

theorem Gives.ext {σ2 : St} {v : Value} {w2 : World} (e : Ext g w g' w') (h : Gives P g' w' w2 σ2 v d) : Gives P g w w2 σ2 v d := by
  obtain ⟨g2, h1, h2⟩ := h
  exact ⟨g2, e.trans h1, h2⟩

def handF (t : Nat) : Tag → Tag
  | .sbuf s => if s = t then .hand else .sbuf s
  | x => x

/-- The results of a function that returns. -/
theorem results_ok (i : Inv P g w fr σ a) {fn : Func} {ms : List MRes} (hrs : resTmps P fn.results.toList = some ms) (h : resultOf fr σ ms = some (d, σ')) :
    ∃ v, (results fn a.tmps).run P w = .ok v w ∧ Gives P g w w σ' v d := by
  have hmap : ∀ vs, (fn.results.toList.mapM (resRun a.tmps)).run P w = .ok vs w → (fn.results.mapM (resRun a.tmps)).run P w = .ok vs.toArray w := fun vs hvs => by
    rw [Array.mapM_eq_mapM_toList, Sem.run_map, hvs]
    rfl
  have stay : HInv P g w σ := i.h
  by_cases hone : ∃ m, ms = [m]
  · obtain ⟨m, rfl⟩ := hone
    obtain ⟨rv, hrv, hc⟩ : ∃ rv, fn.results.toList = [rv] ∧ ResC P rv m := by
      cases hl : fn.results.toList with
      | nil => rw [hl] at hrs; simp [resTmps] at hrs
      | cons r rs =>
        rw [hl] at hrs
        obtain ⟨m', l, h1, h2, h3⟩ := resTmps_cons hrs
        cases h1
        cases rs with
        | nil => exact ⟨r, rfl, h2⟩
        | cons r2 rs2 =>
          obtain ⟨_, _, h4, _⟩ := resTmps_cons h3
          cases h4
    have hrun : ∀ v, (resRun a.tmps rv).run P w = .ok v w → (results fn a.tmps).run P w = .ok v w := fun v hv => by
      rw [results_eq, run_bo (hmap [v] (by rw [hrv, List.mapM_cons, run_bo hv]; rfl))]
      rfl
    simp only [resultOf] at h
    split at h
    · rename_i t off hd
      rw [Option.map_eq_some_iff] at h
      obtain ⟨⟨fr1, σ1⟩, h1, h2⟩ := h
      cases h2
      obtain ⟨v, q1, q2, _, _⟩ := resD_ok i hc hd
      obtain ⟨sz, i1, e1, hn⟩ := i.promote h1
      have := q2.relink (t := t) (sz := sz)
      simp only [relinkL, if_true] at this
      rw [hn]
      exact ⟨v, hrun v q1, g.promote t sz, e1, i1.h, this, rfl, .of_ne rfl⟩
    · rename_i d1 hno hd
      cases h
      obtain ⟨v, q1, q2, ⟨t, q3⟩, _⟩ := resD_ok i hc hd
      refine ⟨v, hrun v q1, g.rename (handF t), Ext.rename g w (handF t) (fun tag ht => ?_), i.h.to (g.rename_le _) rfl rfl rfl rfl (fun b tag ht hb => ?_), q2.rename _, ?_, ?_⟩
      · cases tag <;> first | rfl | exact absurd rfl ht
      · show handF t (g.ω b) = tag
        rw [hb]
        rcases ht with ⟨o, rfl⟩ | ⟨o, j, rfl⟩ | ⟨o, rfl⟩ <;> rfl
      · cases d <;> first | rfl | exact absurd rfl (hno _ _)
      · have := q3.rename (handF t)
        simpa [handF] using this
    · cases h
  · have h' : (match resAll fr σ ms with | some ds => if ds.all D.notL then some (D.tup ds, σ) else none | none => none) = some (d, σ') := by
      unfold resultOf at h
      split at h
      · rename_i r; exact absurd ⟨r, rfl⟩ hone
      · exact h
    split at h'
    · rename_i ds hds
      split at h'
      · rename_i hn
        cases h'
        obtain ⟨vs, q1, q2⟩ := resAll_ok i hrs hds
        have hlen : vs.length ≠ 1 := fun hl => by
          have hml : ∀ {ms : List MRes} {ds : List D}, resAll fr σ ms = some ds → ds.length = ms.length := by
            intro ms
            induction ms with
            | nil => intro ds h; simp only [resAll, Option.some.injEq] at h; subst h; rfl
            | cons m l ih =>
              intro ds h
              simp only [resAll] at h
              split at h
              · rw [Option.map_eq_some_iff] at h
                obtain ⟨ds', h4, rfl⟩ := h
                simp [ih h4]
              · cases h
          have h1 := hml hds
          rw [← q2.1, hl] at h1
          cases ms with
          | nil => cases h1
          | cons m l =>
            cases l with
            | nil => exact hone ⟨m, rfl⟩
            | cons m2 l2 => simp at h1
        refine ⟨.tuple vs.toArray, ?_, g, .refl g w, i.h, .tup _ _ q2.1 q2.2 hn, rfl, .of_ne rfl⟩
        rw [results_eq, run_bo (hmap vs q1)]
        simp only [List.size_toArray, hlen, dite_false]
        rfl
      · cases h'
    · cases h'

/-! the body -/
theorem compFn_parts {fn : Func} {m : MFunc} (h : compFn P mu fn = some m) : ∃ c keep, fn.body = some c ∧ resTmps P fn.results.toList = some m.results ∧ compC P mu keep c = some m.body ∧ m.ntmps = fn.ntmps := by
  unfold compFn at h
  split at h
  · rename_i c rs h1 h2
    simp only [Option.map_eq_some_iff] at h
    obtain ⟨mc, h3, rfl⟩ := h
    exact ⟨c, _, h1, h2, h3, rfl⟩
  · cases h

theorem enter_inv {m : MFunc} {nt : Nat} (hnt : m.ntmps = nt) {ds : List D} {vals : Array Value} (hi : HInv P g w σ) (hbase : g.base = []) (hr : AllRep (Rep g) vals.toList ds) (hn : ds.all D.notL = true) (c1 : ds.length = m.nparams) (c2 : m.nparams ≤ m.ntmps) :
    Inv P g w (enterFr m ds) σ { tmps := vals ++ Array.replicate (nt - vals.size) undef, defers := [] } := by
  have hl : vals.size = ds.length := by have := hr.1; simpa using this
  refine ⟨hi, ⟨?_, ?_, fun t e ht => ?_, fun t cs ht => ?_⟩, ⟨[], by rw [hbase]; rfl, rfl, fun k x y h1 => by simp at h1⟩⟩
  · simp [enterFr, hl, hnt]
  · simp only [enterFr, List.length_replicate, List.length_append, List.length_map]
    omega
  · simp only [enterFr] at ht
    by_cases hlt : t < ds.length
    · rw [List.getElem?_append_left (by simpa using hlt), List.getElem?_map, Option.map_eq_some_iff] at ht
      obtain ⟨d0, h1, rfl⟩ := ht
      obtain ⟨v, q1, q2⟩ := hr.get h1
      refine ⟨v, ?_, q2.strip, .of_strip, fun s off e => ?_⟩
      · rw [Array.getElem?_append_left (by omega)]
        simpa using q1
      · have := all_get hn h1
        rw [← notL_strip, e] at this
        cases this
    · rw [List.getElem?_append_right (by simpa using hlt)] at ht
      have hj := List.eq_of_mem_replicate (List.mem_of_getElem? ht)
      have hlt2 : t - ds.length < m.ntmps - ds.length := by simpa using get_lt ht
      subst hj
      refine ⟨undef, ?_, .junk _, .of_ne rfl, fun s off e => by cases e⟩
      rw [Array.getElem?_append_right (by omega), hl]
      simp [← hnt, hlt2]
  · have hj := List.eq_of_mem_replicate (List.mem_of_getElem? ht)
    cases hj

theorem body_ok (hm : P.follows .mixedOrders = true) (hc : CalOK P cal) (hci : CalIn P cal) {c : Code} {keep : Lv} {m : MFunc} {nt : Nat} (hcomp : compC P mu keep c = some m.body) (hnt : m.ntmps = nt) {fuel : Nat} {ds : List D}
    (h : runBody cal fuel m ds σ = some (fr', σ')) {vals : Array Value} (hi : HInv P g w σ) (hbase : g.base = []) (_hide : ∀ b, hideF (g.ω b) = g.ω b) (hr : AllRep (Rep g) vals.toList ds) (hn : ds.all D.notL = true) {Q : Exit → Act → World → Prop}
    (hQ : ∀ e a' w' g', e = .normal ∨ e = .ret → Ext g w g' w' → Inv P g' w' fr' σ' a' → Q e a' w') : c.wp P Q { tmps := vals ++ Array.replicate (nt - vals.size) undef, defers := [] } w := by
  unfold runBody at h
  split at h
  · rename_i hcond
    obtain ⟨c1, c2⟩ := hcond
    split at h
    · cases h
    · rename_i ae fr1 σ1 hno hrun
      cases h
      refine wp_code hm hc hci keep fuel c hcomp hrun (enter_inv hnt hi hbase hr hn c1 c2) (fun a' w' g' e1 i1 => hQ _ a' w' g' ?_ e1 i1)
      cases ae with
      | normal => exact .inl rfl
      | ret => exact .inr rfl
      | exit id => exact absurd rfl (hno id)
    · cases h
  · cases h

/-- A machine code that stands for a function, by whatever proof. -/
def Good (P : Program) (f : Nat) (m : MFunc) : Prop :=
  ∃ fn c, P.funcs[f]? = some fn ∧ fn.body = some c ∧ ∀ (cal : Cal) (fuel : Nat), CalOK P cal → CalIn P cal → ∀ (ds : List D) (σ : St) (fr : Fr) (σ1 : St), runBody cal fuel m ds σ = some (fr, σ1) →
    fr.defers.isEmpty = true ∧ ∀ (d : D) (σ' : St), resultOf fr σ1 m.results = some (d, σ') → ∀ (g : Gh) (w : World) (vals : Array Value), HInv P g w σ → (∀ b, hideF (g.ω b) = g.ω b) → AllRep (Rep g) vals.toList ds → ds.all D.notL = true → g.base = [] →
      c.wp P (bodyPost P fn (fun e w' => ∃ v, e = .returned v ∧ Gives P g w w' σ' v d)) { tmps := vals ++ Array.replicate (fn.ntmps - vals.size) undef, defers := [] } w

/-- A machine code of which a statement is told by a function. -/
def GoodT (P : Program) (f : Nat) (m : MFunc) : Prop :=
  ∃ fn c, P.funcs[f]? = some fn ∧ fn.body = some c ∧ m.body.told = true ∧ ∀ (cal : Cal) (fuel : Nat), CalOK P cal → CalIn P cal → ∀ (ds : List D) (σ : St) (fr : Fr) (σ1 : St), runBody cal fuel m ds σ = some (fr, σ1) →
    fr.defers.isEmpty = true → ∀ (d : D) (σ' : St), resultOf fr σ1 m.results = some (d, σ') → ∀ (g : Gh) (w : World) (vals : Array Value), HInv P g w σ → (∀ b, hideF (g.ω b) = g.ω b) → AllRep (Rep g) vals.toList ds → ds.all D.notL = true → g.base = [] →
      Calls P f vals w (fun e w' => ∃ v, e = .returned v ∧ Gives P g w w' σ' v d)

def TabOK (P : Program) (T : Table) : Prop := ∀ (f : Nat) (m : MFunc), T f = some m → ∃ fn, P.funcs[f]? = some fn ∧ ((∃ mu, compFn P mu fn = some m) ∨ Good P f m ∨ GoodT P f m) ∧ (fn.name == "runtime.NumGoroutine") = false

def Gh.bare (g : Gh) : Gh := { g with base := [] }
theorem HInv.bare (h : HInv P g w σ) : HInv P g.bare w σ := h.to ⟨fun _ _ _ h => h, Nat.le_refl _, fun _ _ => rfl, fun _ _ => rfl⟩ rfl rfl rfl rfl (fun _ _ _ h => h)
theorem allRep_bare {vals : List Value} {ds : List D} (h : AllRep (Rep g) vals ds) (hn : ds.all D.notL = true) : AllRep (Rep g.bare) vals ds := h.mono ⟨fun _ _ _ h => h, Nat.le_refl _, fun _ _ => rfl, fun _ _ => rfl⟩ hn
theorem Gives.unbare {v : Value} (h : Gives P g.bare w w' σ' v d) : Gives P g w w' σ' v d := by
  obtain ⟨g2, e, h1, h2, h3, h4⟩ := h
  have hle : g2.Le { g2 with base := g.base } := ⟨fun _ _ _ h => h, Nat.le_refl _, fun _ _ => rfl, fun _ _ => rfl⟩
  exact ⟨{ g2 with base := g.base }, ⟨⟨e.le.I, e.le.n, e.le.μ, e.le.sz⟩, e.os, e.tape, e.output, e.size, e.blk, e.new, rfl⟩, h1.to hle rfl rfl rfl rfl (fun _ _ _ h => h), h2.mono hle (fun _ _ _ => rfl), h3, h4.to rfl (fun _ h => h)⟩

theorem tab_in (hT : TabOK P T) {f : Nat} {m : MFunc} (h : T f = some m) : Enters P f := by
  obtain ⟨fn, h1, h2, h3⟩ := hT f m h
  rcases h2 with ⟨mu, h2⟩ | ⟨fn', c, g1, g2, _⟩ | ⟨fn', c, g1, g2, _⟩
  · obtain ⟨c, keep, h4, _⟩ := compFn_parts h2
    exact ⟨fn, c, h1, h4, h3⟩
  · rw [h1] at g1
    cases g1
    exact ⟨fn, c, h1, g2, h3⟩
  · rw [h1] at g1
    cases g1
    exact ⟨fn, c, h1, g2, h3⟩

theorem defers_base (i : Inv P g w fr σ a) (h : fr.defers.isEmpty = true) : a.defers = g.base := by
  have h1 : fr.defers = [] := by simpa using h
  obtain ⟨l, hl, hd⟩ := i.d
  have := hd.1
  rw [h1] at this
  have : l = [] := List.eq_nil_of_length_eq_zero (by simpa using this)
  rw [hl, this, List.nil_append]
theorem defers_nil (i : Inv P g w fr σ a) (hb : g.base = []) (h : fr.defers.isEmpty = true) : a.defers = [] := (defers_base i h).trans hb

/-- A call of a function that leaves no deferred calls. -/
theorem plain_ok (hm : P.follows .mixedOrders = true) (hT : TabOK P T) (hc : CalOK P cal) (hci : CalIn P cal) {fuel f : Nat} {ds : List D} (h : plainN T cal fuel f ds σ = some (d, σ')) {vals : Array Value} (hi : HInv P g w σ) (hide : ∀ b, hideF (g.ω b) = g.ω b)
    (hr : AllRep (Rep g) vals.toList ds) (hn : ds.all D.notL = true) (u : FrameMode) : CallsD P f vals u w (fun e u' w' => u' = u ∧ ∃ v, e = .returned v ∧ Gives P g w w' σ' v d) := by
  suffices hs : CallsD P f vals u w (fun e u' w' => u' = u ∧ ∃ v, e = .returned v ∧ Gives P g.bare w w' σ' v d) from
    CallsD.mono hs (fun e u' w' ⟨h1, v, h2, h3⟩ => ⟨h1, v, h2, h3.unbare⟩)
  replace hi := hi.bare
  replace hr := allRep_bare hr hn
  have hide : ∀ b, hideF (g.bare.ω b) = g.bare.ω b := hide
  have hbase : g.bare.base = [] := rfl
  generalize g.bare = g at *
  unfold plainN at h
  split at h
  · cases h
  · rename_i m hf
    split at h
    · cases h
    rename_i hnt
    obtain ⟨fn, h1, h2, h3⟩ := hT f m hf
    rcases h2 with ⟨mu, h2⟩ | ⟨fn', c, g1, g2, g3⟩ | ⟨fn', c, g1, g2, gt, g3⟩
    rotate_left
    rotate_left
    · exact absurd gt hnt
    rotate_left
    · split at h
      · rename_i fr1 σ1 hrun
        split at h
        · exact callsD_of_wp (R := fun e w' => ∃ v, e = .returned v ∧ Gives P g w w' σ' v d) g1 g2 ((g3 cal fuel hc hci ds σ fr1 σ1 hrun).2 d σ' h g w vals hi hide hr hn hbase)
        · cases h
      · cases h
    obtain ⟨c, keep, q1, q2, q3, q4⟩ := compFn_parts h2
    split at h
    · rename_i fr1 σ1 hrun
      split at h
      · rename_i hd
        refine callsD_of_wp (R := fun e w' => ∃ v, e = .returned v ∧ Gives P g w w' σ' v d) h1 q1 (body_ok hm hc hci q3 q4 hrun hi hbase hide hr hn (fun e a' w' g' he e1 i1 => ?_))
        obtain ⟨v, r1, r2⟩ := results_ok i1 q2 h
        rcases he with rfl | rfl
        · exact ⟨defers_nil i1 (e1.base.trans hbase) hd, v, r1, v, rfl, r2.ext e1⟩
        · exact ⟨defers_nil i1 (e1.base.trans hbase) hd, v, r1, v, rfl, r2.ext e1⟩
      · cases h
    · cases h

/-- The deferred calls. -/
theorem leaves_ok (hm : P.follows .mixedOrders = true) (hT : TabOK P T) (hc : CalOK P cal) (hci : CalIn P cal) {fuel : Nat} {fn : Func} {R : Ending → World → Prop} : ∀ (fs : List (D × List D)) (ds : List Deferred) {σ : St} {g : Gh} {w : World}, Inv P g w fr σ a → DefRep g ds fs →
    runDefers (plainN T cal fuel) fs σ = some σ' → (∀ g' w', Ext g w g' w' → Inv P g' w' fr σ' a → ∃ v, (results fn a.tmps).run P w' = .ok v w' ∧ R (.returned v) w') → Leaves P fn a.tmps R ds .returning w
  | [], ds, σ, g, w, i, hd, h, hfin => by
    have : ds = [] := List.eq_nil_of_length_eq_zero (by simpa using hd.1)
    subst this
    simp only [runDefers, Option.some.injEq] at h
    subst h
    exact hfin g w (.refl g w) i
  | (f, args) :: fs, [], σ, g, w, i, hd, h, hfin => by
    have := hd.1
    simp at this
  | (f, args) :: fs, df :: ds, σ, g, w, i, hd, h, hfin => by
    obtain ⟨fi, caps, t1, cd, t2, t3, t4, t5⟩ := hd.2 0 df (f, args) rfl rfl
    simp only at t2
    subst t2
    have hd' : DefRep g ds fs := ⟨by simpa using hd.1, fun k x y h1 h2 => hd.2 (k + 1) x y (by simpa using h1) (by simpa using h2)⟩
    simp only [runDefers] at h
    split at h
    · rename_i hn
      split at h
      · rename_i r σ1 hcal
        have hin : Enters P fi := by
          unfold plainN at hcal
          split at hcal
          · cases hcal
          · rename_i m hf
            exact tab_in hT hf
        have hrep : AllRep (Rep g) (df.args ++ caps).toList (args ++ cd) := by
          rw [Array.toList_append]
          refine t4.append ?_
          cases t3 with
          | func _ vs _ hl hR hp => exact ⟨hl, hR⟩
        refine ⟨by simp, .func fi, caps, fi, df.args ++ caps, t1, ?_, ?_⟩
        · rw [t1]
          exact enter_run hin _ _
        · refine CallsD.mono (plain_ok hm hT hc hci hcal (g := g.rename hideF) i.h.hide (fun b => hideF_hideF _) (hrep.mono (g.rename_le hideF) hn) hn .returning) ?_
          rintro e u' w' ⟨rfl, v, rfl, hg⟩
          obtain ⟨g1, e1, i1, _, _, _⟩ := gives_back i hg
          exact leaves_ok hm hT hc hci fs ds i1 (hd'.mono e1.le) h (fun g2 w2 e2 i2 => hfin g2 w2 (e1.trans e2) i2)
      · cases h
    · cases h

/-- Every call. -/
theorem callN_ok (hm : P.follows .mixedOrders = true) (hT : TabOK P T) : ∀ n, CalOK P (callN T n) ∧ CalIn P (callN T n) := by
  intro n
  induction n with
  | zero =>
    refine ⟨?_, ?_⟩
    · intro f ds σ d σ' h
      simp [callN] at h
    · intro f ds σ r h
      simp [callN] at h
  | succ n ih =>
    obtain ⟨hc, hci⟩ := ih
    refine ⟨fun f ds σ d σ' h g w vals hi hide hr hn => ?_, fun f ds σ r h => ?_⟩
    · suffices hs : Calls P f vals w (fun e w' => ∃ v, e = .returned v ∧ Gives P g.bare w w' σ' v d) from
        Calls.mono hs (fun e w' ⟨v, h2, h3⟩ => ⟨v, h2, h3.unbare⟩)
      replace hi := hi.bare
      replace hr := allRep_bare hr hn
      have hide : ∀ b, hideF (g.bare.ω b) = g.bare.ω b := hide
      have hbase : g.bare.base = [] := rfl
      generalize g.bare = g at *
      simp only [callN] at h
      split at h
      · cases h
      · rename_i m hf
        obtain ⟨fn, h1, h2, h3⟩ := hT f m hf
        rcases h2 with ⟨mu, h2⟩ | ⟨fn', c, g1, g2, g3⟩ | ⟨fn', c, g1, g2, gt, g3⟩
        rotate_left
        · split at h
          · rename_i fr1 σ1 hrun
            obtain ⟨k1, k2⟩ := g3 _ n hc hci ds σ fr1 σ1 hrun
            rw [if_pos k1] at h
            exact calls_of_wp g1 g2 (k2 d σ' h g w vals hi hide hr hn hbase)
          · cases h
        · split at h
          · rename_i fr1 σ1 hrun
            by_cases k1 : fr1.defers.isEmpty = true
            · rw [if_pos k1] at h
              exact g3 _ n hc hci ds σ fr1 σ1 hrun k1 d σ' h g w vals hi hide hr hn hbase
            · rw [if_neg k1, if_pos gt] at h
              cases h
          · cases h
        obtain ⟨c, keep, q1, q2, q3, q4⟩ := compFn_parts h2
        split at h
        · rename_i fr1 σ1 hrun
          refine calls_of_wp_defers h1 q1 (body_ok hm hc hci q3 q4 hrun hi hbase hide hr hn (fun e a' w' g' he e1 i1 => ?_))
          have key : Leaves P fn a'.tmps (fun e w' => ∃ v, e = .returned v ∧ Gives P g w w' σ' v d) a'.defers .returning w' := by
            split at h
            · rename_i hd
              rw [defers_nil i1 (e1.base.trans hbase) hd]
              obtain ⟨v, r1, r2⟩ := results_ok i1 q2 h
              exact ⟨v, r1, v, rfl, r2.ext e1⟩
            · split at h
              · cases h
              split at h
              · rename_i σ2 hdef
                have hd1 : DefRep g' a'.defers fr1.defers := by
                  obtain ⟨l, hl, hd⟩ := i1.d
                  rw [e1.base.trans hbase, List.append_nil] at hl
                  rw [hl]
                  exact hd
                refine leaves_ok hm hT hc hci fr1.defers a'.defers i1 hd1 hdef (fun g2 w2 e2 i2 => ?_)
                obtain ⟨v, r1, r2⟩ := results_ok i2 q2 h
                exact ⟨v, r1, v, rfl, r2.ext (e1.trans e2)⟩
              · cases h
          rcases he with rfl | rfl
          · exact key
          · exact key
        · cases h
    · simp only [callN] at h
      split at h
      · cases h
      · rename_i m hf
        exact tab_in hT hf

end
end Go.Abs

/-
  Functions of which a statement is told: codes part by part, marks among a frame's deferred calls, ranges over functions.
-/
namespace Go.Abs
open Go Go.RowKit

section
variable {P : Program} {g g' : Gh} {w w' : World} {fr fr' : Fr} {σ σ' : St} {a : Act} {o : Oper} {d : D} {cal : Cal} {q : Bool} {mu : List Nat} {Q : Exit → Act → World → Prop}

/-- A mark: its block, laid since n0, is open and empty. -/
def MarkAt (g : Gh) (w : World) (n0 : Nat) (d : Deferred) : Prop := ∃ b, d = { target := .collected b, args := #[] } ∧ n0 ≤ b ∧ w.heap[b]? = some (.deferred (some [])) ∧ g.ω b = .other
def Marks (g : Gh) (w : World) (n0 : Nat) : Prop := (∀ d ∈ g.base, MarkAt g w n0 d) ∧ g.base.Pairwise (fun x y => x ≠ y)

/-- As Ext, but marks may have come. -/
structure ExtM (g : Gh) (w : World) (g' : Gh) (w' : World) : Prop where
  le : g.Le g'
  os : w'.os = w.os
  tape : w'.tape = w.tape
  output : w'.output = w.output
  size : w.heap.size ≤ w'.heap.size
  blk : ∀ b, b < w.heap.size → (g.ω b).mine = false → w'.heap[b]? = w.heap[b]? ∧ g'.ω b = g.ω b
  new : ∀ (b off : Nat) (v : Value), g'.I b off = some v → g.I b off = some v ∨ w.heap.size ≤ b ∨ (g.ω b).mine = true
  marks : ∀ n0, n0 ≤ w.heap.size → Marks g w n0 → Marks g' w' n0

theorem Ext.m (e : Ext g w g' w') : ExtM g w g' w' :=
  ⟨e.le, e.os, e.tape, e.output, e.size, e.blk, e.new, fun n0 _ h => by
    refine ⟨fun d hd => ?_, by rw [e.base]; exact h.2⟩
    rw [e.base] at hd
    obtain ⟨b, h1, h2, h3, h4⟩ := h.1 d hd
    obtain ⟨k1, k2⟩ := e.blk b (lt_of_heap h3) (by rw [h4]; rfl)
    exact ⟨b, h1, h2, k1.trans h3, k2.trans h4⟩⟩
theorem ExtM.trans {g1 : Gh} {w1 : World} (h : ExtM g w g1 w1) (k : ExtM g1 w1 g' w') : ExtM g w g' w' := by
  refine ⟨h.le.trans k.le, k.os.trans h.os, k.tape.trans h.tape, k.output.trans h.output, Nat.le_trans h.size k.size, fun b hb hm => ?_, fun b off v hv => ?_, fun n0 hn hM => k.marks n0 (Nat.le_trans hn h.size) (h.marks n0 hn hM)⟩
  · obtain ⟨h1, h2⟩ := h.blk b hb hm
    obtain ⟨k1, k2⟩ := k.blk b (Nat.lt_of_lt_of_le hb h.size) (by rw [h2]; exact hm)
    exact ⟨k1.trans h1, k2.trans h2⟩
  · rcases k.new b off v hv with h1 | h1 | h1
    · exact h.new b off v h1
    · exact .inr (.inl (Nat.le_trans h.size h1))
    · rcases Nat.lt_or_ge b w.heap.size with hb | hb
      · by_cases hm : (g.ω b).mine = true
        · exact .inr (.inr hm)
        · have := (h.blk b hb (by simpa using hm)).2
          rw [this] at h1
          exact absurd h1 hm
      · exact .inr (.inl hb)
theorem ExtM.refl (g : Gh) (w : World) : ExtM g w g w := (Ext.refl g w).m

/-- A code, and what stands for it. -/
def CodeM (P : Program) (c : Code) (m : MCode) : Prop :=
  ∀ (cal : Cal) (fuel : Nat), CalOK P cal → CalIn P cal → ∀ {ae : AE} {fr fr' : Fr} {σ σ' : St} {a : Act} {g : Gh} {w : World} {Q : Exit → Act → World → Prop},
    runC cal fuel m fr σ = some (ae, fr', σ') → Inv P g w fr σ a → (∀ a' w' g', ExtM g w g' w' → Inv P g' w' fr' σ' a' → Q ae.exit' a' w') → c.wp P Q a w

theorem codeM_comp (hm : P.follows .mixedOrders = true) {keep : Lv} {c : Code} {m : MCode} (h : compC P mu keep c = some m) : CodeM P c m :=
  fun _ fuel hc hci _ _ _ _ _ _ _ _ _ hr i hn => wp_code hm hc hci keep fuel c h hr i (fun a' w' g' e i' => hn a' w' g' e.m i')
theorem codeM_seq {x y : Code} {mx my : MCode} (hx : CodeM P x mx) (hy : CodeM P y my) : CodeM P (.seq x y) (.seq mx my) := by
  intro cal fuel hc hci ae fr fr' σ σ' a g w Q hr i hn
  simp only [runC] at hr
  split at hr
  · rename_i fr1 σ1 h1
    refine wp_seq (hx cal fuel hc hci h1 i (fun a1 w1 g1 e1 i1 => ?_))
    exact hy cal fuel hc hci hr i1 (fun a2 w2 g2 e2 i2 => hn a2 w2 g2 (e1.trans e2) i2)
  · rename_i hno
    refine wp_seq (hx cal fuel hc hci hr i (fun a1 w1 g1 e1 i1 => ?_))
    cases ae with
    | normal => exact absurd hr (hno _ _)
    | exit id => exact hn a1 w1 g1 e1 i1
    | ret => exact hn a1 w1 g1 e1 i1
theorem codeM_cond {x : Operand} {x' : X} {c1 c2 : Code} {m1 m2 : MCode} (hX : compX x = some x') (h1 : CodeM P c1 m1) (h2 : CodeM P c2 m2) : CodeM P (.cond x c1 c2) (.cond x' m1 m2) := by
  intro cal fuel hc hci ae fr fr' σ σ' a g w Q hr i hn
  have hv := (val_ok i.s hX).1
  simp only [runC] at hr
  split at hr
  · rename_i hb
    rw [hb] at hv
    exact wp_cond_true (rep_bool hv) (h1 cal fuel hc hci hr i hn)
  · rename_i hb
    rw [hb] at hv
    exact wp_cond_false (rep_bool hv) (h2 cal fuel hc hci hr i hn)
  · cases hr
theorem codeM_block {id : Nat} {c : Code} {m : MCode} (h : CodeM P c m) : CodeM P (.block id c) (.block id m) := by
  intro cal fuel hc hci ae fr fr' σ σ' a g w Q hr i hn
  simp only [runC] at hr
  split at hr
  · rename_i i' fr1 σ1 hr1
    refine wp_block (h cal fuel hc hci hr1 i (fun a1 w1 g1 e1 i1 => ?_))
    simp only [AE.exit', Exit.inBlock]
    split at hr
    · rename_i hid
      cases hr
      rw [if_pos hid]
      exact hn a1 w1 g1 e1 i1
    · rename_i hid
      cases hr
      rw [if_neg hid]
      exact hn a1 w1 g1 e1 i1
  · rename_i hno
    refine wp_block (h cal fuel hc hci hr i (fun a1 w1 g1 e1 i1 => ?_))
    cases ae with
    | normal => exact hn a1 w1 g1 e1 i1
    | exit id' => exact absurd hr (hno _ _ _)
    | ret => exact hn a1 w1 g1 e1 i1

/-- A block that nobody claims, and that is no cells, is put otherwise. -/
theorem Inv.putOther (i : Inv P g w fr σ a) {b : Nat} {ob : Go.Obj} (h0 : w.heap[b]? = some ob) (hnc : ∀ arr ty f, ob ≠ .cells arr ty f) (hω : g.ω b = .other) (ob' : Go.Obj) : Inv P g (w.putObj b ob') fr σ a := by
  refine i.keep (C := fun x => x = b) ⟨.refl g, by simp, fun c _ hc => ⟨World.putObj_heap_other hc, rfl, fun _ => rfl⟩⟩ (fun c hc h => ?_) (fun _ _ _ => rfl) (fun c off v hv => ?_) rfl
  · rw [hc, hω] at h
    exact h
  · have h1 := i.h.imm c off v hv
    have hne : c ≠ b := by
      rintro rfl
      unfold World.cell? at h1
      rw [h0] at h1
      cases ob with
      | cells arr ty f => exact hnc _ _ _ rfl
      | _ => simp at h1
    unfold World.cell? at h1 ⊢
    simp only [] at h1 ⊢
    rw [World.putObj_heap_other hne]
    exact h1
theorem HInv.putOther (i : HInv P g w σ) {b : Nat} {ob : Go.Obj} (h0 : w.heap[b]? = some ob) (hnc : ∀ arr ty f, ob ≠ .cells arr ty f) (hω : g.ω b = .other) (ob' : Go.Obj) : HInv P g (w.putObj b ob') σ :=
  (Inv.putOther (fr := ⟨[], [], []⟩) (a := { tmps := #[], defers := g.base }) ⟨i, ⟨rfl, rfl, fun t d h => by simp at h, fun t cs h => by simp at h⟩, ⟨[], rfl, rfl, fun k x y h => by simp at h⟩⟩ h0 hnc hω ob').h

/-- The frame's marks, one by one; then the results. -/
theorem leavesM {n0 : Nat} {fn : Func} {R : Ending → World → Prop} {tm : Array Value} : ∀ (ds : List Deferred) {g : Gh} {w : World} {a : Act}, Inv P g w fr σ a → (∀ d ∈ ds, MarkAt g w n0 d) → ds.Pairwise (fun x y => x ≠ y) →
    (∀ w', (∀ b, b < n0 → w'.heap[b]? = w.heap[b]?) → w.heap.size = w'.heap.size → w'.os = w.os → w'.tape = w.tape → w'.output = w.output → Inv P g w' fr σ a → ∃ v, (results fn tm).run P w' = .ok v w' ∧ R (.returned v) w') →
    LeavesInM Fence.wide 0 P fn tm R ds .returning w
  | [], g, w, a, i, _, _, hfin => hfin w (fun _ _ => rfl) rfl rfl rfl rfl i
  | d :: ds, g, w, a, i, hM, hp, hfin => by
    obtain ⟨b, rfl, h2, h3, h4⟩ := hM d (by simp)
    refine ⟨by simp, .inl ⟨b, _, rfl, run_takeDeferred h3, ?_⟩⟩
    rw [List.pairwise_cons] at hp
    refine leavesM (n0 := n0) ds (i.putOther h3 (fun _ _ _ h => by cases h) h4 (.deferred none)) (fun d' hd' => ?_) hp.2 (fun w' hb hs ho ht hu i' => ?_)
    · obtain ⟨b', rfl, k2, k3, k4⟩ := hM d' (by simp [hd'])
      have hne : b' ≠ b := fun e => hp.1 _ hd' (by rw [e])
      exact ⟨b', rfl, k2, (World.putObj_heap_other hne).trans k3, k4⟩
    · exact hfin w' (fun c hc => (hb c hc).trans (World.putObj_heap_other (by omega))) (by rw [← hs]; simp) (ho.trans rfl) (ht.trans rfl) (hu.trans rfl) i'

/-- A function, part by part. -/
theorem goodT_of {f : FuncId} {fn : Func} {c : Code} {m : MFunc} (hf : P.funcs[f]? = some fn) (hb : fn.body = some c) (hres : resTmps P fn.results.toList = some m.results) (hnt : m.ntmps = fn.ntmps) (ht : m.body.told = true) (hc : CodeM P c m.body) : GoodT P f m := by
  refine ⟨fn, c, hf, hb, ht, fun cal fuel hcal hci ds σ fr σ1 hrun hde d σ' hro g w vals hi hide hr hn hbase => ?_⟩
  unfold runBody at hrun
  split at hrun
  · rename_i hcond
    obtain ⟨c1, c2⟩ := hcond
    split at hrun
    · cases hrun
    · rename_i ae fr1 σ2 hno hrc
      cases hrun
      refine callsIn_wide.1 (callsIn_of_wp_marks (n := 0) hf hb trivial (wpIn_wide.2 (hc cal fuel hcal hci hrc (enter_inv hnt hi hbase hr hn c1 c2) (fun a' w' g' e1 i1 => ?_))) rfl)
      have hM0 : Marks g w w.heap.size := ⟨(fun d hd => by rw [hbase] at hd; exact (List.not_mem_nil hd).elim), (by rw [hbase]; exact List.Pairwise.nil)⟩
      have hM := e1.marks _ (Nat.le_refl _) hM0
      have key : LeavesInM Fence.wide 0 P fn a'.tmps (fun e w' => ∃ v, e = .returned v ∧ Gives P g w w' σ' v d) a'.defers .returning w' := by
        rw [defers_base i1 hde]
        refine leavesM (n0 := w.heap.size) g'.base i1 hM.1 hM.2 (fun w2 hb2 hs2 ho2 ht2 hu2 i2 => ?_)
        obtain ⟨v, r1, g3, e3, r2, r3, r4, r5⟩ := results_ok i2 hres hro
        refine ⟨v, r1, v, rfl, { g3 with base := g.base }, ?_, ?_, ?_, r4, ?_⟩
        · refine ⟨⟨(e1.le.trans e3.le).I, (e1.le.trans e3.le).n, (e1.le.trans e3.le).μ, (e1.le.trans e3.le).sz⟩, (e3.os.trans ho2).trans e1.os, (e3.tape.trans ht2).trans e1.tape, (e3.output.trans hu2).trans e1.output, Nat.le_trans e1.size (by rw [hs2]; exact e3.size), fun b hb hmn => ?_, fun b off v hv => ?_, rfl⟩
          · obtain ⟨q1, q2⟩ := e1.blk b hb hmn
            obtain ⟨q3, q4⟩ := e3.blk b (Nat.lt_of_lt_of_le hb (by rw [← hs2]; exact e1.size)) (by rw [q2]; exact hmn)
            exact ⟨(q3.trans (hb2 b hb)).trans q1, q4.trans q2⟩
          · rcases e3.new b off v hv with h1 | h1 | h1
            · exact e1.new b off v h1
            · exact .inr (.inl (Nat.le_trans e1.size (by rw [hs2]; exact h1)))
            · rcases Nat.lt_or_ge b w.heap.size with hlt | hge
              · by_cases hmn : (g.ω b).mine = true
                · exact .inr (.inr hmn)
                · rw [(e1.blk b hlt (by simpa using hmn)).2] at h1
                  exact absurd h1 hmn
              · exact .inr (.inl hge)
        · exact r2.to ⟨fun _ _ _ h => h, Nat.le_refl _, fun _ _ => rfl, fun _ _ => rfl⟩ rfl rfl rfl rfl (fun _ _ _ h => h)
        · exact Rep.mono (g := g3) (g' := { g3 with base := g.base }) ⟨fun _ _ _ h => h, Nat.le_refl _, fun _ _ => rfl, fun _ _ => rfl⟩ r3 (fun _ _ _ => rfl)
        · exact r5.to rfl (fun _ h => h)
      cases ae with
      | normal => exact key
      | ret => exact key
      | exit id => exact absurd rfl (hno id)
    · cases hrun
  · cases hrun
end
end Go.Abs

/-
  A function that is told by what it answers and what it makes of the memory.
-/
namespace Go.Abs
open Go Go.RowKit
/-- A function that reads alone, told by what it answers. -/
def toldF (k : Nat) (F : List D → St → Option D) : MFunc := ⟨k, k + 1, [.tmp k], .nat fun fr σ => (F (fr.slots.take k) σ).map fun d => (.ret, fr.set k d, σ)⟩
theorem allRep_strip {g : Gh} : ∀ {vs : List Value} {ds : List D}, AllRep (Rep g) vs ds → AllRep (Rep g) vs (ds.map D.strip) := fun {vs ds} h =>
  ⟨by simpa using h.1, fun i v d h1 h2 => by
    simp only [List.getElem?_map, Option.map_eq_some_iff] at h2
    obtain ⟨d0, h2, rfl⟩ := h2
    exact (h.2 i v d0 h1 h2).strip⟩
theorem good_told {P : Program} {f : FuncId} {fn : Func} {c : Code} {k : Nat} {F : List D → St → Option D} (hf : P.funcs[f]? = some fn) (hb : fn.body = some c)
    (h : ∀ (ds : List D) (σ : St) (d : D), F ds σ = some d → d.bare = d ∧ d.notL = true ∧ ∀ (g : Gh) (w : World) (vals : Array Value), HInv P g w σ → (∀ b, hideF (g.ω b) = g.ω b) → AllRep (Rep g) vals.toList ds → g.base = [] → Calls P f vals w (fun e w' => ∃ v, e = .returned v ∧ Gives P g w w' σ v d)) : GoodT P f (toldF k F) := by
  refine ⟨fn, c, hf, hb, rfl, fun cal fuel _ _ ds σ fr σ1 hrun _ d σ' hro g w vals hi hide hr hn hbase => ?_⟩
  unfold runBody at hrun
  split at hrun
  · rename_i hcond
    obtain ⟨c1, c2⟩ := hcond
    simp only [toldF, runC] at hrun
    have htake : (enterFr (toldF k F) ds).slots.take k = ds.map D.strip := by
      have hl : (ds.map D.strip).length = k := by simpa [toldF] using c1
      simp only [enterFr]
      rw [List.take_append_of_le_length (by omega), List.take_of_length_le (by omega)]
    rw [show (enterFr ⟨k, k + 1, [.tmp k], .nat fun fr σ => (F (fr.slots.take k) σ).map fun d => (.ret, fr.set k d, σ)⟩ ds) = enterFr (toldF k F) ds from rfl, htake] at hrun
    cases hF : F (ds.map D.strip) σ with
    | none => rw [hF] at hrun; cases hrun
    | some d0 =>
      rw [hF] at hrun
      simp only [Option.map_some, Option.some.injEq, Prod.mk.injEq] at hrun
      obtain ⟨rfl, rfl⟩ := hrun
      obtain ⟨q1, q2, q3⟩ := h _ _ _ hF
      have hat : ((enterFr (toldF k F) ds).set k d0).at k = d0 := by
        have hl : ds.length = k := by simpa [toldF] using c1
        have hlt : k < (enterFr (toldF k F) ds).slots.length := by
          simp [enterFr, toldF, hl]
        simp only [Fr.at, Fr.set]
        rw [List.getD_eq_getElem?_getD, List.getElem?_set, if_pos rfl, if_pos hlt]
        rfl
      have hres : resD ((enterFr (toldF k F) ds).set k d0) σ (.tmp k) = some d0 := by
        simp only [resD, hat, q1]
      have : resultOf ((enterFr (toldF k F) ds).set k d0) σ (toldF k F).results = some (d0, σ) := by
        show resultOf ((enterFr (toldF k F) ds).set k d0) σ [.tmp k] = some (d0, σ)
        simp only [resultOf, hres]
        cases d0 <;> first | rfl | cases q2
      rw [this] at hro
      cases hro
      exact q3 g w vals hi hide (allRep_strip hr) hbase
  · cases hrun

def toldS (k : Nat) (F : List D → St → Option (D × St)) : MFunc := ⟨k, k + 1, [.tmp k], .nat fun fr σ => (F (fr.slots.take k) σ).map fun r => (.ret, fr.set k r.1, r.2)⟩
theorem good_toldS {P : Program} {f : FuncId} {fn : Func} {c : Code} {k : Nat} {F : List D → St → Option (D × St)} (hf : P.funcs[f]? = some fn) (hb : fn.body = some c)
    (h : ∀ (ds : List D) (σ : St) (d : D) (σ' : St), F ds σ = some (d, σ') → d.bare = d ∧ d.notL = true ∧ ∀ (g : Gh) (w : World) (vals : Array Value), HInv P g w σ → (∀ b, hideF (g.ω b) = g.ω b) → AllRep (Rep g) vals.toList ds → g.base = [] → Calls P f vals w (fun e w' => ∃ v, e = .returned v ∧ Gives P g w w' σ' v d)) : GoodT P f (toldS k F) := by
  refine ⟨fn, c, hf, hb, rfl, fun cal fuel _ _ ds σ fr σ1 hrun _ d σ' hro g w vals hi hide hr hn hbase => ?_⟩
  unfold runBody at hrun
  split at hrun
  · rename_i hcond
    obtain ⟨c1, c2⟩ := hcond
    simp only [toldS, runC] at hrun
    have htake : (enterFr (toldS k F) ds).slots.take k = ds.map D.strip := by
      have hl : (ds.map D.strip).length = k := by simpa [toldS] using c1
      simp only [enterFr]
      rw [List.take_append_of_le_length (by omega), List.take_of_length_le (by omega)]
    rw [show (enterFr ⟨k, k + 1, [.tmp k], .nat fun fr σ => (F (fr.slots.take k) σ).map fun r => (.ret, fr.set k r.1, r.2)⟩ ds) = enterFr (toldS k F) ds from rfl, htake] at hrun
    cases hF : F (ds.map D.strip) σ with
    | none => rw [hF] at hrun; cases hrun
    | some r0 =>
      obtain ⟨d0, σ0⟩ := r0
      rw [hF] at hrun
      simp only [Option.map_some, Option.some.injEq, Prod.mk.injEq] at hrun
      obtain ⟨rfl, rfl⟩ := hrun
      obtain ⟨q1, q2, q3⟩ := h _ _ _ _ hF
      have hat : ((enterFr (toldS k F) ds).set k d0).at k = d0 := by
        have hl : ds.length = k := by simpa [toldS] using c1
        have hlt : k < (enterFr (toldS k F) ds).slots.length := by
          simp [enterFr, toldS, hl]
        simp only [Fr.at, Fr.set]
        rw [List.getD_eq_getElem?_getD, List.getElem?_set, if_pos rfl, if_pos hlt]
        rfl
      have hres : resD ((enterFr (toldS k F) ds).set k d0) σ0 (.tmp k) = some d0 := by
        simp only [resD, hat, q1]
      have : resultOf ((enterFr (toldS k F) ds).set k d0) σ0 (toldS k F).results = some (d0, σ0) := by
        show resultOf ((enterFr (toldS k F) ds).set k d0) σ0 [.tmp k] = some (d0, σ0)
        simp only [resultOf, hres]
        cases d0 <;> first | rfl | cases q2
      rw [this] at hro
      cases hro
      exact q3 g w vals hi hide (allRep_strip hr) hbase
  · cases hrun
end Go.Abs

/-
  A table as a tree.
-/
namespace Go.Abs
inductive BT where
  | leaf
  | node (l : BT) (k : Nat) (m : MFunc) (r : BT)
def BT.look : BT → Nat → Option MFunc
  | .leaf, _ => none
  | .node l k m r, n => bif Nat.beq n k then some m else bif Nat.blt n k then l.look n else r.look n
def BT.all : BT → List (Nat × MFunc)
  | .leaf => []
  | .node l k m r => l.all ++ (k, m) :: r.all
theorem BT.look_mem : ∀ {t : BT} {n : Nat} {m : MFunc}, t.look n = some m → (n, m) ∈ t.all
  | .leaf, n, m, h => by cases h
  | .node l k m0 r, n, m, h => by
    simp only [BT.look, cond_eq_ite] at h
    simp only [BT.all, List.mem_append, List.mem_cons]
    split at h
    · rename_i hk
      cases h
      have := Nat.eq_of_beq_eq_true hk
      subst this
      exact .inr (.inl rfl)
    · split at h
      · exact .inl (look_mem h)
      · exact .inr (.inr (look_mem h))
end Go.Abs
