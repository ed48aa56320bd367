/-
  A part of AnalyzeFew's proof.
-/
import Derived.Test.YthbfgdbbnapjeaaGreatOps17
import Derived.Defers
import Derived.RangeFuncLeaves
import Derived.RangeFuncRecord
import Derived.Laws.Cover3
set_option linter.unusedVariables false
set_option linter.unusedSimpArgs false
namespace Go.Abs
open Go Go.RowKit
section
variable {P : Program} {g g' : Gh} {w w' : World} {fr fr' : Fr} {σ σ' : St} {a : Act} {d : D} {cal : Cal} {T : Table} {mu : List Nat}
def resRun (tmps : Array Value) : ResultVar → Sem Value
 | .tmp t => pure (tmps.getD t undef)
 | .cell a t => do loadVar t (← asAddr (tmps.getD a undef))
theorem results_eq (fn : Func) (tmps : Array Value) : results fn tmps = (do
  let vs ← fn.results.mapM (resRun tmps)
  pure (if h : vs.size = 1 then vs[0] else .tuple vs)) := by
 unfold results
 congr 1
inductive ResC (P : Program) : ResultVar → MRes → Prop
 | tmp (t : Nat) : ResC P (.tmp t) (.tmp t)
 | cell (t : Nat) (ty : TypeId) (agg : Bool) (s : Nat) (h1 : isAggT P ty = some agg) (h2 : sizeT P ty = some s) : ResC P (.cell t ty) (.cell t agg s)
theorem resTmps_cons {r : ResultVar} {rs : List ResultVar} {ms : List MRes} (h : resTmps P (r :: rs) = some ms) : ∃ m l, ms = m :: l ∧ ResC P r m ∧ resTmps P rs = some l := by
 cases r with
 | tmp t =>
  simp only [resTmps, Option.map_eq_some_iff] at h
  obtain ⟨l, h1, rfl⟩ := h
  exact ⟨_, l, rfl, .tmp t, h1⟩
 | cell t ty =>
  simp only [resTmps] at h
  split at h
  ·rename_i agg s h1 h2
   rw [Option.map_eq_some_iff] at h
   obtain ⟨l, h3, rfl⟩ := h
   exact ⟨_, l, rfl, .cell t ty agg s h1 h2, h3⟩
  ·cases h
theorem cellsAt_strip (fr : Fr) (σ : St) (d : D) : cellsAt fr σ d.strip = cellsAt fr σ d := by cases d <;> rfl
theorem own_bare {tag : Tag} {v : Value} {d : D} (h : Own P g w tag v d) : Own P g w tag v d.bare := by
 cases d with
 | agg cs => intro es e hd; cases hd
 | _ => exact h
theorem bare_lptr {d : D} {s off : Nat} (h : d.bare = .lptr s off) : d = .lptr s off := by cases d <;> first | exact h | cases h
theorem resD_ok (i : Inv P g w fr σ a) {r : ResultVar} {m : MRes} (hc : ResC P r m) (h : resD fr σ m = some d) :
  ∃ v, (resRun a.tmps r).run P w = .ok v w ∧ Rep g v d ∧ (∃ t, Own P g w (.sbuf t) v d) ∧ ∀ s off, d = .lptr s off → ∃ cs, fr.boxes[s]? = some (some cs) := by
 cases hc with
 | tmp t =>
  simp only [resD, Option.some.injEq] at h
  subst h
  refine ⟨a.tmps.getD t undef, rfl, ?_⟩
  rcases at_cases fr t with h | ⟨_, hj⟩
  ·obtain ⟨v, h1, h2, h3, h4⟩ := i.s.slots t _ h
   have : a.tmps.getD t undef = v := by simp [h1]
   rw [this]
   exact ⟨h2.bare, ⟨t, own_bare h3⟩, fun s off e => h4 s off (bare_lptr e)⟩
  ·rw [hj]
   exact ⟨.junk _, ⟨t, .of_ne rfl⟩, fun s off e => by cases e⟩
 | cell t ty agg s h1 h2 =>
  simp only [resD] at h
  split at h
  ·cases h
  ·rename_i cs hcs
   have hv := (val_ok i.s (x := .tmp t) (X := .tmp t) rfl).1
   have hcs' : cellsAt fr σ (fr.val (.tmp t)) = some cs := by
    simp only [Fr.val]
    rw [cellsAt_strip]
    exact hcs
   obtain ⟨b, off, q1, q2⟩ := cellsAt_ok i hv hcs'
   have hrun : ∀ u, (loadVar ty ⟨b, off, none⟩).run P w = .ok u w → (resRun a.tmps (.cell t ty)).run P w = .ok u w := fun u hu => by
    simp only [resRun]
    have he : a.tmps.getD t undef = .pointer (some ⟨b, off, none⟩) := q1
    rw [he]
    rw [run_bo (show (asAddr (Value.pointer (some ⟨b, off, none⟩))).run P w = .ok ⟨b, off, none⟩ w from rfl)]
    exact hu
   split at h
   ·rename_i ha
    subst ha
    split at h
    ·rename_i hle
     cases h
     obtain ⟨v, r1, r2⟩ := loadAgg_run h1 h2 hle q2
     exact ⟨v, hrun v r1, r2, ⟨0, .of_ne rfl⟩, fun s off e => by cases e⟩
    ·cases h
   ·rename_i ha
    have ha' : agg = false := by simpa using ha
    subst ha'
    split at h
    ·cases h
    ·rename_i e rest
     cases h
     obtain ⟨p1, u, p2, p3⟩ := q2 0 e rfl
     refine ⟨u, hrun u (load1_run h1 p2), p3.strip, ⟨0, .of_strip⟩, fun s off he => ?_⟩
     have : e.strip.notL = true := by rw [notL_strip]; exact notL_of_plain p1
     rw [he] at this
     cases this
theorem resAll_ok (i : Inv P g w fr σ a) : ∀ {rs : List ResultVar} {ms : List MRes} {ds : List D}, resTmps P rs = some ms → resAll fr σ ms = some ds → ∃ vs, (rs.mapM (resRun a.tmps)).run P w = .ok vs w ∧ AllRep (Rep g) vs ds
 | [], ms, ds, h1, h2 => by
  simp only [resTmps, Option.some.injEq] at h1
  subst h1
  simp only [resAll, Option.some.injEq] at h2
  subst h2
  exact ⟨[], rfl, rfl, fun i v d h => by simp at h⟩
 | r :: rs, ms, ds, h1, h2 => by
  obtain ⟨m, l, rfl, k1, k2⟩ := resTmps_cons h1
  simp only [resAll] at h2
  split at h2
  ·rename_i d1 h3
   rw [Option.map_eq_some_iff] at h2
   obtain ⟨ds', h4, rfl⟩ := h2
   obtain ⟨v, q1, q2, _, _⟩ := resD_ok i k1 h3
   obtain ⟨vs, q3, q4⟩ := resAll_ok i k2 h4
   refine ⟨v :: vs, ?_, .cons q2.strip q4⟩
   rw [List.mapM_cons, run_bo q1, run_bo q3]
   rfl
  ·cases h2
theorem Gives.ext {σ2 : St} {v : Value} {w2 : World} (e : Ext g w g' w') (h : Gives P g' w' w2 σ2 v d) : Gives P g w w2 σ2 v d := by
 obtain ⟨g2, h1, h2⟩ := h
 exact ⟨g2, e.trans h1, h2⟩
def handF (t : Nat) : Tag → Tag
 | .sbuf s => if s = t then .hand else .sbuf s
 | x => x
theorem results_ok (i : Inv P g w fr σ a) {fn : Func} {ms : List MRes} (hrs : resTmps P fn.results.toList = some ms) (h : resultOf fr σ ms = some (d, σ')) :
  ∃ v, (results fn a.tmps).run P w = .ok v w ∧ Gives P g w w σ' v d := by
 have hmap : ∀ vs, (fn.results.toList.mapM (resRun a.tmps)).run P w = .ok vs w → (fn.results.mapM (resRun a.tmps)).run P w = .ok vs.toArray w := fun vs hvs => by
  rw [Array.mapM_eq_mapM_toList, Sem.run_map, hvs]
  rfl
 have stay : HInv P g w σ := i.h
 by_cases hone : ∃ m, ms = [m]
 ·obtain ⟨m, rfl⟩ := hone
  obtain ⟨rv, hrv, hc⟩ : ∃ rv, fn.results.toList = [rv] ∧ ResC P rv m := by
   cases hl : fn.results.toList with
   | nil => rw [hl] at hrs; simp [resTmps] at hrs
   | cons r rs =>
    rw [hl] at hrs
    obtain ⟨m', l, h1, h2, h3⟩ := resTmps_cons hrs
    cases h1
    cases rs with
    | nil => exact ⟨r, rfl, h2⟩
    | cons r2 rs2 =>
     obtain ⟨_, _, h4, _⟩ := resTmps_cons h3
     cases h4
  have hrun : ∀ v, (resRun a.tmps rv).run P w = .ok v w → (results fn a.tmps).run P w = .ok v w := fun v hv => by
   rw [results_eq, run_bo (hmap [v] (by rw [hrv, List.mapM_cons, run_bo hv]; rfl))]
   rfl
  simp only [resultOf] at h
  split at h
  ·rename_i t off hd
   rw [Option.map_eq_some_iff] at h
   obtain ⟨⟨fr1, σ1⟩, h1, h2⟩ := h
   cases h2
   obtain ⟨v, q1, q2, _, _⟩ := resD_ok i hc hd
   obtain ⟨sz, i1, e1, hn⟩ := i.promote h1
   have := q2.relink (t := t) (sz := sz)
   simp only [relinkL, if_true] at this
   rw [hn]
   exact ⟨v, hrun v q1, g.promote t sz, e1, i1.h, this, rfl, .of_ne rfl⟩
  ·rename_i d1 hno hd
   cases h
   obtain ⟨v, q1, q2, ⟨t, q3⟩, _⟩ := resD_ok i hc hd
   refine ⟨v, hrun v q1, g.rename (handF t), Ext.rename g w (handF t) (fun tag ht => ?_), i.h.to (g.rename_le _) rfl rfl rfl rfl (fun b tag ht hb => ?_), q2.rename _, ?_, ?_⟩
   ·cases tag <;> first | rfl | exact absurd rfl ht
   ·show handF t (g.ω b) = tag
    rw [hb]
    rcases ht with ⟨o, rfl⟩ | ⟨o, j, rfl⟩ | ⟨o, rfl⟩ <;> rfl
   ·cases d <;> first | rfl | exact absurd rfl (hno _ _)
   ·have := q3.rename (handF t)
    simpa [handF] using this
  ·cases h
 ·have h' : (match resAll fr σ ms with | some ds => if ds.all D.notL then some (D.tup ds, σ) else none | none => none) = some (d, σ') := by
   unfold resultOf at h
   split at h
   ·rename_i r; exact absurd ⟨r, rfl⟩ hone
   ·exact h
  split at h'
  ·rename_i ds hds
   split at h'
   ·rename_i hn
    cases h'
    obtain ⟨vs, q1, q2⟩ := resAll_ok i hrs hds
    have hlen : vs.length ≠ 1 := fun hl => by
     have hml : ∀ {ms : List MRes} {ds : List D}, resAll fr σ ms = some ds → ds.length = ms.length := by
      intro ms
      induction ms with
      | nil => intro ds h; simp only [resAll, Option.some.injEq] at h; subst h; rfl
      | cons m l ih =>
       intro ds h
       simp only [resAll] at h
       split at h
       ·rw [Option.map_eq_some_iff] at h
        obtain ⟨ds', h4, rfl⟩ := h
        simp [ih h4]
       ·cases h
     have h1 := hml hds
     rw [← q2.1, hl] at h1
     cases ms with
     | nil => cases h1
     | cons m l =>
      cases l with
      | nil => exact hone ⟨m, rfl⟩
      | cons m2 l2 => simp at h1
    refine ⟨.tuple vs.toArray, ?_, g, .refl g w, i.h, .tup _ _ q2.1 q2.2 hn, rfl, .of_ne rfl⟩
    rw [results_eq, run_bo (hmap vs q1)]
    simp only [List.size_toArray, hlen, dite_false]
    rfl
   ·cases h'
  ·cases h'
theorem compFn_parts {fn : Func} {m : MFunc} (h : compFn P mu fn = some m) : ∃ c keep, fn.body = some c ∧ resTmps P fn.results.toList = some m.results ∧ compC P mu keep c = some m.body ∧ m.ntmps = fn.ntmps := by
 unfold compFn at h
 split at h
 ·rename_i c rs h1 h2
  simp only [Option.map_eq_some_iff] at h
  obtain ⟨mc, h3, rfl⟩ := h
  exact ⟨c, _, h1, h2, h3, rfl⟩
 ·cases h
theorem enter_inv {m : MFunc} {nt : Nat} (hnt : m.ntmps = nt) {ds : List D} {vals : Array Value} (hi : HInv P g w σ) (hbase : g.base = []) (hr : AllRep (Rep g) vals.toList ds) (hn : ds.all D.notL = true) (c1 : ds.length = m.nparams) (c2 : m.nparams ≤ m.ntmps) :
  Inv P g w (enterFr m ds) σ { tmps := vals ++ Array.replicate (nt - vals.size) undef, defers := [] } := by
 have hl : vals.size = ds.length := by have := hr.1; simpa using this
 refine ⟨hi, ⟨?_, ?_, fun t e ht => ?_, fun t cs ht => ?_⟩, ⟨[], by rw [hbase]; rfl, rfl, fun k x y h1 => by simp at h1⟩⟩
 ·simp [enterFr, hl, hnt]
 ·simp only [enterFr, List.length_replicate, List.length_append, List.length_map]
  omega
 ·simp only [enterFr] at ht
  by_cases hlt : t < ds.length
  ·rw [List.getElem?_append_left (by simpa using hlt), List.getElem?_map, Option.map_eq_some_iff] at ht
   obtain ⟨d0, h1, rfl⟩ := ht
   obtain ⟨v, q1, q2⟩ := hr.get h1
   refine ⟨v, ?_, q2.strip, .of_strip, fun s off e => ?_⟩
   ·rw [Array.getElem?_append_left om]
    simpa using q1
   ·have := all_get hn h1
    rw [← notL_strip, e] at this
    cases this
  ·rw [List.getElem?_append_right (by simpa using hlt)] at ht
   have hj := List.eq_of_mem_replicate (List.mem_of_getElem? ht)
   have hlt2 : t - ds.length < m.ntmps - ds.length := by simpa using get_lt ht
   subst hj
   refine ⟨undef, ?_, .junk _, .of_ne rfl, fun s off e => by cases e⟩
   rw [Array.getElem?_append_right om, hl]
   simp [← hnt, hlt2]
 ·have hj := List.eq_of_mem_replicate (List.mem_of_getElem? ht)
  cases hj
theorem body_ok (hm : P.follows .mixedOrders = true) (hc : CalOK P cal) (hci : CalIn P cal) {c : Code} {keep : Lv} {m : MFunc} {nt : Nat} (hcomp : compC P mu keep c = some m.body) (hnt : m.ntmps = nt) {fuel : Nat} {ds : List D}
  (h : runBody cal fuel m ds σ = some (fr', σ')) {vals : Array Value} (hi : HInv P g w σ) (hbase : g.base = []) (_hide : ∀ b, hideF (g.ω b) = g.ω b) (hr : AllRep (Rep g) vals.toList ds) (hn : ds.all D.notL = true) {Q : Exit → Act → World → Prop}
  (hQ : ∀ e a' w' g', e = .normal ∨ e = .ret → Ext g w g' w' → Inv P g' w' fr' σ' a' → Q e a' w') : c.wp P Q { tmps := vals ++ Array.replicate (nt - vals.size) undef, defers := [] } w := by
 unfold runBody at h
 split at h
 ·rename_i hcond
  obtain ⟨c1, c2⟩ := hcond
  split at h
  ·cases h
  ·rename_i ae fr1 σ1 hno hrun
   cases h
   refine wp_code hm hc hci keep fuel c hcomp hrun (enter_inv hnt hi hbase hr hn c1 c2) (fun a' w' g' e1 i1 => hQ _ a' w' g' ?_ e1 i1)
   cases ae with
   | normal => exact .inl rfl
   | ret => exact .inr rfl
   | exit id => exact absurd rfl (hno id)
  ·cases h
 ·cases h
def Good (P : Program) (f : Nat) (m : MFunc) : Prop :=
 ∃ fn c, P.funcs[f]? = some fn ∧ fn.body = some c ∧ ∀ (cal : Cal) (fuel : Nat), CalOK P cal → CalIn P cal → ∀ (ds : List D) (σ : St) (fr : Fr) (σ1 : St), runBody cal fuel m ds σ = some (fr, σ1) →
  fr.defers.isEmpty = true ∧ ∀ (d : D) (σ' : St), resultOf fr σ1 m.results = some (d, σ') → ∀ (g : Gh) (w : World) (vals : Array Value), HInv P g w σ → (∀ b, hideF (g.ω b) = g.ω b) → AllRep (Rep g) vals.toList ds → ds.all D.notL = true → g.base = [] →
   c.wp P (bodyPost P fn (fun e w' => ∃ v, e = .returned v ∧ Gives P g w w' σ' v d)) { tmps := vals ++ Array.replicate (fn.ntmps - vals.size) undef, defers := [] } w
def GoodT (P : Program) (f : Nat) (m : MFunc) : Prop :=
 ∃ fn c, P.funcs[f]? = some fn ∧ fn.body = some c ∧ m.body.told = true ∧ ∀ (cal : Cal) (fuel : Nat), CalOK P cal → CalIn P cal → ∀ (ds : List D) (σ : St) (fr : Fr) (σ1 : St), runBody cal fuel m ds σ = some (fr, σ1) →
  fr.defers.isEmpty = true → ∀ (d : D) (σ' : St), resultOf fr σ1 m.results = some (d, σ') → ∀ (g : Gh) (w : World) (vals : Array Value), HInv P g w σ → (∀ b, hideF (g.ω b) = g.ω b) → AllRep (Rep g) vals.toList ds → ds.all D.notL = true → g.base = [] →
   Calls P f vals w (fun e w' => ∃ v, e = .returned v ∧ Gives P g w w' σ' v d)
def TabOK (P : Program) (T : Table) : Prop := ∀ (f : Nat) (m : MFunc), T f = some m → ∃ fn, P.funcs[f]? = some fn ∧ ((∃ mu, compFn P mu fn = some m) ∨ Good P f m ∨ GoodT P f m) ∧ (fn.name == "runtime.NumGoroutine") = false
def Gh.bare (g : Gh) : Gh := { g with base := [] }
theorem HInv.bare (h : HInv P g w σ) : HInv P g.bare w σ := h.to ⟨fun _ _ _ h => h, Nat.le_refl _, fun _ _ => rfl, fun _ _ => rfl⟩ rfl rfl rfl rfl (fun _ _ _ h => h)
theorem allRep_bare {vals : List Value} {ds : List D} (h : AllRep (Rep g) vals ds) (hn : ds.all D.notL = true) : AllRep (Rep g.bare) vals ds := h.mono ⟨fun _ _ _ h => h, Nat.le_refl _, fun _ _ => rfl, fun _ _ => rfl⟩ hn
theorem Gives.unbare {v : Value} (h : Gives P g.bare w w' σ' v d) : Gives P g w w' σ' v d := by
 obtain ⟨g2, e, h1, h2, h3, h4⟩ := h
 have hle : g2.Le { g2 with base := g.base } := ⟨fun _ _ _ h => h, Nat.le_refl _, fun _ _ => rfl, fun _ _ => rfl⟩
 exact ⟨{ g2 with base := g.base }, ⟨⟨e.le.I, e.le.n, e.le.μ, e.le.sz⟩, e.os, e.tape, e.output, e.size, e.blk, e.new, rfl⟩, h1.to hle rfl rfl rfl rfl (fun _ _ _ h => h), h2.mono hle (fun _ _ _ => rfl), h3, h4.to rfl (fun _ h => h)⟩
theorem tab_in (hT : TabOK P T) {f : Nat} {m : MFunc} (h : T f = some m) : Enters P f := by
 obtain ⟨fn, h1, h2, h3⟩ := hT f m h
 rcases h2 with ⟨mu, h2⟩ | ⟨fn', c, g1, g2, _⟩ | ⟨fn', c, g1, g2, _⟩
 ·obtain ⟨c, keep, h4, _⟩ := compFn_parts h2
  exact ⟨fn, c, h1, h4, h3⟩
 ·rw [h1] at g1
  cases g1
  exact ⟨fn, c, h1, g2, h3⟩
 ·rw [h1] at g1
  cases g1
  exact ⟨fn, c, h1, g2, h3⟩
theorem defers_base (i : Inv P g w fr σ a) (h : fr.defers.isEmpty = true) : a.defers = g.base := by
 have h1 : fr.defers = [] := by simpa using h
 obtain ⟨l, hl, hd⟩ := i.d
 have := hd.1
 rw [h1] at this
 have : l = [] := List.eq_nil_of_length_eq_zero (by simpa using this)
 rw [hl, this, List.nil_append]
theorem defers_nil (i : Inv P g w fr σ a) (hb : g.base = []) (h : fr.defers.isEmpty = true) : a.defers = [] := (defers_base i h).trans hb
theorem plain_ok (hm : P.follows .mixedOrders = true) (hT : TabOK P T) (hc : CalOK P cal) (hci : CalIn P cal) {fuel f : Nat} {ds : List D} (h : plainN T cal fuel f ds σ = some (d, σ')) {vals : Array Value} (hi : HInv P g w σ) (hide : ∀ b, hideF (g.ω b) = g.ω b)
  (hr : AllRep (Rep g) vals.toList ds) (hn : ds.all D.notL = true) (u : FrameMode) : CallsD P f vals u w (fun e u' w' => u' = u ∧ ∃ v, e = .returned v ∧ Gives P g w w' σ' v d) := by
 suffices hs : CallsD P f vals u w (fun e u' w' => u' = u ∧ ∃ v, e = .returned v ∧ Gives P g.bare w w' σ' v d) from
  CallsD.mono hs (fun e u' w' ⟨h1, v, h2, h3⟩ => ⟨h1, v, h2, h3.unbare⟩)
 replace hi := hi.bare
 replace hr := allRep_bare hr hn
 have hide : ∀ b, hideF (g.bare.ω b) = g.bare.ω b := hide
 have hbase : g.bare.base = [] := rfl
 generalize g.bare = g at *
 unfold plainN at h
 split at h
 ·cases h
 ·rename_i m hf
  split at h
  ·cases h
  rename_i hnt
  obtain ⟨fn, h1, h2, h3⟩ := hT f m hf
  rcases h2 with ⟨mu, h2⟩ | ⟨fn', c, g1, g2, g3⟩ | ⟨fn', c, g1, g2, gt, g3⟩
  rotate_left
  rotate_left
  ·exact absurd gt hnt
  rotate_left
  ·split at h
   ·rename_i fr1 σ1 hrun
    split at h
    ·exact callsD_of_wp (R := fun e w' => ∃ v, e = .returned v ∧ Gives P g w w' σ' v d) g1 g2 ((g3 cal fuel hc hci ds σ fr1 σ1 hrun).2 d σ' h g w vals hi hide hr hn hbase)
    ·cases h
   ·cases h
  obtain ⟨c, keep, q1, q2, q3, q4⟩ := compFn_parts h2
  split at h
  ·rename_i fr1 σ1 hrun
   split at h
   ·rename_i hd
    refine callsD_of_wp (R := fun e w' => ∃ v, e = .returned v ∧ Gives P g w w' σ' v d) h1 q1 (body_ok hm hc hci q3 q4 hrun hi hbase hide hr hn (fun e a' w' g' he e1 i1 => ?_))
    obtain ⟨v, r1, r2⟩ := results_ok i1 q2 h
    rcases he with rfl | rfl
    ·exact ⟨defers_nil i1 (e1.base.trans hbase) hd, v, r1, v, rfl, r2.ext e1⟩
    ·exact ⟨defers_nil i1 (e1.base.trans hbase) hd, v, r1, v, rfl, r2.ext e1⟩
   ·cases h
  ·cases h
theorem leaves_ok (hm : P.follows .mixedOrders = true) (hT : TabOK P T) (hc : CalOK P cal) (hci : CalIn P cal) {fuel : Nat} {fn : Func} {R : Ending → World → Prop} : ∀ (fs : List (D × List D)) (ds : List Deferred) {σ : St} {g : Gh} {w : World}, Inv P g w fr σ a → DefRep g ds fs →
  runDefers (plainN T cal fuel) fs σ = some σ' → (∀ g' w', Ext g w g' w' → Inv P g' w' fr σ' a → ∃ v, (results fn a.tmps).run P w' = .ok v w' ∧ R (.returned v) w') → Leaves P fn a.tmps R ds .returning w
 | [], ds, σ, g, w, i, hd, h, hfin => by
  have : ds = [] := List.eq_nil_of_length_eq_zero (by simpa using hd.1)
  subst this
  simp only [runDefers, Option.some.injEq] at h
  subst h
  exact hfin g w (.refl g w) i
 | (f, args) :: fs, [], σ, g, w, i, hd, h, hfin => by
  have := hd.1
  simp at this
 | (f, args) :: fs, df :: ds, σ, g, w, i, hd, h, hfin => by
  obtain ⟨fi, caps, t1, cd, t2, t3, t4, t5⟩ := hd.2 0 df (f, args) rfl rfl
  simp only at t2
  subst t2
  have hd' : DefRep g ds fs := ⟨by simpa using hd.1, fun k x y h1 h2 => hd.2 (k + 1) x y (by simpa using h1) (by simpa using h2)⟩
  simp only [runDefers] at h
  split at h
  ·rename_i hn
   split at h
   ·rename_i r σ1 hcal
    have hin : Enters P fi := by
     unfold plainN at hcal
     split at hcal
     ·cases hcal
     ·rename_i m hf
      exact tab_in hT hf
    have hrep : AllRep (Rep g) (df.args ++ caps).toList (args ++ cd) := by
     rw [Array.toList_append]
     refine t4.append ?_
     cases t3 with
     | func _ vs _ hl hR hp => exact ⟨hl, hR⟩
    refine ⟨by simp, .func fi, caps, fi, df.args ++ caps, t1, ?_, ?_⟩
    ·rw [t1]
     exact enter_run hin _ _
    ·refine CallsD.mono (plain_ok hm hT hc hci hcal (g := g.rename hideF) i.h.hide (fun b => hideF_hideF _) (hrep.mono (g.rename_le hideF) hn) hn .returning) ?_
     rintro e u' w' ⟨rfl, v, rfl, hg⟩
     obtain ⟨g1, e1, i1, _, _, _⟩ := gives_back i hg
     exact leaves_ok hm hT hc hci fs ds i1 (hd'.mono e1.le) h (fun g2 w2 e2 i2 => hfin g2 w2 (e1.trans e2) i2)
   ·cases h
  ·cases h
theorem callN_ok (hm : P.follows .mixedOrders = true) (hT : TabOK P T) : ∀ n, CalOK P (callN T n) ∧ CalIn P (callN T n) := by
 intro n
 induction n with
 | zero =>
  refine ⟨?_, ?_⟩
  ·intro f ds σ d σ' h
   simp [callN] at h
  ·intro f ds σ r h
   simp [callN] at h
 | succ n ih =>
  obtain ⟨hc, hci⟩ := ih
  refine ⟨fun f ds σ d σ' h g w vals hi hide hr hn => ?_, fun f ds σ r h => ?_⟩
  ·suffices hs : Calls P f vals w (fun e w' => ∃ v, e = .returned v ∧ Gives P g.bare w w' σ' v d) from
    Calls.mono hs (fun e w' ⟨v, h2, h3⟩ => ⟨v, h2, h3.unbare⟩)
   replace hi := hi.bare
   replace hr := allRep_bare hr hn
   have hide : ∀ b, hideF (g.bare.ω b) = g.bare.ω b := hide
   have hbase : g.bare.base = [] := rfl
   generalize g.bare = g at *
   simp only [callN] at h
   split at h
   ·cases h
   ·rename_i m hf
    obtain ⟨fn, h1, h2, h3⟩ := hT f m hf
    rcases h2 with ⟨mu, h2⟩ | ⟨fn', c, g1, g2, g3⟩ | ⟨fn', c, g1, g2, gt, g3⟩
    rotate_left
    ·split at h
     ·rename_i fr1 σ1 hrun
      obtain ⟨k1, k2⟩ := g3 _ n hc hci ds σ fr1 σ1 hrun
      rw [if_pos k1] at h
      exact calls_of_wp g1 g2 (k2 d σ' h g w vals hi hide hr hn hbase)
     ·cases h
    ·split at h
     ·rename_i fr1 σ1 hrun
      by_cases k1 : fr1.defers.isEmpty = true
      ·rw [if_pos k1] at h
       exact g3 _ n hc hci ds σ fr1 σ1 hrun k1 d σ' h g w vals hi hide hr hn hbase
      ·rw [if_neg k1, if_pos gt] at h
       cases h
     ·cases h
    obtain ⟨c, keep, q1, q2, q3, q4⟩ := compFn_parts h2
    split at h
    ·rename_i fr1 σ1 hrun
     refine calls_of_wp_defers h1 q1 (body_ok hm hc hci q3 q4 hrun hi hbase hide hr hn (fun e a' w' g' he e1 i1 => ?_))
     have key : Leaves P fn a'.tmps (fun e w' => ∃ v, e = .returned v ∧ Gives P g w w' σ' v d) a'.defers .returning w' := by
      split at h
      ·rename_i hd
       rw [defers_nil i1 (e1.base.trans hbase) hd]
       obtain ⟨v, r1, r2⟩ := results_ok i1 q2 h
       exact ⟨v, r1, v, rfl, r2.ext e1⟩
      ·split at h
       ·cases h
       split at h
       ·rename_i σ2 hdef
        have hd1 : DefRep g' a'.defers fr1.defers := by
         obtain ⟨l, hl, hd⟩ := i1.d
         rw [e1.base.trans hbase, List.append_nil] at hl
         rw [hl]
         exact hd
        refine leaves_ok hm hT hc hci fr1.defers a'.defers i1 hd1 hdef (fun g2 w2 e2 i2 => ?_)
        obtain ⟨v, r1, r2⟩ := results_ok i2 q2 h
        exact ⟨v, r1, v, rfl, r2.ext (e1.trans e2)⟩
       ·cases h
     rcases he with rfl | rfl
     ·exact key
     ·exact key
    ·cases h
  ·simp only [callN] at h
   split at h
   ·cases h
   ·rename_i m hf
    exact tab_in hT hf
end
end Go.Abs

namespace Go.Abs
open Go Go.RowKit
section
variable {P : Program} {g g' : Gh} {w w' : World} {fr fr' : Fr} {σ σ' : St} {a : Act} {o : Oper} {d : D} {cal : Cal} {q : Bool} {mu : List Nat} {Q : Exit → Act → World → Prop}
def MarkAt (g : Gh) (w : World) (n0 : Nat) (d : Deferred) : Prop := ∃ b, d = { target := .collected b, args := #[] } ∧ n0 ≤ b ∧ w.heap[b]? = some (.deferred (some [])) ∧ g.ω b = .other
def Marks (g : Gh) (w : World) (n0 : Nat) : Prop := (∀ d ∈ g.base, MarkAt g w n0 d) ∧ g.base.Pairwise (fun x y => x ≠ y)
structure ExtM (g : Gh) (w : World) (g' : Gh) (w' : World) : Prop where
 le : g.Le g'
 os : w'.os = w.os
 tape : w'.tape = w.tape
 output : w'.output = w.output
 size : w.heap.size ≤ w'.heap.size
 blk : ∀ b, b < w.heap.size → (g.ω b).mine = false → w'.heap[b]? = w.heap[b]? ∧ g'.ω b = g.ω b
 new : ∀ (b off : Nat) (v : Value), g'.I b off = some v → g.I b off = some v ∨ w.heap.size ≤ b ∨ (g.ω b).mine = true
 marks : ∀ n0, n0 ≤ w.heap.size → Marks g w n0 → Marks g' w' n0
theorem Ext.m (e : Ext g w g' w') : ExtM g w g' w' :=
 ⟨e.le, e.os, e.tape, e.output, e.size, e.blk, e.new, fun n0 _ h => by
  refine ⟨fun d hd => ?_, by rw [e.base]; exact h.2⟩
  rw [e.base] at hd
  obtain ⟨b, h1, h2, h3, h4⟩ := h.1 d hd
  obtain ⟨k1, k2⟩ := e.blk b (lt_of_heap h3) (by rw [h4]; rfl)
  exact ⟨b, h1, h2, k1.trans h3, k2.trans h4⟩⟩
theorem ExtM.trans {g1 : Gh} {w1 : World} (h : ExtM g w g1 w1) (k : ExtM g1 w1 g' w') : ExtM g w g' w' := by
 refine ⟨h.le.trans k.le, k.os.trans h.os, k.tape.trans h.tape, k.output.trans h.output, Nat.le_trans h.size k.size, fun b hb hm => ?_, fun b off v hv => ?_, fun n0 hn hM => k.marks n0 (Nat.le_trans hn h.size) (h.marks n0 hn hM)⟩
 ·obtain ⟨h1, h2⟩ := h.blk b hb hm
  obtain ⟨k1, k2⟩ := k.blk b (Nat.lt_of_lt_of_le hb h.size) (by rw [h2]; exact hm)
  exact ⟨k1.trans h1, k2.trans h2⟩
 ·rcases k.new b off v hv with h1 | h1 | h1
  ·exact h.new b off v h1
  ·exact .inr (.inl (Nat.le_trans h.size h1))
  ·rcases Nat.lt_or_ge b w.heap.size with hb | hb
   ·by_cases hm : (g.ω b).mine = true
    ·exact .inr (.inr hm)
    ·have := (h.blk b hb (by simpa using hm)).2
     rw [this] at h1
     exact absurd h1 hm
   ·exact .inr (.inl hb)
theorem ExtM.refl (g : Gh) (w : World) : ExtM g w g w := (Ext.refl g w).m
def CodeM (P : Program) (c : Code) (m : MCode) : Prop :=
 ∀ (cal : Cal) (fuel : Nat), CalOK P cal → CalIn P cal → ∀ {ae : AE} {fr fr' : Fr} {σ σ' : St} {a : Act} {g : Gh} {w : World} {Q : Exit → Act → World → Prop},
  runC cal fuel m fr σ = some (ae, fr', σ') → Inv P g w fr σ a → (∀ a' w' g', ExtM g w g' w' → Inv P g' w' fr' σ' a' → Q ae.exit' a' w') → c.wp P Q a w
theorem codeM_comp (hm : P.follows .mixedOrders = true) {keep : Lv} {c : Code} {m : MCode} (h : compC P mu keep c = some m) : CodeM P c m :=
 fun _ fuel hc hci _ _ _ _ _ _ _ _ _ hr i hn => wp_code hm hc hci keep fuel c h hr i (fun a' w' g' e i' => hn a' w' g' e.m i')
theorem codeM_seq {x y : Code} {mx my : MCode} (hx : CodeM P x mx) (hy : CodeM P y my) : CodeM P (.seq x y) (.seq mx my) := by
 intro cal fuel hc hci ae fr fr' σ σ' a g w Q hr i hn
 simp only [runC] at hr
 split at hr
 ·rename_i fr1 σ1 h1
  refine wp_seq (hx cal fuel hc hci h1 i (fun a1 w1 g1 e1 i1 => ?_))
  exact hy cal fuel hc hci hr i1 (fun a2 w2 g2 e2 i2 => hn a2 w2 g2 (e1.trans e2) i2)
 ·rename_i hno
  refine wp_seq (hx cal fuel hc hci hr i (fun a1 w1 g1 e1 i1 => ?_))
  cases ae with
  | normal => exact absurd hr (hno _ _)
  | exit id => exact hn a1 w1 g1 e1 i1
  | ret => exact hn a1 w1 g1 e1 i1
theorem Inv.putOther (i : Inv P g w fr σ a) {b : Nat} {ob : Go.Obj} (h0 : w.heap[b]? = some ob) (hnc : ∀ arr ty f, ob ≠ .cells arr ty f) (hω : g.ω b = .other) (ob' : Go.Obj) : Inv P g (w.putObj b ob') fr σ a := by
 refine i.keep (C := fun x => x = b) ⟨.refl g, by simp, fun c _ hc => ⟨World.putObj_heap_other hc, rfl, fun _ => rfl⟩⟩ (fun c hc h => ?_) (fun _ _ _ => rfl) (fun c off v hv => ?_) rfl
 ·rw [hc, hω] at h
  exact h
 ·have h1 := i.h.imm c off v hv
  have hne : c ≠ b := by
   rintro rfl
   unfold World.cell? at h1
   rw [h0] at h1
   cases ob with
   | cells arr ty f => exact hnc _ _ _ rfl
   | _ => simp at h1
  unfold World.cell? at h1 ⊢
  simp only [] at h1 ⊢
  rw [World.putObj_heap_other hne]
  exact h1
theorem leavesM {n0 : Nat} {fn : Func} {R : Ending → World → Prop} {tm : Array Value} : ∀ (ds : List Deferred) {g : Gh} {w : World} {a : Act}, Inv P g w fr σ a → (∀ d ∈ ds, MarkAt g w n0 d) → ds.Pairwise (fun x y => x ≠ y) →
  (∀ w', (∀ b, b < n0 → w'.heap[b]? = w.heap[b]?) → w.heap.size = w'.heap.size → w'.os = w.os → w'.tape = w.tape → w'.output = w.output → Inv P g w' fr σ a → ∃ v, (results fn tm).run P w' = .ok v w' ∧ R (.returned v) w') →
  LeavesInM Fence.wide 0 P fn tm R ds .returning w
 | [], g, w, a, i, _, _, hfin => hfin w (fun _ _ => rfl) rfl rfl rfl rfl i
 | d :: ds, g, w, a, i, hM, hp, hfin => by
  obtain ⟨b, rfl, h2, h3, h4⟩ := hM d (by simp)
  refine ⟨by simp, .inl ⟨b, _, rfl, run_takeDeferred h3, ?_⟩⟩
  rw [List.pairwise_cons] at hp
  refine leavesM (n0 := n0) ds (i.putOther h3 (fun _ _ _ h => by cases h) h4 (.deferred none)) (fun d' hd' => ?_) hp.2 (fun w' hb hs ho ht hu i' => ?_)
  ·obtain ⟨b', rfl, k2, k3, k4⟩ := hM d' (by simp [hd'])
   have hne : b' ≠ b := fun e => hp.1 _ hd' (by rw [e])
   exact ⟨b', rfl, k2, (World.putObj_heap_other hne).trans k3, k4⟩
  ·exact hfin w' (fun c hc => (hb c hc).trans (World.putObj_heap_other om)) (by rw [← hs]; simp) (ho.trans rfl) (ht.trans rfl) (hu.trans rfl) i'
theorem goodT_of {f : FuncId} {fn : Func} {c : Code} {m : MFunc} (hf : P.funcs[f]? = some fn) (hb : fn.body = some c) (hres : resTmps P fn.results.toList = some m.results) (hnt : m.ntmps = fn.ntmps) (ht : m.body.told = true) (hc : CodeM P c m.body) : GoodT P f m := by
 refine ⟨fn, c, hf, hb, ht, fun cal fuel hcal hci ds σ fr σ1 hrun hde d σ' hro g w vals hi hide hr hn hbase => ?_⟩
 unfold runBody at hrun
 split at hrun
 ·rename_i hcond
  obtain ⟨c1, c2⟩ := hcond
  split at hrun
  ·cases hrun
  ·rename_i ae fr1 σ2 hno hrc
   cases hrun
   refine callsIn_wide.1 (callsIn_of_wp_marks (n := 0) hf hb trivial (wpIn_wide.2 (hc cal fuel hcal hci hrc (enter_inv hnt hi hbase hr hn c1 c2) (fun a' w' g' e1 i1 => ?_))) rfl)
   have hM0 : Marks g w w.heap.size := ⟨(fun d hd => by rw [hbase] at hd; exact (List.not_mem_nil hd).elim), (by rw [hbase]; exact List.Pairwise.nil)⟩
   have hM := e1.marks _ (Nat.le_refl _) hM0
   have key : LeavesInM Fence.wide 0 P fn a'.tmps (fun e w' => ∃ v, e = .returned v ∧ Gives P g w w' σ' v d) a'.defers .returning w' := by
    rw [defers_base i1 hde]
    refine leavesM (n0 := w.heap.size) g'.base i1 hM.1 hM.2 (fun w2 hb2 hs2 ho2 ht2 hu2 i2 => ?_)
    obtain ⟨v, r1, g3, e3, r2, r3, r4, r5⟩ := results_ok i2 hres hro
    refine ⟨v, r1, v, rfl, { g3 with base := g.base }, ?_, ?_, ?_, r4, ?_⟩
    ·refine ⟨⟨(e1.le.trans e3.le).I, (e1.le.trans e3.le).n, (e1.le.trans e3.le).μ, (e1.le.trans e3.le).sz⟩, (e3.os.trans ho2).trans e1.os, (e3.tape.trans ht2).trans e1.tape, (e3.output.trans hu2).trans e1.output, Nat.le_trans e1.size (by rw [hs2]; exact e3.size), fun b hb hmn => ?_, fun b off v hv => ?_, rfl⟩
     ·obtain ⟨q1, q2⟩ := e1.blk b hb hmn
      obtain ⟨q3, q4⟩ := e3.blk b (Nat.lt_of_lt_of_le hb (by rw [← hs2]; exact e1.size)) (by rw [q2]; exact hmn)
      exact ⟨(q3.trans (hb2 b hb)).trans q1, q4.trans q2⟩
     ·rcases e3.new b off v hv with h1 | h1 | h1
      ·exact e1.new b off v h1
      ·exact .inr (.inl (Nat.le_trans e1.size (by rw [hs2]; exact h1)))
      ·rcases Nat.lt_or_ge b w.heap.size with hlt | hge
       ·by_cases hmn : (g.ω b).mine = true
        ·exact .inr (.inr hmn)
        ·rw [(e1.blk b hlt (by simpa using hmn)).2] at h1
         exact absurd h1 hmn
       ·exact .inr (.inl hge)
    ·exact r2.to ⟨fun _ _ _ h => h, Nat.le_refl _, fun _ _ => rfl, fun _ _ => rfl⟩ rfl rfl rfl rfl (fun _ _ _ h => h)
    ·exact Rep.mono (g := g3) (g' := { g3 with base := g.base }) ⟨fun _ _ _ h => h, Nat.le_refl _, fun _ _ => rfl, fun _ _ => rfl⟩ r3 (fun _ _ _ => rfl)
    ·exact r5.to rfl (fun _ h => h)
   cases ae with
   | normal => exact key
   | ret => exact key
   | exit id => exact absurd rfl (hno id)
  ·cases hrun
 ·cases hrun
end
end Go.Abs

namespace Go.Abs
open Go Go.RowKit
def toldF (k : Nat) (F : List D → St → Option D) : MFunc := ⟨k, k + 1, [.tmp k], .nat fun fr σ => (F (fr.slots.take k) σ).map fun d => (.ret, fr.set k d, σ)⟩
theorem allRep_strip {g : Gh} : ∀ {vs : List Value} {ds : List D}, AllRep (Rep g) vs ds → AllRep (Rep g) vs (ds.map D.strip) := fun {vs ds} h =>
 ⟨by simpa using h.1, fun i v d h1 h2 => by
  simp only [List.getElem?_map, Option.map_eq_some_iff] at h2
  obtain ⟨d0, h2, rfl⟩ := h2
  exact (h.2 i v d0 h1 h2).strip⟩
theorem good_told {P : Program} {f : FuncId} {fn : Func} {c : Code} {k : Nat} {F : List D → St → Option D} (hf : P.funcs[f]? = some fn) (hb : fn.body = some c)
  (h : ∀ (ds : List D) (σ : St) (d : D), F ds σ = some d → d.bare = d ∧ d.notL = true ∧ ∀ (g : Gh) (w : World) (vals : Array Value), HInv P g w σ → (∀ b, hideF (g.ω b) = g.ω b) → AllRep (Rep g) vals.toList ds → g.base = [] → Calls P f vals w (fun e w' => ∃ v, e = .returned v ∧ Gives P g w w' σ v d)) : GoodT P f (toldF k F) := by
 refine ⟨fn, c, hf, hb, rfl, fun cal fuel _ _ ds σ fr σ1 hrun _ d σ' hro g w vals hi hide hr hn hbase => ?_⟩
 unfold runBody at hrun
 split at hrun
 ·rename_i hcond
  obtain ⟨c1, c2⟩ := hcond
  simp only [toldF, runC] at hrun
  have htake : (enterFr (toldF k F) ds).slots.take k = ds.map D.strip := by
   have hl : (ds.map D.strip).length = k := by simpa [toldF] using c1
   simp only [enterFr]
   rw [List.take_append_of_le_length om, List.take_of_length_le om]
  rw [show (enterFr ⟨k, k + 1, [.tmp k], .nat fun fr σ => (F (fr.slots.take k) σ).map fun d => (.ret, fr.set k d, σ)⟩ ds) = enterFr (toldF k F) ds from rfl, htake] at hrun
  cases hF : F (ds.map D.strip) σ with
  | none => rw [hF] at hrun; cases hrun
  | some d0 =>
   rw [hF] at hrun
   simp only [Option.map_some, Option.some.injEq, Prod.mk.injEq] at hrun
   obtain ⟨rfl, rfl⟩ := hrun
   obtain ⟨q1, q2, q3⟩ := h _ _ _ hF
   have hat : ((enterFr (toldF k F) ds).set k d0).at k = d0 := by
    have hl : ds.length = k := by simpa [toldF] using c1
    have hlt : k < (enterFr (toldF k F) ds).slots.length := by
     simp [enterFr, toldF, hl]
    simp only [Fr.at, Fr.set]
    rw [List.getD_eq_getElem?_getD, List.getElem?_set, if_pos rfl, if_pos hlt]
    rfl
   have hres : resD ((enterFr (toldF k F) ds).set k d0) σ (.tmp k) = some d0 := by
    simp only [resD, hat, q1]
   have : resultOf ((enterFr (toldF k F) ds).set k d0) σ (toldF k F).results = some (d0, σ) := by
    show resultOf ((enterFr (toldF k F) ds).set k d0) σ [.tmp k] = some (d0, σ)
    simp only [resultOf, hres]
    cases d0 <;> first | rfl | cases q2
   rw [this] at hro
   cases hro
   exact q3 g w vals hi hide (allRep_strip hr) hbase
 ·cases hrun
end Go.Abs

namespace Go.Abs
inductive BT where
 | leaf
 | node (l : BT) (k : Nat) (m : MFunc) (r : BT)
def BT.look : BT → Nat → Option MFunc
 | .leaf, _ => none
 | .node l k m r, n => bif Nat.beq n k then some m else bif Nat.blt n k then l.look n else r.look n
def BT.all : BT → List (Nat × MFunc)
 | .leaf => []
 | .node l k m r => l.all ++ (k, m) :: r.all
theorem BT.look_mem : ∀ {t : BT} {n : Nat} {m : MFunc}, t.look n = some m → (n, m) ∈ t.all
 | .leaf, n, m, h => by cases h
 | .node l k m0 r, n, m, h => by
  simp only [BT.look, cond_eq_ite] at h
  simp only [BT.all, List.mem_append, List.mem_cons]
  split at h
  ·rename_i hk
   cases h
   have := Nat.eq_of_beq_eq_true hk
   subst this
   exact .inr (.inl rfl)
  ·split at h
   ·exact .inl (look_mem h)
   ·exact .inr (.inr (look_mem h))
end Go.Abs

namespace Go.Abs
open Go Go.RowKit
def cA : Option Code → Code
 | some (.seq a _) => a
 | _ => .skip
def cD : Option Code → Code
 | some (.seq _ (.seq _ d)) => d
 | _ => .skip
def cB : Option Code → Nat × Array Oper
 | some (.seq _ (.seq (.seq (.region i ops _) _) _)) => (i, ops)
 | _ => (0, #[])
def cC : Option Code → Nat × Array Oper
 | some (.seq _ (.seq (.seq _ (.cond _ (.seq (.region i ops _) _) _)) _)) => (i, ops)
 | _ => (0, #[])
def opAt (ops : Array Oper) (i : Nat) : Oper := (ops.toList[i]?).getD { dst := none, op := .move (.tmp 0), type := 0, pos := "", after := #[], guard := none }
section
variable {P : Program} {g g' : Gh} {w w' : World} {fr fr' : Fr} {σ σ' : St} {a : Act} {d : D} {cal : Cal} {T : Table}
def clone1 (e : Nat) (x : D) : Fr := ⟨[x.strip, .junk, .sl [] (some e), .junk, .junk, .junk, .junk, .junk], List.replicate 8 none, []⟩
def clone2 (e : Nat) (x : D) : Fr := ⟨[x.strip, .junk, .sl [] (some e), .junk, .junk, .sl [] (some e), x.strip, .junk], List.replicate 8 none, []⟩
def clone3 (e : Nat) (x : D) (ys : List (List D)) : Fr := ⟨[x.strip, .junk, .sl ys (some e), .junk, .junk, .sl [] none, x.strip, .sl ys none], List.replicate 8 none, []⟩
end
end Go.Abs

namespace Go.Abs
open Go Go.RowKit
def cloneDM (e esz bytes : Nat) (z : List D) : MCode := .seq (.region false [⟨some 5, .buildSlice e esz 0 z [], none⟩, ⟨some 6, .move (.tmp 0) false, none⟩, ⟨some 7, .append e esz bytes true (.tmp 5) (.tmp 6), none⟩, ⟨some 2, .assign (.tmp 7), none⟩]) .ret
def mcloneM (e esz bytes : Nat) (z : List D) : MFunc := ⟨1, 8, [.tmp 2], .seq (cloneA e) (cloneDM e esz bytes z)⟩
section
variable {P : Program} {g g' : Gh} {w w' : World} {fr fr' : Fr} {σ σ' : St} {a : Act} {d : D} {cal : Cal} {T : Table}
def cloneM3 (esz : Nat) (x : D) (o n : Nat) : Fr := ⟨[x.strip, .junk, .msl o 0 n esz, .junk, .junk, .sl [] none, x.strip, .msl o 0 n esz], List.replicate 8 none, []⟩
theorem cloneM_app {e esz bytes : Nat} {x : D} {r : Option (Fr × St)} (h : runOp cal false ⟨some 7, .append e esz bytes true (.tmp 5) (.tmp 6), none⟩ (clone2 e x) σ = r) : r = none ∨
  ∃ ys, elems σ x.strip = some ys ∧ 0 < ys.length ∧ r = some (⟨[x.strip, .junk, .sl [] (some e), .junk, .junk, .sl [] none, x.strip, .msl σ.length 0 ys.length esz], List.replicate 8 none, []⟩, σ ++ [.cells ys.flatten, .row e]) := by
 subst h
 have h6 : (clone2 e x).val (.tmp 6) = x.strip := strip_strip x
 have h5 : (clone2 e x).val (.tmp 5) = .sl [] none := rfl
 simp only [runOp, wantedD, evalOp, h6, h5]
 cases elems σ x.strip with
 | none => exact .inl rfl
 | some ys =>
  simp only []
  by_cases h1 : (ys.all fun y => y.length == esz) = true
  ·rw [if_pos h1]
   have ht : (clone2 e x).take (.tmp 5) = (.sl [] (some e), (clone2 e x).set 5 (.sl [] none)) := rfl
   simp only [ht, if_true]
   by_cases h2 : True ∧ 0 < ys.length ∧ ys.flatten.all calm1 ∧ ys.length * bytes ≤ room ∧ ys.length < 4611686018427387904
   ·right
    refine ⟨ys, rfl, h2.2.1, ?_⟩
    rw [if_pos h2]
    rfl
   ·left
    rw [if_neg h2]
  ·rw [if_neg h1]
   exact .inl rfl
theorem cloneM_run {e esz bytes : Nat} {z : List D} {fuel : Nat} {ds : List D} (h : runBody cal fuel (mcloneM e esz bytes z) ds σ = some (fr', σ')) :
  ∃ x ys, ds = [x] ∧ elems σ x.strip = some ys ∧ 0 < ys.length ∧ σ' = σ ++ [.cells ys.flatten, .row e] ∧ fr' = cloneM3 esz x σ.length ys.length ∧
   runC cal fuel (cloneA e) (enterFr (mcloneM e esz bytes z) ds) σ = some (.normal, clone1 e x, σ) ∧ runC cal fuel (cloneDM e esz bytes z) (clone1 e x) σ = some (.ret, cloneM3 esz x σ.length ys.length, σ ++ [.cells ys.flatten, .row e]) := by
 unfold runBody at h
 split at h
 ·rename_i hcond
  obtain ⟨c1, _⟩ := hcond
  match ds, c1 with
  | [x], _ =>
   have hA : runC cal fuel (cloneA e) (enterFr (mcloneM e esz bytes z) [x]) σ = some (.normal, clone1 e x, σ) := rfl
   have hb : (mcloneM e esz bytes z).body = .seq (cloneA e) (cloneDM e esz bytes z) := rfl
   rw [hb] at h
   simp only [runC, hA] at h
   have e5 : runOp cal false ⟨some 5, .buildSlice e esz 0 z [], none⟩ (clone1 e x) σ = some (⟨[x.strip, .junk, .sl [] (some e), .junk, .junk, .sl [] (some e), .junk, .junk], List.replicate 8 none, []⟩, σ) := rfl
   have e6 : runOp cal false ⟨some 6, .move (.tmp 0) false, none⟩ ⟨[x.strip, .junk, .sl [] (some e), .junk, .junk, .sl [] (some e), .junk, .junk], List.replicate 8 none, []⟩ σ = some (clone2 e x, σ) := by
    have : (⟨[x.strip, .junk, .sl [] (some e), .junk, .junk, .sl [] (some e), (x.strip).strip, .junk], List.replicate 8 none, []⟩ : Fr) = clone2 e x := by rw [strip_strip]; rfl
    rw [← this]
    rfl
   rcases cloneM_app (cal := cal) (σ := σ) (esz := esz) (bytes := bytes) (e := e) (x := x) rfl with h7 | ⟨ys, hy, h0, h7⟩
   ·exfalso
    have : runC cal fuel (cloneDM e esz bytes z) (clone1 e x) σ = none := by simp only [cloneDM, runC, runOps, e5, e6, h7, Option.map_none]
    rw [this] at h
    cases h
   ·have e2 : runOp cal false ⟨some 2, .assign (.tmp 7), none⟩ ⟨[x.strip, .junk, .sl [] (some e), .junk, .junk, .sl [] none, x.strip, .msl σ.length 0 ys.length esz], List.replicate 8 none, []⟩ (σ ++ [.cells ys.flatten, .row e]) = some (cloneM3 esz x σ.length ys.length, σ ++ [.cells ys.flatten, .row e]) := rfl
    have hD : runC cal fuel (cloneDM e esz bytes z) (clone1 e x) σ = some (.ret, cloneM3 esz x σ.length ys.length, σ ++ [.cells ys.flatten, .row e]) := by simp only [cloneDM, runC, runOps, e5, e6, h7, e2, Option.map_some]
    rw [hD] at h
    cases h
    exact ⟨x, ys, rfl, hy, h0, rfl, rfl, hA, hD⟩
 ·cases h
theorem cloneM_good (hm : P.follows .mixedOrders = true) {f : FuncId} {fn : Func} {A D0 : Code} {idB idC : Nat} {opsB opsC : Array Oper} {t e : TypeId} {esz bytes : Nat} {z : List D} {k1 k2 : Lv} {mu : List Nat} {o1 o2 o3 : Oper}
  (hf : P.funcs[f]? = some fn) (hb : fn.body = some (.seq A (.seq (.seq (.region idB opsB false) (.cond (.tmp 4) (.seq (.region idC opsC false) .ret) .skip)) D0)))
  (hB : opsB.toList = [o1, o2]) (ho1 : o1.op = .move (.tmp 0) ∧ o1.dst = some 3 ∧ o1.guard = none) (ho2 : o2.op = .binOp .eql t (.tmp 3) (.const (.slice none 0 0)) t ∧ o2.dst = some 4 ∧ o2.guard = none)
  (hC : opsC.toList = [o3]) (ho3 : o3.op = .assign (.const (.slice none 0 0)) ∧ o3.dst = some 2 ∧ o3.guard = none) (ht : P.underlying t = some (.slice e)) 
  (hA : compC P [] k1 A = some (cloneA e)) (hD : compC P mu k2 D0 = some (cloneDM e esz bytes z)) (hres : fn.results = #[.tmp 2]) (hnt : fn.ntmps = 8) : Good P f (mcloneM e esz bytes z) := by
 refine ⟨fn, _, hf, hb, fun cal fuel hc hci ds σ fr σ1 hrun => ?_⟩
 obtain ⟨x, ys, rfl, hy, hpos, rfl, rfl, hrA, hrD⟩ := cloneM_run hrun
 refine ⟨rfl, fun d σ' hro g w vals hi hide hr hn hbase => ?_⟩
 have hd : d = .msl σ.length 0 ys.length esz ∧ σ' = σ ++ [.cells ys.flatten, .row e] := by
  have hro' : resultOf (cloneM3 esz x σ.length ys.length) (σ ++ [.cells ys.flatten, .row e]) [.tmp 2] = some (d, σ') := hro
  have : resultOf (cloneM3 esz x σ.length ys.length) (σ ++ [.cells ys.flatten, .row e]) [.tmp 2] = some (.msl σ.length 0 ys.length esz, σ ++ [.cells ys.flatten, .row e]) := rfl
  rw [this] at hro'
  simp only [Option.some.injEq, Prod.mk.injEq] at hro'
  exact ⟨hro'.1.symm, hro'.2.symm⟩
 obtain ⟨rfl, rfl⟩ := hd
 have hrs : resTmps P fn.results.toList = some [.tmp 2] := by rw [hres]; rfl
 refine wp_seq (wp_code hm hc hci k1 fuel A hA hrA (enter_inv (by rw [hnt]; rfl) hi hbase hr hn rfl (show (1 : Nat) ≤ 8 by decide)) (fun a1 w1 g1 e1 i1 => ?_))
 simp only [AE.exit', Exit.then]
 -- the argument
 have hv : ∃ av len cap, a1.eval (.tmp 0) = .slice av len cap ∧ (av = none → ys = []) := by
  have h0 := (val_ok i1.s (x := .tmp 0) (X := .tmp 0) rfl).1
  have h1 : (clone1 e x).val (.tmp 0) = x.strip := strip_strip x
  rw [h1] at h0
  generalize a1.eval (.tmp 0) = v at h0
  generalize x.strip = y at h0 hy
  cases h0 <;> simp only [elems] at hy <;> first
   | (cases hy; done)
   | skip
  ·rename_i av len cap b off es' es own V hl hcp hnn hav hall hI hR
   cases hy
   refine ⟨_, _, _, rfl, fun h => ?_⟩
   subst h
   have h1 := hnn rfl
   exact List.eq_nil_of_length_eq_zero om
  ·exact ⟨_, _, _, rfl, fun h => by cases h⟩
 obtain ⟨av, len, cap, hv, hnil⟩ := hv
 have hsz : a1.tmps.size = 8 := i1.s.size
 refine wp_seq (wp_seq (wp_region_list ?_))
 rw [hB]
 have w1' : Region.wanted o1 (yielded opsB a1.tmps) = true := by simp [Region.wanted, ho1.2.2]
 unfold wpList
 rw [if_pos w1']
 left
 have hr1 : (execOp a1.eval o1).run P w1 = .ok (.value (.slice av len cap)) w1 := by
  simp only [execOp, ho1.1, hv]
  rfl
 refine wp_value hr1 ?_
 rw [ho1.2.1]
 have w2' : Region.wanted o2 (yielded opsB (a1.put (some 3) (.slice av len cap)).tmps) = true := by simp [Region.wanted, ho2.2.2]
 unfold wpList
 rw [if_pos w2']
 left
 have h3 : (a1.put (some 3) (.slice av len cap)).eval (.tmp 3) = .slice av len cap := by simp [Act.put, Act.eval, hsz]
 have hr2 : (execOp (a1.put (some 3) (.slice av len cap)).eval o2).run P w1 = .ok (.value (.bool av.isNone)) w1 := by
  simp only [execOp, ho2.1, h3]
  refine run_vmap ?_
  rw [run_bo (guard_none .eql t _ _ _ _ (by simp) (by simp))]
  simp only [binOp, Act.eval]
  rw [run_bo (run_equal_slice_nil w1 t e av len cap ht)]
  rfl
 refine wp_value hr2 ?_
 rw [ho2.2.1]
 unfold wpList
 simp only [Exit.then]
 have i3 : Inv P g1 w1 (clone1 e x) σ ((a1.put (some 3) (.slice av len cap)).put (some 4) (.bool av.isNone)) :=
  (i1.put (some 3) (d := .junk) (.junk _) (fun _ _ => .of_ne rfl) (fun s off h => by cases h)).put (some 4) (d := .junk) (.junk _) (fun _ _ => .of_ne rfl) (fun s off h => by cases h)
 have h4 : ((a1.put (some 3) (.slice av len cap)).put (some 4) (.bool av.isNone)).eval (.tmp 4) = .bool av.isNone := by simp [Act.put, Act.eval, hsz]
 generalize (a1.put (some 3) (.slice av len cap)).put (some 4) (.bool av.isNone) = a3 at i3 h4
 have hsz3 : a3.tmps.size = 8 := i3.s.size
 cases av with
 | none =>
  have hys := hnil rfl
  subst hys
  simp at hpos
 | some ad =>
  refine wp_cond_false h4 (wp_skip ?_)
  refine wp_code hm hc hci k2 fuel D0 hD hrD i3 (fun a4 w4 g4 e4 i4 => ?_)
  obtain ⟨v, r1, r2⟩ := results_ok i4 hrs hro
  exact ⟨defers_nil i4 ((e1.trans e4).base.trans hbase) (show (clone3 e x ys).defers.isEmpty = true from rfl), v, r1, v, rfl, r2.ext (e1.trans e4)⟩
end
end Go.Abs

namespace Go.Abs
open Go Go.RowKit
variable {P : Program} {g : Gh} {w : World} {fr fr' : Fr} {σ σ' : St} {a : Act}
def NG (e B : Nat) (fr : Fr) (σ : St) : Option (AE × Fr × St) :=
 match fr.val (.tmp 3) with
 | .int .i64 n => if fr.slots.length = 36 ∧ 0 ≤ n ∧ n ≤ (B : Int) then some (.normal, ((fr.put (some 23) (.int .i64 n)).put (some 24) (.sl [] none)).put (some 6) (.sl [] (some e)), σ) else none
 | _ => none
def GrowOK (P : Program) (f e size B : Nat) : Prop := ∀ (w : World) (n : Nat), n ≤ B → Calls P f #[.slice none 0 0, .int .i64 n] w (fun r w' =>
 (r = .returned (.slice none 0 0) ∧ w' = w) ∨ ∃ cap arr, r = .returned (.slice (some ⟨w.heap.size, 0, none⟩) 0 cap) ∧ w' = w.drew.alloc (.cells arr e) ∧ arr.size = cap * size ∧ cap ≤ maxLen)
theorem rep_empty (a : Option Addr) (cap : Nat) (own : Option Nat) (hn : a = none → cap = 0) : Rep g (.slice a 0 cap) (.sl [] own) :=
 .sl a 0 cap 0 0 0 [] own (fun _ _ => undef) rfl (Nat.zero_le _) hn (fun h => absurd rfl h) (by simp) (by simp) (by simp)
theorem concat_region {id f e B : Nat} {mu : List Nat} {ops' : List Oper} {inf : TypeInfo} {ops : Array Oper} {o1 o2 o3 : Oper} {c : Call} (hO : ops.toList = [o1, o2, o3]) (h1 : o1.op = .move (.tmp 3) ∧ o1.dst = some 23 ∧ o1.guard = none)
  (h2 : o2.op = .call c ∧ o2.dst = some 24 ∧ o2.guard = none) (hc : c.callee = .value (.func f) ∧ c.args = #[.const (.slice none 0 0), .tmp 23]) (h3 : compOp P mu ops' o3 = some (.assign (.tmp 24)) ∧ o3.dst = some 6 ∧ o3.guard = none)
  (hin : Enters P f) (hi : P.info? e = some inf) (h0 : 0 < inf.size) (hG : GrowOK P f e inf.size B) : CodeM P (.region id ops false) (.nat (NG e B)) := by
 intro cal fuel hcal hcin ae fr fr' σ σ' a g w Q hr i hn
 have hr : NG e B fr σ = some (ae, fr', σ') := by
  have : runC cal fuel (.nat (NG e B)) fr σ = NG e B fr σ := by unfold runC; rfl
  rw [← this]; exact hr
 unfold NG at hr
 split at hr
 rotate_left
 ·cases hr
 rename_i n hv
 split at hr
 rotate_left
 ·cases hr
 rename_i hn0
 cases hr
 have hlen : a.tmps.size = fr.slots.length := i.s.size
 have hv0 := (val_ok i.s (x := .tmp 3) (X := .tmp 3) rfl).1
 rw [hv] at hv0
 have hev : a.eval (.tmp 3) = .int .i64 n := by
  generalize a.eval (.tmp 3) = v at hv0
  cases hv0
  rfl
 refine wp_region_list ?_
 rw [hO]
 have w1 : Region.wanted o1 (yielded ops a.tmps) = true := by simp [Region.wanted, h1.2.2]
 unfold wpList
 rw [if_pos w1]
 left
 have hr1 : (execOp a.eval o1).run P w = .ok (.value (.int .i64 n)) w := by
  simp only [execOp, h1.1, hev]
  rfl
 refine wp_value hr1 ?_
 rw [h1.2.1]
 have i1 : Inv P g w (fr.put (some 23) (.int .i64 n)) σ (a.put (some 23) (.int .i64 n)) := i.put (some 23) (.int .i64 n) (fun _ _ => .of_ne rfl) (fun s off h => by cases h)
 generalize ha1 : a.put (some 23) (.int .i64 n) = a1 at i1
 have hsz : a.tmps.size = 36 := by rw [hlen]; exact hn0.1
 have hev1 : a1.eval (.tmp 23) = .int .i64 n := by rw [← ha1]; simp [Act.put, Act.eval, hsz]
 have w2 : Region.wanted o2 (yielded ops a1.tmps) = true := by simp [Region.wanted, h2.2.2]
 unfold wpList
 rw [if_pos w2]
 left
 have hS : Snd P g w a1 o2 (fr.put (some 23) (.int .i64 n)) σ (.sl [] (some e)) := by
  have hrun : (execOp a1.eval o2).run P w = .ok (.enter f #[.slice none 0 0, .int .i64 n]) w := by
   simp only [execOp, h2.1, resolve, hc.1, hc.2]
   have : Deferred.ofValue (a1.eval (.func f)) ((#[Operand.const (.slice none 0 0), .tmp 23]).map a1.eval) = pure { target := .fn (.func f) #[], args := (#[Operand.const (.slice none 0 0), .tmp 23]).map a1.eval } := by
    simp [Act.eval, Deferred.ofValue]
   rw [this]
   simp only [pure_bind, invoke, Array.append_empty]
   have hargs : (#[Operand.const (.slice none 0 0), .tmp 23]).map a1.eval = #[.slice none 0 0, .int .i64 n] := by
    simp [hev1]
    rfl
   rw [hargs]
   exact enter_run hin _ _
  obtain ⟨k, rfl⟩ : ∃ k : Nat, n = k := ⟨n.toNat, om⟩
  refine snd_enter hrun (Calls.mono (hG w k om) ?_)
  rintro r w' (⟨rfl, rfl⟩ | ⟨cap, arr, rfl, rfl, hsz, hcap⟩)
  ·exact ⟨_, rfl, g, .refl g w', i1, rep_empty none 0 _ (fun _ => rfl), rfl, fun es e' h => by cases h; exact .inl ⟨rfl, rfl⟩⟩
  ·have hb : (w.drew.alloc (.cells arr e)).heap[w.heap.size]? = some (.cells arr e (0, 0)) := by
    show (w.heap.push (.cells arr e))[w.heap.size]? = _
    simp
   refine ⟨_, rfl, g.tagAt w.heap.size .hand, (Ext.drawn g w).trans (Ext.alloc g w.drew (.cells arr e) .hand), (i1.drawn).alloc (.cells arr e) .hand, rep_empty _ cap _ (fun h => by cases h), rfl, fun es e' h => ?_⟩
   cases h
   refine .inr ⟨inf, [], hi, h0, by simp, ⟨by simp, .inr ⟨w.heap.size, cap, arr, rfl, Nat.zero_le _, hb, Nat.zero_le _, hcap, hsz, by simp⟩⟩, fun b hbk => ?_⟩
   simp only [Value.ownBlock, Option.some.injEq] at hbk
   subst hbk
   refine ⟨?_, fun off _ => ?_⟩
   ·simp [Gh.tagAt]
   ·show g.I w.heap.size off = none
    cases hI : g.I w.heap.size off with
    | none => rfl
    | some v => exact absurd (imm_lt i.h hI) om
 refine hS _ _ (fun a2 w2 g2 e2 i2 => ?_)
 rw [h2.2.1] at i2
 have w3 : Region.wanted o3 (yielded ops a2.tmps) = true := by simp [Region.wanted, h3.2.2]
 unfold wpList
 rw [if_pos w3]
 left
 have hat : ((fr.put (some 23) (.int .i64 n)).put (some 24) (.sl [] (some e))).at 24 = .sl [] (some e) := by
  simp only [Fr.put, Fr.at, Fr.set, List.getD_eq_getElem?_getD]
  rw [List.getElem?_set_self (by rw [List.length_set]; omega)]
  rfl
 have hset : ((fr.put (some 23) (.int .i64 n)).put (some 24) (.sl [] (some e))).set 24 (.sl [] none) = (fr.put (some 23) (.int .i64 n)).put (some 24) (.sl [] none) := by
  simp only [Fr.put, Fr.set, List.set_set]
 have he3 : evalOp cal false o3.dst (.assign (.tmp 24)) ((fr.put (some 23) (.int .i64 n)).put (some 24) (.sl [] (some e))) σ = some (.sl [] (some e), (fr.put (some 23) (.int .i64 n)).put (some 24) (.sl [] none), σ) := by
  simp only [evalOp, Fr.take, hat]
  rw [show (D.sl [] (some e)).strip = .sl [] none from rfl, hset]
 refine snd_op hcal hcin h3.1 he3 i2 _ _ (fun a3 w3' g3 e3 i3 => ?_)
 rw [h3.2.1] at i3
 unfold wpList
 exact hn a3 w3' g3 (e2.trans e3).m i3
end Go.Abs

namespace Go.Abs
open Go
variable {P : Program} {mu : List Nat}
def putAt : List Bool → MCode → MCode → MCode
 | [], new, _ => new
 | true :: p, new, .seq x y => .seq x (putAt p new y)
 | false :: p, new, .seq x y => .seq (putAt p new x) y
 | _, _, m => m
def subC : List Bool → Code → Code
 | [], c => c
 | true :: p, .seq _ y => subC p y
 | false :: p, .seq x _ => subC p x
 | _, _ => .skip
theorem compC_seq {K : Lv} {c : Code} {mx my : MCode} (h : compC P mu K c = some (.seq mx my)) : ∃ x y, c = .seq x y ∧ compC P mu { K with out := live y K } x = some mx ∧ compC P mu K y = some my := by
 cases c with
 | seq x y =>
  simp only [compC] at h
  split at h
  ·split at h <;> cases h
  ·split at h
   ·rename_i h1 h2
    cases h
    exact ⟨x, y, rfl, h1, h2⟩
   ·cases h
 | region id ops draw =>
  simp only [compC] at h
  repeat' split at h
  all_goals cases h
 | cond x a b =>
  simp only [compC] at h
  split at h <;> cases h
 | block id c =>
  simp only [compC, Option.map_eq_some_iff] at h
  obtain ⟨_, _, h⟩ := h
  cases h
 | loop c =>
  simp only [compC, Option.map_eq_some_iff] at h
  obtain ⟨_, _, h⟩ := h
  cases h
 | _ => simp [compC] at h
theorem codeM_putC (hm : P.follows .mixedOrders = true) {new : MCode} : ∀ (p : List Bool) (c : Code) (K : Lv) (m : MCode), compC P mu K c = some m → CodeM P (subC p c) new → CodeM P c (putAt p new m)
 | [], c, K, m, h, hs => hs
 | b :: p, c, K, m, h, hs => by
  cases m with
  | seq mx my =>
   obtain ⟨x, y, rfl, h1, h2⟩ := compC_seq h
   cases b with
   | true => exact codeM_seq (codeM_comp hm h1) (codeM_putC hm p y K my h2 hs)
   | false => exact codeM_seq (codeM_putC hm p x _ mx h1 hs) (codeM_comp hm h2)
  | _ => cases b <;> exact codeM_comp hm h
theorem goodT_put (hm : P.follows .mixedOrders = true) {f : FuncId} {fn : Func} {m : MFunc} {new : MCode} (p : List Bool) (hf : P.funcs[f]? = some fn) (h : compFn P mu fn = some m) (hs : ∀ c, fn.body = some c → CodeM P (subC p c) new) (ht : (putAt p new m.body).told = true) : GoodT P f { m with body := putAt p new m.body } := by
 unfold compFn at h
 split at h
 ·rename_i c rs hb hr
  rw [Option.map_eq_some_iff] at h
  obtain ⟨mb, h1, h2⟩ := h
  subst h2
  exact goodT_of (m := { nparams := _, ntmps := _, results := rs, body := putAt p new mb }) hf hb hr rfl ht (codeM_putC hm p c _ mb h1 (hs c hb))
 ·cases h
def promN (t : Nat) : Fr → List Obj → Option (AE × Fr × List Obj) := fun fr σ => (fr.promote σ t).map fun r => (.normal, r.1, r.2)
theorem codeM_prom {c : Code} {m : MCode} (t : Nat) (h : CodeM P c m) : CodeM P c (.seq m (.nat (promN t))) := by
 intro cal fuel hc hci ae fr fr' σ σ' a g w Q hr i hn
 simp only [runC] at hr
 split at hr
 ·rename_i fr1 σ1 h1
  refine h cal fuel hc hci h1 i (fun a1 w1 g1 e1 i1 => ?_)
  unfold promN at hr
  rw [Option.map_eq_some_iff] at hr
  obtain ⟨⟨fr2, σ2⟩, hp, hr⟩ := hr
  cases hr
  obtain ⟨sz, i2, e2, _⟩ := i1.promote hp
  exact hn a1 w1 _ (e1.trans e2.m) i2
 ·exact h cal fuel hc hci hr i hn
def putP (t : Nat) : List Bool → MCode → MCode
 | [], m => .seq m (.nat (promN t))
 | true :: p, .seq x y => .seq x (putP t p y)
 | false :: p, .seq x y => .seq (putP t p x) y
 | _, m => m
theorem codeM_putP (hm : P.follows .mixedOrders = true) (t : Nat) : ∀ (p : List Bool) (c : Code) (K : Lv) (m : MCode), compC P mu K c = some m → CodeM P c (putP t p m)
 | [], c, K, m, h => codeM_prom t (codeM_comp hm h)
 | b :: p, c, K, m, h => by
  cases m with
  | seq mx my =>
   obtain ⟨x, y, rfl, h1, h2⟩ := compC_seq h
   cases b with
   | true => exact codeM_seq (codeM_comp hm h1) (codeM_putP hm t p y K my h2)
   | false => exact codeM_seq (codeM_putP hm t p x _ mx h1) (codeM_comp hm h2)
  | _ => cases b <;> exact codeM_comp hm h
theorem goodT_putP (hm : P.follows .mixedOrders = true) {f : FuncId} {fn : Func} {m : MFunc} (t : Nat) (p : List Bool) (hf : P.funcs[f]? = some fn) (h : compFn P mu fn = some m) (ht : (putP t p m.body).told = true) : GoodT P f { m with body := putP t p m.body } := by
 unfold compFn at h
 split at h
 ·rename_i c rs hb hr
  rw [Option.map_eq_some_iff] at h
  obtain ⟨mb, h1, h2⟩ := h
  subst h2
  exact goodT_of (m := { nparams := _, ntmps := _, results := rs, body := putP t p mb }) hf hb hr rfl ht (codeM_putP hm t p c _ mb h1)
 ·cases h
end Go.Abs

namespace Go.Abs
open Go Go.RowKit
section
variable {P : Program} {g g' : Gh} {w w' : World} {fr fr' : Fr} {σ σ' : St} {a : Act} {mu : List Nat}
def refL (t : Nat) (cs : List D) : D → D
 | .lptr s off => if s = t then .ref (cs.drop off) else .lptr s off
 | d => d
def Fr.frz (fr : Fr) (t : Nat) (cs : List D) : Fr := { fr with slots := fr.slots.map (refL t (cs.map D.strip)), boxes := fr.boxes.set t none }
inductive Ins where
 | junk (t : Nat)
 | prom (t : Nat)
 | frz (t : Nat)
def Ins.run (fr : Fr) (σ : St) : Ins → Option (Fr × St)
 | .junk t => some (fr.set t .junk, σ)
 | .prom t => fr.promote σ t
 | .frz t =>
  match fr.boxAt t with
  | some cs => if (cs.map D.strip).all D.pure1 then some (fr.frz t cs, σ) else none
  | none => none
def insRun : List Ins → Fr → St → Option (Fr × St)
 | [], fr, σ => some (fr, σ)
 | i :: is, fr, σ =>
  match i.run fr σ with
  | some (fr, σ) => insRun is fr σ
  | none => none
def insN (is : List Ins) : Fr → List Obj → Option (AE × Fr × List Obj) := fun fr σ => (insRun is fr σ).map fun r => (.normal, r.1, r.2)
theorem Inv.freezeBox (i : Inv P g w fr σ a) {t : Nat} {cs : List D} (hb : fr.boxAt t = some cs) (hp : (cs.map D.strip).all D.pure1 = true) : ∃ g', Ext g w g' w ∧ Inv P g' w (fr.frz t cs) σ a := by
 have hbs := boxAt_some hb
 obtain ⟨hω, sz, arr, ty, h1, h2, h3, h4⟩ := i.s.boxes t cs hbs
 have i0 := i.dropBox t
 have hcl : ∀ b, b = g.β t → ¬ claims (fr.drop t (killL t)) σ (g.ω b) := fun b hb => by
  subst hb
  rw [hω]
  rintro ⟨cs', hc⟩
  exact (box_set_none hc).1 rfl
 have hle := frz_le (g := g) (w := w) i.h.imm (fun b => b = g.β t)
 have i1 : Inv P (g.frz w (fun b => b = g.β t)) w (fr.drop t (killL t)) σ a :=
  i0.keep (C := fun b => b = g.β t) ⟨hle, Nat.le_refl _, fun b _ hnc => ⟨rfl, rfl, fun off => by simp only [Gh.frz]; rw [if_neg hnc]⟩⟩ hcl (fun _ _ _ => rfl) (fun b off v h => frz_imm i.h.imm _ b off v h) rfl
 refine ⟨_, ⟨hle, rfl, rfl, rfl, Nat.le_refl _, fun b _ _ => ⟨rfl, rfl⟩, fun b off v hv => ?_, rfl⟩, ⟨i1.h, ⟨?_, ?_, fun k d hk => ?_, fun s cs' hs => ?_⟩, i1.d⟩⟩
 ·simp only [Gh.frz] at hv
  split at hv
  ·rename_i hbt
   refine .inr (.inr ?_)
   rw [hbt, hω]
   rfl
  ·exact .inl hv
 ·simpa [Fr.frz] using i.s.size
 ·simpa [Fr.frz] using i.s.blen
 ·simp only [Fr.frz, List.getElem?_map, Option.map_eq_some_iff] at hk
  obtain ⟨e0, he0, rfl⟩ := hk
  have other : (∀ off, e0 ≠ .lptr t off) → refL t (cs.map D.strip) e0 = killL t e0 := fun hne => by
   cases e0 with
   | lptr s off =>
    have : s ≠ t := fun e => hne off (by rw [e])
    simp only [refL, killL, if_neg this]
   | _ => rfl
  by_cases hl : ∃ off, e0 = .lptr t off
  ·obtain ⟨off, rfl⟩ := hl
   obtain ⟨v, q1, q2, _, _⟩ := i.s.slots k _ he0
   refine ⟨v, q1, ?_, .of_ne (by simp [refL, D.strip]), fun s off' e => by simp [refL] at e⟩
   simp only [refL, if_true]
   cases q2 with
   | lptr _ _ =>
    have hget : ∀ (j : Nat) (d : D), ((cs.map D.strip).drop off)[j]? = some d → ∃ d0, cs[off + j]? = some d0 ∧ d = d0.strip := fun j d hd => by
     rw [List.getElem?_drop, List.getElem?_map, Option.map_eq_some_iff] at hd
     obtain ⟨d0, hd0, rfl⟩ := hd
     exact ⟨d0, hd0, rfl⟩
    refine .ref _ _ _ (fun j => (arr[off + j]?).getD default) (fun j d hd => ?_) (fun j d hd => ?_) ?_
    ·obtain ⟨d0, hd0, rfl⟩ := hget j d hd
     obtain ⟨_, v, hv, _, _⟩ := h4 _ d0 hd0
     simp only [Gh.frz, if_true]
     rw [hv]
     unfold World.cell?
     simp only [h1]
     exact hv
    ·obtain ⟨d0, hd0, rfl⟩ := hget j d hd
     obtain ⟨hpl, v, hv, hr, _⟩ := h4 _ d0 hd0
     rw [hv]
     exact (hr.mono hle (fun t off e => by subst e; simp [D.plain] at hpl)).strip
    ·refine List.all_eq_true.2 fun x hx => List.all_eq_true.1 hp x (List.mem_of_mem_drop hx)
  ·rw [other (fun off e => hl ⟨off, e⟩)]
   have hd : (fr.drop t (killL t)).slots[k]? = some (killL t e0) := by
    simp only [Fr.drop, List.getElem?_map, he0, Option.map_some]
   obtain ⟨v, q1, q2, q3, q4⟩ := i1.s.slots k _ hd
   exact ⟨v, q1, q2, q3, q4⟩
 ·exact i1.s.boxes s cs' hs
theorem insRun_ok : ∀ {is : List Ins} {fr fr' : Fr} {σ σ' : St} {g : Gh}, insRun is fr σ = some (fr', σ') → Inv P g w fr σ a → ∃ g', Ext g w g' w ∧ Inv P g' w fr' σ' a
 | [], fr, fr', σ, σ', g, h, i => by
  simp only [insRun, Option.some.injEq, Prod.mk.injEq] at h
  obtain ⟨rfl, rfl⟩ := h
  exact ⟨g, .refl g w, i⟩
 | x :: is, fr, fr', σ, σ', g, h, i => by
  simp only [insRun] at h
  split at h
  ·rename_i fr1 σ1 h1
   have : ∃ g1, Ext g w g1 w ∧ Inv P g1 w fr1 σ1 a := by
    cases x with
    | junk t =>
     simp only [Ins.run, Option.some.injEq, Prod.mk.injEq] at h1
     obtain ⟨rfl, rfl⟩ := h1
     exact ⟨g, .refl g w, i.weaken t (fun v _ => .junk v) rfl (fun s off e => by cases e)⟩
    | prom t =>
     obtain ⟨sz, i1, e1, _⟩ := i.promote h1
     exact ⟨_, e1, i1⟩
    | frz t =>
     simp only [Ins.run] at h1
     split at h1
     ·rename_i cs hcs
      split at h1
      ·rename_i hp
       cases h1
       exact i.freezeBox hcs hp
      ·cases h1
     ·cases h1
   obtain ⟨g1, e1, i1⟩ := this
   obtain ⟨g2, e2, i2⟩ := insRun_ok h i1
   exact ⟨g2, e1.trans e2, i2⟩
  ·cases h
theorem codeM_ins {c : Code} {m : MCode} (is : List Ins) (h : CodeM P c m) : CodeM P c (.seq m (.nat (insN is))) := by
 intro cal fuel hc hci ae fr fr' σ σ' a g w Q hr i hn
 simp only [runC] at hr
 split at hr
 ·rename_i fr1 σ1 h1
  refine h cal fuel hc hci h1 i (fun a1 w1 g1 e1 i1 => ?_)
  unfold insN at hr
  rw [Option.map_eq_some_iff] at hr
  obtain ⟨⟨fr2, σ2⟩, hp, hr⟩ := hr
  cases hr
  obtain ⟨g2, e2, i2⟩ := insRun_ok hp i1
  exact hn a1 w1 _ (e1.trans e2.m) i2
 ·exact h cal fuel hc hci hr i hn
def insSp : List (List Ins) → MCode → MCode
 | [] :: L, .seq x y => .seq x (insSp L y)
 | is :: L, .seq x y => .seq (.seq x (.nat (insN is))) (insSp L y)
 | _, m => m
theorem codeM_insSp (hm : P.follows .mixedOrders = true) : ∀ (L : List (List Ins)) (c : Code) (K : Lv) (m : MCode), compC P mu K c = some m → CodeM P c (insSp L m)
 | [], c, K, m, h => codeM_comp hm h
 | is :: L, c, K, m, h => by
  cases m with
  | seq mx my =>
   obtain ⟨x, y, rfl, h1, h2⟩ := compC_seq h
   cases is with
   | nil => exact codeM_seq (codeM_comp hm h1) (codeM_insSp hm L y K my h2)
   | cons i is => exact codeM_seq (codeM_ins (i :: is) (codeM_comp hm h1)) (codeM_insSp hm L y K my h2)
  | _ => cases is <;> exact codeM_comp hm h
theorem goodT_insSp (hm : P.follows .mixedOrders = true) {f : FuncId} {fn : Func} {m : MFunc} (L : List (List Ins)) (hf : P.funcs[f]? = some fn) (h : compFn P mu fn = some m) (ht : (insSp L m.body).told = true) : GoodT P f { m with body := insSp L m.body } := by
 unfold compFn at h
 split at h
 ·rename_i c rs hb hr
  rw [Option.map_eq_some_iff] at h
  obtain ⟨mb, h1, h2⟩ := h
  subst h2
  exact goodT_of (m := { nparams := _, ntmps := _, results := rs, body := insSp L mb }) hf hb hr rfl ht (codeM_insSp hm L c _ mb h1)
 ·cases h
end
end Go.Abs
