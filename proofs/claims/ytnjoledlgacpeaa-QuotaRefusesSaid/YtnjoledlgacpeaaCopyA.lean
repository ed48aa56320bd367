import Derived.Test.YtnjoledlgacpeaaHeldE
import Derived.Shelf.SlMaps.Clone
set_option linter.unusedVariables false
set_option linter.unusedSimpArgs false
/-
  A function that is told by what it answers and what it makes of the memory.
-/
namespace Go.Abs
open Go
def toldS (k : Nat) (F : List D → St → Option (D × St)) : MFunc := ⟨k, k + 1, [.tmp k], .nat fun fr σ => (F (fr.slots.take k) σ).map fun r => (.ret, fr.set k r.1, r.2)⟩
theorem good_toldS {P : Program} {f : FuncId} {fn : Func} {c : Code} {k : Nat} {F : List D → St → Option (D × St)} (hf : P.funcs[f]? = some fn) (hb : fn.body = some c)
    (h : ∀ (ds : List D) (σ : St) (d : D) (σ' : St), F ds σ = some (d, σ') → d.bare = d ∧ d.notL = true ∧ ∀ (g : Gh) (w : World) (vals : Array Value), HInv P g w σ → (∀ b, hideF (g.ω b) = g.ω b) → AllRep (Rep g) vals.toList ds → g.base = [] → Calls P f vals w (fun e w' => ∃ v, e = .returned v ∧ Gives P g w w' σ' v d)) : GoodT P f (toldS k F) := by
  refine ⟨fn, c, hf, hb, rfl, fun cal fuel _ _ ds σ fr σ1 hrun _ d σ' hro g w vals hi hide hr hn hbase => ?_⟩
  unfold runBody at hrun
  split at hrun
  · rename_i hcond
    obtain ⟨c1, c2⟩ := hcond
    simp only [toldS, runC] at hrun
    have htake : (enterFr (toldS k F) ds).slots.take k = ds.map D.strip := by
      have hl : (ds.map D.strip).length = k := by simpa [toldS] using c1
      simp only [enterFr]
      rw [List.take_append_of_le_length (by omega), List.take_of_length_le (by omega)]
    rw [show (enterFr ⟨k, k + 1, [.tmp k], .nat fun fr σ => (F (fr.slots.take k) σ).map fun r => (.ret, fr.set k r.1, r.2)⟩ ds) = enterFr (toldS k F) ds from rfl, htake] at hrun
    cases hF : F (ds.map D.strip) σ with
    | none => rw [hF] at hrun; cases hrun
    | some r0 =>
      obtain ⟨d0, σ0⟩ := r0
      rw [hF] at hrun
      simp only [Option.map_some, Option.some.injEq, Prod.mk.injEq] at hrun
      obtain ⟨rfl, rfl⟩ := hrun
      obtain ⟨q1, q2, q3⟩ := h _ _ _ _ hF
      have hat : ((enterFr (toldS k F) ds).set k d0).at k = d0 := by
        have hl : ds.length = k := by simpa [toldS] using c1
        have hlt : k < (enterFr (toldS k F) ds).slots.length := by
          simp [enterFr, toldS, hl]
        simp only [Fr.at, Fr.set]
        rw [List.getD_eq_getElem?_getD, List.getElem?_set, if_pos rfl, if_pos hlt]
        rfl
      have hres : resD ((enterFr (toldS k F) ds).set k d0) σ0 (.tmp k) = some d0 := by
        simp only [resD, hat, q1]
      have : resultOf ((enterFr (toldS k F) ds).set k d0) σ0 (toldS k F).results = some (d0, σ0) := by
        show resultOf ((enterFr (toldS k F) ds).set k d0) σ0 [.tmp k] = some (d0, σ0)
        simp only [resultOf, hres]
        cases d0 <;> first | rfl | cases q2
      rw [this] at hro
      cases hro
      exact q3 g w vals hi hide (allRep_strip hr) hbase
  · cases hrun
end Go.Abs

/-
  A copy of a map, by the library: the function is told.
-/
namespace Go.Abs.C
open Go Go.Abs Go.RowKit Go.Sort Go.Shelf Go.Proofs Go.Proofs.Ytnjoledlgacpeaa
def copy_ren : Go.Shelf.Ren := ⟨fun | 5 => 31 | 7 => 45 | n => n, fun | 23 => 63 | 25 => 9 | 3 => 44 | n => n, fun | n => n⟩
theorem copyL : Go.Proofs.SlLaysW.n5 Try.prog copy_ren where
  mixed := by kernel_rfl
  f5 := ⟨Try.f31.name, by kernel_rfl, Try.func31.trans (congrArg some (by kernel_rfl))⟩
  f7 := Try.func45.trans (congrArg some (by kernel_rfl))
  t4 := Try.underlying4
  a4 := Try.isAgg4
  z4 := Try.sizeOf4
  v4 := Try.zeroValue4
  t20 := Try.underlying20
  a20 := Try.isAgg20
  z20 := Try.sizeOf20
  v20 := Try.zeroValue20
  t23 := Try.underlying63
  a23 := Try.isAgg63
  z23 := Try.sizeOf63
  v23 := Try.zeroValue63
def cloneM : List D → St → Option (D × St)
  | [.map o], σ =>
    match σ[o]? with
    | some (.map es) => some (.map σ.length, σ ++ [.map es])
    | _ => none
  | _, _ => none
def m31 : MFunc := toldS 1 cloneM
theorem hinv0 {P : Program} {g : Gh} {w : World} {σ : St} (hi : HInv P g w σ) : Inv P g w ⟨[], [], []⟩ σ { tmps := #[], defers := g.base } :=
  ⟨hi, ⟨rfl, rfl, fun t d h => by simp at h, fun t cs h => by simp at h⟩, ⟨[], rfl, rfl, fun k x y h => by simp at h⟩⟩
theorem calls31 {g : Gh} {w : World} {σ : St} (hi : HInv Try.prog g w σ) {o : Nat} {es : List (D × D)} (h : σ[o]? = some (.map es)) :
    Calls Try.prog 31 #[.map (some (g.μ o))] w (fun e w' => ∃ v, e = .returned v ∧ Gives Try.prog g w w' (σ ++ [.map es]) v (.map σ.length)) := by
  obtain ⟨hω, ents, clock, hb, hmr, hborn⟩ := hi.maps o es h
  refine (AnyW.maps_Clone copyL (g.μ o) ents clock w hb).mono ?_
  rintro e w' ⟨rfl, rfl⟩
  refine ⟨_, rfl, ?_⟩
  have i1 := (hinv0 hi).alloc (.map ents clock) .hand
  have hle : g.Le ((g.tagAt w.heap.size .hand).push w.heap.size 0) := Gh.Le.trans (b := g.tagAt w.heap.size .hand) ⟨fun _ _ _ h => h, Nat.le_refl _, fun _ _ => rfl, fun _ _ => rfl⟩ (push_le _ _ _)
  obtain ⟨i2, e2⟩ := i1.push (b := w.heap.size) (sz := 0) (by simp [Gh.tagAt]) (.map es) (fun cs h => by cases h) (fun es' h => by
    cases h
    exact ⟨ents, clock, heap_new w _, hmr.mono hle, hborn⟩)
  refine ⟨_, (Ext.alloc g w _ .hand).trans e2, i2.h, ?_, rfl, .of_ne rfl⟩
  have := Rep.map (g := (g.tagAt w.heap.size .hand).push w.heap.size 0) g.n (Nat.lt_succ_self _)
  rw [← hi.n]
  simpa [Gh.push, Gh.tagAt] using this
theorem clone_calls {g : Gh} {w : World} {σ σ' : St} {ds : List D} {d : D} {vals : Array Value} (hF : cloneM ds σ = some (d, σ')) (hi : HInv Try.prog g w σ) (hr : AllRep (Rep g) vals.toList ds) : Calls Try.prog 31 vals w (fun e w' => ∃ v, e = .returned v ∧ Gives Try.prog g w w' σ' v d) := by
  unfold cloneM at hF
  split at hF
  · rename_i o
    split at hF <;> first | (cases hF; done) | skip
    rename_i es h
    cases hF
    obtain ⟨v, rfl, hv⟩ := vals_one hr
    have : v = .map (some (g.μ o)) := by
      cases hv
      rfl
    subst this
    exact calls31 hi h
  · cases hF
theorem good31 : GoodT Try.prog 31 m31 := by
  refine good_toldS (c := Try.f31.body.getD .skip) Try.func31 (by kernel_rfl) (fun ds σ d σ' h => ?_)
  have h2 := h
  unfold cloneM at h
  split at h
  · split at h <;> first | (cases h; done) | skip
    cases h
    exact ⟨rfl, rfl, fun g w vals hi _ hr _ => clone_calls h2 hi hr⟩
  · cases h
/-- A call of it alone. -/
def cloneCal : Cal := fun f ds σ => if f = 31 then cloneM ds σ else none
theorem e31 : Enters Try.prog 31 := ⟨Try.f31, Try.f31.body.getD .skip, Try.func31, by kernel_rfl, by kernel_rfl⟩
theorem cloneCal_ok : CalOK Try.prog cloneCal := by
  intro f ds σ d σ' h g w vals hi _ hr _
  unfold cloneCal at h
  split at h
  · rename_i hf
    subst hf
    exact clone_calls h hi hr
  · cases h
theorem cloneCal_in : CalIn Try.prog cloneCal := by
  intro f ds σ r h
  unfold cloneCal at h
  split at h
  · rename_i hf
    subst hf
    exact e31
  · cases h
end Go.Abs.C
