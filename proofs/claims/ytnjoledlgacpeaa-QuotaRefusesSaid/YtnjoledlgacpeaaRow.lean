import Derived.Test.YtnjoledlgacpeaaRead
set_option linter.unusedVariables false
set_option linter.unusedSimpArgs false
/-
  From the interpreter's answer to the row of a law that answers one truth.
-/
namespace Go.Abs
open Go Go.ChangeShapes Go.WideShapes Go.ChangeAt Go.RowKit

def ArgsOf (P : Program) : List TypeId → List D → Prop
  | [], [] => True
  | t :: ts, x :: xs => ArgOf P t x ∧ ArgsOf P ts xs
  | _, _ => False

section
variable {H : Type} {enc : TypeId × Value → H} {P : Program} {W : World} {S : List TypeId} {T : Table}

theorem allRep_cons {R : Value → D → Prop} {v : Value} {d : D} {vs : List Value} {ds : List D} (h : R v d) (hs : AllRep R vs ds) : AllRep R (v :: vs) (d :: ds) := by
  refine ⟨by simp [hs.1], fun i v' d' h1 h2 => ?_⟩
  match i, h1, h2 with
  | 0, h1, h2 => simp at h1 h2; subst h1 h2; exact h
  | i + 1, h1, h2 => exact hs.2 i v' d' (by simpa using h1) (by simpa using h2)

theorem args_ok (hl : laidOutB P = true) (hS : S.all (goodT P S) = true) (hr : S.all (fun t => P.readableRec t && decide (t < P.types.size)) = true) :
    ∀ (ts : List TypeId) (vs : List Value) (ds : List (DataW H)) (ps : List MemPlace) (b0 : Nat), ts.all S.contains = true → (∀ (j : Nat) t v, ts[j]? = some t → vs[j]? = some v → Value.okWide P W .any b0 t v) →
    DataW.TrodAll enc P W 0 (fun _ => true) true ts vs ds ps → (∀ x ∈ ps, x.block < W.heap.size) →
    ∃ xs, ArgsOf P ts xs ∧ AllRep (Rep (seen W)) vs xs ∧ xs.all D.notL = true ∧
      ∀ W', Below W.heap.size W W' → DataW.TrodAll enc P W' 0 (fun b => decide (b < W.heap.size)) true ts vs ds ps
  | [], vs, ds, ps, b0, _, _, h, _ => by
    obtain ⟨rfl, rfl, rfl⟩ := trodAll_nil h
    exact ⟨[], trivial, ⟨rfl, fun i v d h1 => by simp at h1⟩, rfl, fun _ _ => trodAll_mk0⟩
  | t :: ts, vs, ds, ps, b0, hin, hok, h, hlt => by
    obtain ⟨v, vs', d, ds', p, q, rfl, rfl, rfl, hd, hrest⟩ := trodAll_cons h
    simp only [List.all_cons, Bool.and_eq_true] at hin
    have htS : t ∈ S := by simpa using hin.1
    obtain ⟨x, h1, h2, h3⟩ := arg_ok hS htS (hok 0 t v rfl rfl) hd
    obtain ⟨xs, g1, g2, g3, g4⟩ := args_ok hl hS hr ts vs' ds' q b0 hin.2 (fun j t' v' ht hv => hok (j + 1) t' v' (by simpa using ht) (by simpa using hv)) hrest (fun x hx => hlt x (by simp [hx]))
    refine ⟨x :: xs, ⟨h1, g1⟩, allRep_cons h2 g2, by simp [h3, g3], fun W' hb => ⟨p, q, ?_, g4 W' hb, rfl⟩⟩
    have hrt := List.all_eq_true.1 hr t htS
    simp only [Bool.and_eq_true, decide_eq_true_eq] at hrt
    exact Below.trod hl hrt.1 hrt.2 hd hb (fun x hx => hlt x (by simp [hx]))

/-- A law's row, of which only the interpreter's answer is asked. -/
theorem law_row {C : Checked} {os : Os} (started : os.Started) {f : FuncId} {fn : Func} {s : ChangeSpec} {tb : TypeId}
    (own : ownKnob C.prog.godebug = none) (noInit : C.prog.inits.idxOf? f = none) (hfn : C.prog.funcs[f]? = some fn)
    (hl : laidOutB C.prog = true) (hS : S.all (goodT C.prog S) = true) (hr : S.all (fun t => C.prog.readableRec t && decide (t < C.prog.types.size)) = true) (hp : fn.params.toList.all S.contains = true)
    (hres : fn.resultTypes = #[tb]) (hb : C.prog.underlying tb = some .bool) (hm : C.prog.follows .mixedOrders = true) (hT : TabOK C.prog T)
    (hv : s.vars = []) (hs : ∀ (ds : List (DataW H)), ds.length = fn.params.toList.length → (s.fn H ds).results = [.lit (.bool true)] ∧ (s.fn H ds).args = ds ∧ (s.fn H ds).vars = [])
    (witness : ∃ (w : World) (tape : Tape) (i : Input), w.os = os ∧ (w.forCall tape i).Shaped C.prog ∧ i.vars = [] ∧ Input.okWide C.prog (w.forCall tape i) .any w.heap.size f i ∧
      s.pre6 enc C.prog fn [] false (w.forCall tape i).memory i.args ∧ ({} : Assume).holds C.prog (lone (Frame.enter C.prog f i.args .normal) [] (w.forCall tape i)))
    (law : ∀ xs, ArgsOf C.prog fn.params.toList xs → ∃ n σ', callN T n f xs [] = some (.bool true, σ')) :
    ReturnsInHanded {} C os f .any (s.pre6 enc C.prog fn [] false) (s.post enc C.prog fn false true false false) := by
  refine returnsInHanded_of_change (C := C) own started noInit hfn witness ?_
  intro W base args ds gs before hval hW _ _
  have hW' := hW
  obtain ⟨p, q, hA, hV, rfl, hfz, hnd⟩ := hW
  rw [hv] at hV
  obtain ⟨rfl, rfl⟩ := trodVars_none hV
  have hlt : ∀ x ∈ p, x.block < W.heap.size := fun x hx => hW'.lt x (by simp [hx])
  have hlen : ds.length = fn.params.toList.length := by
    have : ∀ (ts : List TypeId) (vs : List Value) (ds : List (DataW H)) (ps : List MemPlace), DataW.TrodAll enc C.prog W 0 (fun _ => true) true ts vs ds ps → ds.length = ts.length := by
      intro ts
      induction ts with
      | nil =>
        intro vs ds ps h
        obtain ⟨rfl, rfl, rfl⟩ := trodAll_nil h
        rfl
      | cons t ts ih =>
        intro vs ds ps h
        obtain ⟨v, vs', d, ds', p, q, rfl, rfl, rfl, hd, hrest⟩ := trodAll_cons h
        simp [ih _ _ _ hrest]
    exact this _ _ _ _ hA
  obtain ⟨xs, h1, h2, h3, h4⟩ := args_ok hl hS hr _ _ _ _ base hp (fun j t v ht hv => hval j t v (by simpa using ht) (by simpa using hv)) hA hlt
  refine (law_true hm hT h2 h3 (law xs h1)).mono fun e W' ⟨he, hbel⟩ => ?_
  subst he
  obtain ⟨hs1, hs2, hs3⟩ := hs ds hlen
  refine ⟨_, rfl, _, _, _, [], p, [], hW', ?_, ?_, ?_, hbel.frame _, fun h => by cases h⟩
  · rw [List.append_nil, hs1, hres]
    exact trodAll_mk1 ⟨1, by simp [DataW.trod, Value.cells, hb, Lit.wf]⟩
  · rw [List.append_nil, hs2]
    exact h4 W' hbel
  · rw [List.append_nil, hs3, hv]
    rfl
end
end Go.Abs
