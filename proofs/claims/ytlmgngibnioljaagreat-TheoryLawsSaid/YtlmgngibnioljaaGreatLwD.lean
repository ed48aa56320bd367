import Derived.Test.YtlmgngibnioljaaGreatLwB
import Derived.Test.YtlmgngibnioljaaGreatTabT
set_option linter.unusedVariables false
set_option linter.unusedSimpArgs false
/-
  TheoryLaws as the machine code sees it: awake and the theory are told by what they answer.
-/
namespace Go.Abs.T
open Go Go.Abs Go.Proofs
set_option maxRecDepth 100000
/-- A function that is told by what it answers to arguments that are these. -/
def atF (ds : List D) (d : D) : List D → St → Option D := fun xs _ => if sameDs xs ds then some d else none
theorem good_at {P : Program} {Tb : Table} (hm : P.follows .mixedOrders = true) (hT : TabOK P Tb) {n f k : Nat} {ds : List D} {d : D} {fn : Func} {c : Code} (hf : P.funcs[f]? = some fn) (hb : fn.body = some c)
    (h : ∃ σ, callN Tb n f ds [] = some (d, σ)) (hp : ds.all pureArg = true) (hs : ∀ σ, snap σ ds = some (ds, [])) (hz : ∀ σ, freeze σ d = some d) (hd : d.bare = d) (hn : d.notL = true) : GoodT P f (toldF k (atF ds d)) := by
  obtain ⟨σc, h⟩ := h
  refine good_told hf hb (fun xs σ d' ha => ?_)
  unfold atF at ha
  split at ha
  rotate_left
  · cases ha
  rename_i hsame
  cases ha
  have has := sameDs_eq _ _ hsame
  subst has
  refine ⟨hd, hn, fun g w vals hi _ hr hbase => ?_⟩
  have i0 : Inv P g w ⟨[], [], []⟩ σ { tmps := #[], defers := g.base } := ⟨hi, ⟨rfl, rfl, fun t d h => by simp at h, fun t cs h => by simp at h⟩, ⟨[], rfl, rfl, fun k x y h => by simp at h⟩⟩
  refine Calls.mono (call_pure (callN_ok hm hT n).1 i0 hp (hs σ) h (hz σc) hr) ?_
  rintro e w' ⟨v, rfl, g', e1, i1, r1, n1, o1⟩
  refine ⟨v, rfl, g', e1, ?_, r1, n1, o1⟩
  have := i1.h
  simpa using this
def w5 : MFunc := toldF 0 (atF [] (.bool true))
def w6 : MFunc := toldF 3 (atF ofArgs ofRes)
def T2 : Table := fun f => bif Nat.beq f 5 then some w5 else bif Nat.beq f 6 then some w6 else T f
theorem good5 : GoodT Tryz.prog 5 w5 := good_at hmix tab_ok Tryz.func5 (c := (Tryz.f5.body).getD .skip) (by kernel_rfl) awake_ok (by kernel_rfl) (fun σ => by kernel_rfl) (fun σ => by kernel_rfl) (by kernel_rfl) (by kernel_rfl)
theorem good6 : GoodT Tryz.prog 6 w6 := good_at hmix tab_ok3 Tryz.func6 (c := (Tryz.f6.body).getD .skip) (by kernel_rfl) of_run (by kernel_rfl) (fun σ => by kernel_rfl) (fun σ => by kernel_rfl) (by kernel_rfl) (by kernel_rfl)
theorem tab_ok2 : TabOK Tryz.prog T2 := by
  intro f m h
  unfold T2 at h
  simp only [cond_eq_ite] at h
  split at h
  · rename_i hf
    have := Nat.eq_of_beq_eq_true hf
    subst this
    cases h
    exact ⟨Tryz.f5, Tryz.func5, .inr (.inr good5), by kernel_rfl⟩
  · split at h
    · rename_i hf
      have := Nat.eq_of_beq_eq_true hf
      subst this
      cases h
      exact ⟨Tryz.f6, Tryz.func6, .inr (.inr good6), by kernel_rfl⟩
    · exact tab_ok f m h
theorem run_of_map2 {n f : Nat} {args : List D} {d : D} (h : (callNK T2 n f args []).map (·.1) = some d) : ∃ σ, callN T2 n f args [] = some (d, σ) := by
  rw [← callNK_eq]
  cases hc : callNK T2 n f args [] with
  | none => rw [hc] at h; cases h
  | some p =>
    rw [hc] at h
    obtain ⟨d', σ⟩ := p
    simp only [Option.map_some, Option.some.injEq] at h
    subst h
    exact ⟨σ, rfl⟩
end Go.Abs.T
