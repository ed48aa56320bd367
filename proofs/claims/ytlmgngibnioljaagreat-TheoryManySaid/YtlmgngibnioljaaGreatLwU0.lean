import Derived.Test.YtlmgngibnioljaaGreatTabT
import Derived.Test.YtlmgngibnioljaaGreatFast
set_option linter.unusedVariables false
set_option linter.unusedSimpArgs false
/-
  Functions that are told at some arguments and memories.
-/
namespace Go.Abs.T
open Go Go.Abs Go.Proofs
set_option maxRecDepth 100000
def sameSt (a b : St) : Bool := sameL sameO a b
/-- A function that is told at some arguments and memories. -/
def factF : List ((List D × St) × (D × St)) → List D → St → Option (D × St)
  | [], _, _ => none
  | e :: es, ds, σ => bif sameDs ds e.1.1 then (bif sameSt σ e.1.2 then some e.2 else factF es ds σ) else factF es ds σ
theorem factF_mem : ∀ {L : List ((List D × St) × (D × St))} {ds : List D} {σ : St} {r : D × St}, factF L ds σ = some r → ∃ e ∈ L, e.1.1 = ds ∧ e.1.2 = σ ∧ e.2 = r
  | [], _, _, _, h => by cases h
  | e :: L, ds, σ, r, h => by
    simp only [factF, cond_eq_ite] at h
    split at h
    · rename_i h1
      split at h
      · rename_i h2
        exact ⟨e, List.mem_cons_self .., (sameDs_eq _ _ h1).symm, (sameL_eq sameO_eq _ _ h2).symm, Option.some.inj h⟩
      · obtain ⟨x, hx, h⟩ := factF_mem h
        exact ⟨x, List.mem_cons_of_mem _ hx, h⟩
    · obtain ⟨x, hx, h⟩ := factF_mem h
      exact ⟨x, List.mem_cons_of_mem _ hx, h⟩
theorem good_facts {P : Program} {Tb : Table} (hm : P.follows .mixedOrders = true) (hT : TabOK P Tb) {n f k : Nat} {fn : Func} {c : Code} (hf : P.funcs[f]? = some fn) (hb : fn.body = some c) {L : List ((List D × St) × (D × St))}
    (h : ∀ e ∈ L, e.1.1.all D.notL = true ∧ callN Tb n f e.1.1 e.1.2 = some e.2 ∧ e.2.1.bare = e.2.1 ∧ e.2.1.notL = true) : GoodT P f (toldS k (factF L)) := by
  refine good_toldS hf hb (fun ds σ d σ' ha => ?_)
  obtain ⟨e, he, rfl, rfl, h2⟩ := factF_mem ha
  obtain ⟨h3, h4, h5, h6⟩ := h e he
  rw [h2] at h4 h5 h6
  exact ⟨h5, h6, fun g w vals hi hide hr _ => (callN_ok hm hT n).1 f e.1.1 e.1.2 d σ' h4 g w vals hi hide hr h3⟩
end Go.Abs.T
