import Derived.Test.YtjmhfliaehhijaaKont
set_option linter.unusedVariables false
set_option linter.unusedSimpArgs false
/-
  Formulas, as data.
-/
namespace Go.Abs
open Go

inductive Fm where
  | mk (op n : Int) (kids : List Fm)

namespace Fm
def op : Fm → Int | .mk o _ _ => o
def n : Fm → Int | .mk _ n _ => n
def kids : Fm → List Fm | .mk _ _ k => k
theorem op_mk (o n : Int) (k : List Fm) : (Fm.mk o n k).op = o := rfl
theorem n_mk (o n : Int) (k : List Fm) : (Fm.mk o n k).n = n := rfl
theorem kids_mk (o n : Int) (k : List Fm) : (Fm.mk o n k).kids = k := rfl
end Fm

mutual
def eFr : Fm → List D
  | .mk op n ks => [.int .i64 op, .int .i64 n, .sl (eFsr ks) none]
def eFsr : List Fm → List (List D)
  | [] => []
  | f :: fs => eFr f :: eFsr fs
end
/-- A row of formulas, as cells. -/
def eFs (fs : List Fm) : List (List D) := eFsr fs
/-- A formula, as cells. -/
def eF (f : Fm) : List D := [.int .i64 f.op, .int .i64 f.n, .sl (eFs f.kids) none]
theorem eFr_eq : ∀ f : Fm, eFr f = eF f
  | .mk _ _ _ => by simp [eFr, eF, Fm.op, Fm.n, Fm.kids, eFs]
theorem eFs_map : ∀ fs : List Fm, eFs fs = fs.map eF
  | [] => by simp [eFs, eFsr]
  | f :: fs => by
    have := eFs_map fs
    unfold eFs at this ⊢
    simp only [eFsr, List.map_cons, this, eFr_eq]
theorem eFs_length (fs : List Fm) : (eFs fs).length = fs.length := by rw [eFs_map]; simp
theorem eFs_append (a b : List Fm) : eFs (a ++ b) = eFs a ++ eFs b := by simp [eFs_map]
theorem eFs_get {fs : List Fm} {i : Nat} {f : Fm} (h : fs[i]? = some f) : (eFs fs)[i]? = some (eF f) := by
  rw [eFs_map]
  simp [h]
theorem eFs_all (fs : List Fm) : ((eFs fs).all fun y => y.length == 3) = true := by
  rw [eFs_map]
  simp only [List.all_map, List.all_eq_true]
  intro f _
  rfl

/-- Not deeper than so, and nowhere more than sixty kids. -/
def fits : Nat → Fm → Prop
  | 0, _ => False
  | d + 1, f => f.kids.length ≤ 60 ∧ ∀ k ∈ f.kids, fits d k
theorem fits_mono : ∀ {d e : Nat} {f : Fm}, fits d f → d ≤ e → fits e f
  | 0, _, _, h, _ => h.elim
  | d + 1, 0, _, _, h => by omega
  | d + 1, e + 1, f, h, hle => ⟨h.1, fun k hk => fits_mono (h.2 k hk) (by omega)⟩

section
variable {cal : Cal} {fuel : Nat} {fr : Fr} {σ : St} {R : AE → Fr → St → Prop}
theorem runs_indexL {q : Bool} {dst : Option Nat} {esz : Nat} {x i : X} {g : Option (Nat × Bool)} {ops : List MOper} (es : List (List D)) {o : Option Nat} {kd : IntKind} (j : Nat) (e : List D) (hw : wantedD fr g = some true) (hx : fr.val x = .sl es o) (hi : fr.val i = .int kd (j : Int)) (he : es[j]? = some e) (hl : e.length = esz)
    (h : Runs (runC cal fuel (.region q ops) (fr.put dst (.ref e)) σ) R) : Runs (runC cal fuel (.region q (⟨dst, .indexAddr esz x i, g⟩ :: ops)) fr σ) R := by
  refine runs_op hw ?_ h
  exact ev_index hx hi (Int.natCast_nonneg j) (by simpa using he) hl
end
end Go.Abs
