import Derived.Test.YtlmgngibnioljaaGreatTmI
import Derived.Test.YtlmgngibnioljaaGreatTmZ
import Derived.Test.YtlmgngibnioljaaGreatLwA
import Derived.Test.YtlmgngibnioljaaGreatShapes
import Derived.ProofKit
set_option linter.unusedVariables false
set_option linter.unusedSimpArgs false
/-
  TheoryMany: of names as many as may be a theory is told, and of no more. For every two bytes, without a condition.
-/
namespace Go.Abs.T
open Go Go.Abs Go.Proofs Go.Proofs.YtlmgngibnioljaaGreat Go.ChangeShapes Go.WideShapes Go.ChangeAt Go.RowKit
section
variable {S : List TypeId} {H : Type} {enc : TypeId × Value → H}
/-- A law whose table may depend on the arguments. -/
theorem law_rowT {C : Checked} {os : Os} (started : os.Started) {f : FuncId} {fn : Func} {s : ChangeSpec} {tb : TypeId}
    (own : ownKnob C.prog.godebug = none) (noInit : C.prog.inits.idxOf? f = none) (hfn : C.prog.funcs[f]? = some fn)
    (hl : laidOutB C.prog = true) (hS : S.all (goodT C.prog S) = true) (hr : S.all (fun t => C.prog.readableRec t && decide (t < C.prog.types.size)) = true) (hp : fn.params.toList.all S.contains = true)
    (hres : fn.resultTypes = #[tb]) (hb : C.prog.underlying tb = some .bool) (hm : C.prog.follows .mixedOrders = true)
    (hv : s.vars = []) (hs : ∀ (ds : List (DataW H)), ds.length = fn.params.toList.length → (s.fn H ds).results = [.lit (.bool true)] ∧ (s.fn H ds).args = ds ∧ (s.fn H ds).vars = [])
    (witness : ∃ (w : World) (tape : Tape) (i : Input), w.os = os ∧ (w.forCall tape i).Shaped C.prog ∧ i.vars = [] ∧ Input.okWide C.prog (w.forCall tape i) .any w.heap.size f i ∧
      s.pre6 enc C.prog fn [] false (w.forCall tape i).memory i.args ∧ ({} : Assume).holds C.prog (lone (Frame.enter C.prog f i.args .normal) [] (w.forCall tape i)))
    (law : ∀ xs, ArgsOf C.prog fn.params.toList xs → ∃ T, TabOK C.prog T ∧ ∃ n σ', callN T n f xs [] = some (.bool true, σ')) :
    ReturnsInHanded {} C os f .any (s.pre6 enc C.prog fn [] false) (s.post enc C.prog fn false true false false) := by
  refine returnsInHanded_of_change (C := C) own started noInit hfn witness ?_
  intro W base args ds gs before hval hW _ _
  have hW' := hW
  obtain ⟨p, q, hA, hV, rfl, hfz, hnd⟩ := hW
  rw [hv] at hV
  obtain ⟨rfl, rfl⟩ := trodVars_none hV
  have hlt : ∀ x ∈ p, x.block < W.heap.size := fun x hx => hW'.lt x (by simp [hx])
  have hlen : ds.length = fn.params.toList.length := by
    have : ∀ (ts : List TypeId) (vs : List Value) (ds : List (DataW H)) (ps : List MemPlace), DataW.TrodAll enc C.prog W 0 (fun _ => true) true ts vs ds ps → ds.length = ts.length := by
      intro ts
      induction ts with
      | nil =>
        intro vs ds ps h
        obtain ⟨rfl, rfl, rfl⟩ := trodAll_nil h
        rfl
      | cons t ts ih =>
        intro vs ds ps h
        obtain ⟨v, vs', d, ds', p, q, rfl, rfl, rfl, hd, hrest⟩ := trodAll_cons h
        simp [ih _ _ _ hrest]
    exact this _ _ _ _ hA
  obtain ⟨xs, h1, h2, h3, h4⟩ := args_ok hl hS hr _ _ _ _ base hp (fun j t v ht hv => hval j t v (by simpa using ht) (by simpa using hv)) hA hlt
  obtain ⟨T, hT, hlaw⟩ := law xs h1
  refine (law_true hm hT h2 h3 hlaw).mono fun e W' ⟨he, hbel⟩ => ?_
  subst he
  obtain ⟨hs1, hs2, hs3⟩ := hs ds hlen
  refine ⟨_, rfl, _, _, _, [], p, [], hW', ?_, ?_, ?_, hbel.frame _, fun h => by cases h⟩
  · rw [List.append_nil, hs1, hres]
    exact trodAll_mk1 ⟨1, by simp [DataW.trod, Value.cells, hb, Lit.wf]⟩
  · rw [List.append_nil, hs2]
    exact h4 W' hbel
  · rw [List.append_nil, hs3, hv]
    rfl
end
theorem args_two {P : Program} {t0 t1 : TypeId} {xs : List D} (h : ArgsOf P [t0, t1] xs) : ∃ x0 x1, xs = [x0, x1] ∧ ArgOf P t0 x0 ∧ ArgOf P t1 x1 := by
  match xs, h with
  | [x0, x1], h => exact ⟨x0, x1, rfl, h.1, h.2.1⟩
theorem rem16 {n : Int} (h0 : 0 ≤ n) (h1 : n ≤ 255) : ∃ k : Nat, IntKind.wrap IntKind.i64 (n.tmod 16) = (k : Int) ∧ k < 16 := by
  refine ⟨(n.tmod 16).toNat, ?_, ?_⟩
  · have h2 : n.tmod 16 = n % 16 := Int.tmod_eq_emod_of_nonneg h0
    rw [h2]
    exact wrap_eq (by omega) (by omega) (by omega)
  · have h2 : n.tmod 16 = n % 16 := Int.tmod_eq_emod_of_nonneg h0
    rw [h2]
    omega
set_option maxRecDepth 100000 in
theorem theoryMany_lifted (os : Os) (started : os.Started) (H : Type) (enc : TypeId × Value → H) :
    ReturnsInHanded {} Tryz.checked os 3 .any (Rows.theoryManySpec.pre6 enc Tryz.prog Tryz.f3 Rows.theoryManyRow.domain false) (Rows.theoryManySpec.post enc Tryz.prog Tryz.f3 false true false false) := by
  refine law_rowT (S := [5]) (tb := 4) started (by kernel_rfl) (by kernel_rfl) Tryz.func3 (by kernel_rfl) (by kernel_rfl) (by kernel_rfl) (by kernel_rfl) (by kernel_rfl) Tryz.underlying4 hmix rfl (fun ds h => ?_)
    (ChangeSpec.witness6 (enc := enc) (C := Tryz.checked) false ⟨#[], #[.int .u8 0, .int .u8 0], []⟩ 8 (by kernel_rfl) (by kernel_rfl) (by kernel_rfl) (by kernel_rfl)) (fun xs h => ?_)
  · match ds, h with
    | [d1, d2], _ => exact ⟨rfl, rfl, rfl⟩
  · replace h : ArgsOf Tryz.prog [5, 5] xs := h
    obtain ⟨x0, x1, rfl, h0, h1⟩ := args_two h
    obtain ⟨n, rfl, hn0, hn1⟩ := arg_u8 Tryz.underlying5 h0
    obtain ⟨kk, rfl, _, _⟩ := arg_u8 Tryz.underlying5 h1
    obtain ⟨k, hk, hk16⟩ := rem16 hn0 hn1
    generalize hb : (IntKind.wrap IntKind.u8 ((BitVec.ofInt 8 kk &&& BitVec.ofInt 8 3).toNat : Int) == 1) = b
    obtain ⟨tk, at_, ks, a, c, e, hr6, hf6, hl6⟩ := r6_all b k hk16
    obtain ⟨s1, s2, p, q, r, at2, t2, bad, bs, e2, hr7, hf7⟩ := r7_all b k hk16
    obtain ⟨σ, hs⟩ := many_ok n kk b k hk hk16 hb hf6 hl6 hf7 _ _ rfl rfl
    exact ⟨_, tz_ok awake_ok hr6 hr7 (r9_all b k hk16) clean6 clean7, 62, σ, hs⟩
end Go.Abs.T

namespace Go.Proofs.YtlmgngibnioljaaGreat
open Go Go.Abs Go.ChangeShapes Go.WideShapes Go.ChangeAt Go.RowKit
theorem theoryMany_holds : Rows.TheoryManySaid :=
  OpenClaim.holds_of_wide 3 Tryz.f3 rfl rfl rfl rfl rfl rfl rfl ⟨rfl, rfl, rfl, rfl, rfl⟩ rfl rfl rfl rfl rfl (by kernel_rfl) Tryz.func3 (by kernel_rfl)
    (of_decide_eq_true (by kernel_rfl)) (by unfold Func.isWrapper; rw [if_neg (by decide +kernel)]; exact ⟨rfl, rfl⟩)
    (fun os started H enc _ => Go.Abs.T.theoryMany_lifted os started H enc)
#print axioms theoryMany_holds
end Go.Proofs.YtlmgngibnioljaaGreat
