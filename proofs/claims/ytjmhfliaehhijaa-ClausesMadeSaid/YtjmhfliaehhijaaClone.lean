import Derived.Test.YtjmhfliaehhijaaOps18
import Derived.Laws.Cover3
set_option linter.unusedVariables false
set_option linter.unusedSimpArgs false
/-
  slices.Clone asks whether its argument is nil; what it answers hangs on that no further: a machine code that does not ask.
-/
namespace Go.Abs
open Go Go.RowKit


/-! The parts of the code of slices.Clone. -/
def cA : Option Code → Code
  | some (.seq a _) => a
  | _ => .skip
def cD : Option Code → Code
  | some (.seq _ (.seq _ d)) => d
  | _ => .skip
def cB : Option Code → Nat × Array Oper
  | some (.seq _ (.seq (.seq (.region i ops _) _) _)) => (i, ops)
  | _ => (0, #[])
def cC : Option Code → Nat × Array Oper
  | some (.seq _ (.seq (.seq _ (.cond _ (.seq (.region i ops _) _) _)) _)) => (i, ops)
  | _ => (0, #[])
def opAt (ops : Array Oper) (i : Nat) : Oper := (ops.toList[i]?).getD { dst := none, op := .move (.tmp 0), type := 0, pos := "", after := #[], guard := none }
section
variable {P : Program} {g g' : Gh} {w w' : World} {fr fr' : Fr} {σ σ' : St} {a : Act} {d : D} {cal : Cal} {T : Table}

def clone1 (e : Nat) (x : D) : Fr := ⟨[x.strip, .junk, .sl [] (some e), .junk, .junk, .junk, .junk, .junk], List.replicate 8 none, []⟩
def clone2 (e : Nat) (x : D) : Fr := ⟨[x.strip, .junk, .sl [] (some e), .junk, .junk, .sl [] (some e), x.strip, .junk], List.replicate 8 none, []⟩
def clone3 (e : Nat) (x : D) (ys : List (List D)) : Fr := ⟨[x.strip, .junk, .sl ys (some e), .junk, .junk, .sl [] none, x.strip, .sl ys none], List.replicate 8 none, []⟩

theorem clone_app {e esz bytes : Nat} {x : D} {r : Option (Fr × St)} (h : runOp cal false ⟨some 7, .append e esz bytes false (.tmp 5) (.tmp 6), none⟩ (clone2 e x) σ = r) : r = none ∨
    ∃ ys, elems σ x.strip = some ys ∧ r = some (⟨[x.strip, .junk, .sl [] (some e), .junk, .junk, .sl [] none, x.strip, .sl ys (some e)], List.replicate 8 none, []⟩, σ) := by
  subst h
  have h6 : (clone2 e x).val (.tmp 6) = x.strip := strip_strip x
  simp only [runOp, wantedD, evalOp, h6]
  cases elems σ x.strip with
  | none => exact .inl rfl
  | some ys =>
    simp only []
    by_cases h1 : (ys.all fun y => y.length == esz) = true
    · rw [if_pos h1]
      by_cases h2 : True ∧ (([] : List (List D)).length + ys.length) * bytes ≤ room ∧ ([] : List (List D)).length + ys.length < 4611686018427387904
      · right
        refine ⟨ys, rfl, ?_⟩
        have ht : (clone2 e x).take (.tmp 5) = (.sl [] (some e), (clone2 e x).set 5 (.sl [] none)) := rfl
        simp only [ht, Bool.false_eq_true, if_false]
        rw [if_pos h2]
        rfl
      · left
        have ht : (clone2 e x).take (.tmp 5) = (.sl [] (some e), (clone2 e x).set 5 (.sl [] none)) := rfl
        simp only [ht, Bool.false_eq_true, if_false]
        rw [if_neg h2]
    · rw [if_neg h1]
      exact .inl rfl

theorem clone_run {e esz bytes : Nat} {z : List D} {fuel : Nat} {ds : List D} (h : runBody cal fuel (mclone e esz bytes z) ds σ = some (fr', σ')) :
    ∃ x ys, ds = [x] ∧ elems σ x.strip = some ys ∧ σ' = σ ∧ fr' = clone3 e x ys ∧
      runC cal fuel (cloneA e) (enterFr (mclone e esz bytes z) ds) σ = some (.normal, clone1 e x, σ) ∧ runC cal fuel (cloneD e esz bytes z) (clone1 e x) σ = some (.ret, clone3 e x ys, σ) := by
  unfold runBody at h
  split at h
  · rename_i hcond
    obtain ⟨c1, _⟩ := hcond
    match ds, c1 with
    | [x], _ =>
      have hA : runC cal fuel (cloneA e) (enterFr (mclone e esz bytes z) [x]) σ = some (.normal, clone1 e x, σ) := rfl
      have hb : (mclone e esz bytes z).body = .seq (cloneA e) (cloneD e esz bytes z) := rfl
      rw [hb] at h
      simp only [runC, hA] at h
      have e5 : runOp cal false ⟨some 5, .buildSlice e esz 0 z [], none⟩ (clone1 e x) σ = some (⟨[x.strip, .junk, .sl [] (some e), .junk, .junk, .sl [] (some e), .junk, .junk], List.replicate 8 none, []⟩, σ) := rfl
      have e6 : runOp cal false ⟨some 6, .move (.tmp 0) false, none⟩ ⟨[x.strip, .junk, .sl [] (some e), .junk, .junk, .sl [] (some e), .junk, .junk], List.replicate 8 none, []⟩ σ = some (clone2 e x, σ) := by
        have : (⟨[x.strip, .junk, .sl [] (some e), .junk, .junk, .sl [] (some e), (x.strip).strip, .junk], List.replicate 8 none, []⟩ : Fr) = clone2 e x := by rw [strip_strip]; rfl
        rw [← this]
        rfl
      rcases clone_app (cal := cal) (σ := σ) (esz := esz) (bytes := bytes) (e := e) (x := x) rfl with h7 | ⟨ys, hy, h7⟩
      · exfalso
        have : runC cal fuel (cloneD e esz bytes z) (clone1 e x) σ = none := by simp only [cloneD, runC, runOps, e5, e6, h7, Option.map_none]
        rw [this] at h
        cases h
      · have e2 : runOp cal false ⟨some 2, .assign (.tmp 7), none⟩ ⟨[x.strip, .junk, .sl [] (some e), .junk, .junk, .sl [] none, x.strip, .sl ys (some e)], List.replicate 8 none, []⟩ σ = some (clone3 e x ys, σ) := rfl
        have hD : runC cal fuel (cloneD e esz bytes z) (clone1 e x) σ = some (.ret, clone3 e x ys, σ) := by simp only [cloneD, runC, runOps, e5, e6, h7, e2, Option.map_some]
        rw [hD] at h
        cases h
        exact ⟨x, ys, rfl, hy, rfl, rfl, hA, hD⟩
  · cases h

theorem clone_good (hm : P.follows .mixedOrders = true) {f : FuncId} {fn : Func} {A D0 : Code} {idB idC : Nat} {opsB opsC : Array Oper} {t e : TypeId} {esz bytes : Nat} {z : List D} {k1 k2 : List Nat} {o1 o2 o3 : Oper}
    (hf : P.funcs[f]? = some fn) (hb : fn.body = some (.seq A (.seq (.seq (.region idB opsB false) (.cond (.tmp 4) (.seq (.region idC opsC false) .ret) .skip)) D0)))
    (hB : opsB.toList = [o1, o2]) (ho1 : o1.op = .move (.tmp 0) ∧ o1.dst = some 3 ∧ o1.guard = none) (ho2 : o2.op = .binOp .eql t (.tmp 3) (.const (.slice none 0 0)) t ∧ o2.dst = some 4 ∧ o2.guard = none)
    (hC : opsC.toList = [o3]) (ho3 : o3.op = .assign (.const (.slice none 0 0)) ∧ o3.dst = some 2 ∧ o3.guard = none) (ht : P.underlying t = some (.slice e)) (hok : ownOK P (.sl [] (some e)) = true)
    (hA : compC P false k1 A = some (cloneA e)) (hD : compC P false k2 D0 = some (cloneD e esz bytes z)) (hres : fn.results = #[.tmp 2]) (hnt : fn.ntmps = 8) : Good P f (mclone e esz bytes z) := by
  refine ⟨fn, _, hf, hb, fun cal fuel hc hci ds σ fr σ1 hrun => ?_⟩
  obtain ⟨x, ys, rfl, hy, rfl, rfl, hrA, hrD⟩ := clone_run hrun
  refine ⟨rfl, fun d σ' hro g w vals hi hide hr hn => ?_⟩
  have hd : d = .sl ys (some e) ∧ σ' = σ1 := by
    have : resultOf (clone3 e x ys) σ1 [.tmp 2] = some (.sl ys (some e), σ1) := rfl
    have hro' : resultOf (clone3 e x ys) σ1 [.tmp 2] = some (d, σ') := hro
    rw [this] at hro'
    simp only [Option.some.injEq, Prod.mk.injEq] at hro'
    exact ⟨hro'.1.symm, hro'.2.symm⟩
  obtain ⟨rfl, rfl⟩ := hd
  have hrs : resTmps P fn.results.toList = some [.tmp 2] := by rw [hres]; rfl
  refine wp_seq (wp_code hm hc hci k1 fuel A hA hrA (enter_inv (by rw [hnt]; rfl) hi hr hn rfl (show (1 : Nat) ≤ 8 by decide)) (fun a1 w1 g1 e1 i1 => ?_))
  simp only [AE.exit', Exit.then]
  -- the argument
  have hv : ∃ av len cap, a1.eval (.tmp 0) = .slice av len cap ∧ (av = none → ys = []) := by
    have h0 := (val_ok i1.s (x := .tmp 0) (X := .tmp 0) rfl).1
    have h1 : (clone1 e x).val (.tmp 0) = x.strip := strip_strip x
    rw [h1] at h0
    generalize a1.eval (.tmp 0) = v at h0
    generalize x.strip = y at h0 hy
    cases h0 <;> simp only [elems] at hy <;> first
      | (cases hy; done)
      | skip
    · rename_i av len cap b off es' es own V hl hcp hnn hav hall hI hR
      cases hy
      refine ⟨_, _, _, rfl, fun h => ?_⟩
      subst h
      have h1 := hnn rfl
      exact List.eq_nil_of_length_eq_zero (by omega)
    · exact ⟨_, _, _, rfl, fun h => by cases h⟩
  obtain ⟨av, len, cap, hv, hnil⟩ := hv
  have hsz : a1.tmps.size = 8 := i1.s.size
  refine wp_seq (wp_seq (wp_region_list ?_))
  rw [hB]
  have w1' : Region.wanted o1 (yielded opsB a1.tmps) = true := by simp [Region.wanted, ho1.2.2]
  unfold wpList
  rw [if_pos w1']
  left
  have hr1 : (execOp a1.eval o1).run P w1 = .ok (.value (.slice av len cap)) w1 := by
    simp only [execOp, ho1.1, hv]
    rfl
  refine wp_value hr1 ?_
  rw [ho1.2.1]
  have w2' : Region.wanted o2 (yielded opsB (a1.put (some 3) (.slice av len cap)).tmps) = true := by simp [Region.wanted, ho2.2.2]
  unfold wpList
  rw [if_pos w2']
  left
  have h3 : (a1.put (some 3) (.slice av len cap)).eval (.tmp 3) = .slice av len cap := by simp [Act.put, Act.eval, hsz]
  have hr2 : (execOp (a1.put (some 3) (.slice av len cap)).eval o2).run P w1 = .ok (.value (.bool av.isNone)) w1 := by
    simp only [execOp, ho2.1, h3]
    refine run_vmap ?_
    rw [run_bo (guard_none .eql t _ _ _ _ (by simp) (by simp))]
    simp only [binOp, Act.eval]
    rw [run_bo (run_equal_slice_nil w1 t e av len cap ht)]
    rfl
  refine wp_value hr2 ?_
  rw [ho2.2.1]
  unfold wpList
  simp only [Exit.then]
  have i3 : Inv P g1 w1 (clone1 e x) σ' ((a1.put (some 3) (.slice av len cap)).put (some 4) (.bool av.isNone)) :=
    (i1.put (some 3) (d := .junk) (.junk _) (fun _ _ => .of_ne rfl) (fun s off h => by cases h)).put (some 4) (d := .junk) (.junk _) (fun _ _ => .of_ne rfl) (fun s off h => by cases h)
  have h4 : ((a1.put (some 3) (.slice av len cap)).put (some 4) (.bool av.isNone)).eval (.tmp 4) = .bool av.isNone := by simp [Act.put, Act.eval, hsz]
  generalize (a1.put (some 3) (.slice av len cap)).put (some 4) (.bool av.isNone) = a3 at i3 h4
  have hsz3 : a3.tmps.size = 8 := i3.s.size
  cases av with
  | none =>
    have hys := hnil rfl
    subst hys
    refine wp_cond_true h4 (wp_seq (wp_region_list ?_))
    rw [hC]
    have w3' : Region.wanted o3 (yielded opsC a3.tmps) = true := by simp [Region.wanted, ho3.2.2]
    unfold wpList
    rw [if_pos w3']
    left
    have hr3 : (execOp a3.eval o3).run P w1 = .ok (.value (.slice none 0 0)) w1 := by
      simp only [execOp, ho3.1]
      rfl
    refine wp_value hr3 ?_
    rw [ho3.2.1]
    unfold wpList
    simp only [Exit.then]
    refine wp_ret ⟨?_, .slice none 0 0, ?_, _, rfl, g1, e1, i1.h, ?_, rfl, own_nil hok (fun es e' h => by cases h; exact ⟨rfl, rfl⟩)⟩
    · exact (defers_nil i3 (show (clone1 e x).defers.isEmpty = true from rfl) : a3.defers = [])
    · rw [results_tmp hres]
      simp [Act.put, hsz3]
    · exact .sl none 0 0 0 0 0 [] _ (fun _ _ => undef) rfl (Nat.le_refl _) (fun _ => rfl) (fun h => absurd rfl h) (by simp) (by simp) (by simp)
  | some ad =>
    refine wp_cond_false h4 (wp_skip ?_)
    refine wp_code hm hc hci k2 fuel D0 hD hrD i3 (fun a4 w4 g4 e4 i4 => ?_)
    obtain ⟨v, r1, r2⟩ := results_ok i4 hrs hro
    exact ⟨defers_nil i4 (show (clone3 e x ys).defers.isEmpty = true from rfl), v, r1, v, rfl, r2.ext (e1.trans e4)⟩

end
end Go.Abs
