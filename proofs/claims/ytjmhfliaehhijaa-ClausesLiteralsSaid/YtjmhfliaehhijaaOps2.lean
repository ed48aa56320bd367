/-
  Operations that leave the memory as it is, each by itself.
-/
import Derived.Test.YtjmhfliaehhijaaOps1
set_option linter.unusedVariables false
set_option linter.unusedSimpArgs false
namespace Go.Abs
open Go Go.RowKit

section
variable {P : Program} {g : Gh} {w : World} {fr fr' : Fr} {σ σ' : St} {a : Act} {o : Oper} {d : D} {cal : Cal} {q mu : Bool} {ops : List Oper}

theorem isAgg_run {t : TypeId} {b : Bool} (h : isAggT P t = some b) : (isAgg t).run P w = .ok b w := by
  unfold isAggT at h
  simp only [Option.map_eq_some_iff] at h
  obtain ⟨de, h1, h2⟩ := h
  unfold isAgg
  rw [run_bo (run_und h1)]
  cases de <;> simp_all

theorem size_run {t : TypeId} {n : Nat} (h : sizeT P t = some n) : (sizeOf t).run P w = .ok n w := by
  unfold sizeT at h
  simp only [Option.map_eq_some_iff] at h
  obtain ⟨i, h1, rfl⟩ := h
  simp [sizeOf, typeInfo, h1]

theorem snd_pick {c x y : Operand} (hop : o.op = .pick c x y) {c' x' y' : X} (hC : compX c = some c') (hX : compX x = some x') (hY : compX y = some y')
    (he : evalOp cal q o.dst (.pick c' x' y') fr σ = some (d, fr', σ')) (i : Inv P g w fr σ a) : Snd P g w a o fr' σ' d := by
  obtain ⟨c1, c2, c3⟩ := val_ok i.s hC
  simp only [evalOp] at he
  split at he
  · rename_i hv
    cases he
    rw [hv] at c1
    refine snd_same i (v := a.eval x) ?_ (val_ok i.s hX)
    simp only [execOp, hop, rep_bool c1]
    simp [asBool]
  · rename_i hv
    cases he
    rw [hv] at c1
    refine snd_same i (v := a.eval y) ?_ (val_ok i.s hY)
    simp only [execOp, hop, rep_bool c1]
    simp [asBool]
  · cases he

theorem snd_nilCheck {x : Operand} (hop : o.op = .nilCheck x) {x' : X} (hX : compX x = some x')
    (he : evalOp cal q o.dst (.nilCheck x') fr σ = some (d, fr', σ')) (i : Inv P g w fr σ a) : Snd P g w a o fr' σ' d := by
  have hv := val_ok i.s hX
  have hrun : (∀ b, a.eval x = .pointer (some b) → (execOp a.eval o).run P w = .ok (.value (a.eval x)) w) := fun b hb => by
    simp only [execOp, hop, hb]; rfl
  simp only [evalOp] at he
  generalize a.eval x = vx at *
  split at he <;> first | (cases he; done) | skip
  all_goals
    rename_i hx
    cases he
    rw [hx] at hv
    refine snd_same i (v := vx) ?_ hv
    have hr := hv.1
    cases hr
    exact hrun _ rfl

theorem snd_bin {op : BinOp} {t u : TypeId} {x y : Operand} (hop : o.op = .binOp op t x y u) {x' y' : X} (hX : compX x = some x') (hY : compX y = some y')
    (he : evalOp cal q o.dst (.bin op x' y') fr σ = some (d, fr', σ')) (i : Inv P g w fr σ a) : Snd P g w a o fr' σ' d := by
  simp only [evalOp, Option.map_eq_some_iff] at he
  obtain ⟨d', h1, h2⟩ := he
  cases h2
  obtain ⟨v, r1, r2, r3⟩ := binD_run (P := P) (w := w) (g := g) t x y h1 (val_ok i.s hX).1 (val_ok i.s hY).1
  exact snd_plain i (v := v) (by simp only [execOp, hop]; exact run_vmap r1) r2 (flat_ok r3).1 (flat_ok r3).2

theorem snd_eqb {neg : Bool} {t u : TypeId} {x y : Operand} (hop : o.op = .binOp (if neg then .neq else .eql) t x y u) (ht : P.underlying t = some .bool) {x' y' : X} (hX : compX x = some x') (hY : compX y = some y')
    (he : evalOp cal q o.dst (.eqb neg x' y') fr σ = some (d, fr', σ')) (i : Inv P g w fr σ a) : Snd P g w a o fr' σ' d := by
  simp only [evalOp, Option.map_eq_some_iff] at he
  obtain ⟨d', h1, h2⟩ := he
  cases h2
  obtain ⟨v, r1, r2, r3⟩ := eqb_run (P := P) (w := w) (g := g) x y ht h1 (val_ok i.s hX).1 (val_ok i.s hY).1
  exact snd_plain i (v := v) (by simp only [execOp, hop]; exact run_vmap r1) r2 (flat_ok r3).1 (flat_ok r3).2

theorem snd_eqn {neg : Bool} {t u e : TypeId} {x y : Operand} (hop : o.op = .binOp (if neg then .neq else .eql) t x y u) (ht : P.underlying t = some (.pointer e)) {x' : X} (hX : compX x = some x') (hY : compX y = some (.const .nilp))
    (he : evalOp cal q o.dst (.eqn neg x') fr σ = some (d, fr', σ')) (i : Inv P g w fr σ a) : Snd P g w a o fr' σ' d := by
  simp only [evalOp, Option.map_eq_some_iff] at he
  obtain ⟨d', h1, h2⟩ := he
  cases h2
  have hy := (val_ok i.s hY).1
  have hy' : a.eval y = .pointer none := by
    simp only [Fr.val, D.strip] at hy
    generalize a.eval y = vy at hy
    cases hy
    rfl
  obtain ⟨v, r1, r2, r3⟩ := eqn_run (P := P) (w := w) (g := g) x y ht h1 (val_ok i.s hX).1
  exact snd_plain i (v := v) (by simp only [execOp, hop, hy']; exact run_vmap r1) r2 (flat_ok r3).1 (flat_ok r3).2

theorem snd_un {op : UnOp} {t : TypeId} {x : Operand} (hop : o.op = .unOp op t x) {x' : X} (hX : compX x = some x')
    (he : evalOp cal q o.dst (.un op x') fr σ = some (d, fr', σ')) (i : Inv P g w fr σ a) : Snd P g w a o fr' σ' d := by
  simp only [evalOp, Option.map_eq_some_iff] at he
  obtain ⟨d', h1, h2⟩ := he
  cases h2
  obtain ⟨v, r1, r2, r3⟩ := unD_run (P := P) (w := w) (g := g) h1 (val_ok i.s hX).1
  exact snd_plain i (v := v) (by simp only [execOp, hop]; exact run_vmap r1) r2 (flat_ok r3).1 (flat_ok r3).2

theorem snd_conv {s t : TypeId} {x : Operand} {k : IntKind} (hop : o.op = .convert s t x) (ht : P.underlying t = some (.int k)) (hs : (P.underlying s).isSome = true) {x' : X} (hX : compX x = some x')
    (he : evalOp cal q o.dst (.conv k x') fr σ = some (d, fr', σ')) (i : Inv P g w fr σ a) : Snd P g w a o fr' σ' d := by
  have hv := (val_ok i.s hX).1
  simp only [evalOp] at he
  split at he
  · rename_i k' n hx
    cases he
    rw [hx] at hv
    refine snd_plain i (v := .int k (k.wrap n)) ?_ (.int _ _) rfl rfl
    simp only [execOp, hop]
    refine run_vmap ?_
    rw [rep_int hv]
    obtain ⟨ds, hds⟩ := Option.isSome_iff_exists.1 hs
    unfold convert
    rw [run_bo (run_und hds), run_bo (run_und ht)]
    cases ds <;> rfl
  · cases he

theorem AllRep.sub {R : Value → D → Prop} {vs : List Value} {ds : List D} (h : AllRep R vs ds) (off n : Nat) : AllRep R ((vs.drop off).take n) ((ds.drop off).take n) := by
  refine ⟨by simp [h.1], fun i v d h1 h2 => ?_⟩
  rw [List.getElem?_take] at h1 h2
  split at h1
  · rename_i hi
    rw [if_pos hi, List.getElem?_drop] at h2
    rw [List.getElem?_drop] at h1
    exact h.2 _ v d h1 h2
  · cases h1

theorem all_sub {p : D → Bool} {ds : List D} (h : ds.all p = true) (off n : Nat) : ((ds.drop off).take n).all p = true :=
  List.all_eq_true.2 fun x hx => List.all_eq_true.1 h x (List.mem_of_mem_drop (List.mem_of_mem_take hx))

theorem agg_of {vs : Array Value} {ds : List D} (h : AllRep (Rep g) vs.toList ds) (hp : ds.all D.plain = true) : Rep g (.agg vs) (.agg ds) := .agg vs ds h.1 h.2 hp

theorem toList_extract_sub (vs : Array Value) (off n : Nat) : (vs.extract off (off + n)).toList = (vs.toList.drop off).take n := by
  rw [Array.toList_extract]
  simp [List.extract_eq_take_drop]

theorem snd_field {s : TypeId} {f : Nat} {x : Operand} (hop : o.op = .field s x f) {fld : Field} (hf : fieldT P s f = some fld) {agg : Bool} {sz : Nat} (hagg : isAggT P fld.type = some agg) (hsz : sizeT P fld.type = some sz)
    {x' : X} (hX : compX x = some x') (he : evalOp cal q o.dst (.field agg fld.offset sz x') fr σ = some (d, fr', σ')) (i : Inv P g w fr σ a) : Snd P g w a o fr' σ' d := by
  have hv := (val_ok i.s hX).1
  simp only [evalOp] at he
  split at he
  · rename_i cs hx
    rw [hx] at hv
    obtain ⟨vs, h1, h2, h3⟩ := rep_agg hv
    unfold fieldT at hf
    split at hf
    · rename_i fs hfs
      have hrun : ∀ v, (part fld.type vs fld.offset).run P w = .ok v w → (execOp a.eval o).run P w = .ok (.value v) w := fun v hv => by
        simp only [execOp, hop, h1]
        refine run_vmap ?_
        unfold Instr.field
        rw [run_bo (run_und hfs)]
        simp only [hf]
        rw [run_bo (show (asAgg (Value.agg vs)).run P w = .ok vs w from rfl)]
        exact hv
      split at he
      · rename_i ha
        subst ha
        split at he
        · cases he
          refine snd_plain i (hrun _ (by unfold part; rw [run_bo (isAgg_run hagg)]; simp only [if_true]; rw [run_bo (size_run hsz)]; rfl)) ?_ rfl rfl
          exact agg_of (by rw [toList_extract_sub]; exact h2.sub _ _) (all_sub h3 _ _)
        · cases he
      · rename_i ha
        simp only [Option.map_eq_some_iff] at he
        obtain ⟨e, h4, h5⟩ := he
        cases h5
        obtain ⟨v, h6, h7⟩ := h2.get h4
        have ha' : agg = false := by simpa using ha
        subst ha'
        have hpl := all_get h3 h4
        refine snd_plain i (hrun v ?_) h7.strip (strip_strip _) (by rw [notL_strip]; exact notL_of_plain hpl)
        unfold part
        rw [run_bo (isAgg_run hagg)]
        simp only [Bool.false_eq_true, if_false]
        rw [show vs[fld.offset]? = some v by simpa using h6]
        rfl
    · cases hf
  · cases he

theorem snd_extract {x : Operand} {n : Nat} (hop : o.op = .extract x n) {x' : X} (hX : compX x = some x')
    (he : evalOp cal q o.dst (.extract x' n) fr σ = some (d, fr', σ')) (i : Inv P g w fr σ a) : Snd P g w a o fr' σ' d := by
  have hv := (val_ok i.s hX).1
  simp only [evalOp] at he
  split at he
  · rename_i cs hx
    rw [hx] at hv
    obtain ⟨vs, h1, h2, h3⟩ := rep_tup hv
    simp only [Option.map_eq_some_iff] at he
    obtain ⟨e, h4, h5⟩ := he
    cases h5
    obtain ⟨v, h6, h7⟩ := h2.get h4
    refine snd_plain i (v := v) ?_ h7.strip (strip_strip _) (by rw [notL_strip]; exact all_get h3 h4)
    simp only [execOp, hop, h1]
    refine run_vmap ?_
    unfold Instr.extract
    simp only [show vs[n]? = some v by simpa using h6]
    rfl
  · cases he

theorem rep_drop {b off n : Nat} {cs : List D} {v : Value} (h : Rep g v (.ref cs)) (hv : v = .pointer (some ⟨b, off, none⟩)) : Rep g (.pointer (some ⟨b, off + n, none⟩)) (.ref (cs.drop n)) := by
  subst hv
  cases h with
  | ref _ _ _ V hI hR hp =>
    refine .ref b (off + n) _ (fun i => V (n + i)) (fun i d hd => ?_) (fun i d hd => ?_) ?_
    · rw [List.getElem?_drop] at hd
      rw [Nat.add_assoc]
      exact hI _ d hd
    · rw [List.getElem?_drop] at hd
      exact hR _ d hd
    · exact List.all_eq_true.2 fun x hx => List.all_eq_true.1 hp x (List.mem_of_mem_drop hx)

theorem snd_fieldAddr {s : TypeId} {f : Nat} {x : Operand} (hop : o.op = .fieldAddr s x f) {fld : Field} (hf : fieldT P s f = some fld) {n : Nat} (hsz : sizeT P fld.type = some (n + 1))
    {x' : X} (hX : compX x = some x') (he : evalOp cal q o.dst (.fieldAddr fld.offset x') fr σ = some (d, fr', σ')) (i : Inv P g w fr σ a) : Snd P g w a o fr' σ' d := by
  obtain ⟨hv, _, hl⟩ := val_ok i.s hX
  unfold fieldT at hf
  split at hf
  · rename_i fs hfs
    have hrun : ∀ b off, a.eval x = .pointer (some ⟨b, off, none⟩) → (execOp a.eval o).run P w = .ok (.value (.pointer (some ⟨b, off + fld.offset, none⟩))) w := fun b off hb => by
      simp only [execOp, hop, hb]
      refine run_vmap ?_
      unfold Instr.fieldAt
      rw [run_bo (run_und hfs)]
      simp only [hf]
      rw [run_bo (show (Instr.sureAddr (Value.pointer (some ⟨b, off, none⟩))).run P w = .ok ⟨b, off, none⟩ w from rfl)]
      unfold fieldPlace
      rw [run_bo (show (do if (← sizeOf fld.type) = 0 then partAt ⟨b, off, none⟩ fld.offset fld.byteOffset else pure ((⟨b, off, none⟩ : Addr).add fld.offset) : Sem Addr).run P w = .ok ⟨b, off + fld.offset, none⟩ w from by
        rw [run_bo (size_run hsz), Addr.add_lit]; simp)]
      rfl
    simp only [evalOp] at he
    generalize hvx : a.eval x = vx at *
    split at he <;> first | (cases he; done) | skip
    · rename_i cs hx
      cases he
      rw [hx] at hv
      have hv' := hv
      cases hv' with
      | ref b off _ V hI hR hp => exact snd_plain i (hrun b off rfl) (rep_drop hv rfl) rfl rfl
    · rename_i t off hx
      cases he
      rw [hx] at hv hl
      cases hv
      exact snd_same i (hrun _ _ rfl) ⟨.lptr _ _, rfl, fun s off e => by cases e; exact hl _ _ rfl⟩
    · rename_i t off hx
      cases he
      rw [hx] at hv
      cases hv with
      | ptr _ _ h => exact snd_plain i (hrun _ _ rfl) (.ptr _ _ h) rfl rfl
  · cases hf

end
end Go.Abs
