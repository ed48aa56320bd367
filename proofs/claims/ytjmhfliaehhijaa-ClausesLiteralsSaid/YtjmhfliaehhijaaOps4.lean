/-
  Lengths, the greatest of some, cuts of texts, structs and arrays that are built, loads.
-/
import Derived.Test.YtjmhfliaehhijaaOps3
import Derived.Laws.Tables
set_option linter.unusedVariables false
set_option linter.unusedSimpArgs false
namespace Go.Abs
open Go Go.RowKit

section
variable {P : Program} {g : Gh} {w : World} {fr fr' : Fr} {σ σ' : St} {a : Act} {o : Oper} {d : D} {cal : Cal} {q mu : Bool} {ops : List Oper}

theorem call_builtin {c : Call} {b : Builtin} (hop : o.op = .call c) (hb : c.callee = .builtin b) {n : Next} {w' : World}
    (h : ∀ consts, (builtin b c.argTypes o.type consts (c.args.map a.eval)).run P w = .ok n w') : (execOp a.eval o).run P w = .ok n w' := by
  simp only [execOp, hop, resolve, hb]
  rw [run_pb]
  exact h _

theorem args_get {xs : Array Operand} {l : List Operand} (h : xs.toList = l) (i : Nat) : (xs.map a.eval)[i]? = (l[i]?).map a.eval := by
  subst h
  simp

theorem types_get {xs : Array TypeId} {l : List TypeId} (h : xs.toList = l) (i : Nat) : xs[i]? = l[i]? := by
  subst h
  simp

theorem snd_lenS {c : Call} {x : Operand} {t e : TypeId} (hop : o.op = .call c) (hb : c.callee = .builtin .len) (hargs : c.args.toList = [x]) (hty : c.argTypes.toList = [t]) (ht : P.underlying t = some (.slice e))
    {x' : X} (hX : compX x = some x') (he : evalOp cal q o.dst (.len 0 x') fr σ = some (d, fr', σ')) (i : Inv P g w fr σ a) : Snd P g w a o fr' σ' d := by
  have hv := (val_ok i.s hX).1
  have hrun : ∀ av n cap, a.eval x = .slice av n cap → (execOp a.eval o).run P w = .ok (.value (.int .i64 n)) w := fun av n cap hx => by
    refine call_builtin hop hb fun consts => ?_
    simp only [builtin]
    refine run_vmap ?_
    unfold Builtin.len_
    simp only [args_get hargs, types_get hty, List.getElem?_cons_zero, Option.map_some, hx]
    rw [run_bo (run_und ht)]
    rfl
  simp only [evalOp] at he
  generalize hvx : a.eval x = vx at *
  split at he <;> first | (cases he; done) | skip
  · rename_i es own hx
    cases he
    rw [hx] at hv
    cases hv with
    | sl av n cap b off esz _ _ V hl hc hn ha hes hI hR =>
      subst hl
      exact snd_plain i (hrun _ _ _ rfl) (.int _ _) rfl rfl
  · rename_i ob off n esz hx
    cases he
    rw [hx] at hv
    cases hv
    exact snd_plain i (hrun _ _ _ rfl) (.int _ _) rfl rfl

theorem snd_lenT {c : Call} {x : Operand} {t : TypeId} (hop : o.op = .call c) (hb : c.callee = .builtin .len) (hargs : c.args.toList = [x]) (hty : c.argTypes.toList = [t]) (ht : P.underlying t = some .string)
    {x' : X} (hX : compX x = some x') (he : evalOp cal q o.dst (.len 1 x') fr σ = some (d, fr', σ')) (i : Inv P g w fr σ a) : Snd P g w a o fr' σ' d := by
  have hv := (val_ok i.s hX).1
  simp only [evalOp] at he
  split at he <;> first | (cases he; done) | skip
  rename_i l hx
  cases he
  rw [hx] at hv
  obtain ⟨s, h1, rfl⟩ := rep_str hv
  refine snd_plain i (v := .int .i64 s.data.toList.length) ?_ (.int _ _) rfl rfl
  refine call_builtin hop hb fun consts => ?_
  simp only [builtin]
  refine run_vmap ?_
  unfold Builtin.len_
  simp only [args_get hargs, types_get hty, List.getElem?_cons_zero, Option.map_some, h1]
  rw [run_bo (run_und ht), bytes_size]
  rfl

theorem snd_lenM {c : Call} {x : Operand} {t k e : TypeId} {n : Nat} (hop : o.op = .call c) (hb : c.callee = .builtin .len) (hargs : c.args.toList = [x]) (hty : c.argTypes.toList = [t]) (ht : P.underlying t = some (.map k e))
    {x' : X} (hX : compX x = some x') (he : evalOp cal q o.dst (.len (n + 2) x') fr σ = some (d, fr', σ')) (i : Inv P g w fr σ a) : Snd P g w a o fr' σ' d := by
  have hv := (val_ok i.s hX).1
  simp only [evalOp] at he
  split at he <;> first | (cases he; done) | skip
  rename_i m hx
  split at he <;> first | (cases he; done) | skip
  rename_i es hm
  cases he
  rw [hx] at hv
  generalize hvx : a.eval x = vx at *
  cases hv with
  | map _ hlt =>
    obtain ⟨_, ents, clock, h2, h3⟩ := i.h.maps m es hm
    refine snd_plain i (v := .int .i64 es.length) ?_ (.int _ _) rfl rfl
    refine call_builtin hop hb fun consts => ?_
    simp only [builtin]
    refine run_vmap ?_
    unfold Builtin.len_
    simp only [args_get hargs, types_get hty, List.getElem?_cons_zero, Option.map_some, hvx]
    rw [run_bo (run_und ht)]
    simp only
    rw [run_bo (show (getObj (g.μ m)).run P w = .ok (.map ents clock) w by simp [getObj, Sem.run, h2])]
    rw [← h3.1]
    simp [goInt]

theorem maxD_cons {d e r : D} {ds : List D} (h : maxD d (e :: ds) = some r) : ∃ k x y, d = .int k x ∧ e = .int k y ∧ maxD (.int k (if y > x then y else x)) ds = some r := by
  cases d <;> try (simp [maxD] at h; done)
  cases e <;> try (simp [maxD] at h; done)
  simp only [maxD] at h
  split at h
  · rename_i hk
    subst hk
    exact ⟨_, _, _, rfl, rfl, h⟩
  · cases h

theorem maxD_run : ∀ (vs : List Value) (v : Value) (ds : List D) (d r : D), Rep g v d → AllRep (Rep g) vs ds → maxD d ds = some r →
    ∃ u, (vs.foldlM Builtin.max2 v).run P w = .ok u w ∧ Rep g u r ∧ flatD r = true
  | [], v, ds, d, r, hv, ha, h => by
    have hd : ds = [] := List.eq_nil_of_length_eq_zero (by simpa using ha.1.symm)
    subst hd
    cases d <;> try (simp [maxD] at h; done)
    simp only [maxD, Option.some.injEq] at h
    subst h
    exact ⟨v, rfl, hv, rfl⟩
  | u :: vs, v, [], d, r, hv, ha, h => by simp [AllRep] at ha
  | u :: vs, v, e :: ds, d, r, hv, ha, h => by
    obtain ⟨k, x, y, rfl, rfl, h'⟩ := maxD_cons h
    have h1 := rep_int hv
    have h2 := rep_int (ha.2 0 u _ rfl rfl)
    subst h1 h2
    obtain ⟨r1, r2, r3, r4⟩ := maxD_run vs (.int k (if y > x then y else x)) ds _ r (.int _ _) ⟨by simpa using ha.1, fun i v d h1 h2 => ha.2 (i + 1) v d (by simpa using h1) (by simpa using h2)⟩ h'
    refine ⟨r1, ?_, r3, r4⟩
    rw [List.foldlM_cons, run_bo (show (Builtin.max2 (.int k x) (.int k y)).run P w = .ok (.int k (if y > x then y else x)) w from rfl)]
    exact r2

theorem vals_ok (s : SInv P g w fr a.tmps) : ∀ {xs : List Operand} {xs' : List X}, compXs xs = some xs' → AllRep (Rep g) (xs.map a.eval) (xs'.map fr.val)
  | [], xs', h => by simp [compXs] at h; subst h; exact ⟨rfl, fun i v d h => by simp at h⟩
  | x :: xs, xs', h => by
    simp only [compXs, List.mapM_cons, Option.bind_eq_bind, Option.pure_def, Option.bind_eq_some_iff] at h
    obtain ⟨y, h1, ys, h2, h3⟩ := h
    cases h3
    obtain ⟨k1, k2⟩ := vals_ok s (xs := xs) h2
    refine ⟨by simpa using k1, fun i v d h4 h5 => ?_⟩
    cases i with
    | zero =>
      simp at h4 h5
      subst h4 h5
      exact (val_ok s h1).1
    | succ i => exact k2 i v d (by simpa using h4) (by simpa using h5)

theorem snd_max {c : Call} (hop : o.op = .call c) (hb : c.callee = .builtin .max) {xs' : List X} (hX : compXs c.args.toList = some xs')
    (he : evalOp cal q o.dst (.max xs') fr σ = some (d, fr', σ')) (i : Inv P g w fr σ a) : Snd P g w a o fr' σ' d := by
  have ha := vals_ok i.s hX
  simp only [evalOp] at he
  split at he
  · rename_i d0 ds hds
    simp only [Option.map_eq_some_iff] at he
    obtain ⟨r, h1, h2⟩ := he
    cases h2
    rw [hds] at ha
    cases hvs : c.args.toList.map a.eval with
    | nil => rw [hvs] at ha; simp [AllRep] at ha
    | cons v vs =>
      rw [hvs] at ha
      obtain ⟨u, r1, r2, r3⟩ := maxD_run (P := P) (w := w) vs v ds d0 d (ha.2 0 v d0 rfl rfl) ⟨by simpa using ha.1, fun i v d h1 h2 => ha.2 (i + 1) v d (by simpa using h1) (by simpa using h2)⟩ h1
      refine snd_plain i (v := u) ?_ r2 (flat_ok r3).1 (flat_ok r3).2
      refine call_builtin hop hb fun consts => ?_
      simp only [builtin]
      refine run_vmap ?_
      unfold Builtin.max_
      rw [Array.toList_map, hvs]
      exact r1
  · cases he

theorem snd_sliceStr {t : TypeId} {x : Operand} {lo hi : Option Operand} (hop : o.op = .slice t x lo hi none) (ht : P.underlying t = some .string)
    {x' : X} {lo' hi' : Option X} (hX : compX x = some x') (hlo : compO lo = some lo') (hhi : compO hi = some hi')
    (he : evalOp cal q o.dst (.sliceStr x' lo' hi') fr σ = some (d, fr', σ')) (i : Inv P g w fr σ a) : Snd P g w a o fr' σ' d := by
  have hv := (val_ok i.s hX).1
  simp only [evalOp] at he
  split at he
  · rename_i l0 hx
    rw [hx] at hv
    obtain ⟨s, h1, rfl⟩ := rep_str hv
    rw [bytes_size] at he
    split at he
    · rename_i l h hl hh
      split at he
      · rename_i hc
        cases he
        have hrun : (execOp a.eval o).run P w = .ok (.value (.string (s.extract l h))) w := by
          simp only [execOp, hop, h1]
          refine run_vmap ?_
          unfold Instr.sliceAt
          rw [run_bo (run_und ht)]
          simp only [Option.map_none]
          unfold Instr.slice
          rw [run_bo (run_und ht)]
          simp only [Option.isSome_none, Bool.false_eq_true, if_false]
          rw [run_bo (bounds_run i.s hlo hhi false (Nat.le_refl _) hl hh hc.1 hc.2)]
          rfl
        refine snd_plain i hrun ?_ rfl rfl
        have e : (s.extract l h).data.toList = (s.data.toList.drop l).take (h - l) := by
          rw [ByteArray.data_extract, Array.toList_extract, List.extract_eq_take_drop]
        rw [← e]
        exact .str _
      · cases he
    · cases he
  · cases he

/-! structs and arrays that are built -/
theorem setAt_length {α : Type} : ∀ (ds cs : List α) (off : Nat), (setAt cs off ds).length = cs.length
  | [], _, _ => rfl
  | d :: ds, cs, off => by rw [setAt, setAt_length ds, List.length_set]

theorem setAt_get {α : Type} : ∀ (ds cs : List α) (off : Nat), off + ds.length ≤ cs.length → ∀ i, (setAt cs off ds)[i]? = if off ≤ i ∧ i < off + ds.length then ds[i - off]? else cs[i]?
  | [], cs, off, _, i => by
    rw [setAt, if_neg (by simp only [List.length_nil]; omega)]
  | d :: ds, cs, off, h, i => by
    simp only [List.length_cons] at h
    rw [setAt, setAt_get ds (cs.set off d) (off + 1) (by simp; omega) i]
    by_cases h1 : off + 1 ≤ i ∧ i < off + 1 + ds.length
    · rw [if_pos h1, if_pos (by simp; omega), show i - off = (i - (off + 1)) + 1 by omega, List.getElem?_cons_succ]
    · rw [if_neg h1]
      by_cases h2 : off = i
      · subst h2
        rw [if_pos (by simp)]
        simp [show off < cs.length by omega]
      · rw [if_neg (by simp; omega), List.getElem?_set_ne h2]

theorem zip_setAt : ∀ (vs : List Value) (k : Nat) (cells : Array Value) (off : Nat),
    ((vs.zipIdx k).foldl (fun (cs : Array Value) (x : Value × Nat) => cs.setIfInBounds (off + x.2) x.1) cells).toList = setAt cells.toList (off + k) vs
  | [], _, _, _ => rfl
  | v :: vs, k, cells, off => by
    rw [List.zipIdx_cons, List.foldl_cons, zip_setAt vs (k + 1) _ off, setAt]
    simp [Nat.add_assoc]

theorem AllRep.setAt {R : Value → D → Prop} {vs us : List Value} {cs ds : List D} {off : Nat} (h : AllRep R vs cs) (k : AllRep R us ds) (hle : off + ds.length ≤ cs.length) : AllRep R (setAt vs off us) (setAt cs off ds) := by
  have hle' : off + us.length ≤ vs.length := by rw [h.1, k.1]; exact hle
  refine ⟨by rw [setAt_length, setAt_length, h.1], fun i v d h1 h2 => ?_⟩
  rw [setAt_get us vs off hle'] at h1
  rw [setAt_get ds cs off hle] at h2
  rw [k.1] at h1
  split at h1
  · rename_i hc
    rw [if_pos hc] at h2
    exact k.2 _ v d h1 h2
  · rename_i hc
    rw [if_neg hc] at h2
    exact h.2 _ v d h1 h2

theorem all_setAt {p : D → Bool} : ∀ (ds cs : List D) (off : Nat), cs.all p = true → ds.all p = true → (setAt cs off ds).all p = true
  | [], _, _, h, _ => h
  | d :: ds, cs, off, h, k => by
    rw [setAt]
    simp only [List.all_cons, Bool.and_eq_true] at k
    refine all_setAt ds _ _ ?_ k.2
    refine List.all_eq_true.2 fun x hx => ?_
    rcases List.mem_or_eq_of_mem_set hx with h1 | rfl
    · exact List.all_eq_true.1 h x h1
    · exact k.1

/-- The parts of a struct or an array, as the model has them and as the interpreter has. -/
def PartsRep (g : Gh) (place : Nat → Option (Nat × Nat)) : List (Nat × Value) → List (Nat × Nat × D) → Prop
  | [], [] => True
  | (i, v) :: vs, (off, sz, d) :: ds => place i = some (off, sz) ∧ Rep g v d ∧ PartsRep g place vs ds
  | _, _ => False

theorem cells_strip (d : D) : d.cells.map D.strip = d.strip.cells := by
  cases d <;> simp [D.cells, D.strip, List.map_map]
  intro x _
  exact strip_strip x

theorem fill_run {place : Nat → Option (Nat × Nat)} : ∀ (vs : List (Nat × Value)) (ps : List (Nat × Nat × D)) (cells : Array Value) (cs r : List D), PartsRep g place vs ps → AllRep (Rep g) cells.toList cs → cs.all D.plain = true →
    fillD cs ps = some r → ∃ out, Instr.fill place cells vs = some out ∧ AllRep (Rep g) out.toList r ∧ r.all D.plain = true
  | [], [], cells, cs, r, _, h, hp, hf => by
    simp only [fillD, Option.some.injEq] at hf
    subst hf
    exact ⟨cells, rfl, h, hp⟩
  | [], _ :: _, _, _, _, hp, _, _, _ => hp.elim
  | _ :: _, [], _, _, _, hp, _, _, _ => hp.elim
  | (i, v) :: vs, (off, sz, d) :: ps, cells, cs, r, hp, h, hpl, hf => by
    obtain ⟨p1, p2, p3⟩ := hp
    simp only [fillD] at hf
    split at hf
    · rename_i hc
      obtain ⟨c1, c2, c3⟩ := hc
      have hcells := p2.cells c3
      have hstrip : AllRep (Rep g) v.cells.toList (d.cells.map D.strip) := by
        refine ⟨by simpa using hcells.1, fun j u e h1 h2 => ?_⟩
        simp only [List.getElem?_map, Option.map_eq_some_iff] at h2
        obtain ⟨e0, h2, rfl⟩ := h2
        exact (hcells.2 j u e0 h1 h2).strip
      have hvs : v.cells.size = sz := by rw [← c1, ← hcells.1]; simp
      have hcs : cells.size = cs.length := by rw [← h.1]; simp
      have hset : AllRep (Rep g) (setAt cells.toList off v.cells.toList) (setAt cs off (d.cells.map D.strip)) := h.setAt hstrip (by simp; omega)
      have hz := zip_setAt v.cells.toList 0 cells off
      rw [Nat.add_zero] at hz
      have hall : (setAt cs off (d.cells.map D.strip)).all D.plain = true := all_setAt _ _ _ hpl (by
        refine List.all_eq_true.2 fun x hx => ?_
        obtain ⟨y, hy, rfl⟩ := List.mem_map.1 hx
        rw [plain_strip]
        exact List.all_eq_true.1 c3 y hy)
      obtain ⟨out, o1, o2, o3⟩ := fill_run vs ps (v.cells.zipIdx.foldl (fun cs (x : Value × Nat) => cs.setIfInBounds (off + x.2) x.1) cells) _ r p3 (by
        rw [← Array.foldl_toList, Array.toList_zipIdx, hz]; exact hset) hall hf
      refine ⟨out, ?_, o2, o3⟩
      unfold Instr.fill
      simp only [p1]
      have hno : ¬ ((v.cells.size ≠ sz || off + v.cells.size > cells.size) = true) := by
        simp only [ne_eq, gt_iff_lt, Bool.or_eq_true, decide_eq_true_eq, not_or, Decidable.not_not, Nat.not_lt]
        omega
      first
        | (rw [if_neg hno]; exact o1)
        | (rw [if_neg (by simpa using hno)]; exact o1)
    · cases hf

end
end Go.Abs
