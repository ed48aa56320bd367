/-
  Every operation: what the interpreter says of it, the model does.
-/
import Derived.Test.YtjmhfliaehhijaaOps15
import Derived.Laws.MakeOwn
set_option linter.unusedVariables false
set_option linter.unusedSimpArgs false
namespace Go.Abs
open Go Go.RowKit

section
variable {P : Program} {g g' : Gh} {w w' : World} {fr fr' : Fr} {σ σ' : St} {a : Act} {o : Oper} {d : D} {cal : Cal} {q mu : Bool} {ops : List Oper}

theorem flat_get {z : List D} (h0 : 0 < z.length) : ∀ (n k : Nat) (d : D), (List.replicate n z).flatten[k]? = some d → z[k % z.length]? = some d ∧ k < n * z.length
  | 0, k, d, h => by simp at h
  | n + 1, k, d, h => by
    rw [List.replicate_succ, List.flatten_cons] at h
    by_cases hk : k < z.length
    · rw [List.getElem?_append_left hk] at h
      rw [Nat.mod_eq_of_lt hk]
      refine ⟨h, ?_⟩
      rw [Nat.add_mul]
      omega
    · rw [List.getElem?_append_right (by omega)] at h
      obtain ⟨h1, h2⟩ := flat_get h0 n _ d h
      rw [← Nat.mod_eq_sub_mod (by omega)] at h1
      refine ⟨h1, ?_⟩
      rw [Nat.add_mul]
      omega

theorem elemT_und {t e : TypeId} (h : elemT P t = some e) : P.underlying t = some (.slice e) := by
  unfold elemT at h
  split at h
  · rename_i hu
    cases h
    exact hu
  · cases h

theorem snd_mkslice {t : TypeId} {l c : Operand} (hop : o.op = .makeSlice t l c) {e : TypeId} (ht : P.underlying t = some (.slice e)) {esz bytes : Nat} (hs : sizeT P e = some esz) (hby : bytesT P e = some bytes) {z : List D} (hz : zeroOf P e = some z)
    (hzl : z.length = esz) (h0 : 0 < esz) {l' c' : X} (hL : compX l = some l') (hC : compX c = some c')
    (he : evalOp cal q o.dst (.mkslice esz bytes z l' c') fr σ = some (d, fr', σ')) (i : Inv P g w fr σ a) : Snd P g w a o fr' σ' d := by
  have hl := (val_ok i.s hL).1
  have hc := (val_ok i.s hC).1
  simp only [evalOp] at he
  split at he <;> first | (cases he; done) | skip
  rename_i n n2 q1 q2
  split at he <;> first | (cases he; done) | skip
  rename_i hcond
  obtain ⟨c1, c2, c3, c4⟩ := hcond
  cases he
  subst c2
  rw [q1] at hl
  rw [q2] at hc
  have el := rep_int hl
  have ec := rep_int hc
  obtain ⟨inf, hi, hisz⟩ : ∃ inf, P.info? e = some inf ∧ inf.size = esz := by
    unfold sizeT at hs
    rw [Option.map_eq_some_iff] at hs
    exact hs
  have hib : inf.bytes = bytes := by
    unfold bytesT at hby
    rw [hi] at hby
    simpa using hby
  obtain ⟨zv, z1, z2, z3, z4⟩ := zeroOf_ok (g := g) hz
  have hzv : inf.zero = some zv := by rw [hi] at z1; simpa using z1
  intro next Q hn
  have hm := run_make (P := P) (w := w) t e inf zv ht hi hzv .i64 .i64 n n c1 (Int.le_refl n) (by rw [hib, Int.mul_comm]; omega) (by omega)
  have hrun : (execOp a.eval o).run P w = .ok (.value (.slice (some ⟨w.heap.size, 0, none⟩) n.toNat n.toNat)) (w.alloc (.cells (madeCells zv.cells (n.toNat * inf.size)) e)) := by
    simp only [execOp, hop]
    refine run_vmap' ?_
    rw [el, ec]
    exact hm
  have hzc : zv.cells.size = z.length := by rw [← z2.1]; simp
  have i1 := i.alloc (.cells (madeCells zv.cells (n.toNat * inf.size)) e) .hand
  obtain ⟨i2, e2⟩ := i1.push (b := w.heap.size) (sz := n.toNat * inf.size) (by simp [Gh.tagAt]) (.cells (List.replicate n.toNat z).flatten) (fun cs h => by
    cases h
    refine ⟨_, e, heap_new w _, size_madeCells _ _, fun off => imm_none i.h (Nat.le_refl _) off, fun j d hd => ?_⟩
    obtain ⟨k1, k2⟩ := flat_get (by omega) _ _ _ hd
    obtain ⟨zv', y1, y2, _, y4⟩ := zeroOf_ok (g := (g.tagAt w.heap.size .hand).push w.heap.size (n.toNat * inf.size)) hz
    have : zv' = zv := by rw [z1] at y1; exact (Option.some.inj y1).symm
    subst this
    obtain ⟨u, u1, u2⟩ := y2.get k1
    have hp : d.plain = true := plain_of_pure1 (all_get z3 k1)
    refine ⟨hp, u, ?_, u2, own_nil (y4 _ u d u1 k1).1 (y4 _ u d u1 k1).2⟩
    have hlt : j < n.toNat * inf.size := by rw [hisz, ← hzl]; exact k2
    simp only [madeCells, Array.getElem?_map, Array.getElem?_range, hlt, if_true, Option.map_some, hzc]
    have hq : zv'.cells[j % z.length]? = some u := by simpa using u1
    rw [getElem!_def, hq]) (fun es h => by cases h)
  refine wp_value hrun (hn _ _ _ ((Ext.alloc g w _ .hand).trans e2) (i2.put o.dst ?_ (fun _ _ => .of_ne rfl) (fun s off e => by cases e)))
  have := Rep.msl (g := (g.tagAt w.heap.size .hand).push w.heap.size (n.toNat * inf.size)) g.n 0 n.toNat esz n.toNat (Nat.lt_succ_self _) (Nat.le_refl _) (by simp [Gh.push, Gh.tagAt, hisz])
  rw [← i.h.n]
  simpa [Gh.push, Gh.tagAt] using this

theorem snd_callOp (hc : CalOK P cal) (hci : CalIn P cal) {c : Call} (hop : o.op = .call c) {m : MOp} (h : compCall P false c = some m) (he : evalOp cal q o.dst m fr σ = some (d, fr', σ')) (i : Inv P g w fr σ a) : Snd P g w a o fr' σ' d := by
  unfold compCall at h
  split at h
  · rename_i hb
    split at h <;> first | (cases h; done) | skip
    rename_i x t ha ht
    split at h <;> first | (cases h; done) | skip
    · rename_i hu hX
      cases h
      exact snd_lenS hop hb ha ht hu hX he i
    · rename_i hu hX
      cases h
      exact snd_lenT hop hb ha ht hu hX he i
    · rename_i hu hX
      cases h
      exact snd_lenM (n := 0) hop hb ha ht hu hX he i
  · rename_i hb
    split at h <;> first | (cases h; done) | skip
    rename_i x y t u ha ht
    split at h <;> first | (cases h; done) | skip
    rename_i x' y' e hX hY hE
    split at h <;> first | (cases h; done) | skip
    rename_i s b z hs hby hz
    split at h <;> first | (cases h; done) | skip
    rename_i hcond
    obtain ⟨rfl, hzl, h0⟩ := hcond
    cases h
    exact snd_append hop hb ha ht (elemT_und hE) hs hby hz hzl h0 hX hY he i
  · rename_i hb
    rw [Option.map_eq_some_iff] at h
    obtain ⟨xs, hX, rfl⟩ := h
    exact snd_max hop hb hX he i
  · rename_i f hb
    rw [Option.map_eq_some_iff] at h
    obtain ⟨xs, hX, rfl⟩ := h
    exact snd_call hc hci hop hb hX he i
  · rename_i f hb
    rw [Option.map_eq_some_iff] at h
    obtain ⟨xs, hX, rfl⟩ := h
    exact snd_callv hc hci hop hb hX he i
  · cases h

theorem snd_op (hc : CalOK P cal) (hci : CalIn P cal) {m : MOp} (h : compOp P false ops o = some m) (he : evalOp cal q o.dst m fr σ = some (d, fr', σ')) (i : Inv P g w fr σ a) : Snd P g w a o fr' σ' d := by
  unfold compOp at h
  split at h
  · -- move
    rename_i x hop
    split at h
    · rename_i x' hX
      simp only [Option.some.injEq] at h
      subst h
      have key : ∀ st, evalOp cal q o.dst (.move x' st) fr σ = some (d, fr', σ') → Snd P g w a o fr' σ' d := fun st he => by
        cases st with
        | false => exact snd_moveCopy hop hX he i
        | true =>
          simp only [evalOp, if_true] at he
          cases he
          exact snd_take (.inl hop) hX rfl rfl i
      exact key _ he
    · cases h
  · -- assign nil
    rename_i hop
    split at h
    · rename_i e hE
      split at h
      · rename_i hok
        cases h
        exact snd_assignNil hop hok he i
      · cases h
    · cases h
  · -- assign
    rename_i x _ hop
    rw [Option.map_eq_some_iff] at h
    obtain ⟨x', hX, rfl⟩ := h
    simp only [evalOp] at he
    cases he
    exact snd_take (.inr hop) hX rfl rfl i
  · -- pick
    rename_i c x y hop
    split at h
    · rename_i c' x' y' hC hX hY
      cases h
      exact snd_pick hop hC hX hY he i
    · cases h
  · -- alloc
    rename_i t hop
    rw [Option.map_eq_some_iff] at h
    obtain ⟨z, hz, rfl⟩ := h
    exact snd_alloc hop hz he i
  · -- box
    rename_i t x hop
    rw [Option.map_eq_some_iff] at h
    obtain ⟨x', hX, rfl⟩ := h
    exact snd_box hop hX he i
  · -- build
    rename_i t parts hop
    split at h
    · rename_i z fs hz hu
      split at h
      · rename_i hsz
        rw [Option.map_eq_some_iff] at h
        obtain ⟨ps, hps, rfl⟩ := h
        exact snd_buildS hop hz hu hsz hps he i
      · cases h
    · rename_i z n e hz hu
      split at h
      · rename_i s hs
        rw [Option.map_eq_some_iff] at h
        obtain ⟨ps, hps, rfl⟩ := h
        exact snd_buildA hop hz hu hs hps he i
      · cases h
    · cases h
  · -- buildSlice
    rename_i t n parts hop
    split at h
    · rename_i e hE
      split at h
      · rename_i s z ps hs hz hps
        split at h
        · rename_i hcond
          cases h
          exact snd_buildSlice hop (elemT_und hE) hs hz hcond.1 hcond.2.1 hcond.2.2 hps he i
        · cases h
      · cases h
    · cases h
  · -- load
    rename_i t x hop
    split at h
    · rename_i agg s x' hagg hs hX
      simp only [Option.some.injEq] at h
      subst h
      have key : ∀ st, evalOp cal q o.dst (.load agg s x' (!agg && st)) fr σ = some (d, fr', σ') → Snd P g w a o fr' σ' d := fun st he => by
        cases agg with
        | true => exact snd_load hop hagg hs hX he i
        | false =>
          cases st with
          | false => exact snd_load hop hagg hs hX he i
          | true => exact snd_loadSteal hop hagg hX he i
      exact key _ he
    · cases h
  · -- store
    rename_i t x y hop
    split at h
    · rename_i s x' y' hs hX hY
      cases h
      exact snd_store hop hs hX hY he i
    · cases h
  · rename_i x hop
    rw [Option.map_eq_some_iff] at h
    obtain ⟨x', hX, rfl⟩ := h
    exact snd_nilCheck hop hX he i
  · -- bin
    rename_i op t x y u hop
    unfold compBin at h
    split at h
    · rename_i x' y' hu hX hY
      split at h
      · cases h
        exact snd_eqb (neg := false) hop hu hX hY he i
      · cases h
        exact snd_eqb (neg := true) hop hu hX hY he i
      · cases h
    · rename_i e x' hu hX hY
      split at h
      · cases h
        exact snd_eqn (neg := false) hop hu hX hY he i
      · cases h
        exact snd_eqn (neg := true) hop hu hX hY he i
      · cases h
    · rename_i td x' y' n1 n2 hu hX hY
      cases h
      exact snd_bin hop hX hY he i
    · cases h
  · rename_i op t x hop
    rw [Option.map_eq_some_iff] at h
    obtain ⟨x', hX, rfl⟩ := h
    exact snd_un hop hX he i
  · -- convert
    rename_i s t x hop
    split at h
    · rename_i k u x' ht hs hX
      cases h
      exact snd_conv hop ht (by rw [hs]; rfl) hX he i
    · cases h
  · -- makeFunc
    rename_i f first caps hop
    split at h
    · rename_i hf
      rw [Option.map_eq_some_iff] at h
      obtain ⟨xs, hX, rfl⟩ := h
      exact snd_mkfunc hop hf hX he i
    · cases h
  · rename_i t hop
    cases h
    exact snd_mkmap hop he i
  · -- makeSlice
    rename_i t l c hop
    split at h
    · rename_i e hE
      split at h
      · rename_i s b z l' c' hs hby hz hL hC
        split at h
        · rename_i hcond
          cases h
          exact snd_mkslice hop (elemT_und hE) hs hby hz hcond.1 hcond.2 hL hC he i
        · cases h
      · cases h
    · cases h
  · -- slice
    rename_i t x lo hi hop
    split at h
    · rename_i x' lo' hi' hX hlo hhi
      split at h
      · rename_i e hu
        rw [Option.map_eq_some_iff] at h
        obtain ⟨s, hs, rfl⟩ := h
        exact snd_slice hop hu hs hX hlo hhi he i
      · rename_i hu
        cases h
        exact snd_sliceStr hop hu hX hlo hhi he i
      · cases h
    · cases h
  · -- fieldAddr
    rename_i s x f hop
    split at h
    · rename_i fld x' hf hX
      split at h
      · rename_i n hn
        cases h
        exact snd_fieldAddr hop hf hn hX he i
      · cases h
    · cases h
  · -- field
    rename_i s x f hop
    split at h
    · rename_i fld x' hf hX
      split at h
      · rename_i agg sz hagg hsz
        cases h
        exact snd_field hop hf hagg hsz hX he i
      · cases h
    · cases h
  · -- indexAddr
    rename_i t x y hop
    split at h
    · rename_i x' y' hX hY
      split at h
      · rename_i e hu
        rw [Option.map_eq_some_iff] at h
        obtain ⟨s, hs, rfl⟩ := h
        exact snd_indexAddr hop hu hs hX hY he i
      · rename_i n e hu
        rw [Option.map_eq_some_iff] at h
        obtain ⟨s, hs, rfl⟩ := h
        exact snd_indexArrA hop hu hs hX hY he i
      · cases h
    · cases h
  · -- index
    rename_i t x y hop
    split at h
    · rename_i n e x' y' hu hX hY
      split at h
      · rename_i agg s hagg hs
        cases h
        exact snd_indexArrV hop hu hs hagg hX hY he i
      · cases h
    · cases h
  · -- lookup
    rename_i t x y ok hop
    split at h
    · rename_i k e x' y' hu hX hY
      split at h
      · rename_i kk agg z hkk hagg hz
        cases h
        exact snd_lookup hop hu hkk hagg hz hX hY he i
      · cases h
    · cases h
  · -- mapUpdate
    rename_i t m' k x hop
    split at h
    · rename_i kt e m1 k1 x1 hu hM hK hX
      rw [Option.map_eq_some_iff] at h
      obtain ⟨kk, hkk, rfl⟩ := h
      exact snd_mapUpdate hop hu hkk hM hK hX he i
    · cases h
  · rename_i x n hop
    rw [Option.map_eq_some_iff] at h
    obtain ⟨x', hX, rfl⟩ := h
    exact snd_extract hop hX he i
  · rename_i c hop
    exact snd_callOp hc hci hop h he i
  · -- defer
    rename_i c hop
    split at h
    · rename_i t hcal
      rw [Option.map_eq_some_iff] at h
      obtain ⟨xs, hX, rfl⟩ := h
      exact snd_defer hop hcal hX he i
    · cases h
  · cases h

end
end Go.Abs
