import Derived.Test.YtlmgngibnioljaaGreatOps12
import Derived.Laws.MakeOwn
import Derived.Test.YtlmgngibnioljaaGreatCompile
set_option linter.unusedVariables false
set_option linter.unusedSimpArgs false
/-
  Every operation: what the interpreter says of it, the model does.
-/
namespace Go.Abs
open Go Go.RowKit

section
variable {P : Program} {g g' : Gh} {w w' : World} {fr fr' : Fr} {σ σ' : St} {a : Act} {o : Oper} {d : D} {cal : Cal} {q : Bool} {mu : List Nat} {ops : List Oper}

theorem flat_get {z : List D} (h0 : 0 < z.length) : ∀ (n k : Nat) (d : D), (List.replicate n z).flatten[k]? = some d → z[k % z.length]? = some d ∧ k < n * z.length
  | 0, k, d, h => by simp at h
  | n + 1, k, d, h => by
    rw [List.replicate_succ, List.flatten_cons] at h
    by_cases hk : k < z.length
    · rw [List.getElem?_append_left hk] at h
      rw [Nat.mod_eq_of_lt hk]
      refine ⟨h, ?_⟩
      rw [Nat.add_mul]
      omega
    · rw [List.getElem?_append_right (by omega)] at h
      obtain ⟨h1, h2⟩ := flat_get h0 n _ d h
      rw [← Nat.mod_eq_sub_mod (by omega)] at h1
      refine ⟨h1, ?_⟩
      rw [Nat.add_mul]
      omega

theorem elemT_und {t e : TypeId} (h : elemT P t = some e) : P.underlying t = some (.slice e) := by
  unfold elemT at h
  split at h
  · rename_i hu
    cases h
    exact hu
  · cases h

theorem snd_mkslice {t : TypeId} {l c : Operand} (hop : o.op = .makeSlice t l c) {e : TypeId} (ht : P.underlying t = some (.slice e)) {esz bytes : Nat} (hs : sizeT P e = some esz) (hby : bytesT P e = some bytes) {z : List D} (hz : zeroOf P e = some z)
    (hzl : z.length = esz) (h0 : 0 < esz) {l' c' : X} (hL : compX l = some l') (hC : compX c = some c')
    (he : evalOp cal q o.dst (.mkslice esz bytes z l' c') fr σ = some (d, fr', σ')) (i : Inv P g w fr σ a) : Snd P g w a o fr' σ' d := by
  have hl := (val_ok i.s hL).1
  have hc := (val_ok i.s hC).1
  simp only [evalOp] at he
  split at he <;> first | (cases he; done) | skip
  rename_i n n2 q1 q2
  split at he <;> first | (cases he; done) | skip
  rename_i hcond
  obtain ⟨c1, c2, c3, c4⟩ := hcond
  cases he
  subst c2
  rw [q1] at hl
  rw [q2] at hc
  have el := rep_int hl
  have ec := rep_int hc
  obtain ⟨inf, hi, hisz⟩ : ∃ inf, P.info? e = some inf ∧ inf.size = esz := by
    unfold sizeT at hs
    rw [Option.map_eq_some_iff] at hs
    exact hs
  have hib : inf.bytes = bytes := by
    unfold bytesT at hby
    rw [hi] at hby
    simpa using hby
  obtain ⟨zv, z1, z2, z3, z4⟩ := zeroOf_ok (g := g) hz
  have hzv : inf.zero = some zv := by rw [hi] at z1; simpa using z1
  intro next Q hn
  have hm := run_make (P := P) (w := w) t e inf zv ht hi hzv .i64 .i64 n n c1 (Int.le_refl n) (by rw [hib, Int.mul_comm]; omega) (by omega)
  have hrun : (execOp a.eval o).run P w = .ok (.value (.slice (some ⟨w.heap.size, 0, none⟩) n.toNat n.toNat)) (w.alloc (.cells (madeCells zv.cells (n.toNat * inf.size)) e)) := by
    simp only [execOp, hop]
    refine run_vmap' ?_
    rw [el, ec]
    exact hm
  have hzc : zv.cells.size = z.length := by rw [← z2.1]; simp
  have i1 := i.alloc (.cells (madeCells zv.cells (n.toNat * inf.size)) e) .hand
  obtain ⟨i2, e2⟩ := i1.push (b := w.heap.size) (sz := n.toNat * inf.size) (by simp [Gh.tagAt]) (.cells (List.replicate n.toNat z).flatten) (fun cs h => by
    cases h
    refine ⟨_, e, heap_new w _, size_madeCells _ _, fun off => imm_none i.h (Nat.le_refl _) off, fun j d hd => ?_⟩
    obtain ⟨k1, k2⟩ := flat_get (by omega) _ _ _ hd
    obtain ⟨zv', y1, y2, _, y4⟩ := zeroOf_ok (g := (g.tagAt w.heap.size .hand).push w.heap.size (n.toNat * inf.size)) hz
    have : zv' = zv := by rw [z1] at y1; exact (Option.some.inj y1).symm
    subst this
    obtain ⟨u, u1, u2⟩ := y2.get k1
    have hp : d.plain = true := plain_of_pure1 (all_get z3 k1)
    refine ⟨hp, u, ?_, u2, own_nil (y4 _ u d u1 k1).1 (y4 _ u d u1 k1).2⟩
    have hlt : j < n.toNat * inf.size := by rw [hisz, ← hzl]; exact k2
    simp only [madeCells, Array.getElem?_map, Array.getElem?_range, hlt, if_true, Option.map_some, hzc]
    have hq : zv'.cells[j % z.length]? = some u := by simpa using u1
    rw [getElem!_def, hq]) (fun es h => by cases h)
  refine wp_value hrun (hn _ _ _ ((Ext.alloc g w _ .hand).trans e2) (i2.put o.dst ?_ (fun _ _ => .of_ne rfl) (fun s off e => by cases e)))
  have := Rep.msl (g := (g.tagAt w.heap.size .hand).push w.heap.size (n.toNat * inf.size)) g.n 0 n.toNat esz n.toNat (Nat.lt_succ_self _) (Nat.le_refl _) (by simp [Gh.push, Gh.tagAt, hisz])
  rw [← i.h.n]
  simpa [Gh.push, Gh.tagAt] using this

theorem snd_callOp (hc : CalOK P cal) (hci : CalIn P cal) {c : Call} (hop : o.op = .call c) {m : MOp} (h : compCall P mu c = some m) (he : evalOp cal q o.dst m fr σ = some (d, fr', σ')) (i : Inv P g w fr σ a) : Snd P g w a o fr' σ' d := by
  unfold compCall at h
  split at h
  · rename_i hb
    split at h <;> first | (cases h; done) | skip
    rename_i x t ha ht
    split at h <;> first | (cases h; done) | skip
    · rename_i hu hX
      cases h
      exact snd_lenS hop hb ha ht hu hX he i
    · rename_i hu hX
      cases h
      exact snd_lenT hop hb ha ht hu hX he i
    · rename_i hu hX
      cases h
      exact snd_lenM (n := 0) hop hb ha ht hu hX he i
  · rename_i hb
    split at h <;> first | (cases h; done) | skip
    rename_i x y t u ha ht
    split at h <;> first | (cases h; done) | skip
    rename_i x' y' e hX hY hE
    split at h <;> first | (cases h; done) | skip
    rename_i s b z hs hby hz
    split at h <;> first | (cases h; done) | skip
    rename_i hcond
    obtain ⟨rfl, hzl, h0⟩ := hcond
    cases h
    generalize hmu : mu.contains e = bm at he
    cases bm with
    | false => exact snd_append hop hb ha ht (elemT_und hE) hs hby hz hzl h0 hX hY he i
    | true => exact snd_appendM hop hb ha ht (elemT_und hE) hs hby hz hzl h0 hX hY he i
  · rename_i hb
    rw [Option.map_eq_some_iff] at h
    obtain ⟨xs, hX, rfl⟩ := h
    exact snd_max hop hb hX he i
  · rename_i hb
    rw [Option.map_eq_some_iff] at h
    obtain ⟨xs, hX, rfl⟩ := h
    exact snd_min hop hb hX he i
  · rename_i hb
    split at h <;> first | (cases h; done) | skip
    rename_i x y t u ha ht
    split at h <;> first | (cases h; done) | skip
    rename_i kt x' y' e hu hX hY
    split at h <;> first | (cases h; done) | skip
    rename_i hk
    subst hk
    rw [Option.map_eq_some_iff] at h
    obtain ⟨kk, hkk, rfl⟩ := h
    exact snd_delete hop hb ha ht hu hkk hX hY he i
  · rename_i hb
    split at h <;> first | (cases h; done) | skip
    rename_i x t ha ht
    split at h <;> first | (cases h; done) | skip
    rename_i x' e hX hE
    split at h <;> first | (cases h; done) | skip
    rename_i s z hs hz
    split at h <;> first | (cases h; done) | skip
    rename_i hk
    cases h
    exact snd_clear hop hb ha ht (elemT_und hE) hz hk.1 hX he i
  · rename_i f hb
    rw [Option.map_eq_some_iff] at h
    obtain ⟨xs, hX, rfl⟩ := h
    exact snd_call hc hci hop hb hX he i
  · rename_i f hb
    rw [Option.map_eq_some_iff] at h
    obtain ⟨xs, hX, rfl⟩ := h
    exact snd_callv hc hci hop hb hX he i
  · cases h

theorem snd_op (hc : CalOK P cal) (hci : CalIn P cal) {m : MOp} (h : compOp P mu ops o = some m) (he : evalOp cal q o.dst m fr σ = some (d, fr', σ')) (i : Inv P g w fr σ a) : Snd P g w a o fr' σ' d := by
  unfold compOp at h
  split at h
  · -- move
    rename_i x hop
    split at h
    · rename_i x' hX
      simp only [Option.some.injEq] at h
      subst h
      have key : ∀ st, evalOp cal q o.dst (.move x' st) fr σ = some (d, fr', σ') → Snd P g w a o fr' σ' d := fun st he => by
        cases st with
        | false => exact snd_moveCopy hop hX he i
        | true =>
          simp only [evalOp, if_true] at he
          cases he
          exact snd_take (.inl hop) hX rfl rfl i
      exact key _ he
    · cases h
  · -- assign nil
    rename_i hop
    split at h
    · rename_i e hE
      split at h
      · rename_i hok
        cases h
        exact snd_assignNil hop hok he i
      · cases h
    · cases h
  · -- assign
    rename_i x _ hop
    rw [Option.map_eq_some_iff] at h
    obtain ⟨x', hX, rfl⟩ := h
    simp only [evalOp] at he
    cases he
    exact snd_take (.inr hop) hX rfl rfl i
  · -- pick
    rename_i c x y hop
    split at h
    · rename_i c' x' y' hC hX hY
      cases h
      exact snd_pick hop hC hX hY he i
    · cases h
  · -- alloc
    rename_i t hop
    rw [Option.map_eq_some_iff] at h
    obtain ⟨z, hz, rfl⟩ := h
    exact snd_alloc hop hz he i
  · -- box
    rename_i t x hop
    rw [Option.map_eq_some_iff] at h
    obtain ⟨x', hX, rfl⟩ := h
    exact snd_box hop hX he i
  · -- build
    rename_i t parts hop
    split at h
    · rename_i z fs hz hu
      split at h
      · rename_i hsz
        rw [Option.map_eq_some_iff] at h
        obtain ⟨ps, hps, rfl⟩ := h
        exact snd_buildS hop hz hu hsz hps he i
      · cases h
    · rename_i z n e hz hu
      split at h
      · rename_i s hs
        rw [Option.map_eq_some_iff] at h
        obtain ⟨ps, hps, rfl⟩ := h
        exact snd_buildA hop hz hu hs hps he i
      · cases h
    · cases h
  · -- buildSlice
    rename_i t n parts hop
    split at h
    · rename_i e hE
      split at h
      · rename_i s z ps hs hz hps
        split at h
        · rename_i hcond
          cases h
          have key : ∀ bb : Bool, evalOp cal q o.dst (if bb = true then .buildM e s n z ps else .buildSlice e s n z ps) fr σ = some (d, fr', σ') → Snd P g w a o fr' σ' d := fun bb hb => by
            cases bb with
            | true => exact snd_buildM hop (elemT_und hE) hs hz hcond.1 hcond.2.1 hcond.2.2 hps hb i
            | false => exact snd_buildSlice hop (elemT_und hE) hs hz hcond.1 hcond.2.1 hcond.2.2 hps hb i
          exact key _ he
        · cases h
      · cases h
    · cases h
  · -- load
    rename_i t x hop
    split at h
    · rename_i agg s x' hagg hs hX
      simp only [Option.some.injEq] at h
      subst h
      have key : ∀ st, evalOp cal q o.dst (.load agg s x' (!agg && st)) fr σ = some (d, fr', σ') → Snd P g w a o fr' σ' d := fun st he => by
        cases agg with
        | true => exact snd_load hop hagg hs hX he i
        | false =>
          cases st with
          | false => exact snd_load hop hagg hs hX he i
          | true => exact snd_loadSteal hop hagg hX he i
      exact key _ he
    · cases h
  · -- store
    rename_i t x y hop
    split at h
    · rename_i s x' y' hs hX hY
      cases h
      exact snd_store hop hs hX hY he i
    · cases h
  · rename_i x hop
    rw [Option.map_eq_some_iff] at h
    obtain ⟨x', hX, rfl⟩ := h
    exact snd_nilCheck hop hX he i
  · -- bin
    rename_i op t x y u hop
    unfold compBin at h
    split at h
    · rename_i x' y' hu hX hY
      split at h
      · cases h
        exact snd_eqb (neg := false) hop hu hX hY he i
      · cases h
        exact snd_eqb (neg := true) hop hu hX hY he i
      · cases h
    · rename_i e x' hu hX hY
      split at h
      · cases h
        exact snd_eqn (neg := false) hop hu hX hY he i
      · cases h
        exact snd_eqn (neg := true) hop hu hX hY he i
      · cases h
    · rename_i fs x' y' n1 n2 hu hX hY
      split at h <;> first | (cases h; done) | skip
      rename_i hg
      split at h
      · rw [Option.map_eq_some_iff] at h
        obtain ⟨n, hn, rfl⟩ := h
        exact snd_eqA (neg := false) hop (by simpa using hg) hn (by unfold isAggT; rw [hu]; rfl) hX hY he i
      · rw [Option.map_eq_some_iff] at h
        obtain ⟨n, hn, rfl⟩ := h
        exact snd_eqA (neg := true) hop (by simpa using hg) hn (by unfold isAggT; rw [hu]; rfl) hX hY he i
      · cases h
    · rename_i m e x' y' n1 n2 hu hX hY
      split at h <;> first | (cases h; done) | skip
      rename_i hg
      split at h
      · rw [Option.map_eq_some_iff] at h
        obtain ⟨n, hn, rfl⟩ := h
        exact snd_eqA (neg := false) hop (by simpa using hg) hn (by unfold isAggT; rw [hu]; rfl) hX hY he i
      · rw [Option.map_eq_some_iff] at h
        obtain ⟨n, hn, rfl⟩ := h
        exact snd_eqA (neg := true) hop (by simpa using hg) hn (by unfold isAggT; rw [hu]; rfl) hX hY he i
      · cases h
    · rename_i td x' y' n1 n2 n3 n4 hu hX hY
      cases h
      exact snd_bin hop hX hY he i
    · cases h
  · rename_i op t x hop
    rw [Option.map_eq_some_iff] at h
    obtain ⟨x', hX, rfl⟩ := h
    exact snd_un hop hX he i
  · -- convert
    rename_i s t x hop
    split at h
    · rename_i k u x' ht hs hX
      cases h
      exact snd_conv hop ht (by rw [hs]; rfl) hX he i
    · cases h
  · -- makeFunc
    rename_i f first caps hop
    split at h
    · rename_i hf
      rw [Option.map_eq_some_iff] at h
      obtain ⟨xs, hX, rfl⟩ := h
      exact snd_mkfunc hop hf hX he i
    · cases h
  · rename_i t hop
    cases h
    exact snd_mkmap hop he i
  · -- makeSlice
    rename_i t l c hop
    split at h
    · rename_i e hE
      split at h
      · rename_i s b z l' c' hs hby hz hL hC
        split at h
        · rename_i hcond
          cases h
          exact snd_mkslice hop (elemT_und hE) hs hby hz hcond.1 hcond.2 hL hC he i
        · cases h
      · cases h
    · cases h
  · -- slice
    rename_i t x lo hi hop
    split at h
    · rename_i x' lo' hi' hX hlo hhi
      split at h
      · rename_i e hu
        rw [Option.map_eq_some_iff] at h
        obtain ⟨s, hs, rfl⟩ := h
        exact snd_slice hop hu hs hX hlo hhi he i
      · rename_i hu
        cases h
        exact snd_sliceStr hop hu hX hlo hhi he i
      · cases h
    · cases h
  · -- fieldAddr
    rename_i s x f hop
    split at h
    · rename_i fld x' hf hX
      split at h
      · rename_i n hn
        cases h
        exact snd_fieldAddr hop hf hn hX he i
      · cases h
    · cases h
  · -- field
    rename_i s x f hop
    split at h
    · rename_i fld x' hf hX
      split at h
      · rename_i agg sz hagg hsz
        cases h
        exact snd_field hop hf hagg hsz hX he i
      · cases h
    · cases h
  · -- indexAddr
    rename_i t x y hop
    split at h
    · rename_i x' y' hX hY
      split at h
      · rename_i e hu
        rw [Option.map_eq_some_iff] at h
        obtain ⟨s, hs, rfl⟩ := h
        exact snd_indexAddr hop hu hs hX hY he i
      · rename_i n e hu
        rw [Option.map_eq_some_iff] at h
        obtain ⟨s, hs, rfl⟩ := h
        exact snd_indexArrA hop hu hs hX hY he i
      · cases h
    · cases h
  · -- index
    rename_i t x y hop
    split at h
    · rename_i n e x' y' hu hX hY
      split at h
      · rename_i agg s hagg hs
        cases h
        exact snd_indexArrV hop hu hs hagg hX hY he i
      · cases h
    · rename_i x' y' hu hX hY
      cases h
      exact snd_indexStr hop hu hX hY he i
    · cases h
  · -- lookup
    rename_i t x y ok hop
    split at h
    · rename_i k e x' y' hu hX hY
      split at h
      · rename_i kk agg z hkk hagg hz
        cases h
        exact snd_lookup hop hu hkk hagg hz hX hY he i
      · cases h
    · cases h
  · -- mapUpdate
    rename_i t m' k x hop
    split at h
    · rename_i kt e m1 k1 x1 hu hM hK hX
      rw [Option.map_eq_some_iff] at h
      obtain ⟨kk, hkk, h⟩ := h
      split at h
      · cases h
        exact snd_mapUpdateP hop hu hkk hM hK hX he i
      · cases h
        exact snd_mapUpdate hop hu hkk hM hK hX he i
    · cases h
  · rename_i x n hop
    rw [Option.map_eq_some_iff] at h
    obtain ⟨x', hX, rfl⟩ := h
    exact snd_extract hop hX he i
  · cases h
    cases he
  · cases h
    cases he
  · rename_i c hop
    split at h
    · rename_i e f hE hcal
      split at h
      · rw [Option.map_eq_some_iff] at h
        obtain ⟨xs, hX, rfl⟩ := h
        exact snd_callM hc hci hop hcal hX he i
      · exact snd_callOp hc hci hop h he i
    · exact snd_callOp hc hci hop h he i
  · -- defer
    rename_i c hop
    split at h
    · rename_i t hcal
      rw [Option.map_eq_some_iff] at h
      obtain ⟨xs, hX, rfl⟩ := h
      exact snd_defer hop hcal hX he i
    · cases h
  · cases h

end
end Go.Abs

/-
  Operations of a region that may be carried out in either order.
-/
namespace Go.Abs
open Go

section
variable {cal : Cal} {q : Bool} {fr fr1 fr2 : Fr} {σ σ1 σ2 : St} {dst : Option Nat} {m : MOp} {d : D}

theorem strip2 (d : D) : d.strip.strip = d.strip := by cases d <;> rfl
theorem pure1S (d : D) : d.strip.pure1 = d.pure1 := by cases d <;> rfl

def Fr.withBoxes (fr : Fr) (b : List (Option (List D))) : Fr := ⟨fr.slots, b, fr.defers⟩
def stripsL (s : List D) (ts : List Nat) : List D := ts.foldl (fun s t => s.set t (s.getD t .junk).strip) s
def Fr.strips (fr : Fr) (ts : List Nat) : Fr := { fr with slots := stripsL fr.slots ts }

def Obj.stripO : Obj → Obj
  | .cells cs => .cells (cs.map D.strip)
  | o => o

structure SameMem (b b2 : List (Option (List D))) (σ σ2 : St) : Prop where
  b : b.map (Option.map (List.map D.strip)) = b2.map (Option.map (List.map D.strip))
  s : σ.map Obj.stripO = σ2.map Obj.stripO

structure Agree (m : MOp) (fr fr2 : Fr) : Prop where
  reads : ∀ t ∈ m.reads, (fr2.at t).strip = (fr.at t).strip
  takes : ∀ t ∈ m.takes, fr2.at t = fr.at t

theorem val_eq {x : X} (h : ∀ t ∈ x.tmps, (fr2.at t).strip = (fr.at t).strip) : fr2.val x = fr.val x := by
  cases x with
  | tmp t => exact h t (by simp [X.tmps])
  | const d => rfl

theorem vals_eq {xs : List X} (h : ∀ t ∈ xs.flatMap X.tmps, (fr2.at t).strip = (fr.at t).strip) : xs.map fr2.val = xs.map fr.val := by
  apply List.map_congr_left
  intro x hx
  exact val_eq fun t ht => h t (List.mem_flatMap.2 ⟨x, hx, ht⟩)

theorem args_eq {xs : List X} (h : ∀ t ∈ xs.flatMap X.tmps, (fr2.at t).strip = (fr.at t).strip) : xs.map fr2.arg = xs.map fr.arg := by
  refine List.map_congr_left fun x hx => ?_
  cases x with
  | const d => rfl
  | tmp t =>
    simp only [Fr.arg]
    rw [val_eq (fr := fr) (fr2 := fr2) (x := .tmp t) (fun u hu => h u (List.mem_flatMap.2 ⟨_, hx, hu⟩))]
theorem promX_ok (x : X) (h : (fr.arg x).notL = true) : fr.promoteX σ x = some (fr.arg x, fr, σ) := by
  cases x with
  | const d => rfl
  | tmp t =>
    simp only [Fr.promoteX, Fr.arg, Fr.val] at h ⊢
    cases hd : fr.at t <;> rw [hd] at h <;> first | (cases h; done) | rfl
theorem promA_ok : ∀ (xs : List X), (xs.map fr.arg).all D.notL = true → fr.promoteAll σ xs = some (xs.map fr.arg, fr, σ)
  | [], _ => rfl
  | x :: xs, h => by
    simp only [List.map_cons, List.all_cons, Bool.and_eq_true] at h
    simp only [Fr.promoteAll, promX_ok x h.1, promA_ok xs h.2, Option.map_some, List.map_cons]
theorem optVal_eq {x : Option X} (h : ∀ t ∈ (x.map X.tmps).getD [], (fr2.at t).strip = (fr.at t).strip) : fr2.optVal x = fr.optVal x := by
  cases x with
  | none => rfl
  | some x => simp only [Fr.optVal]; rw [val_eq (by simpa using h)]

theorem take_eq {x : X} (h : ∀ t ∈ x.tmps, fr2.at t = fr.at t) : fr2.take x = ((fr.take x).1, fr2.strips x.tmps) := by
  cases x with
  | tmp t =>
    have := h t (by simp [X.tmps])
    simp only [Fr.take, X.tmps, Fr.strips, stripsL, List.foldl_cons, List.foldl_nil, this]
    rw [← this]
    rfl
  | const d => rfl

theorem take_snd (x : X) : (fr.take x).2 = fr.strips x.tmps := by
  have := take_eq (fr := fr) (fr2 := fr) (x := x) (fun _ _ => rfl)
  rw [this]

/-- It looks at no memory. -/
theorem k0 (hk : m.kind q = 0) (h : Agree m fr fr2) : evalOp cal q dst m fr2 σ2 = (evalOp cal q dst m fr σ).map (fun r => (r.1, fr2.strips m.takes, σ2)) := by
  have hr := h.reads
  have ht := h.takes
  cases m with
  | move x st =>
    cases st with
    | true =>
      have := take_eq (fr := fr) (fr2 := fr2) (x := x) ht
      simp only [evalOp, this, if_true, Option.map_some]
      rfl
    | false =>
      have := val_eq (fr := fr) (fr2 := fr2) (x := x) hr
      simp only [evalOp, this]
      rfl
  | assign x =>
    have := take_eq (fr := fr) (fr2 := fr2) (x := x) ht
    simp only [evalOp, this, Option.map_some]
    rfl
  | pick c a b =>
    have h1 := val_eq (fr := fr) (fr2 := fr2) (x := c) (fun t ht => hr t (by simp [MOp.reads, ht]))
    have h2 := val_eq (fr := fr) (fr2 := fr2) (x := a) (fun t ht => hr t (by simp [MOp.reads, ht]))
    have h3 := val_eq (fr := fr) (fr2 := fr2) (x := b) (fun t ht => hr t (by simp [MOp.reads, ht]))
    simp only [evalOp, h1, h2, h3]
    split <;> rfl
  | build z ps =>
    have : (ps.map fun (o, s, x) => (o, s, fr2.val x)) = (ps.map fun (o, s, x) => (o, s, fr.val x)) := by
      apply List.map_congr_left
      rintro ⟨o, s, x⟩ hx
      simp only [Prod.mk.injEq, true_and]
      exact val_eq fun t ht => hr t (List.mem_flatMap.2 ⟨_, hx, ht⟩)
    simp only [evalOp, this, Option.map_map]
    rfl
  | buildSlice e esz n z ps =>
    have : (ps.map fun (i, x) => (i, fr2.val x)) = (ps.map fun (i, x) => (i, fr.val x)) := by
      apply List.map_congr_left
      rintro ⟨o, x⟩ hx
      simp only [Prod.mk.injEq, true_and]
      exact val_eq fun t ht => hr t (List.mem_flatMap.2 ⟨_, hx, ht⟩)
    simp only [evalOp, this, Option.map_map]
    rfl
  | nilCheck x | un op x | conv k x | fieldAddr off x | extract x n =>
    have h1 := val_eq (fr := fr) (fr2 := fr2) (x := x) hr
    simp only [evalOp, h1]
    first
      | (simp only [Option.map_map]; rfl)
      | (split <;> first | rfl | (simp only [Option.map_map]; rfl))
  | field agg off s x =>
    have h1 := val_eq (fr := fr) (fr2 := fr2) (x := x) hr
    simp only [evalOp, h1]
    split
    · split
      · split <;> rfl
      · simp only [Option.map_map]; rfl
    · rfl
  | eqn n x =>
    have h1 := val_eq (fr := fr) (fr2 := fr2) (x := x) hr
    simp only [evalOp, h1, Option.map_map]
    rfl
  | bin op x y | eqb op x y | eqA n op x y =>
    have h1 := val_eq (fr := fr) (fr2 := fr2) (x := x) (fun t ht => hr t (by simp [MOp.reads, ht]))
    have h2 := val_eq (fr := fr) (fr2 := fr2) (x := y) (fun t ht => hr t (by simp [MOp.reads, ht]))
    simp only [evalOp, h1, h2, Option.map_map]
    rfl
  | indexAddr esz x y =>
    have h1 := val_eq (fr := fr) (fr2 := fr2) (x := x) (fun t ht => hr t (by simp [MOp.reads, ht]))
    have h2 := val_eq (fr := fr) (fr2 := fr2) (x := y) (fun t ht => hr t (by simp [MOp.reads, ht]))
    simp only [evalOp, h1, h2]
    repeat' split
    all_goals rfl
  | indexArr ad agg len esz x y =>
    have h1 := val_eq (fr := fr) (fr2 := fr2) (x := x) (fun t ht => hr t (by simp [MOp.reads, ht]))
    have h2 := val_eq (fr := fr) (fr2 := fr2) (x := y) (fun t ht => hr t (by simp [MOp.reads, ht]))
    simp only [evalOp, h1, h2]
    repeat' split
    all_goals first | rfl | (simp only [Option.map_map]; rfl)
  | slice esz x lo hi =>
    have h1 := val_eq (fr := fr) (fr2 := fr2) (x := x) (fun t ht => hr t (by simp [MOp.reads, ht]))
    have h2 := optVal_eq (fr := fr) (fr2 := fr2) (x := lo) (fun t ht => hr t (by simp [MOp.reads, ht]))
    have h3 := optVal_eq (fr := fr) (fr2 := fr2) (x := hi) (fun t ht => hr t (by simp [MOp.reads, ht]))
    simp only [evalOp, h1, h2, h3]
    repeat' split
    all_goals rfl
  | sliceStr x lo hi =>
    have h1 := val_eq (fr := fr) (fr2 := fr2) (x := x) (fun t ht => hr t (by simp [MOp.reads, ht]))
    have h2 := optVal_eq (fr := fr) (fr2 := fr2) (x := lo) (fun t ht => hr t (by simp [MOp.reads, ht]))
    have h3 := optVal_eq (fr := fr) (fr2 := fr2) (x := hi) (fun t ht => hr t (by simp [MOp.reads, ht]))
    simp only [evalOp, h1, h2, h3]
    repeat' split
    all_goals rfl
  | indexStr x y =>
    have h1 := val_eq (fr := fr) (fr2 := fr2) (x := x) (fun t ht => hr t (by simp [MOp.reads, ht]))
    have h2 := val_eq (fr := fr) (fr2 := fr2) (x := y) (fun t ht => hr t (by simp [MOp.reads, ht]))
    simp only [evalOp, h1, h2]
    repeat' split
    all_goals first | rfl | (simp only [Option.map_map]; rfl)
  | max xs =>
    have h1 := vals_eq (fr := fr) (fr2 := fr2) (xs := xs) hr
    simp only [evalOp, h1]
    split
    · simp only [Option.map_map]; rfl
    · rfl
  | min xs =>
    have h1 := vals_eq (fr := fr) (fr2 := fr2) (xs := xs) hr
    simp only [evalOp, h1]
    split
    · simp only [Option.map_map]; rfl
    · rfl
  | bad => rfl
  | load agg s x st => cases st <;> simp [MOp.kind] at hk
  | append e s b mu x y => cases mu <;> simp [MOp.kind] at hk
  | call f xs => cases q <;> simp [MOp.kind] at hk
  | callv f xs => cases q <;> simp [MOp.kind] at hk
  | alloc z | box x | store s x y | mkfunc f xs | mkmap | mkslice a b c e f | lookup a b c e f g | mapUpdate a b c e | len k x | defer x xs | loadA t a s x | loadL a s x | storeR s t x | allocR z | delete a b c | clear a b c | buildM a b c e f | callM f xs | mapUpdateP a b c e | callS f xs => simp [MOp.kind] at hk

/-! memory that differs in what is whose -/
theorem SameMem.refl (b : List (Option (List D))) (σ : St) : SameMem b b σ σ := ⟨rfl, rfl⟩
theorem SameMem.symm {b b2 : List (Option (List D))} (h : SameMem b b2 σ σ2) : SameMem b2 b σ2 σ := ⟨h.b.symm, h.s.symm⟩

theorem SameMem.box (h : SameMem fr.boxes fr2.boxes σ σ2) (t : Nat) : (fr2.boxAt t).map (List.map D.strip) = (fr.boxAt t).map (List.map D.strip) := by
  have h1 : (fr.boxes.map (Option.map (List.map D.strip)))[t]? = (fr2.boxes.map (Option.map (List.map D.strip)))[t]? := by rw [h.b]
  simp only [List.getElem?_map] at h1
  simp only [Fr.boxAt]
  cases e1 : fr.boxes[t]? <;> cases e2 : fr2.boxes[t]? <;> rw [e1, e2] at h1 <;> simp at h1 ⊢
  exact h1.symm

theorem SameMem.obj {b b2 : List (Option (List D))} (h : SameMem b b2 σ σ2) (o : Nat) : (σ2[o]?).map Obj.stripO = (σ[o]?).map Obj.stripO := by
  have h1 : (σ.map Obj.stripO)[o]? = (σ2.map Obj.stripO)[o]? := by rw [h.s]
  simpa using h1.symm

theorem SameMem.mapOf {b b2 : List (Option (List D))} (h : SameMem b b2 σ σ2) (o : Nat) : mapOf σ2 o = mapOf σ o := by
  have h1 : (σ.map Obj.stripO)[o]? = (σ2.map Obj.stripO)[o]? := by rw [h.s]
  simp only [List.getElem?_map] at h1
  unfold Abs.mapOf
  cases e1 : σ[o]? with
  | none =>
    rw [e1] at h1
    cases e2 : σ2[o]? with
    | none => rfl
    | some y => rw [e2] at h1; cases h1
  | some x =>
    rw [e1] at h1
    cases e2 : σ2[o]? with
    | none => rw [e2] at h1; cases h1
    | some y =>
      rw [e2] at h1
      simp only [Option.map_some, Option.some.injEq] at h1
      cases x <;> cases y <;> simp_all [Obj.stripO]
theorem SameMem.map {b b2 : List (Option (List D))} (h : SameMem b b2 σ σ2) (o : Nat) (es : List (D × D)) : σ2[o]? = some (.map es) ↔ σ[o]? = some (.map es) := by
  have := h.obj o
  cases e1 : σ[o]? with
  | none => rw [e1] at this; cases e2 : σ2[o]? <;> rw [e2] at this <;> simp at this ⊢
  | some x =>
    rw [e1] at this
    cases e2 : σ2[o]? with
    | none => rw [e2] at this; simp at this
    | some y =>
      rw [e2] at this
      cases x <;> cases y <;> simp [Obj.stripO] at this ⊢
      rw [this]

theorem SameMem.cells {b b2 : List (Option (List D))} (h : SameMem b b2 σ σ2) (o : Nat) :
    (∃ cs cs2, σ[o]? = some (.cells cs) ∧ σ2[o]? = some (.cells cs2) ∧ cs2.map D.strip = cs.map D.strip) ∨ ((∀ cs, σ[o]? ≠ some (.cells cs)) ∧ ∀ cs, σ2[o]? ≠ some (.cells cs)) := by
  have := h.obj o
  cases e1 : σ[o]? with
  | none => rw [e1] at this; cases e2 : σ2[o]? <;> rw [e2] at this <;> simp at this ⊢
  | some x =>
    rw [e1] at this
    cases e2 : σ2[o]? with
    | none => rw [e2] at this; simp at this
    | some y =>
      rw [e2] at this
      cases x <;> cases y <;> simp [Obj.stripO] at this ⊢
      exact this

theorem cellsAt_same (h : SameMem fr.boxes fr2.boxes σ σ2) (d : D) : (cellsAt fr2 σ2 d).map (List.map D.strip) = (cellsAt fr σ d).map (List.map D.strip) := by
  cases d with
  | lptr t off =>
    have := h.box t
    simp only [cellsAt, Option.map_map]
    cases e1 : fr.boxAt t <;> cases e2 : fr2.boxAt t <;> rw [e1, e2] at this <;> simp at this ⊢
    rw [this]
  | ptr o off =>
    simp only [cellsAt]
    rcases h.cells o with ⟨cs, cs2, h1, h2, h3⟩ | ⟨h1, h2⟩
    · rw [h1, h2]
      simp [h3]
    · split
      · rename_i hh; exact absurd hh (h2 _)
      · first
          | rfl
          | (split
             · rename_i hh; exact absurd hh (h1 _)
             · rfl)
  | ref cs => rfl
  | _ => rfl

theorem elems_same {b b2 : List (Option (List D))} (h : SameMem b b2 σ σ2) (d : D) : elems σ2 d = elems σ d := by
  cases d with
  | msl o off n esz =>
    simp only [elems]
    rcases h.cells o with ⟨cs, cs2, h1, h2, h3⟩ | ⟨h1, h2⟩
    · rw [h1, h2]
      have hl : cs2.length = cs.length := by simpa using congrArg List.length h3
      have hp : ∀ l : List D, l.all D.pure1 = (l.map D.strip).all D.pure1 := fun l => by
        induction l with
        | nil => rfl
        | cons x xs ih => simp [pure1S, ih]
      simp only []
      rw [List.map_drop, List.map_drop, h3, hl, hp cs2, h3, ← hp cs]
    · split
      · rename_i hh; exact absurd hh (h2 _)
      · first
          | rfl
          | (split
             · rename_i hh; exact absurd hh (h1 _)
             · rfl)
  | _ => rfl

theorem snap_same {b b2 : List (Option (List D))} (h : SameMem b b2 σ σ2) : ∀ ds : List D, snap σ2 ds = snap σ ds
  | [] => rfl
  | d :: ds => by
    have ih := snap_same h ds
    cases d <;> simp only [snap, ih, elems_same h]

theorem doCallQ_same {b b2 : List (Option (List D))} (h : SameMem b b2 σ σ2) (f : Nat) (ds : List D) : doCallQ cal f ds σ2 = doCallQ cal f ds σ := by
  unfold doCallQ
  rw [snap_same h]

def loadD (agg : Bool) (size : Nat) : Option (List D) → Option D
  | none => none
  | some cs => if agg then (if size ≤ cs.length then some (.agg (cs.take size)) else none) else match cs with | [] => none | d :: _ => some d

theorem load_eq (agg : Bool) (size : Nat) (x : X) : evalOp cal q dst (.load agg size x false) fr σ = (loadD agg size ((cellsAt fr σ (fr.val x)).map (List.map D.strip))).map (·, fr, σ) := by
  simp only [evalOp]
  cases cellsAt fr σ (fr.val x) with
  | none => rfl
  | some cs =>
    simp only [loadD, Option.map_some]
    cases agg with
    | true =>
      simp only [if_true, List.length_map]
      split
      · simp [List.map_take]
      · rfl
    | false => cases cs <;> rfl

theorem loadA_eq (t : Nat) (agg : Bool) (size : Nat) (x : X) : evalOp cal q dst (.loadA t agg size x) fr σ = if (fr.val x).inBox t then none else evalOp cal q dst (.load agg size x false) fr σ := rfl
theorem loadL_eq (agg : Bool) (size : Nat) (x : X) : evalOp cal q dst (.loadL agg size x) fr σ = if okL (fr.val x) then evalOp cal q dst (.load agg size x false) fr σ else none := rfl
theorem storeR_eq (size t : Nat) (x : X) : evalOp cal q dst (.storeR size t x) fr σ = if (fr.val (.tmp t)).inBox t then evalOp cal q dst (.store size (.tmp t) x) fr σ else none := rfl

/-- It reads. -/
theorem k1 (hk : m.kind q = 1) (h : Agree m fr fr2) (hm : SameMem fr.boxes fr2.boxes σ σ2) : evalOp cal q dst m fr2 σ2 = (evalOp cal q dst m fr σ).map (fun r => (r.1, fr2.strips m.takes, σ2)) := by
  have hr := h.reads
  have ht := h.takes
  cases m with
  | load agg s x st =>
    cases st with
    | true => simp [MOp.kind] at hk
    | false =>
      have h1 := val_eq (fr := fr) (fr2 := fr2) (x := x) hr
      rw [load_eq, load_eq, h1, cellsAt_same hm, Option.map_map]
      rfl
  | append e s b mu x y =>
    cases mu with
    | true => simp [MOp.kind] at hk
    | false =>
      have h1 := take_eq (fr := fr) (fr2 := fr2) (x := x) ht
      have h2 := val_eq (fr := fr) (fr2 := fr2) (x := y) (fun t ht => hr t (by simp [MOp.reads, ht]))
      simp only [evalOp, h2, elems_same hm, h1]
      cases elems σ (fr.val y) with
      | none => rfl
      | some ys =>
        simp only [Bool.false_eq_true, if_false]
        split
        · split
          · split
            · rfl
            · rfl
          · rfl
        · rfl
  | lookup kk agg z x y ok =>
    have h1 := val_eq (fr := fr) (fr2 := fr2) (x := x) (fun t ht => hr t (by simp [MOp.reads, ht]))
    have h2 := val_eq (fr := fr) (fr2 := fr2) (x := y) (fun t ht => hr t (by simp [MOp.reads, ht]))
    simp only [evalOp, h1, h2]
    cases fr.val x with
    | map o =>
      simp only [hm.mapOf o]
      cases mapOf σ o with
      | none => rfl
      | some es =>
        simp only []
        repeat' split
        all_goals rfl
    | _ => rfl
  | len k x =>
    have h1 := val_eq (fr := fr) (fr2 := fr2) (x := x) hr
    match k with
    | 0 => simp only [evalOp, h1]; split <;> rfl
    | 1 => simp only [evalOp, h1]; split <;> rfl
    | k + 2 =>
      simp only [evalOp, h1]
      cases fr.val x with
      | map o =>
        simp only [hm.mapOf o]
        cases mapOf σ o <;> rfl
      | _ => rfl
  | call f xs =>
    cases q with
    | false => simp [MOp.kind] at hk
    | true =>
      have h1 := vals_eq (fr := fr) (fr2 := fr2) (xs := xs) hr
      have h1' : xs.map (fun x => (fr2.val x).deep) = xs.map (fun x => (fr.val x).deep) := by
        have := congrArg (List.map D.deep) h1
        simpa only [List.map_map, Function.comp_def] using this
      simp only [evalOp, h1', if_true, doCallQ_same hm, Option.map_map]
      rfl
  | callv f xs =>
    cases q with
    | false => simp [MOp.kind] at hk
    | true =>
      have h1 := vals_eq (fr := fr) (fr2 := fr2) (xs := xs) (fun t ht => hr t (by simp only [MOp.reads, List.mem_append]; exact .inr ht))
      have h2 := val_eq (fr := fr) (fr2 := fr2) (x := f) (fun t ht => hr t (by simp [MOp.reads, ht]))
      have h1' : xs.map (fun x => (fr2.val x).deep) = xs.map (fun x => (fr.val x).deep) := by
        have := congrArg (List.map D.deep) h1
        simpa only [List.map_map, Function.comp_def] using this
      simp only [evalOp, h1', h2, if_true, doCallQ_same hm]
      split
      · simp only [Option.map_map]; rfl
      · rfl
  | loadA t agg s x =>
    have h1 := val_eq (fr := fr) (fr2 := fr2) (x := x) hr
    rw [loadA_eq, loadA_eq, h1, load_eq, load_eq, h1, cellsAt_same hm]
    split
    · rfl
    · rw [Option.map_map]
      rfl
  | loadL agg s x =>
    have h1 := val_eq (fr := fr) (fr2 := fr2) (x := x) hr
    rw [loadL_eq, loadL_eq, h1, load_eq, load_eq, h1, cellsAt_same hm]
    split
    · rw [Option.map_map]
      rfl
    · rfl
  | alloc z | box x | store s x y | mkfunc f xs | mkmap | mkslice a b c e f | mapUpdate a b c e | defer x xs | storeR s t x | allocR z => simp [MOp.kind] at hk
  | _ => simp [MOp.kind] at hk

theorem storeAt_same (h : fr2.boxes = fr.boxes) (ad : D) (ds : List D) : storeAt fr2 σ ad ds = (storeAt fr σ ad ds).map (fun r => ((Fr.withBoxes (fr2) (r.1.boxes)), r.2)) := by
  cases ad with
  | lptr t off =>
    simp only [storeAt, Fr.boxAt, h]
    split
    · split
      · simp [Fr.setBox, Fr.withBoxes, h]
      · rfl
    · rfl
  | ptr o off =>
    simp only [storeAt]
    split
    · split
      · simp [Fr.withBoxes, ← h]
      · rfl
    · rfl
  | _ => rfl

/-- It writes. -/
theorem k2 (hk : m.kind q = 2 ∨ m.kind q = 4) (h : Agree m fr fr2) (hb : fr2.boxes = fr.boxes) :
    evalOp cal q dst m fr2 σ = (evalOp cal q dst m fr σ).map (fun r => (r.1, (Fr.withBoxes (fr2.strips m.takes) (r.2.1.boxes)), r.2.2)) := by
  have hr := h.reads
  have ht := h.takes
  cases m with
  | load agg s x st =>
    cases st with
    | false => simp [MOp.kind] at hk
    | true =>
      have h1 := val_eq (fr := fr) (fr2 := fr2) (x := x) hr
      have h2 : cellsAt fr2 σ (fr.val x) = cellsAt fr σ (fr.val x) := by
        cases fr.val x <;> simp only [cellsAt, Fr.boxAt, hb]
      simp only [evalOp, h1, h2]
      cases cellsAt fr σ (fr.val x) with
      | none => rfl
      | some cs =>
        simp only []
        cases agg with
        | true =>
          simp only [if_true]
          split
          · simp [Fr.withBoxes, Fr.strips, stripsL, MOp.takes, ← hb]
          · rfl
        | false =>
          simp only [Bool.false_eq_true, if_false]
          split
          · rfl
          · simp only [if_true]
            rw [storeAt_same hb, Option.map_map, Option.map_map]
            rfl
  | store s x y =>
    have h1 := val_eq (fr := fr) (fr2 := fr2) (x := x) (fun t ht => hr t (by simp [MOp.reads, ht]))
    have h2 := take_eq (fr := fr) (fr2 := fr2) (x := y) ht
    simp only [evalOp, h1, h2]
    split
    · have : (fr2.strips y.tmps).boxes = (fr.take y).2.boxes := by
        rw [take_snd]
        exact hb
      rw [storeAt_same (fr := (fr.take y).2) this, Option.map_map, Option.map_map]
      rfl
    · rfl
  | callS f xs =>
    have h1' : xs.map fr2.arg = xs.map fr.arg := args_eq hr
    simp only [evalOp, h1']
    split
    · simp only [Option.map_map]
      congr 1
      funext r
      simp [Fr.withBoxes, Fr.strips, stripsL, MOp.takes, ← hb]
    · rfl
  | storeR s t y =>
    have h1 := val_eq (fr := fr) (fr2 := fr2) (x := .tmp t) (fun u hu => hr u (by simp only [X.tmps, List.mem_singleton] at hu; simp [MOp.reads, hu]))
    have h2 := take_eq (fr := fr) (fr2 := fr2) (x := y) ht
    simp only [evalOp, h1, h2]
    split
    · split
      · have : (fr2.strips y.tmps).boxes = (fr.take y).2.boxes := by
          rw [take_snd]
          exact hb
        rw [storeAt_same (fr := (fr.take y).2) this, Option.map_map, Option.map_map]
        rfl
      · rfl
    · rfl
  | allocR z =>
    cases dst with
    | none => rfl
    | some t =>
      have hbt : fr2.boxAt t = fr.boxAt t := by simp only [Fr.boxAt, hb]
      simp only [evalOp, hbt]
      by_cases hn : (fr.boxAt t).isNone = true
      · rw [if_pos hn, if_pos hn]
        simp [Fr.withBoxes, Fr.setBox, Fr.strips, stripsL, MOp.takes, hb]
      · rw [if_neg hn, if_neg hn]
        rfl
  | mapUpdate kk x y z =>
    have h1 := val_eq (fr := fr) (fr2 := fr2) (x := x) (fun t ht => hr t (by simp [MOp.reads, ht]))
    have h2 := val_eq (fr := fr) (fr2 := fr2) (x := y) (fun t ht => hr t (by simp [MOp.reads, ht]))
    have h3 := val_eq (fr := fr) (fr2 := fr2) (x := z) (fun t ht => hr t (by simp [MOp.reads, ht]))
    simp only [evalOp, h1, h2, h3]
    split
    · split
      · split
        · simp only [Option.map_map]
          congr 1
          funext es
          simp [Fr.withBoxes, Fr.strips, stripsL, MOp.takes, ← hb]
        · rfl
      · rfl
    · rfl
  | mkmap => simp [evalOp, Fr.withBoxes, Fr.strips, stripsL, MOp.takes, ← hb]
  | mkslice esz by' z x y =>
    have h1 := val_eq (fr := fr) (fr2 := fr2) (x := x) (fun t ht => hr t (by simp [MOp.reads, ht]))
    have h2 := val_eq (fr := fr) (fr2 := fr2) (x := y) (fun t ht => hr t (by simp [MOp.reads, ht]))
    simp only [evalOp, h1, h2]
    split
    · split
      · simp [Fr.withBoxes, Fr.strips, stripsL, MOp.takes, ← hb]
      · rfl
    · rfl
  | append e s b mu x y =>
    cases mu with
    | false => simp [MOp.kind] at hk
    | true => simp [MOp.kind] at hk
  | call f xs => cases q <;> simp [MOp.kind] at hk
  | callv f xs => cases q <;> simp [MOp.kind] at hk
  | _ => simp [MOp.kind] at hk

/-- It does not look at the box of t. -/
theorem kB {t : Nat} (hk : m.offBox q t = true) (h : Agree m fr fr2) (hb : ∀ k, k ≠ t → fr2.boxAt k = fr.boxAt k) : evalOp cal q dst m fr2 σ = (evalOp cal q dst m fr σ).map (fun r => (r.1, fr2.strips m.takes, σ)) := by
  by_cases h0 : m.kind q = 0
  · exact k0 h0 h
  have hr := h.reads
  cases m with
  | loadA s agg n x =>
    have hs : s = t := by simpa [MOp.offBox] using hk
    subst hs
    have h1 := val_eq (fr := fr) (fr2 := fr2) (x := x) hr
    rw [loadA_eq, loadA_eq, h1, load_eq, load_eq, h1]
    by_cases hi : (fr.val x).inBox s = true
    · rw [if_pos hi, if_pos hi]
      rfl
    · rw [if_neg hi, if_neg hi]
      have hc : cellsAt fr2 σ (fr.val x) = cellsAt fr σ (fr.val x) := by
        cases hv : fr.val x with
        | lptr u off =>
          have hu : u ≠ s := by
            rintro rfl
            rw [hv] at hi
            simp [D.inBox] at hi
          simp only [cellsAt, hb u hu]
        | _ => rfl
      rw [hc, Option.map_map]
      rfl
  | call f xs =>
    cases q with
    | false => simp [MOp.offBox, MOp.kind] at hk
    | true =>
      have h1 := vals_eq (fr := fr) (fr2 := fr2) (xs := xs) hr
      have h1' : xs.map (fun x => (fr2.val x).deep) = xs.map (fun x => (fr.val x).deep) := by
        have := congrArg (List.map D.deep) h1
        simpa only [List.map_map, Function.comp_def] using this
      simp only [evalOp, h1', if_true, Option.map_map]
      rfl
  | callv f xs =>
    cases q with
    | false => simp [MOp.offBox, MOp.kind] at hk
    | true =>
      have h1 := vals_eq (fr := fr) (fr2 := fr2) (xs := xs) (fun t ht => hr t (by simp only [MOp.reads, List.mem_append]; exact .inr ht))
      have h2 := val_eq (fr := fr) (fr2 := fr2) (x := f) (fun t ht => hr t (by simp [MOp.reads, ht]))
      have h1' : xs.map (fun x => (fr2.val x).deep) = xs.map (fun x => (fr.val x).deep) := by
        have := congrArg (List.map D.deep) h1
        simpa only [List.map_map, Function.comp_def] using this
      simp only [evalOp, h1', h2, if_true]
      split
      · simp only [Option.map_map]; rfl
      · rfl
  | _ => exact absurd (by simpa [MOp.offBox, MOp.isCall] using hk) h0
/-- It writes one box. -/
theorem kT {t : Nat} (ht : m.target dst = some t) {fr' : Fr} {σ' : St} (h : evalOp cal q dst m fr σ = some (d, fr', σ')) : σ' = σ ∧ ∀ k, k ≠ t → fr'.boxAt k = fr.boxAt k := by
  cases m with
  | storeR size s x =>
    have hs : s = t := by simpa [MOp.target] using ht
    subst hs
    simp only [evalOp] at h
    split at h
    · rename_i hi
      split at h
      · cases hv : fr.val (.tmp s) with
        | lptr u off =>
          rw [hv] at h hi
          have hu : u = s := by simpa [D.inBox] using hi
          subst hu
          simp only [storeAt] at h
          split at h
          · split at h
            · simp only [Option.map_some, Option.some.injEq, Prod.mk.injEq] at h
              obtain ⟨_, rfl, rfl⟩ := h
              refine ⟨rfl, fun k hk => ?_⟩
              rw [take_snd]
              simp only [Fr.boxAt, Fr.setBox, Fr.strips]
              rw [List.getElem?_set_ne (fun e => hk e.symm)]
            · cases h
          · cases h
        | _ =>
          rw [hv] at hi
          simp [D.inBox] at hi
      · cases h
    · cases h
  | allocR z =>
    have hs : dst = some t := by simpa [MOp.target] using ht
    subst hs
    simp only [evalOp] at h
    split at h
    · simp only [Option.some.injEq, Prod.mk.injEq] at h
      obtain ⟨_, rfl, rfl⟩ := h
      refine ⟨rfl, fun k hk => ?_⟩
      simp only [Fr.boxAt, Fr.setBox]
      rw [List.getElem?_set_ne (fun e => hk e.symm)]
    · cases h
  | _ => simp [MOp.target] at ht

theorem kT2 {t : Nat} (ht : m.target dst = some t) (h : Agree m fr fr2) (hb : fr2.boxes = fr.boxes) {fr' : Fr} {σ' : St} (he : evalOp cal q dst m fr σ = some (d, fr', σ')) : evalOp cal q dst m fr2 σ2 = some (d, Fr.withBoxes (fr2.strips m.takes) fr'.boxes, σ2) := by
  have hk : m.kind q = 2 := by
    cases m <;> simp [MOp.target] at ht <;> rfl
  have h2 := k2 (cal := cal) (dst := dst) (σ := σ) (.inl hk) h hb
  rw [he] at h2
  simp only [Option.map_some] at h2
  have h3 : (evalOp cal q dst m fr2 σ2).map (fun r => (r.1, r.2.1)) = (evalOp cal q dst m fr2 σ).map (fun r => (r.1, r.2.1)) ∧ ∀ r, evalOp cal q dst m fr2 σ2 = some r → r.2.2 = σ2 := by
    cases m with
    | storeR size s x =>
      refine ⟨?_, fun r hr => ?_⟩
      · simp only [evalOp]
        split
        · split
          · rename_i hi _
            cases hv : fr2.val (.tmp s) with
            | lptr u off =>
              simp only [storeAt]
              split
              · split <;> rfl
              · rfl
            | _ =>
              rw [hv] at hi
              simp [D.inBox] at hi
          · rfl
        · rfl
      · obtain ⟨d0, f0, s0⟩ := r
        exact (kT ht hr).1
    | allocR z =>
      refine ⟨?_, fun r hr => ?_⟩
      · simp only [evalOp]
        split
        · split <;> rfl
        · rfl
      · obtain ⟨d0, f0, s0⟩ := r
        exact (kT ht hr).1
    | _ => simp [MOp.target] at ht
  rw [h2] at h3
  obtain ⟨h3, h4⟩ := h3
  cases hc : evalOp cal q dst m fr2 σ2 with
  | none => rw [hc] at h3; cases h3
  | some r =>
    rw [hc] at h3
    have h5 := h4 r hc
    obtain ⟨d0, f0, s0⟩ := r
    simp only [Option.map_some, Option.some.injEq, Prod.mk.injEq] at h3
    obtain ⟨rfl, rfl⟩ := h3
    simp only at h5
    rw [h5]
theorem kL (hs : m.isLoadL = true) (h : Agree m fr fr2) (hb : fr2.boxes = fr.boxes) : evalOp cal q dst m fr2 σ2 = (evalOp cal q dst m fr σ).map (fun r => (r.1, fr2.strips m.takes, σ2)) := by
  cases m with
  | loadL agg s x =>
    have h1 := val_eq (fr := fr) (fr2 := fr2) (x := x) h.reads
    rw [loadL_eq, loadL_eq, h1, load_eq, load_eq, h1]
    cases hv : fr.val x with
    | lptr u off =>
      have hc : cellsAt fr2 σ2 (.lptr u off) = cellsAt fr σ (.lptr u off) := by simp only [cellsAt, Fr.boxAt, hb]
      rw [hc]
      simp only [okL, if_true, Option.map_map]
      rfl
    | ref cs =>
      simp only [okL, if_true, Option.map_map, cellsAt]
      rfl
    | _ => rfl
  | _ => simp [MOp.isLoadL] at hs
theorem kS (hs : m.isCallS = true) (h : Agree m fr fr2) : evalOp cal q dst m fr2 σ = (evalOp cal q dst m fr σ).map (fun r => (r.1, fr2.strips m.takes, r.2.2)) := by
  cases m with
  | callS f xs =>
    have h1' : xs.map fr2.arg = xs.map fr.arg := args_eq h.reads
    simp only [evalOp, h1']
    split
    · simp only [Option.map_map]
      rfl
    · rfl
  | _ => simp [MOp.isCallS] at hs
theorem set_same {α : Type} {l : List α} {i : Nat} {x : α} (h : l[i]? = some x) : l.set i x = l := by
  obtain ⟨h1, rfl⟩ := List.getElem?_eq_some_iff.1 h
  exact List.set_getElem_self h1

theorem drop_head {α : Type} {l : List α} {n : Nat} {x : α} {r : List α} (h : l.drop n = x :: r) : l[n]? = some x := by
  have : (l.drop n)[0]? = some x := by rw [h]; rfl
  simpa using this

theorem steal_strip {cs : List D} {off : Nat} {d0 : D} {r : List D} (h : cs.drop off = d0 :: r) : (setAt cs off [d0.strip]).map D.strip = cs.map D.strip := by
  simp only [setAt, List.map_set, strip2]
  apply set_same
  rw [List.getElem?_map, drop_head h]
  rfl

/-- Stealing changes only what is whose. -/
theorem k4 (hk : m.kind q = 4) {fr' : Fr} {σ' : St} (h : evalOp cal q dst m fr σ = some (d, fr', σ')) : SameMem fr.boxes fr'.boxes σ σ' := by
  cases m with
  | load agg s x st =>
    cases st with
    | false => simp [MOp.kind] at hk
    | true =>
      simp only [evalOp] at h
      split at h
      · cases h
      · rename_i cs hcs
        cases agg with
        | true =>
          simp only [if_true] at h
          split at h
          · cases h; exact .refl _ _
          · cases h
        | false =>
          simp only [Bool.false_eq_true, if_false, if_true] at h
          split at h
          · cases h
          · rename_i d0 rest
            rw [Option.map_eq_some_iff] at h
            obtain ⟨⟨fr1, σ1⟩, h1, h2⟩ := h
            cases h2
            cases had : fr.val x with
            | lptr t off =>
              rw [had] at hcs h1
              simp only [cellsAt, Option.map_eq_some_iff] at hcs
              obtain ⟨cs0, c1, c2⟩ := hcs
              simp only [storeAt, c1] at h1
              split at h1
              · cases h1
                refine ⟨?_, rfl⟩
                simp only [Fr.setBox, List.map_set, Option.map_some]
                have hb : fr.boxes[t]? = some (some cs0) := by
                  unfold Fr.boxAt at c1
                  cases hq : fr.boxes[t]? with
                  | none => rw [hq] at c1; simp at c1
                  | some y => rw [hq] at c1; simp at c1; rw [c1]
                symm
                apply set_same
                rw [List.getElem?_map, hb, steal_strip c2]
                rfl
              · cases h1
            | ptr o off =>
              rw [had] at hcs h1
              simp only [cellsAt] at hcs
              simp only [storeAt] at h1
              split at hcs
              · rename_i cs0 hb
                rw [hb] at h1
                simp only [Option.some.injEq] at hcs
                simp only [] at h1
                split at h1
                · cases h1
                  refine ⟨rfl, ?_⟩
                  simp only [List.map_set]
                  symm
                  apply set_same
                  rw [List.getElem?_map, hb]
                  simp only [Option.map_some, Obj.stripO]
                  rw [steal_strip hcs]
                · cases h1
              · cases hcs
            | _ => rw [had] at h1; simp [storeAt] at h1
  | append e s b mu x y => cases mu <;> simp [MOp.kind] at hk
  | call f xs => cases q <;> simp [MOp.kind] at hk
  | callv f xs => cases q <;> simp [MOp.kind] at hk
  | _ => simp [MOp.kind] at hk

/-! slots -/
theorem stripsL_len : ∀ (ts : List Nat) (s : List D), (stripsL s ts).length = s.length
  | [], s => rfl
  | t :: ts, s => by
    show (stripsL (s.set t _) ts).length = _
    rw [stripsL_len ts]
    simp

theorem stripsL_get : ∀ (ts : List Nat) (s : List D) (k : Nat), (stripsL s ts)[k]? = if k ∈ ts then (s[k]?).map D.strip else s[k]?
  | [], s, k => by simp [stripsL]
  | t :: ts, s, k => by
    show (stripsL (s.set t (s.getD t .junk).strip) ts)[k]? = _
    rw [stripsL_get ts, List.getElem?_set]
    by_cases htk : t = k
    · subst htk
      cases hs : s[t]? with
      | none =>
        have : ¬ t < s.length := fun h => by rw [List.getElem?_eq_getElem h] at hs; cases hs
        simp [this]
      | some x =>
        have : t < s.length := (List.getElem?_eq_some_iff.1 hs).1
        simp only [List.mem_cons, true_or, if_true, this, List.getD_eq_getElem?_getD, hs, Option.getD_some, Option.map_some, strip2]
        split <;> rfl
    · have hkt : k ≠ t := fun h => htk h.symm
      simp only [htk, if_false, List.mem_cons, hkt, false_or]

theorem put_get (fr : Fr) (dst : Option Nat) (d : D) (k : Nat) : (fr.put dst d).slots[k]? = if dst = some k ∧ k < fr.slots.length then some d else fr.slots[k]? := by
  cases dst with
  | none => simp [Fr.put]
  | some t =>
    simp only [Fr.put, Fr.set, List.getElem?_set, Option.some.injEq]
    by_cases h : t = k
    · subst h
      by_cases hl : t < fr.slots.length
      · simp [hl]
      · simp [hl]
    · simp [h]

theorem at_of_get {fr fr2 : Fr} {k : Nat} (h : fr2.slots[k]? = fr.slots[k]?) : fr2.at k = fr.at k := by
  simp only [Fr.at, List.getD_eq_getElem?_getD, h]

theorem at_put_ne (fr : Fr) {dst : Option Nat} (d : D) {k : Nat} (h : dst ≠ some k) : (fr.put dst d).at k = fr.at k :=
  at_of_get (by rw [put_get, if_neg (fun e => h e.1)])

theorem at_strips (fr : Fr) (ts : List Nat) (k : Nat) : ((fr.strips ts).at k).strip = (fr.at k).strip := by
  simp only [Fr.at, List.getD_eq_getElem?_getD, Fr.strips, stripsL_get]
  split
  · cases fr.slots[k]? <;> simp [strip2]
  · rfl

theorem at_strips_ne (fr : Fr) {ts : List Nat} {k : Nat} (h : k ∉ ts) : (fr.strips ts).at k = fr.at k :=
  at_of_get (by simp only [Fr.strips, stripsL_get, if_neg h])

theorem at_boxes (fr : Fr) (b : List (Option (List D))) (k : Nat) : ((Fr.withBoxes (fr) (b)) : Fr).at k = fr.at k := rfl

theorem takes_reads (m : MOp) : ∀ t ∈ m.takes, t ∈ m.reads := by
  intro t h
  cases m with
  | move x st => cases st <;> simp_all [MOp.takes, MOp.reads]
  | _ => simp_all [MOp.takes, MOp.reads]

theorem kind_le (m : MOp) (q : Bool) : m.kind q ≤ 4 := by
  cases m with
  | load agg s a st => cases st <;> simp [MOp.kind]
  | append e s b mu x y => cases mu <;> simp [MOp.kind]
  | call f xs => cases q <;> simp [MOp.kind]
  | callv f xs => cases q <;> simp [MOp.kind]
  | _ => simp [MOp.kind]

/-- What an operation takes, if it is carried out at all. -/
def tookOf (o : MOper) : Option Bool → List Nat
  | some true => o.op.takes
  | _ => []

theorem wanted_eq {fr fr2 : Fr} {o : MOper} (h : ∀ t ∈ o.looks, (fr2.at t).strip = (fr.at t).strip) : wantedD fr2 o.guard = wantedD fr o.guard := by
  cases hg : o.guard with
  | none => rfl
  | some g =>
    obtain ⟨t, want⟩ := g
    have h1 := h t (by simp [MOper.looks, hg])
    simp only [wantedD]
    cases h2 : fr2.at t <;> cases h3 : fr.at t <;> rw [h2, h3] at h1 <;> simp [D.strip] at h1 ⊢
    rw [h1]

structure Looks (o : MOper) (fr fr2 : Fr) : Prop where
  looks : ∀ t ∈ o.looks, (fr2.at t).strip = (fr.at t).strip
  takes : ∀ t ∈ o.op.takes, fr2.at t = fr.at t

theorem Looks.agree {o : MOper} {fr fr2 : Fr} (h : Looks o fr fr2) : Agree o.op fr fr2 := ⟨fun t ht => h.looks t (by simp [MOper.looks, ht]), h.takes⟩

/-- An operation of the region, wherever it stands. -/
theorem run_form {o : MOper} {fr' : Fr} {σ' : St} (hk : o.op.kind q ≠ 3) (h : runOp cal q o fr σ = some (fr', σ')) :
    ∃ (T : List Nat) (d : D) (bx : List (Option (List D))), (T = [] ∨ T = o.op.takes) ∧ fr' = (Fr.withBoxes ((fr.strips T).put o.dst d) (bx)) ∧
      (o.op.kind q ≤ 1 → bx = fr.boxes ∧ σ' = σ) ∧ (o.op.kind q = 4 → SameMem fr.boxes bx σ σ') ∧
      (∀ fr2 σ2, Looks o fr fr2 → (o.op.kind q = 0 ∨ (o.op.kind q = 1 ∧ SameMem fr.boxes fr2.boxes σ σ2)) → runOp cal q o fr2 σ2 = some ((fr2.strips T).put o.dst d, σ2)) ∧
      (∀ fr2, Looks o fr fr2 → fr2.boxes = fr.boxes → runOp cal q o fr2 σ = some ((Fr.withBoxes ((fr2.strips T).put o.dst d) (bx)), σ')) ∧
      (∀ t fr2, o.op.offBox q t = true → Looks o fr fr2 → (∀ k, k ≠ t → fr2.boxAt k = fr.boxAt k) → runOp cal q o fr2 σ = some ((fr2.strips T).put o.dst d, σ)) ∧
      (∀ t, o.op.target o.dst = some t → σ' = σ ∧ ∀ k, k ≠ t → (bx[k]?).getD none = fr.boxAt k) ∧
      (∀ t, o.op.target o.dst = some t → ∀ fr2 σ2, Looks o fr fr2 → fr2.boxes = fr.boxes → runOp cal q o fr2 σ2 = some ((Fr.withBoxes ((fr2.strips T).put o.dst d) (bx)), σ2)) ∧
      (o.op.isCallS = true → bx = fr.boxes ∧ ∀ fr2, Looks o fr fr2 → runOp cal q o fr2 σ = some ((fr2.strips T).put o.dst d, σ')) ∧
      (o.op.isLoadL = true → ∀ fr2 σ2, Looks o fr fr2 → fr2.boxes = fr.boxes → runOp cal q o fr2 σ2 = some ((fr2.strips T).put o.dst d, σ2)) := by
  unfold runOp at h
  have hput : ∀ (f : Fr) (b : List (Option (List D))) (d : D), ((Fr.withBoxes (f) (b)) : Fr).put o.dst d = (Fr.withBoxes (f.put o.dst d) (b)) := fun f b d => by cases o.dst <;> rfl
  have hbx : ∀ (f : Fr) (d : D), (f.put o.dst d).boxes = f.boxes := fun f d => by cases o.dst <;> rfl
  split at h
  · cases h
  · rename_i hw
    cases h
    refine ⟨[], .undef, fr.boxes, .inl rfl, ?_, fun _ => ⟨rfl, rfl⟩, fun _ => .refl _ _, fun fr2 σ2 hl _ => ?_, fun fr2 hl hb => ?_, fun t fr2 _ hl _ => ?_, fun t _ => ⟨rfl, fun _ _ => rfl⟩, fun t _ fr2 σ2 hl hb => ?_, fun _ => ⟨rfl, fun fr2 hl => ?_⟩, fun _ fr2 σ2 hl _ => ?_⟩
    · rw [← hput]; rfl
    · unfold runOp
      rw [wanted_eq hl.looks, hw]
      rfl
    · unfold runOp
      rw [wanted_eq hl.looks, hw, ← hput, ← hb]
      rfl
    · unfold runOp
      rw [wanted_eq hl.looks, hw]
      rfl
    · unfold runOp
      rw [wanted_eq hl.looks, hw, ← hput, ← hb]
      rfl
    · unfold runOp
      rw [wanted_eq hl.looks, hw]
      rfl
    · unfold runOp
      rw [wanted_eq hl.looks, hw]
      rfl
  · rename_i hw
    split at h
    · rename_i d fr1 σ1 he
      cases h
      have hself : Agree o.op fr fr := ⟨fun _ _ => rfl, fun _ _ => rfl⟩
      have hall : o.op.kind q = 0 ∨ o.op.kind q = 1 ∨ o.op.kind q = 2 ∨ o.op.kind q = 4 := by
        have := kind_le o.op q
        omega
      have hquiet : o.op.kind q ≤ 1 → evalOp cal q o.dst o.op fr σ = (evalOp cal q o.dst o.op fr σ).map (fun r => (r.1, fr.strips o.op.takes, σ)) := fun hle => by
        rcases hall with h0 | h0 | h0 | h0
        · exact k0 h0 hself
        · exact k1 h0 hself (.refl _ _)
        · omega
        · omega
      have hform : fr1 = (Fr.withBoxes (fr.strips o.op.takes) (fr1.boxes)) := by
        rcases hall with h0 | h0 | h0 | h0
        · have := hquiet (by omega)
          rw [he] at this
          simp only [Option.map_some, Option.some.injEq, Prod.mk.injEq, true_and] at this
          rw [this.1]
          rfl
        · have := hquiet (by omega)
          rw [he] at this
          simp only [Option.map_some, Option.some.injEq, Prod.mk.injEq, true_and] at this
          rw [this.1]
          rfl
        · have := k2 (cal := cal) (dst := o.dst) (σ := σ) (.inl h0) hself rfl
          rw [he] at this
          simp only [Option.map_some, Option.some.injEq, Prod.mk.injEq, true_and] at this
          exact this.1
        · have := k2 (cal := cal) (dst := o.dst) (σ := σ) (.inr h0) hself rfl
          rw [he] at this
          simp only [Option.map_some, Option.some.injEq, Prod.mk.injEq, true_and] at this
          exact this.1
      refine ⟨o.op.takes, d, fr1.boxes, .inr rfl, ?_, fun hle => ?_, fun h4 => k4 h4 he, fun fr2 σ2 hl hmem => ?_, fun fr2 hl hb => ?_, fun t fr2 ho hl hb => ?_, fun t ht => kT ht he, fun t ht fr2 σ2 hl hb => ?_, fun hs => ⟨?_, fun fr2 hl => ?_⟩, fun hs fr2 σ2 hl hb => ?_⟩
      · rw [← hput, ← hform]
      · have := hquiet hle
        rw [he] at this
        simp only [Option.map_some, Option.some.injEq, Prod.mk.injEq, true_and] at this
        exact ⟨by rw [this.1]; rfl, this.2⟩
      · have : evalOp cal q o.dst o.op fr2 σ2 = (evalOp cal q o.dst o.op fr σ).map (fun r => (r.1, fr2.strips o.op.takes, σ2)) := by
          rcases hmem with h0 | ⟨h0, hm⟩
          · exact k0 h0 hl.agree
          · exact k1 h0 hl.agree hm
        unfold runOp
        rw [wanted_eq hl.looks, hw, this, he]
        rfl
      · unfold runOp
        rw [wanted_eq hl.looks, hw]
        simp only []
        have : evalOp cal q o.dst o.op fr2 σ = some (d, (Fr.withBoxes (fr2.strips o.op.takes) (fr1.boxes)), σ') := by
          rcases hall with h0 | h0 | h0 | h0
          · have h5 := hquiet (by omega)
            rw [he] at h5
            simp only [Option.map_some, Option.some.injEq, Prod.mk.injEq, true_and] at h5
            rw [k0 (fr := fr) (σ := σ) h0 hl.agree, he, h5.1, h5.2]
            simp only [Option.map_some, Option.some.injEq, Prod.mk.injEq, true_and, and_true]
            show _ = ((Fr.withBoxes (fr2.strips o.op.takes) (fr.boxes)) : Fr)
            rw [← hb]
            rfl
          · have h5 := hquiet (by omega)
            rw [he] at h5
            simp only [Option.map_some, Option.some.injEq, Prod.mk.injEq, true_and] at h5
            rw [k1 (fr := fr) (σ := σ) h0 hl.agree (by rw [hb]; exact .refl _ _), he, h5.1, h5.2]
            simp only [Option.map_some, Option.some.injEq, Prod.mk.injEq, true_and, and_true]
            show _ = ((Fr.withBoxes (fr2.strips o.op.takes) (fr.boxes)) : Fr)
            rw [← hb]
            rfl
          · rw [k2 (fr := fr) (.inl h0) hl.agree hb, he]
            rfl
          · rw [k2 (fr := fr) (.inr h0) hl.agree hb, he]
            rfl
        rw [this]
        simp only []
        rw [hput]
      · unfold runOp
        rw [wanted_eq hl.looks, hw]
        simp only []
        rw [kB (fr := fr) ho hl.agree hb, he]
        rfl
      · unfold runOp
        rw [wanted_eq hl.looks, hw]
        simp only []
        rw [kT2 (fr := fr) ht hl.agree hb he]
        simp only []
        rw [hput]
      · have := kS (cal := cal) (q := q) (dst := o.dst) (σ := σ) hs hself
        rw [he] at this
        simp only [Option.map_some, Option.some.injEq, Prod.mk.injEq, true_and, and_true] at this
        rw [this]
        rfl
      · unfold runOp
        rw [wanted_eq hl.looks, hw]
        simp only []
        rw [kS (fr := fr) hs hl.agree, he]
        rfl
      · unfold runOp
        rw [wanted_eq hl.looks, hw]
        simp only []
        rw [kL (fr := fr) (σ := σ) hs hl.agree hb, he]
        rfl
    · cases h

/-- Two operations that are apart may change places. -/
theorem swap {x y : MOper} (hap : x.apart q y = true) {fr1 fr2 : Fr} {σ1 σ2 : St} (h1 : runOp cal q x fr σ = some (fr1, σ1)) (h2 : runOp cal q y fr1 σ1 = some (fr2, σ2)) :
    ∃ fr3 σ3, runOp cal q y fr σ = some (fr3, σ3) ∧ runOp cal q x fr3 σ3 = some (fr2, σ2) := by
  unfold MOper.apart at hap
  simp only [Bool.and_eq_true] at hap
  obtain ⟨⟨⟨a1, a2⟩, a3⟩, a4⟩ := hap
  have hxl : ∀ t, x.dst = some t → t ∉ y.looks ∧ y.dst ≠ some t := fun t ht => by
    rw [ht] at a1
    simpa using a1
  have hyl : ∀ t, y.dst = some t → t ∉ x.looks := fun t ht => by
    rw [ht] at a2
    simpa using a2
  have htk : ∀ t ∈ x.op.takes, t ∉ y.op.takes := fun t ht => by
    have := List.all_eq_true.1 a3 t ht
    simpa using this
  simp only [bne_iff_ne, ne_eq, Bool.or_eq_true, Bool.and_eq_true, beq_iff_eq] at a4
  obtain ⟨⟨k3x, k3y⟩, kk⟩ := a4
  obtain ⟨Tx, dx, bx, tx, fx, qx, sx, ux, vx, ox, _, _, cx, lx⟩ := run_form k3x h1
  obtain ⟨Ty, dy, by', ty, fy, qy, sy, uy, vy, _, oy, py, cy, ly⟩ := run_form k3y h2
  have hTx : ∀ t ∈ Tx, t ∈ x.op.takes := fun t ht => by
    rcases tx with rfl | rfl
    · cases ht
    · exact ht
  have hTy : ∀ t ∈ Ty, t ∈ y.op.takes := fun t ht => by
    rcases ty with rfl | rfl
    · cases ht
    · exact ht
  have rx : ∀ t ∈ x.op.takes, t ∈ x.looks := fun t ht => by simp [MOper.looks, takes_reads x.op t ht]
  have ry : ∀ t ∈ y.op.takes, t ∈ y.looks := fun t ht => by simp [MOper.looks, takes_reads y.op t ht]
  -- y sees the same before x
  have lky : Looks y fr1 fr := by
    refine ⟨fun t ht => ?_, fun t ht => ?_⟩
    · rw [fx, at_boxes, at_put_ne _ _ (fun e => (hxl t e).1 ht), at_strips]
    · rw [fx, at_boxes, at_put_ne _ _ (fun e => (hxl t e).1 (ry t ht)), at_strips_ne]
      exact fun h => htk t (hTx t h) ht
  have lkx : ∀ b, Looks x fr (Fr.withBoxes ((fr.strips Ty).put y.dst dy) (b)) := fun b => by
    refine ⟨fun t ht => ?_, fun t ht => ?_⟩
    · rw [at_boxes, at_put_ne _ _ (fun e => hyl t e ht), at_strips]
    · rw [at_boxes, at_put_ne _ _ (fun e => hyl t e (rx t ht)), at_strips_ne]
      exact fun h => htk t ht (hTy t h)
  have hbx : ∀ (f : Fr) (o : Option Nat) (d : D), (f.put o d).boxes = f.boxes := fun f o d => by cases o <;> rfl
  have hdf : ∀ (f : Fr) (o : Option Nat) (d : D), (f.put o d).defers = f.defers := fun f o d => by cases o <;> rfl
  have hln : ∀ (f : Fr) (o : Option Nat) (d : D), (f.put o d).slots.length = f.slots.length := fun f o d => by cases o <;> simp [Fr.put, Fr.set]
  have hfr1b : fr1.boxes = bx := by rw [fx]; rfl
  -- the slots behind both
  have hslots : ∀ b, ((Fr.withBoxes ((((Fr.withBoxes ((fr.strips Ty).put y.dst dy) (b)) : Fr).strips Tx).put x.dst dx) (by')) : Fr) = fr2 := fun b => by
    rw [fy, fx]
    simp only [Fr.withBoxes, Fr.mk.injEq, true_and]
    refine ⟨?_, ?_⟩
    · apply List.ext_getElem?
      intro k
      rw [put_get, put_get]
      simp only [Fr.strips, stripsL_get, stripsL_len, put_get]
      simp only [Fr.strips, hln, stripsL_get, stripsL_len]
      by_cases hxk : x.dst = some k
      · have h1 := hxl k hxk
        have h3 : k ∉ Ty := fun h => h1.1 (ry k (hTy k h))
        simp only [hxk, h1.2, h3, true_and, false_and, if_false]
      · by_cases hyk : y.dst = some k
        · have h1 := hyl k hyk
          have h3 : k ∉ Tx := fun h => h1 (rx k (hTx k h))
          simp only [hxk, hyk, h3, true_and, false_and, if_false]
        · simp only [hxk, hyk, false_and, if_false]
          by_cases h3 : k ∈ Tx
          · have h4 : k ∉ Ty := fun h => htk k (hTx k h3) (hTy k h)
            simp only [h3, h4, if_true, if_false]
          · simp only [h3, if_false]
    · simp only [hdf, Fr.strips]
  have hself : ∀ f : Fr, ((Fr.withBoxes (f) (f.boxes)) : Fr) = f := fun f => rfl
  -- which of them looks at memory
  have loadK : ∀ {m : MOp}, m.isLoadL = true → m.kind q ≤ 1 := fun {m} h => by
    cases m <;> first | (simp [MOp.isLoadL] at h; done) | simp [MOp.kind]
  rcases kk with ((((((hx0 | hy0) | h14a) | h14b) | hbox) | ⟨hcs, htt⟩) | ⟨hcs, hll⟩) | ⟨hll, hcs⟩
  rotate_left 6
  · -- x is a call, y loads what is the frame's own
    obtain ⟨e1, e2⟩ := cx hcs
    have hyb : fr.boxes = fr1.boxes := by rw [hfr1b, e1]
    obtain ⟨e3, e4⟩ := qy (loadK hll)
    subst e4
    refine ⟨_, _, ly hll fr σ lky hyb, ?_⟩
    have hb0 : ((fr.strips Ty).put y.dst dy).boxes = fr.boxes := hbx _ _ _
    have hl := lkx fr.boxes
    rw [show ((Fr.withBoxes ((fr.strips Ty).put y.dst dy) (fr.boxes)) : Fr) = (fr.strips Ty).put y.dst dy by rw [← hb0]; rfl] at hl
    rw [e2 _ hl]
    congr 2
    have := hslots fr.boxes
    rw [show ((Fr.withBoxes ((fr.strips Ty).put y.dst dy) (fr.boxes)) : Fr) = (fr.strips Ty).put y.dst dy by rw [← hb0]; rfl] at this
    rw [← this, e3, ← hyb]
    have hb1 : ((((fr.strips Ty).put y.dst dy).strips Tx).put x.dst dx).boxes = fr.boxes := (hbx _ _ _).trans hb0
    rw [← hb1]
    rfl
  · -- x loads what is the frame's own, y is a call
    obtain ⟨e1, e2⟩ := qx (loadK hll)
    subst e2
    have hyb : fr.boxes = fr1.boxes := by rw [hfr1b, e1]
    obtain ⟨e3, e4⟩ := cy hcs
    refine ⟨_, _, e4 fr lky, ?_⟩
    have hb0 : ((fr.strips Ty).put y.dst dy).boxes = fr.boxes := hbx _ _ _
    have hl := lkx fr.boxes
    rw [show ((Fr.withBoxes ((fr.strips Ty).put y.dst dy) (fr.boxes)) : Fr) = (fr.strips Ty).put y.dst dy by rw [← hb0]; rfl] at hl
    rw [lx hll _ σ2 hl hb0]
    congr 2
    have := hslots fr.boxes
    rw [show ((Fr.withBoxes ((fr.strips Ty).put y.dst dy) (fr.boxes)) : Fr) = (fr.strips Ty).put y.dst dy by rw [← hb0]; rfl] at this
    rw [← this, e3, ← hyb]
    have hb1 : ((((fr.strips Ty).put y.dst dy).strips Tx).put x.dst dx).boxes = fr.boxes := (hbx _ _ _).trans hb0
    rw [← hb1]
    rfl
  rotate_left 5
  · -- x is a call that knows nothing of y's box
    obtain ⟨t, htg⟩ := Option.isSome_iff_exists.1 htt
    obtain ⟨e1, e2⟩ := cx hcs
    have hyb : fr.boxes = fr1.boxes := by rw [hfr1b, e1]
    obtain ⟨e3, _⟩ := oy t htg
    subst e3
    refine ⟨_, _, py t htg fr σ lky hyb, ?_⟩
    rw [e2 _ (lkx by')]
    congr 2
    rw [← hslots by']
    simp only [Fr.withBoxes, Fr.mk.injEq, true_and]
    cases x.dst <;> rfl
  rotate_left 4
  · -- x looks at another box
    cases htg : y.op.target y.dst with
    | none =>
      rw [htg] at hbox
      cases hbox
    | some t =>
      rw [htg] at hbox
      have hoff : x.op.offBox q t = true := hbox
      have hle : x.op.kind q ≤ 1 := by
        cases hm : x.op with
        | loadA s a n z => simp [MOp.kind]
        | call f xs =>
          rw [hm] at hoff
          cases q <;> simp [MOp.offBox, MOp.kind, MOp.isCall] at hoff ⊢
        | callv f xs =>
          rw [hm] at hoff
          cases q <;> simp [MOp.offBox, MOp.kind, MOp.isCall] at hoff ⊢
        | _ =>
          rw [hm] at hoff
          have : MOp.kind q x.op = 0 := by
            rw [hm]
            simpa [MOp.offBox, MOp.isCall] using hoff
          rw [hm] at this
          omega
      obtain ⟨e1, e2⟩ := qx hle
      subst e2
      have hyb : fr.boxes = fr1.boxes := by rw [hfr1b, e1]
      obtain ⟨e3, e4⟩ := oy t htg
      subst e3
      refine ⟨_, _, vy fr lky hyb, ?_⟩
      rw [ox t _ hoff (lkx by') (fun k hk => by
        have := e4 k hk
        simp only [Fr.boxAt, ← hyb] at this
        exact this)]
      congr 2
      rw [← hslots by']
      simp only [Fr.withBoxes, Fr.mk.injEq, true_and]
      cases x.dst <;> rfl
  · -- x looks at none
    obtain ⟨e1, e2⟩ := qx (by omega)
    subst e2
    have hyb : fr.boxes = fr1.boxes := by rw [hfr1b, e1]
    refine ⟨_, _, vy fr lky hyb, ?_⟩
    rw [ux _ σ2 (lkx by') (.inl hx0)]
    congr 2
    rw [← hslots by']
    simp only [Fr.withBoxes, Fr.mk.injEq, true_and]
    cases x.dst <;> rfl
  · -- y looks at none
    obtain ⟨e1, e2⟩ := qy (by omega)
    subst e2
    refine ⟨_, _, uy fr σ lky (.inl hy0), ?_⟩
    have hb0 : ((fr.strips Ty).put y.dst dy).boxes = fr.boxes := hbx _ _ _
    have hl := lkx fr.boxes
    rw [show ((Fr.withBoxes ((fr.strips Ty).put y.dst dy) (fr.boxes)) : Fr) = (fr.strips Ty).put y.dst dy by rw [← hb0]; rfl] at hl
    rw [vx _ hl hb0]
    congr 2
    have := hslots fr.boxes
    rw [show ((Fr.withBoxes ((fr.strips Ty).put y.dst dy) (fr.boxes)) : Fr) = (fr.strips Ty).put y.dst dy by rw [← hb0]; rfl] at this
    rw [← this, e1, hfr1b]
  all_goals
    have hcase : (x.op.kind q = 1 ∧ (y.op.kind q = 1 ∨ y.op.kind q = 4)) ∨ (x.op.kind q = 4 ∧ y.op.kind q = 1) := by
      first
        | exact .inl h14a
        | exact .inr h14b
    rcases hcase with ⟨hx1, hy14⟩ | ⟨hx4, hy1⟩
    · obtain ⟨e1, e2⟩ := qx (by omega)
      subst e2
      have hyb : fr.boxes = fr1.boxes := by rw [hfr1b, e1]
      have hsm : SameMem fr.boxes by' σ1 σ2 := by
        rcases hy14 with hy | hy
        · obtain ⟨e3, e4⟩ := qy (by omega)
          rw [e3, e4, ← hyb]
          exact .refl _ _
        · have := sy hy
          rw [← hyb] at this
          exact this
      refine ⟨_, _, vy fr lky hyb, ?_⟩
      rw [ux _ σ2 (lkx by') (.inr ⟨hx1, hsm⟩)]
      congr 2
      rw [← hslots by']
      simp only [Fr.withBoxes, Fr.mk.injEq, true_and]
      cases x.dst <;> rfl
    · obtain ⟨e1, e2⟩ := qy (by omega)
      subst e2
      have hsm : SameMem fr1.boxes fr.boxes σ2 σ := by
        rw [hfr1b]
        exact (sx hx4).symm
      refine ⟨_, _, uy fr σ lky (.inr ⟨hy1, hsm⟩), ?_⟩
      have hb0 : ((fr.strips Ty).put y.dst dy).boxes = fr.boxes := hbx _ _ _
      have hl := lkx fr.boxes
      rw [show ((Fr.withBoxes ((fr.strips Ty).put y.dst dy) (fr.boxes)) : Fr) = (fr.strips Ty).put y.dst dy by rw [← hb0]; rfl] at hl
      rw [vx _ hl hb0]
      congr 2
      have := hslots fr.boxes
      rw [show ((Fr.withBoxes ((fr.strips Ty).put y.dst dy) (fr.boxes)) : Fr) = (fr.strips Ty).put y.dst dy by rw [← hb0]; rfl] at this
      rw [← this, e1, hfr1b]

theorem runOps_append (xs ys : List MOper) (fr : Fr) (σ : St) : runOps cal q (xs ++ ys) fr σ = (runOps cal q xs fr σ).bind fun r => runOps cal q ys r.1 r.2 := by
  induction xs generalizing fr σ with
  | nil => rfl
  | cons x xs ih =>
    simp only [List.cons_append, runOps]
    cases runOp cal q x fr σ with
    | none => rfl
    | some r => exact ih r.1 r.2

/-- An operation that is apart from all that stand before it may be carried out first. -/
theorem bubble {y : MOper} : ∀ (xs : List MOper) {fr : Fr} {σ : St} {r : Fr × St} (ys : List MOper), (∀ x ∈ xs, x.apart q y = true) → runOps cal q (xs ++ y :: ys) fr σ = some r → runOps cal q (y :: (xs ++ ys)) fr σ = some r
  | [], _, _, _, _, _, h => h
  | x :: xs, fr, σ, r, ys, hap, h => by
    simp only [List.cons_append, runOps] at h
    split at h
    · rename_i fr1 σ1 h1
      have ih := bubble xs ys (fun z hz => hap z (List.mem_cons_of_mem _ hz)) h
      simp only [runOps] at ih
      split at ih
      · rename_i fr2 σ2 h2
        obtain ⟨fr3, σ3, k1, k2⟩ := swap (hap x (List.mem_cons_self ..)) h1 h2
        simp only [List.cons_append, runOps, k1, k2]
        exact ih
      · cases ih
    · cases h

end
end Go.Abs
