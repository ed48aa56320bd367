import Derived.Test.YtnjoledlgacpeaaOps11
import Derived.Test.YtnjoledlgacpeaaOpsN
import Derived.Laws.MakeOwn
import Derived.Test.YtnjoledlgacpeaaComm
import Derived.Orders
import Derived.Tactics
import Derived.RangeFuncCalls
import Derived.TacticsIn
set_option linter.unusedVariables false
set_option linter.unusedSimpArgs false
/-
  Every operation: what the interpreter says of it, the model does.
-/
namespace Go.Abs
open Go Go.RowKit

section
variable {P : Program} {g g' : Gh} {w w' : World} {fr fr' : Fr} {σ σ' : St} {a : Act} {o : Oper} {d : D} {cal : Cal} {q mu : Bool} {ops : List Oper}

theorem flat_get {z : List D} (h0 : 0 < z.length) : ∀ (n k : Nat) (d : D), (List.replicate n z).flatten[k]? = some d → z[k % z.length]? = some d ∧ k < n * z.length
  | 0, k, d, h => by simp at h
  | n + 1, k, d, h => by
    rw [List.replicate_succ, List.flatten_cons] at h
    by_cases hk : k < z.length
    · rw [List.getElem?_append_left hk] at h
      rw [Nat.mod_eq_of_lt hk]
      refine ⟨h, ?_⟩
      rw [Nat.add_mul]
      omega
    · rw [List.getElem?_append_right (by omega)] at h
      obtain ⟨h1, h2⟩ := flat_get h0 n _ d h
      rw [← Nat.mod_eq_sub_mod (by omega)] at h1
      refine ⟨h1, ?_⟩
      rw [Nat.add_mul]
      omega

theorem elemT_und {t e : TypeId} (h : elemT P t = some e) : P.underlying t = some (.slice e) := by
  unfold elemT at h
  split at h
  · rename_i hu
    cases h
    exact hu
  · cases h

theorem snd_mkslice {t : TypeId} {l c : Operand} (hop : o.op = .makeSlice t l c) {e : TypeId} (ht : P.underlying t = some (.slice e)) {esz bytes : Nat} (hs : sizeT P e = some esz) (hby : bytesT P e = some bytes) {z : List D} (hz : zeroOf P e = some z)
    (hzl : z.length = esz) (h0 : 0 < esz) {l' c' : X} (hL : compX l = some l') (hC : compX c = some c')
    (he : evalOp cal q o.dst (.mkslice esz bytes z l' c') fr σ = some (d, fr', σ')) (i : Inv P g w fr σ a) : Snd P g w a o fr' σ' d := by
  have hl := (val_ok i.s hL).1
  have hc := (val_ok i.s hC).1
  simp only [evalOp] at he
  split at he <;> first | (cases he; done) | skip
  rename_i n n2 q1 q2
  split at he <;> first | (cases he; done) | skip
  rename_i hcond
  obtain ⟨c1, c2, c3, c4⟩ := hcond
  cases he
  subst c2
  rw [q1] at hl
  rw [q2] at hc
  have el := rep_int hl
  have ec := rep_int hc
  obtain ⟨inf, hi, hisz⟩ : ∃ inf, P.info? e = some inf ∧ inf.size = esz := by
    unfold sizeT at hs
    rw [Option.map_eq_some_iff] at hs
    exact hs
  have hib : inf.bytes = bytes := by
    unfold bytesT at hby
    rw [hi] at hby
    simpa using hby
  obtain ⟨zv, z1, z2, z3, z4⟩ := zeroOf_ok (g := g) hz
  have hzv : inf.zero = some zv := by rw [hi] at z1; simpa using z1
  intro next Q hn
  have hm := run_make (P := P) (w := w) t e inf zv ht hi hzv .i64 .i64 n n c1 (Int.le_refl n) (by rw [hib, Int.mul_comm]; omega) (by omega)
  have hrun : (execOp a.eval o).run P w = .ok (.value (.slice (some ⟨w.heap.size, 0, none⟩) n.toNat n.toNat)) (w.alloc (.cells (madeCells zv.cells (n.toNat * inf.size)) e)) := by
    simp only [execOp, hop]
    refine run_vmap' ?_
    rw [el, ec]
    exact hm
  have hzc : zv.cells.size = z.length := by rw [← z2.1]; simp
  have i1 := i.alloc (.cells (madeCells zv.cells (n.toNat * inf.size)) e) .hand
  obtain ⟨i2, e2⟩ := i1.push (b := w.heap.size) (sz := n.toNat * inf.size) (by simp [Gh.tagAt]) (.cells (List.replicate n.toNat z).flatten) (fun cs h => by
    cases h
    refine ⟨_, e, heap_new w _, size_madeCells _ _, fun off => imm_none i.h (Nat.le_refl _) off, fun j d hd => ?_⟩
    obtain ⟨k1, k2⟩ := flat_get (by omega) _ _ _ hd
    obtain ⟨zv', y1, y2, _, y4⟩ := zeroOf_ok (g := (g.tagAt w.heap.size .hand).push w.heap.size (n.toNat * inf.size)) hz
    have : zv' = zv := by rw [z1] at y1; exact (Option.some.inj y1).symm
    subst this
    obtain ⟨u, u1, u2⟩ := y2.get k1
    have hp : d.plain = true := plain_of_pure1 (all_get z3 k1)
    refine ⟨hp, u, ?_, u2, own_nil (y4 _ u d u1 k1).1 (y4 _ u d u1 k1).2⟩
    have hlt : j < n.toNat * inf.size := by rw [hisz, ← hzl]; exact k2
    simp only [madeCells, Array.getElem?_map, Array.getElem?_range, hlt, if_true, Option.map_some, hzc]
    have hq : zv'.cells[j % z.length]? = some u := by simpa using u1
    rw [getElem!_def, hq]) (fun es h => by cases h)
  refine wp_value hrun (hn _ _ _ ((Ext.alloc g w _ .hand).trans e2) (i2.put o.dst ?_ (fun _ _ => .of_ne rfl) (fun s off e => by cases e)))
  have := Rep.msl (g := (g.tagAt w.heap.size .hand).push w.heap.size (n.toNat * inf.size)) g.n 0 n.toNat esz n.toNat (Nat.lt_succ_self _) (Nat.le_refl _) (by simp [Gh.push, Gh.tagAt, hisz])
  rw [← i.h.n]
  simpa [Gh.push, Gh.tagAt] using this

theorem snd_callOp (hc : CalOK P cal) (hci : CalIn P cal) {c : Call} (hop : o.op = .call c) {m : MOp} (h : compCall P mu c = some m) (he : evalOp cal q o.dst m fr σ = some (d, fr', σ')) (i : Inv P g w fr σ a) : Snd P g w a o fr' σ' d := by
  unfold compCall at h
  split at h
  · rename_i hb
    split at h <;> first | (cases h; done) | skip
    rename_i x t ha ht
    split at h <;> first | (cases h; done) | skip
    · rename_i hu hX
      cases h
      exact snd_lenS hop hb ha ht hu hX he i
    · rename_i hu hX
      cases h
      exact snd_lenT hop hb ha ht hu hX he i
    · rename_i hu hX
      cases h
      exact snd_lenM (n := 0) hop hb ha ht hu hX he i
  · rename_i hb
    split at h <;> first | (cases h; done) | skip
    rename_i x y t u ha ht
    split at h <;> first | (cases h; done) | skip
    rename_i x' y' e hX hY hE
    split at h <;> first | (cases h; done) | skip
    rename_i s b z hs hby hz
    split at h <;> first | (cases h; done) | skip
    rename_i hcond
    obtain ⟨rfl, hzl, h0⟩ := hcond
    cases h
    cases mu with
    | false => exact snd_append hop hb ha ht (elemT_und hE) hs hby hz hzl h0 hX hY he i
    | true => exact snd_appendM hop hb ha ht (elemT_und hE) hs hby hz hzl h0 hX hY he i
  · rename_i hb
    rw [Option.map_eq_some_iff] at h
    obtain ⟨xs, hX, rfl⟩ := h
    exact snd_max hop hb hX he i
  · rename_i hb
    split at h <;> first | (cases h; done) | skip
    rename_i x y t u ha ht
    split at h <;> first | (cases h; done) | skip
    rename_i kt x' y' e hu hX hY
    split at h <;> first | (cases h; done) | skip
    rename_i hk
    subst hk
    rw [Option.map_eq_some_iff] at h
    obtain ⟨kk, hkk, rfl⟩ := h
    exact snd_delete hop hb ha ht hu hkk hX hY he i
  · rename_i f hb
    rw [Option.map_eq_some_iff] at h
    obtain ⟨xs, hX, rfl⟩ := h
    exact snd_call hc hci hop hb hX he i
  · rename_i f hb
    rw [Option.map_eq_some_iff] at h
    obtain ⟨xs, hX, rfl⟩ := h
    exact snd_callv hc hci hop hb hX he i
  · cases h

theorem snd_op (hc : CalOK P cal) (hci : CalIn P cal) {m : MOp} (h : compOp P mu ops o = some m) (he : evalOp cal q o.dst m fr σ = some (d, fr', σ')) (i : Inv P g w fr σ a) : Snd P g w a o fr' σ' d := by
  unfold compOp at h
  split at h
  · -- move
    rename_i x hop
    split at h
    · rename_i x' hX
      simp only [Option.some.injEq] at h
      subst h
      have key : ∀ st, evalOp cal q o.dst (.move x' st) fr σ = some (d, fr', σ') → Snd P g w a o fr' σ' d := fun st he => by
        cases st with
        | false => exact snd_moveCopy hop hX he i
        | true =>
          simp only [evalOp, if_true] at he
          cases he
          exact snd_take (.inl hop) hX rfl rfl i
      exact key _ he
    · cases h
  · -- assign nil
    rename_i hop
    split at h
    · rename_i e hE
      split at h
      · rename_i hok
        cases h
        exact snd_assignNil hop hok he i
      · cases h
    · cases h
  · -- assign
    rename_i x _ hop
    rw [Option.map_eq_some_iff] at h
    obtain ⟨x', hX, rfl⟩ := h
    simp only [evalOp] at he
    cases he
    exact snd_take (.inr hop) hX rfl rfl i
  · -- pick
    rename_i c x y hop
    split at h
    · rename_i c' x' y' hC hX hY
      cases h
      exact snd_pick hop hC hX hY he i
    · cases h
  · -- alloc
    rename_i t hop
    rw [Option.map_eq_some_iff] at h
    obtain ⟨z, hz, rfl⟩ := h
    exact snd_alloc hop hz he i
  · -- box
    rename_i t x hop
    rw [Option.map_eq_some_iff] at h
    obtain ⟨x', hX, rfl⟩ := h
    exact snd_box hop hX he i
  · -- build
    rename_i t parts hop
    split at h
    · rename_i z fs hz hu
      split at h
      · rename_i hsz
        rw [Option.map_eq_some_iff] at h
        obtain ⟨ps, hps, rfl⟩ := h
        exact snd_buildS hop hz hu hsz hps he i
      · cases h
    · rename_i z n e hz hu
      split at h
      · rename_i s hs
        rw [Option.map_eq_some_iff] at h
        obtain ⟨ps, hps, rfl⟩ := h
        exact snd_buildA hop hz hu hs hps he i
      · cases h
    · cases h
  · -- buildSlice
    rename_i t n parts hop
    split at h
    · rename_i e hE
      split at h
      · rename_i s z ps hs hz hps
        split at h
        · rename_i hcond
          cases h
          exact snd_buildSlice hop (elemT_und hE) hs hz hcond.1 hcond.2.1 hcond.2.2 hps he i
        · cases h
      · cases h
    · cases h
  · -- load
    rename_i t x hop
    split at h
    · rename_i agg s x' hagg hs hX
      simp only [Option.some.injEq] at h
      subst h
      have key : ∀ st, evalOp cal q o.dst (.load agg s x' (!agg && st)) fr σ = some (d, fr', σ') → Snd P g w a o fr' σ' d := fun st he => by
        cases agg with
        | true => exact snd_load hop hagg hs hX he i
        | false =>
          cases st with
          | false => exact snd_load hop hagg hs hX he i
          | true => exact snd_loadSteal hop hagg hX he i
      exact key _ he
    · cases h
  · -- store
    rename_i t x y hop
    split at h
    · rename_i s x' y' hs hX hY
      cases h
      exact snd_store hop hs hX hY he i
    · cases h
  · rename_i x hop
    rw [Option.map_eq_some_iff] at h
    obtain ⟨x', hX, rfl⟩ := h
    exact snd_nilCheck hop hX he i
  · -- bin
    rename_i op t x y u hop
    unfold compBin at h
    split at h
    · rename_i x' y' hu hX hY
      split at h
      · cases h
        exact snd_eqb (neg := false) hop hu hX hY he i
      · cases h
        exact snd_eqb (neg := true) hop hu hX hY he i
      · cases h
    · rename_i e x' hu hX hY
      split at h
      · cases h
        exact snd_eqn (neg := false) hop hu hX hY he i
      · cases h
        exact snd_eqn (neg := true) hop hu hX hY he i
      · cases h
    · rename_i td x' y' n1 n2 hu hX hY
      cases h
      exact snd_bin hop hX hY he i
    · cases h
  · rename_i op t x hop
    rw [Option.map_eq_some_iff] at h
    obtain ⟨x', hX, rfl⟩ := h
    exact snd_un hop hX he i
  · -- convert
    rename_i s t x hop
    split at h
    · rename_i k u x' ht hs hX
      cases h
      exact snd_conv hop ht (by rw [hs]; rfl) hX he i
    · cases h
  · -- makeFunc
    rename_i f first caps hop
    split at h
    · rename_i hf
      rw [Option.map_eq_some_iff] at h
      obtain ⟨xs, hX, rfl⟩ := h
      exact snd_mkfunc hop hf hX he i
    · cases h
  · rename_i t hop
    cases h
    exact snd_mkmap hop he i
  · -- makeSlice
    rename_i t l c hop
    split at h
    · rename_i e hE
      split at h
      · rename_i s b z l' c' hs hby hz hL hC
        split at h
        · rename_i hcond
          cases h
          exact snd_mkslice hop (elemT_und hE) hs hby hz hcond.1 hcond.2 hL hC he i
        · cases h
      · cases h
    · cases h
  · -- slice
    rename_i t x lo hi hop
    split at h
    · rename_i x' lo' hi' hX hlo hhi
      split at h
      · rename_i e hu
        rw [Option.map_eq_some_iff] at h
        obtain ⟨s, hs, rfl⟩ := h
        exact snd_slice hop hu hs hX hlo hhi he i
      · rename_i hu
        cases h
        exact snd_sliceStr hop hu hX hlo hhi he i
      · cases h
    · cases h
  · -- fieldAddr
    rename_i s x f hop
    split at h
    · rename_i fld x' hf hX
      split at h
      · rename_i n hn
        cases h
        exact snd_fieldAddr hop hf hn hX he i
      · cases h
    · cases h
  · -- field
    rename_i s x f hop
    split at h
    · rename_i fld x' hf hX
      split at h
      · rename_i agg sz hagg hsz
        cases h
        exact snd_field hop hf hagg hsz hX he i
      · cases h
    · cases h
  · -- indexAddr
    rename_i t x y hop
    split at h
    · rename_i x' y' hX hY
      split at h
      · rename_i e hu
        rw [Option.map_eq_some_iff] at h
        obtain ⟨s, hs, rfl⟩ := h
        exact snd_indexAddr hop hu hs hX hY he i
      · rename_i n e hu
        rw [Option.map_eq_some_iff] at h
        obtain ⟨s, hs, rfl⟩ := h
        exact snd_indexArrA hop hu hs hX hY he i
      · cases h
    · cases h
  · -- index
    rename_i t x y hop
    split at h
    · rename_i n e x' y' hu hX hY
      split at h
      · rename_i agg s hagg hs
        cases h
        exact snd_indexArrV hop hu hs hagg hX hY he i
      · cases h
    · rename_i x' y' hu hX hY
      cases h
      exact snd_indexStr hop hu hX hY he i
    · cases h
  · -- lookup
    rename_i t x y ok hop
    split at h
    · rename_i k e x' y' hu hX hY
      split at h
      · rename_i kk agg z hkk hagg hz
        cases h
        exact snd_lookup hop hu hkk hagg hz hX hY he i
      · cases h
    · cases h
  · -- mapUpdate
    rename_i t m' k x hop
    split at h
    · rename_i kt e m1 k1 x1 hu hM hK hX
      rw [Option.map_eq_some_iff] at h
      obtain ⟨kk, hkk, h⟩ := h
      split at h
      · cases h
        exact snd_mapUpdateP hop hu hkk hM hK hX he i
      · cases h
        exact snd_mapUpdate hop hu hkk hM hK hX he i
    · cases h
  · rename_i x n hop
    rw [Option.map_eq_some_iff] at h
    obtain ⟨x', hX, rfl⟩ := h
    exact snd_extract hop hX he i
  · rename_i c hop
    exact snd_callOp hc hci hop h he i
  · -- defer
    rename_i c hop
    split at h
    · rename_i t hcal
      rw [Option.map_eq_some_iff] at h
      obtain ⟨xs, hX, rfl⟩ := h
      exact snd_defer hop hcal hX he i
    · cases h
  · cases h

end
end Go.Abs

/-
  Regions: in the order of the text, and in any order that the edges allow.
-/
namespace Go.Abs
open Go Go.RowKit

section
variable {P : Program} {g g' : Gh} {w w' : World} {fr fr' : Fr} {σ σ' : St} {a : Act} {o : Oper} {d : D} {cal : Cal} {q mu : Bool} {ops : Array Oper} {Q : Exit → Act → World → Prop}

theorem opers_get {l0 : List Oper} : ∀ {l : List Oper} {ms : List MOper}, compOpers P mu l0 l = some ms → l.length = ms.length ∧ ∀ (i : Nat) (o : Oper), l[i]? = some o → ∃ m, ms[i]? = some m ∧ compOper P mu l0 o = some m
  | [], ms, h => by
    simp only [compOpers, Option.some.injEq] at h
    subst h
    exact ⟨rfl, fun i o h => by simp at h⟩
  | x :: l, ms, h => by
    simp only [compOpers] at h
    split at h
    · rename_i m r h1 h2
      simp only [Option.some.injEq] at h
      subst h
      obtain ⟨k1, k2⟩ := opers_get h2
      refine ⟨by simp [k1], fun i o ho => ?_⟩
      cases i with
      | zero => simp at ho; subst ho; exact ⟨m, rfl, h1⟩
      | succ i => simpa using k2 i o (by simpa using ho)
    · cases h

theorem compOper_op {l0 : List Oper} {m : MOper} (h : compOper P mu l0 o = some m) : compOp P mu l0 o = some m.op ∧ compGuard l0 o.guard = some m.guard ∧ m.dst = o.dst := by
  unfold compOper at h
  split at h
  · rename_i op gg h1 h2
    cases h
    exact ⟨h1, h2, rfl⟩
  · cases h

theorem rep_undef {v : Value} (h : Rep g v .undef) : v = undef := by
  cases h
  rfl

theorem wanted_ok (s : SInv P g w fr a.tmps) {mg : Option (Nat × Bool)} (h : compGuard ops.toList o.guard = some mg) {b : Bool} (hw : wantedD fr mg = some b) : Region.wanted o (yielded ops a.tmps) = b := by
  unfold Region.wanted
  cases hg : o.guard with
  | none =>
    rw [hg] at h
    simp only [compGuard, Option.some.injEq] at h
    subst h
    simpa [wantedD] using hw
  | some jw =>
    obtain ⟨j, want⟩ := jw
    rw [hg] at h
    simp only [compGuard] at h
    split at h
    · rename_i t ht
      simp only [Option.some.injEq] at h
      subst h
      simp only [wantedD] at hw
      split at hw
      · rename_i b' hb
        simp only [Option.some.injEq] at hw
        subst hw
        have ht' : (ops[j]?).bind (·.dst) = some t := by simpa using ht
        rcases at_cases fr t with hs | ⟨_, hj⟩
        · rw [hb] at hs
          obtain ⟨v, h1, h2, _⟩ := s.slots t _ hs
          have := rep_bool h2
          subst this
          simp only [yielded, ht', Option.bind_some, h1]
          cases b' <;> cases want <;> rfl
        · rw [hj] at hb
          cases hb
      · rename_i hb
        simp only [Option.some.injEq] at hw
        subst hw
        have ht' : (ops[j]?).bind (·.dst) = some t := by simpa using ht
        rcases at_cases fr t with hs | ⟨_, hj⟩
        · rw [hb] at hs
          obtain ⟨v, h1, h2, _⟩ := s.slots t _ hs
          have := rep_undef h2
          subst this
          simp only [yielded, ht', Option.bind_some, h1]
          cases want <;> rfl
        · rw [hj] at hb
          cases hb
      · cases hw
    · cases h

/-- One operation of a region. -/
theorem snd_runOp (hc : CalOK P cal) (hci : CalIn P cal) {m : MOper} (hm : compOper P mu ops.toList o = some m) (hr : runOp cal q m fr σ = some (fr', σ')) (i : Inv P g w fr σ a)
    (next : Act → World → Prop) (hn : ∀ a' w' g', Ext g w g' w' → Inv P g' w' fr' σ' a' → next a' w') :
    if Region.wanted o (yielded ops a.tmps) then o.wp P a w next Q else next (a.put o.dst undef) w := by
  obtain ⟨h1, h2, h3⟩ := compOper_op hm
  unfold runOp at hr
  split at hr
  · cases hr
  · rename_i hw
    simp only [Option.some.injEq, Prod.mk.injEq] at hr
    obtain ⟨rfl, rfl⟩ := hr
    rw [wanted_ok i.s h2 hw]
    simp only [Bool.false_eq_true, if_false]
    rw [h3] at hn
    exact hn _ _ g (.refl g w) (i.put o.dst .undef (fun _ _ => .of_ne rfl) (fun s off e => by cases e))
  · rename_i hw
    split at hr
    · rename_i d fr1 σ1 he
      simp only [Option.some.injEq, Prod.mk.injEq] at hr
      obtain ⟨rfl, rfl⟩ := hr
      rw [wanted_ok i.s h2 hw]
      simp only [if_true]
      rw [h3] at he hn
      exact snd_op hc hci h1 he i next Q hn
    · cases hr

theorem wp_ops_list (hc : CalOK P cal) (hci : CalIn P cal) : ∀ (l : List Oper) {ms : List MOper} {fr : Fr} {σ : St} {a : Act} {g : Gh} {w : World}, compOpers P mu ops.toList l = some ms → runOps cal q ms fr σ = some (fr', σ') → Inv P g w fr σ a →
    (∀ a' w' g', Ext g w g' w' → Inv P g' w' fr' σ' a' → Q .normal a' w') → wpList P ops Q l a w
  | [], ms, fr, σ, a, g, w, hms, hr, i, hn => by
    simp only [compOpers, Option.some.injEq] at hms
    subst hms
    simp only [runOps, Option.some.injEq, Prod.mk.injEq] at hr
    obtain ⟨rfl, rfl⟩ := hr
    exact hn a w g (.refl g w) i
  | o :: l, ms, fr, σ, a, g, w, hms, hr, i, hn => by
    simp only [compOpers] at hms
    split at hms
    · rename_i m r h1 h2
      simp only [Option.some.injEq] at hms
      subst hms
      simp only [runOps] at hr
      split at hr
      · rename_i fr1 σ1 hop
        have := snd_runOp (Q := Q) hc hci h1 hop i (wpList P ops Q l) (fun a' w' g' e1 i1 => wp_ops_list hc hci l h2 hr i1 (fun a2 w2 g2 e2 i2 => hn a2 w2 g2 (e1.trans e2) i2))
        unfold wpList
        split
        · rename_i hw
          rw [if_pos hw] at this
          exact .inl this
        · rename_i hw
          rw [if_neg hw] at this
          exact this
      · cases hr
    · cases hms

/-! any order -/
theorem snoc_ind {α : Type} {p : List α → Prop} (h0 : p []) (h1 : ∀ l x, p l → p (l ++ [x])) (l : List α) : p l := by
  have : ∀ r : List α, p r.reverse := fun r => by
    induction r with
    | nil => exact h0
    | cons x r ih => rw [List.reverse_cons]; exact h1 _ _ ih
  simpa using this l.reverse

theorem all_of_range {α : Type} : ∀ l : List α, (List.range l.length).filterMap (l[·]?) = l
  | [] => rfl
  | x :: l => by
    rw [List.length_cons, List.range_succ_eq_map, List.filterMap_cons]
    simp only [List.getElem?_cons_zero, List.filterMap_map]
    have := all_of_range l
    congr 1

theorem foreOf_snoc (l : List Oper) (x : Oper) : foreOf (l ++ [x]) = foreOf l ++ [(x.after.toList.filter (Region.binds .any)).foldl (fun r e => joinN (e.on :: (foreOf l).getD e.on []) r) []] := by
  simp only [foreOf, List.foldl_append, List.foldl_cons, List.foldl_nil]

theorem foreOf_len (l : List Oper) : (foreOf l).length = l.length := by
  refine snoc_ind (p := fun l => (foreOf l).length = l.length) rfl (fun l x ih => ?_) l
  rw [foreOf_snoc]
  simp [ih]

theorem getD_pre {α : Type} (l r : List (List α)) {i : Nat} {k : α} (h : k ∈ l.getD i []) : k ∈ (l ++ r).getD i [] := by
  have hlt : i < l.length := by
    rcases Nat.lt_or_ge i l.length with h1 | h1
    · exact h1
    · simp [List.getD_eq_getElem?_getD, List.getElem?_eq_none h1] at h
  rw [List.getD_eq_getElem?_getD, List.getElem?_append_left hlt, ← List.getD_eq_getElem?_getD]
  exact h

theorem foldl_join (f : Edge → List Nat) : ∀ (es : List Edge) (acc : List Nat) (k : Nat), k ∈ es.foldl (fun r e => joinN (f e) r) acc → k ∈ acc ∨ ∃ e ∈ es, k ∈ f e
  | [], acc, k, h => .inl h
  | x :: es, acc, k, h => by
    rcases foldl_join f es _ k h with h | ⟨e, he, h⟩
    · rcases joinN_mem _ _ _ h with h | h
      · exact .inr ⟨x, by simp, h⟩
      · exact .inl h
    · exact .inr ⟨e, List.mem_cons_of_mem _ he, h⟩

theorem foreOf_step (l : List Oper) : ∀ (j k : Nat), k ∈ (foreOf l).getD j [] → ∃ o, l[j]? = some o ∧ ∃ e ∈ o.after, Region.binds .any e = true ∧ (k = e.on ∨ k ∈ (foreOf l).getD e.on []) := by
  refine snoc_ind (p := fun l => ∀ (j k : Nat), k ∈ (foreOf l).getD j [] → ∃ o, l[j]? = some o ∧ ∃ e ∈ o.after, Region.binds .any e = true ∧ (k = e.on ∨ k ∈ (foreOf l).getD e.on [])) (fun j k h => ?_) (fun l x ih => ?_) l
  · simp [foreOf] at h
  · intro j k h
    rw [foreOf_snoc] at h
    rcases Nat.lt_trichotomy j l.length with hj | hj | hj
    · rw [List.getD_eq_getElem?_getD, List.getElem?_append_left (by rw [foreOf_len]; exact hj), ← List.getD_eq_getElem?_getD] at h
      obtain ⟨o, h1, e, h2, h3, h4⟩ := ih j k h
      refine ⟨o, by rw [List.getElem?_append_left hj]; exact h1, e, h2, h3, ?_⟩
      rcases h4 with h4 | h4
      · exact .inl h4
      · right
        rw [foreOf_snoc]
        exact getD_pre _ _ h4
    · subst hj
      rw [List.getD_eq_getElem?_getD, List.getElem?_append_right (by rw [foreOf_len]; exact Nat.le_refl _)] at h
      simp only [foreOf_len, Nat.sub_self, List.getElem?_cons_zero, Option.getD_some] at h
      rcases foldl_join (fun e => e.on :: (foreOf l).getD e.on []) _ _ _ h with h | ⟨e, h12, h3⟩
      · simp at h
      obtain ⟨h1, h2⟩ := List.mem_filter.1 h12
      rw [List.mem_cons] at h3
      refine ⟨x, by simp, e, by simpa using h1, h2, ?_⟩
      rcases h3 with h3 | h3
      · exact .inl h3
      · right
        rw [foreOf_snoc]
        exact getD_pre _ _ h3
    · rw [List.getD_eq_getElem?_getD, List.getElem?_eq_none (by rw [List.length_append, foreOf_len]; simp; omega)] at h
      simp at h

def Closed (fore : List (List Nat)) (listed : Array Bool) : Prop := ∀ j, listed.getD j false = true → ∀ k ∈ fore.getD j [], listed.getD k false = true

/-- What is still to be done, in the order of the text. -/
def restOf (listed : Array Bool) (n : Nat) : List Nat := (List.range n).filter fun i => !listed.getD i true

theorem mem_rest {listed : Array Bool} {n i : Nat} : i ∈ restOf listed n ↔ i < n ∧ listed.getD i true = false := by
  simp [restOf]

theorem filter_split (p : Nat → Bool) : ∀ (l : List Nat) (i : Nat), i ∈ l → l.Pairwise (· < ·) → p i = true →
    ∃ A B, l.filter p = A ++ i :: B ∧ (∀ k ∈ A, k < i ∧ p k = true) ∧ l.filter (fun k => p k && k != i) = A ++ B
  | [], i, h, _, _ => by cases h
  | x :: l, i, h, hs, hp => by
    rw [List.pairwise_cons] at hs
    rcases List.mem_cons.1 h with rfl | h
    · refine ⟨[], l.filter p, by simp [List.filter_cons, hp], by simp, ?_⟩
      simp only [List.filter_cons, bne_self_eq_false, Bool.and_false, Bool.false_eq_true, if_false, List.nil_append]
      apply List.filter_congr
      intro k hk
      have := hs.1 k hk
      have hne : (k != i) = true := by simp; omega
      simp [hne]
    · obtain ⟨A, B, h1, h2, h3⟩ := filter_split p l i h hs.2 hp
      have hxi : x < i := hs.1 i h
      have hne : (x != i) = true := by simp; omega
      by_cases hpx : p x = true
      · refine ⟨x :: A, B, by simp [List.filter_cons, hpx, h1], ?_, by simp [List.filter_cons, hpx, hne, h3]⟩
        intro k hk
        rcases List.mem_cons.1 hk with rfl | hk
        · exact ⟨hxi, hpx⟩
        · exact h2 k hk
      · exact ⟨A, B, by simp [List.filter_cons, hpx, h1], h2, by simp [List.filter_cons, hpx, h3]⟩

theorem rest_set (listed : Array Bool) (n i : Nat) : restOf (listed.setIfInBounds i true) n = (List.range n).filter (fun k => (!listed.getD k true) && k != i) := by
  unfold restOf
  apply List.filter_congr
  intro k _
  by_cases hk : i = k
  · subst hk
    by_cases hl : i < listed.size
    · simp [hl]
    · simp [Array.getElem?_eq_none (Nat.le_of_not_lt hl)]
  · rw [getD_set_ne true hk]
    have : (k != i) = true := by simp; omega
    simp [this]

theorem range_sorted (n : Nat) : (List.range n).Pairwise (· < ·) := List.pairwise_lt_range

theorem wp_ops_any (hc : CalOK P cal) (hci : CalIn P cal) {ms : List MOper} (hget0 : ∀ (i : Nat) (o : Oper), ops.toList[i]? = some o → ∃ m m0, ms[i]? = some m ∧ compOper P mu ops.toList o = some m0 ∧ ∀ (fr : Fr) (σ : St) (r : Fr × St), runOp cal q m fr σ = some r → runOp cal q m0 fr σ = some r) (hback : edgesBack ops.toList = true) (hpairs : pairsOK q ms (foreOf ops.toList) = true) :
    ∀ (fuel : Nat) (listed : Array Bool) {fr : Fr} {σ : St} {a : Act} {g : Gh} {w : World}, listed.size = ops.size → (restOf listed ops.size).length = fuel → Closed (foreOf ops.toList) listed →
    runOps cal q ((restOf listed ops.size).filterMap (ms[·]?)) fr σ = some (fr', σ') → Inv P g w fr σ a →
    (∀ a' w' g', Ext g w g' w' → Inv P g' w' fr' σ' a' → Q .normal a' w') → wpAny P .any ops Q fuel listed a w := by
  have nil : ∀ (listed : Array Bool), restOf listed ops.size = [] → Region.ready .any ops listed = [] := fun listed h => by
    apply List.eq_nil_iff_forall_not_mem.2
    intro j hj
    obtain ⟨h1, o, h2, _⟩ := mem_ready.1 hj
    have : j ∈ restOf listed ops.size := mem_rest.2 ⟨(Array.getElem?_eq_some_iff.1 h2).1, h1⟩
    rw [h] at this
    cases this
  intro fuel
  induction fuel with
  | zero =>
    intro listed fr σ a g w hsz hl hcl hr i hn
    have h0 := List.eq_nil_of_length_eq_zero hl
    rw [h0] at hr
    simp only [List.filterMap_nil, runOps, Option.some.injEq, Prod.mk.injEq] at hr
    obtain ⟨rfl, rfl⟩ := hr
    exact ⟨nil listed h0, hn a w g (.refl g w) i⟩
  | succ fuel ih =>
    intro listed fr σ a g w hsz hl hcl hr i hn
    refine ⟨fun hready => ?_, fun j hj => ?_⟩
    · -- the first that is left is ready
      exfalso
      cases hrest : restOf listed ops.size with
      | nil => rw [hrest] at hl; cases hl
      | cons j L =>
        have hj : j ∈ restOf listed ops.size := by rw [hrest]; exact List.mem_cons_self ..
        obtain ⟨h1, h2⟩ := mem_rest.1 hj
        have hmin : ∀ k, k < j → listed.getD k false = true := fun k hk => by
          cases hkl : listed.getD k true with
          | false =>
            have hkm : k ∈ restOf listed ops.size := mem_rest.2 ⟨by omega, hkl⟩
            have hs : (restOf listed ops.size).Pairwise (· < ·) := List.Pairwise.filter _ (range_sorted _)
            rw [hrest] at hkm hs
            rw [List.pairwise_cons] at hs
            rcases List.mem_cons.1 hkm with rfl | hkm
            · omega
            · have := hs.1 k hkm
              omega
          | true =>
            have hks : k < listed.size := by rw [hsz]; omega
            simpa [hks] using hkl
        have : j ∈ Region.ready .any ops listed := by
          refine mem_ready.2 ⟨h2, ops[j], by simp [h1], fun e he hb => hmin _ ?_⟩
          have := List.all_eq_true.1 hback j (List.mem_range.2 (by simpa using h1))
          have hoj : ops.toList[j]? = some ops[j] := by simp [h1]
          rw [hoj] at this
          have := Array.all_eq_true_iff_forall_mem.1 this e he
          simpa [hb] using this
        rw [hready] at this
        cases this
    · obtain ⟨h1, o, h2, h3⟩ := mem_ready.1 hj
      have hjn : j < ops.size := (Array.getElem?_eq_some_iff.1 h2).1
      obtain ⟨m, m0, hmj, hcomp, hann⟩ := hget0 j o (by simpa using h2)
      obtain ⟨A, B, s1, s2, s3⟩ := filter_split (fun k => !listed.getD k true) (List.range ops.size) j (List.mem_range.2 hjn) (range_sorted _) (by rw [h1]; rfl)
      rw [← rest_set] at s3
      have s1' : restOf listed ops.size = A ++ j :: B := s1
      -- none of those before is a forebear
      have hfj : ∀ k ∈ (foreOf ops.toList).getD j [], listed.getD k false = true := fun k hk => by
        obtain ⟨o', k1, e, k2, k3, k4⟩ := foreOf_step _ j k hk
        have hoo : o' = o := by
          have : ops.toList[j]? = some o := by simpa using h2
          rw [this] at k1
          exact (Option.some.inj k1).symm
        subst hoo
        have := h3 e k2 k3
        rcases k4 with rfl | k4
        · exact this
        · exact hcl _ this k k4
      rw [s1', List.filterMap_append, List.filterMap_cons, hmj] at hr
      simp only [] at hr
      have hap : ∀ x ∈ A.filterMap (ms[·]?), x.apart q m = true := fun x hx => by
        obtain ⟨k, hk, hkx⟩ := List.mem_filterMap.1 hx
        obtain ⟨k1, k2⟩ := s2 k hk
        have := List.all_eq_true.1 (List.all_eq_true.1 hpairs j (List.mem_range.2 (get_lt hmj))) k (List.mem_range.2 k1)
        rw [hkx, hmj] at this
        simp only [Bool.or_eq_true, List.contains_iff_mem] at this
        rcases this with h | h
        · have h5 := hfj k h
          have hks : k < listed.size := by rw [hsz]; omega
          have : listed.getD k true = true := by simpa [hks] using h5
          rw [this] at k2
          cases k2
        · exact h
      have hb := bubble _ _ hap hr
      simp only [runOps] at hb
      split at hb
      · rename_i fr1 σ1 hop
        rw [← List.filterMap_append, ← s3] at hb
        have hlen' : (restOf (listed.setIfInBounds j true) ops.size).length = fuel := by
          have : (restOf listed ops.size).length = (A ++ B).length + 1 := by rw [s1']; simp; omega
          rw [s3]
          omega
        have hcl' : Closed (foreOf ops.toList) (listed.setIfInBounds j true) := fun x hx k hk => by
          by_cases hxj : j = x
          · subst hxj
            exact getD_set_true (hfj k hk)
          · rw [getD_set_ne false hxj] at hx
            exact getD_set_true (hcl x hx k hk)
        have := snd_runOp (Q := Q) hc hci hcomp (hann _ _ _ hop) i (wpAny P .any ops Q fuel (listed.setIfInBounds j true)) (fun a' w' g' e1 i1 => ih _ (by simpa using hsz) hlen' hcl' hb i1 (fun a2 w2 g2 e2 i2 => hn a2 w2 g2 (e1.trans e2) i2))
        unfold wpOp
        rw [h2]
        simp only []
        split
        · rename_i hw
          rw [if_pos hw] at this
          exact .inl this
        · rename_i hw
          rw [if_neg hw] at this
          exact this
      · cases hb

theorem Inv.drawn (i : Inv P g w fr σ a) : Inv P g { w with drawn := w.drawn + 1 } fr σ a :=
  i.keep (C := fun _ => False) ⟨.refl g, Nat.le_refl _, fun _ _ _ => ⟨rfl, rfl, fun _ => rfl⟩⟩ (fun _ h => h.elim) (fun _ _ _ => rfl) i.h.imm rfl

theorem Ext.drawn (g : Gh) (w : World) : Ext g w g { w with drawn := w.drawn + 1 } :=
  ⟨.refl g, rfl, rfl, rfl, Nat.le_refl _, fun _ _ _ => ⟨rfl, rfl⟩, fun _ _ _ h => .inl h, rfl⟩

theorem annot_run {t : Nat} {o : MOper} {r : Fr × St} (h : runOp cal q (annot t o) fr σ = some r) : runOp cal q o fr σ = some r := by
  obtain ⟨dst, op, gd⟩ := o
  cases op with
  | load agg s a st =>
    cases st with
    | true => exact h
    | false =>
      have h' : runOp cal q ⟨dst, .loadA t agg s a, gd⟩ fr σ = some r := h
      unfold runOp at h' ⊢
      simp only [loadA_eq] at h' ⊢
      split at h'
      · cases h'
      · exact h'
      · by_cases hi : (fr.val a).inBox t = true
        · rw [if_pos hi] at h'
          cases h'
        · rw [if_neg hi] at h'
          exact h'
  | store s a x =>
    cases a with
    | const d => exact h
    | tmp u =>
      by_cases hu : u = t
      · subst hu
        have h' : runOp cal q ⟨dst, .storeR s u x, gd⟩ fr σ = some r := by
          have : annot u ⟨dst, .store s (.tmp u) x, gd⟩ = ⟨dst, .storeR s u x, gd⟩ := if_pos rfl
          rw [this] at h
          exact h
        unfold runOp at h' ⊢
        simp only [storeR_eq] at h' ⊢
        split at h'
        · cases h'
        · exact h'
        · by_cases hi : (fr.val (.tmp u)).inBox u = true
          · rw [if_pos hi] at h'
            exact h'
          · rw [if_neg hi] at h'
            cases h'
      · have : annot t ⟨dst, .store s (.tmp u) x, gd⟩ = ⟨dst, .store s (.tmp u) x, gd⟩ := if_neg hu
        rw [this] at h
        exact h
  | alloc z =>
    by_cases hu : dst = some t
    · subst hu
      have h' : runOp cal q ⟨some t, .allocR z, gd⟩ fr σ = some r := by
        have : annot t ⟨some t, .alloc z, gd⟩ = ⟨some t, .allocR z, gd⟩ := if_pos rfl
        rw [this] at h
        exact h
      unfold runOp at h' ⊢
      simp only [evalOp] at h' ⊢
      split at h'
      · cases h'
      · exact h'
      · by_cases hi : (fr.boxAt t).isNone = true
        · rw [if_pos hi] at h'
          have hn : fr.newBox t z = fr.setBox t (some z) := by
            unfold Fr.newBox
            cases hb : fr.boxAt t with
            | none => rfl
            | some b =>
              rw [hb] at hi
              cases hi
          rw [hn]
          exact h'
        · rw [if_neg hi] at h'
          cases h'
    · have : annot t ⟨dst, .alloc z, gd⟩ = ⟨dst, .alloc z, gd⟩ := if_neg hu
      rw [this] at h
      exact h
  | _ => exact h

theorem annotS_run {t : Nat} {o : MOper} {r : Fr × St} (h : runOp cal false (annotS t o) fr σ = some r) : runOp cal false o fr σ = some r := by
  obtain ⟨dst, op, gd⟩ := o
  cases op with
  | call f xs =>
    have h' : runOp cal false ⟨dst, .callS f xs, gd⟩ fr σ = some r := h
    unfold runOp at h' ⊢
    simp only at h' ⊢
    split at h'
    · cases h'
    · exact h'
    · rename_i hw
      simp only [evalOp] at h' ⊢
      by_cases hn : (xs.map fr.arg).all D.notL = true
      · rw [if_pos hn] at h'
        simp only [Bool.false_eq_true, if_false, promA_ok xs hn]
        exact h'
      · rw [if_neg hn] at h'
        cases h'
  | _ => exact annot_run (t := t) h

/-- A region's operations, in the order of the text, or in any order that may be drawn. -/
def RegionW (P : Program) (ops : Array Oper) (draw : Bool) (Q : Exit → Act → World → Prop) (a : Act) (w : World) : Prop :=
  if draw then ∀ t, wpOps P ops Q (Region.schedule (P.follows .mixedOrders) ops t) a { w with drawn := w.drawn + 1 } else wpOps P ops Q (List.range ops.size) a w
theorem regionW_list (h : wpList P ops Q ops.toList a w) : RegionW P ops false Q a w := by
  show wpOps P ops Q (List.range ops.size) a w
  rw [List.range_eq_range', ← Array.length_toList, wpOps_eq_wpList ops.toList 0 (by simp)]
  exact h
theorem regionW_any (hm : P.follows .mixedOrders = true) (h : wpAny P .any ops Q ops.size (Array.replicate ops.size false) a { w with drawn := w.drawn + 1 }) : RegionW P ops true Q a w := by
  intro t
  simp only [Region.schedule, hm, Bool.true_or, if_true]
  exact wpAny_sound ops.size t _ a _ h

/-- A region. -/
theorem region_w (hm : P.follows .mixedOrders = true) (hc : CalOK P cal) (hci : CalIn P cal) {id : Nat} {draw : Bool} {keep : List Nat} {quiet : Bool} {ms : List MOper} (hcomp : compC P mu keep (.region id ops draw) = some (.region quiet ms))
    (hr : runOps cal quiet ms fr σ = some (fr', σ')) (i : Inv P g w fr σ a) (hn : ∀ a' w' g', Ext g w g' w' → Inv P g' w' fr' σ' a' → Q .normal a' w') : RegionW P ops draw Q a w := by
  simp only [compC] at hcomp
  split at hcomp
  · rename_i ms' h1
    cases draw with
    | false =>
      simp only [Bool.not_false, if_true, Option.some.injEq, MCode.region.injEq] at hcomp
      obtain ⟨rfl, rfl⟩ := hcomp
      exact regionW_list (wp_ops_list hc hci ops.toList h1 hr i hn)
    | true =>
      simp only [Bool.not_true, Bool.false_eq_true, if_false] at hcomp
      split at hcomp
      · rename_i hb
        obtain ⟨hlen, hget⟩ := opers_get h1
        have fin : ∀ (f : MOper → MOper), (∀ (o : MOper) (fr : Fr) (σ : St) (r : Fr × St), runOp cal quiet (f o) fr σ = some r → runOp cal quiet o fr σ = some r) → pairsOK quiet (ms'.map f) (foreOf ops.toList) = true → ms'.map f = ms → RegionW P ops true Q a w := fun f hf hp he => by
          subst he
          have hrest : restOf (Array.replicate ops.size false) ops.size = List.range ops.size := by
            unfold restOf
            apply List.filter_eq_self.2
            intro k hk
            have := List.mem_range.1 hk
            simp [this]
          have hg0 : ∀ (i : Nat) (o : Oper), ops.toList[i]? = some o → ∃ m m0, (ms'.map f)[i]? = some m ∧ compOper P mu ops.toList o = some m0 ∧ ∀ (fr : Fr) (σ : St) (r : Fr × St), runOp cal quiet m fr σ = some r → runOp cal quiet m0 fr σ = some r := fun j o ho => by
            obtain ⟨m, q1, q2⟩ := hget j o ho
            exact ⟨f m, m, by rw [List.getElem?_map, q1]; rfl, q2, hf m⟩
          refine regionW_any hm (wp_ops_any hc hci hg0 hb hp ops.size _ (by simp) (by rw [hrest]; simp) (fun j hj => ?_) ?_ i.drawn (fun a' w' g' e1 i1 => hn a' w' g' ((Ext.drawn g w).trans e1) i1))
          · exfalso
            by_cases hjs : j < ops.size
            · simp [hjs] at hj
            · simp [hjs] at hj
          · have : (List.range ops.size).filterMap ((ms'.map f)[·]?) = ms'.map f := by
              have hl : (ms'.map f).length = ops.size := by rw [List.length_map, ← hlen]; simp
              rw [← hl]
              exact all_of_range (ms'.map f)
            rw [hrest, this]
            exact hr
        have hid : ms'.map (fun o => o) = ms' := by simp
        split at hcomp
        · rename_i hp
          cases hcomp
          exact fin (fun o => o) (fun _ _ _ _ h => h) (by rw [hid]; exact hp) hid
        · split at hcomp
          · rename_i hp
            cases hcomp
            exact fin (fun o => o) (fun _ _ _ _ h => h) (by rw [hid]; exact hp) hid
          · split at hcomp
            · rename_i t hf
              cases hcomp
              have hp : pairsOK false (ms'.map (annotS t)) (foreOf ops.toList) = true := List.find?_some (p := fun t => pairsOK false (ms'.map (annotS t)) (foreOf ops.toList)) hf
              exact fin (annotS t) (fun _ _ _ _ h => annotS_run h) hp rfl
            · split at hcomp
              · rename_i t hf
                cases hcomp
                have hp : pairsOK true (ms'.map (annot t)) (foreOf ops.toList) = true := List.find?_some (p := fun t => pairsOK true (ms'.map (annot t)) (foreOf ops.toList)) hf
                exact fin (annot t) (fun _ _ _ _ h => annot_run h) hp rfl
              · cases hcomp
      · cases hcomp
  · cases hcomp

theorem wp_region_code (hm : P.follows .mixedOrders = true) (hc : CalOK P cal) (hci : CalIn P cal) {id : Nat} {draw : Bool} {keep : List Nat} {quiet : Bool} {ms : List MOper} (hcomp : compC P mu keep (.region id ops draw) = some (.region quiet ms))
    (hr : runOps cal quiet ms fr σ = some (fr', σ')) (i : Inv P g w fr σ a) (hn : ∀ a' w' g', Ext g w g' w' → Inv P g' w' fr' σ' a' → Q .normal a' w') : (Code.region id ops draw).wp P Q a w := by
  have h := region_w hm hc hci hcomp hr i hn
  cases draw with
  | false => exact wp_region h
  | true => exact wp_region_draw h

/-! within a round of a range over a function -/
theorem calls_in (l n : Nat) {f : FuncId} {args : Array Value} {R : Ending → World → Prop} (h : Calls P f args w R) : CallsIn (Fence.wide.inRound l) n P f args w R := CallsIn.inRound l (callsIn_wide.2 h)
theorem oper_in {l n : Nat} {next next' : Act → World → Prop} (hd : ∀ c, o.op ≠ .defer c) (hno : ¬ LetsOut Q) (hnx : ∀ a w, next a w → next' a w) (h : o.wp P a w next Q) : o.wpIn (Fence.wide.inRound l) n P a w next' Q := by
  refine ⟨fun _ _ => trivial, ?_⟩
  have hs : Oper.semAt (Fence.wide.inRound l).round a.eval o = execOp a.eval o := Oper.semAt_some l a.eval o hd
  rw [hs]
  unfold Oper.wp at h
  generalize (execOp a.eval o).run P w = r at h ⊢
  cases r with
  | ok x w' =>
    cases x <;> simp only [Oper.upon] at h <;> simp only [Oper.uponIn] <;>
      first
        | exact h.elim
        | exact hnx _ _ h
        | (refine ⟨fun hh => absurd hh (by simp [Fence.wide]), calls_in l _ (Calls.mono h (fun e w'' he => ?_))⟩
           cases e <;> first | exact hnx _ _ he | exact he)
        | (refine ⟨fun hh => absurd hh (by simp [Fence.wide]), fun c cs _ => ?_⟩
           obtain ⟨v, w2, h1, h2⟩ := h c cs
           exact ⟨v, w2, hnx _ _ h1, stepsIn_wide.2 h2⟩)
  | halt x w' => cases x <;> simp only [Oper.upon] at h <;> first | exact h.elim | exact h
theorem wpOps_in {l n : Nat} (hnd : ∀ o ∈ ops.toList, ∀ c, o.op ≠ .defer c) (hno : ¬ LetsOut Q) : ∀ (is : List Nat) (a : Act) (w : World), wpOps P ops Q is a w → wpOpsIn (Fence.wide.inRound l) n P ops Q is a w
  | [], a, w, h => h
  | i :: is, a, w, h => by
    simp only [wpOps] at h
    simp only [wpOpsIn]
    cases ho : ops[i]? with
    | none =>
      rw [ho] at h
      exact wpOps_in hnd hno is a w h
    | some o =>
      rw [ho] at h
      simp only [] at h ⊢
      split
      · rename_i hw
        rw [if_pos hw] at h
        rcases h with h | ⟨_, h⟩
        · exact oper_in (hnd o (by simpa using Array.mem_of_getElem? ho)) hno (fun a w h => wpOps_in hnd hno is a w h) h
        · exact absurd h hno
      · rename_i hw
        rw [if_neg hw] at h
        exact ⟨fun _ _ => trivial, wpOps_in hnd hno is _ w h⟩
def noDefer (ops : Array Oper) : Bool := ops.toList.all fun o => match o.op with | .defer _ => false | _ => true
theorem noDefer_of (h : noDefer ops = true) : ∀ o ∈ ops.toList, ∀ c, o.op ≠ .defer c := fun o ho c hc => by
  have := List.all_eq_true.1 h o ho
  rw [hc] at this
  cases this
theorem wpIn_region_code {l n : Nat} (hm : P.follows .mixedOrders = true) (hc : CalOK P cal) (hci : CalIn P cal) {id : Nat} {draw : Bool} {keep : List Nat} {quiet : Bool} {ms : List MOper} (hcomp : compC P mu keep (.region id ops draw) = some (.region quiet ms)) (hnd : noDefer ops = true) (hno : ¬ LetsOut Q)
    (hr : runOps cal quiet ms fr σ = some (fr', σ')) (i : Inv P g w fr σ a) (hn : ∀ a' w' g', Ext g w g' w' → Inv P g' w' fr' σ' a' → Q .normal a' w') : (Code.region id ops draw).wpIn (Fence.wide.inRound l) n P Q a w := by
  have h := region_w hm hc hci hcomp hr i hn
  cases draw with
  | false => exact wpIn_region (wpOps_in (noDefer_of hnd) hno _ _ _ h)
  | true => exact wpIn_region_draw fun t => wpOps_in (noDefer_of hnd) hno _ _ _ (h t)

end
end Go.Abs
