/-
  A new row; what a literal lays; what append leaves.
-/
import Derived.Test.YtjmhfliaehhijaaOps8
import Derived.Great.BuildSlice
set_option linter.unusedVariables false
set_option linter.unusedSimpArgs false
namespace Go.Abs
open Go Go.RowKit

section
variable {P : Program} {g g' : Gh} {w w' : World} {fr fr' : Fr} {σ σ' : St} {a : Act} {o : Oper} {d : D} {cal : Cal} {q mu : Bool} {ops : List Oper}

/-- A ghost with a new block whose first cells stay. -/
def Gh.newRow (g : Gh) (b : Nat) (vs : List Value) (tag : Tag) : Gh :=
  { g with I := fun x off => if x = b then vs[off]? else g.I x off, ω := fun x => if x = b then tag else g.ω x }

theorem newRow_ok (i : Inv P g w fr σ a) {arr : Array Value} {e : TypeId} {inf : TypeInfo} {vs : List Value} {es : List (List D)} {cap : Nat} (tag : Tag)
    (hheap : w'.heap = w.heap.push (.cells arr e)) (hos : w'.os = w.os) (htape : w'.tape = w.tape) (hout : w'.output = w.output)
    (hi : P.info? e = some inf) (hz : 0 < inf.size) (hel : Elts g vs es inf.size) (hsz : arr.size = cap * inf.size) (hcap : es.length ≤ cap) (hmax : cap ≤ maxLen) (hpre : arr.toList.take vs.length = vs) :
    ∃ g', Ext g w g' w' ∧ Inv P g' w' fr σ a ∧ Rep g' (.slice (some ⟨w.heap.size, 0, none⟩) es.length cap) (.sl es (some e)) ∧ Own P g' w' tag (.slice (some ⟨w.heap.size, 0, none⟩) es.length cap) (.sl es (some e)) ∧ g'.n = g.n ∧ g'.β = g.β := by
  have hold : ∀ b, b < w.heap.size → w'.heap[b]? = w.heap[b]? := fun b hb => by rw [hheap, Array.getElem?_push, if_neg (by omega)]
  have hnew : w'.heap[w.heap.size]? = some (.cells arr e (0, 0)) := by rw [hheap]; simp
  have hcell : ∀ b off, b < w.heap.size → w'.cell? ⟨b, off, none⟩ = w.cell? ⟨b, off, none⟩ := fun b off hb => by simp [World.cell?, hold b hb]
  have hle : g.Le (g.newRow w.heap.size vs tag) := by
    refine ⟨fun b off v hv => ?_, Nat.le_refl _, fun _ _ => rfl, fun _ _ => rfl⟩
    have := imm_lt i.h hv
    simp only [Gh.newRow]
    rw [if_neg (by omega)]
    exact hv
  have hk : Keep g w (g.newRow w.heap.size vs tag) w' (fun _ => False) :=
    ⟨hle, by rw [hheap]; simp, fun b hb _ => ⟨hold b hb, by simp [Gh.newRow, Nat.ne_of_lt hb], fun off => by simp [Gh.newRow, Nat.ne_of_lt hb]⟩⟩
  have hvs : ∀ (k : Nat) (u : Value), vs[k]? = some u → arr[k]? = some u := fun k u hu => by
    have : (arr.toList.take vs.length)[k]? = some u := by rw [hpre]; exact hu
    rw [List.getElem?_take, if_pos (get_lt hu)] at this
    simpa using this
  have himm : ∀ (b off : Nat) (v : Value), (g.newRow w.heap.size vs tag).I b off = some v → w'.cell? ⟨b, off, none⟩ = some v := fun b off v hv => by
    simp only [Gh.newRow] at hv
    split at hv
    · rename_i hb
      subst hb
      simp [World.cell?, hnew, hvs off v hv]
    · rw [hcell b off (imm_lt i.h hv)]
      exact i.h.imm b off v hv
  refine ⟨g.newRow w.heap.size vs tag, Ext.of_keep hk (fun _ h => h.elim) hos htape hout, i.keep hk (fun _ h => h.elim) (fun _ _ _ => rfl) himm rfl, ?_, ?_, rfl, rfl⟩
  · refine (hel.mono hle).rep_sl hcap (fun k u hu => ?_)
    simp [Gh.newRow, hu]
  · intro es' e' hd
    cases hd
    refine .inr ⟨inf, vs, hi, hz, fun x hx => (hel.each x hx).1, ⟨hel.len, .inr ⟨w.heap.size, cap, arr, rfl, Nat.zero_le _, hnew, hcap, hmax, hsz, by rw [← hel.len]; exact hpre⟩⟩, fun b hb => ?_⟩
    simp only [Value.ownBlock, Option.some.injEq] at hb
    subst hb
    refine ⟨by simp [Gh.newRow], fun off ho => ?_⟩
    simp only [Gh.newRow, if_true]
    exact List.getElem?_eq_none (by rw [hel.len]; exact ho)

/-! a literal -/
def PartsE (g : Gh) : List (Nat × Value) → List (Nat × D) → Prop
  | [], [] => True
  | (i, v) :: vs, (j, d) :: ds => i = j ∧ Rep g v d ∧ PartsE g vs ds
  | _, _ => False

theorem partsE_rep (s : SInv P g w fr a.tmps) : ∀ {parts : List (Nat × Operand)} {ps : List (Nat × X)}, partsE parts = some ps → PartsE g (parts.map fun (i, x) => (i, a.eval x)) (ps.map fun (i, x) => (i, fr.val x))
  | [], ps, h => by simp [partsE] at h; subst h; trivial
  | (i, x) :: rest, ps, h => by
    simp only [partsE] at h
    split at h
    · rename_i x' r hx hr
      cases h
      exact ⟨rfl, (val_ok s hx).1, partsE_rep s hr⟩
    · cases h

theorem Elts.setAt {vs us : List Value} {es : List (List D)} {e : List D} {esz i : Nat} (h : Elts g vs es esz) (hi : i < es.length) (he : e.length = esz) (hp : e.all D.pure1 = true) (hu : AllRep (Rep g) us e) :
    Elts g (Go.Abs.setAt vs (i * esz) us) (es.set i e) esz := by
  have hlen : i * esz + us.length ≤ vs.length := by
    rw [hu.1, he, h.len]
    have : (i + 1) * esz ≤ es.length * esz := Nat.mul_le_mul_right _ hi
    rw [Nat.add_mul] at this
    omega
  refine ⟨by rw [setAt_length, List.length_set]; exact h.len, fun x hx => ?_, fun k x j d h1 h2 => ?_⟩
  · rcases List.mem_or_eq_of_mem_set hx with h1 | rfl
    · exact h.each x h1
    · exact ⟨he, hp⟩
  · rw [list_set_get] at h1
    rw [setAt_get us vs _ hlen, hu.1, he]
    split at h1
    · rename_i hc
      obtain ⟨rfl, _⟩ := hc
      cases h1
      have hj : j < esz := by rw [← he]; exact get_lt h2
      rw [if_pos (by omega)]
      obtain ⟨u, q1, q2⟩ := hu.get h2
      exact ⟨u, by rw [← q1]; congr 1; omega, q2⟩
    · rename_i hc
      have hne : k ≠ i := fun e => hc ⟨e, hi⟩
      have hj : j < esz := by rw [← (h.each x (List.mem_of_getElem? h1)).1]; exact get_lt h2
      have : ¬ (i * esz ≤ k * esz + j ∧ k * esz + j < i * esz + esz) := by
        rintro ⟨p1, p2⟩
        rcases Nat.lt_or_gt_of_ne hne with h3 | h3
        · have := idx_lt h3 hj
          omega
        · have : (i + 1) * esz ≤ k * esz := Nat.mul_le_mul_right _ h3
          rw [Nat.add_mul] at this
          omega
      rw [if_neg this]
      exact h.rep k x j d h1 h2

theorem fillE_run {esz : Nat} : ∀ (vs : List (Nat × Value)) (ps : List (Nat × D)) (cells : Array Value) (es r : List (List D)), PartsE g vs ps → Elts g cells.toList es esz → fillE es esz ps = some r →
    ∃ out, Instr.fill (fun i => some (i * esz, esz)) cells vs = some out ∧ Elts g out.toList r esz
  | [], [], cells, es, r, _, h, hf => by
    simp only [fillE, Option.some.injEq] at hf
    subst hf
    exact ⟨cells, rfl, h⟩
  | [], _ :: _, _, _, _, hp, _, _ => hp.elim
  | _ :: _, [], _, _, _, hp, _, _ => hp.elim
  | (i, v) :: vs, (j, d) :: ps, cells, es, r, hp, h, hf => by
    obtain ⟨rfl, p2, p3⟩ := hp
    simp only [fillE] at hf
    split at hf
    · rename_i hc
      obtain ⟨c1, c2, c3⟩ := hc
      have hcells := p2.cells (List.all_eq_true.2 fun x hx => plain_of_pure1 (List.all_eq_true.1 c3 x hx))
      have hstrip : AllRep (Rep g) v.cells.toList (d.cells.map D.strip) := by
        refine ⟨by simpa using hcells.1, fun j u e h1 h2 => ?_⟩
        simp only [List.getElem?_map, Option.map_eq_some_iff] at h2
        obtain ⟨e0, h2, rfl⟩ := h2
        exact (hcells.2 j u e0 h1 h2).strip
      have hvs : v.cells.size = esz := by rw [← c1, ← hcells.1]; simp
      have hset := h.setAt c2 (by simpa using c1) (List.all_eq_true.2 fun x hx => by
        obtain ⟨y, hy, rfl⟩ := List.mem_map.1 hx
        rw [pure1_strip]
        exact List.all_eq_true.1 c3 y hy) hstrip
      have hz := zip_setAt v.cells.toList 0 cells (i * esz)
      rw [Nat.add_zero] at hz
      obtain ⟨out, o1, o2⟩ := fillE_run vs ps (v.cells.zipIdx.foldl (fun cs (x : Value × Nat) => cs.setIfInBounds (i * esz + x.2) x.1) cells) _ r p3 (by
        rw [← Array.foldl_toList, Array.toList_zipIdx, hz]; exact hset) hf
      refine ⟨out, ?_, o2⟩
      unfold Instr.fill
      simp only
      have hle : i * esz + esz ≤ cells.size := by
        have h1 : (i + 1) * esz ≤ es.length * esz := Nat.mul_le_mul_right _ c2
        rw [Nat.add_mul] at h1
        have h2 : cells.size = es.length * esz := by rw [← h.len]; simp
        omega
      have hno : ¬ ((v.cells.size ≠ esz || i * esz + v.cells.size > cells.size) = true) := by
        simp only [ne_eq, gt_iff_lt, Bool.or_eq_true, decide_eq_true_eq, not_or, Decidable.not_not, Nat.not_lt]
        omega
      first
        | (rw [if_neg hno]; exact o1)
        | (rw [if_neg (by simpa using hno)]; exact o1)
    · cases hf

theorem zero_elts {zv : Value} {z : List D} {esz n : Nat} (h : AllRep (Rep g) zv.cells.toList z) (hz : z.length = esz) (hp : z.all D.pure1 = true) :
    Elts g ((Array.range (n * esz)).map (zv.cells[· % zv.cells.size]!)).toList (List.replicate n z) esz := by
  have hsz : zv.cells.size = esz := by rw [← hz, ← h.1]; simp
  refine ⟨by simp, fun e he => ?_, fun i e j d h1 h2 => ?_⟩
  · rw [List.eq_of_mem_replicate he]
    exact ⟨hz, hp⟩
  · have he := List.eq_of_mem_replicate (List.mem_of_getElem? h1)
    subst he
    have hj : j < esz := by rw [← hz]; exact get_lt h2
    have hi : i < n := by simpa using get_lt h1
    obtain ⟨u, q1, q2⟩ := h.get h2
    refine ⟨u, ?_, q2⟩
    have hlt := idx_lt hi hj
    simp only [Array.toList_map, Array.toList_range, List.getElem?_map, List.getElem?_range hlt, Option.map_some, hsz, (idx_div hj).2]
    have hq : zv.cells[j]? = some u := by simpa using q1
    rw [getElem!_def, hq]

theorem snd_buildSlice {t : TypeId} {n : Nat} {parts : Array (Nat × Operand)} (hop : o.op = .buildSlice t n parts) {e : TypeId} (ht : P.underlying t = some (.slice e)) {esz : Nat} (hs : sizeT P e = some esz) {z : List D} (hz : zeroOf P e = some z)
    (hzl : z.length = esz) (h0 : 0 < esz) (hn : n * esz ≤ 16777216) {ps : List (Nat × X)} (hps : partsE parts.toList = some ps)
    (he : evalOp cal q o.dst (.buildSlice e esz n z ps) fr σ = some (d, fr', σ')) (i : Inv P g w fr σ a) : Snd P g w a o fr' σ' d := by
  simp only [evalOp, Option.map_eq_some_iff] at he
  obtain ⟨r, h1, h2⟩ := he
  cases h2
  obtain ⟨zv, z1, z2, z3, z4⟩ := zeroOf_ok (g := g) hz
  have hs' := hs
  unfold sizeT at hs
  simp only [Option.map_eq_some_iff] at hs
  obtain ⟨inf, hi, rfl⟩ := hs
  have hzv : inf.zero = some zv := by simpa [hi] using z1
  obtain ⟨out, o1, o2⟩ := fillE_run (g := g) _ _ _ _ r (partsE_rep i.s hps) (zero_elts (n := n) z2 hzl z3) h1
  have hlen : r.length = n := by
    have : ∀ (ps : List (Nat × D)) (es r : List (List D)), fillE es inf.size ps = some r → r.length = es.length := by
      intro ps
      induction ps with
      | nil => intro es r h; simp only [fillE, Option.some.injEq] at h; rw [h]
      | cons x xs ih =>
        intro es r h
        simp only [fillE] at h
        split at h
        · rw [ih _ _ h]; simp
        · cases h
    rw [this _ _ _ h1]
    simp
  have hrun : (execOp a.eval o).run P w = .ok (.value (.slice (some ⟨w.heap.size, 0, none⟩) n n)) (w.alloc (.cells out e)) := by
    simp only [execOp, hop]
    refine run_vmap' ?_
    by_cases hn0 : n = 0
    · subst hn0
      have hp0 : ps = [] := by
        cases ps with
        | nil => rfl
        | cons x xs => simp [fillE] at h1
      subst hp0
      have hpe : parts.toList = [] := by
        cases hp : parts.toList with
        | nil => rfl
        | cons x xs =>
          rw [hp] at hps
          simp only [partsE] at hps
          split at hps <;> cases hps
      have hpa : parts = #[] := by cases parts; simp at hpe; simp [hpe]
      subst hpa
      have hout : out = #[] := by
        have := o2.len
        rw [hlen] at this
        simpa using this
      subst hout
      unfold Instr.buildSlice
      rw [run_bo (run_und ht)]
      simp only
      rw [run_bo (size_run hs')]
      have hr0 : Array.range 0 = #[] := rfl
      simp [Instr.fill, newRow, hr0]
    · refine run_buildSlice w t e n _ out inf zv ht hi hzv (by omega) ?_ ?_
      · intro h
        rcases Nat.mul_eq_zero.1 h with h | h <;> omega
      · simpa using o1
  obtain ⟨g', e1, e2, e3, e4, _⟩ := newRow_ok (w' := w.alloc (.cells out e)) i (match o.dst with | some t => .sbuf t | none => .sbuf 0) rfl rfl rfl rfl hi h0 o2 (cap := n)
    (by rw [← hlen, ← o2.len]; simp) (by omega) (by
      have : n ≤ n * inf.size := Nat.le_mul_of_pos_right n h0
      unfold maxLen
      omega) List.take_length
  rw [hlen] at e3 e4
  intro next Q hn'
  exact wp_value hrun (hn' _ _ g' e1 (e2.put o.dst e3 (fun t ht => by rw [ht] at e4; exact e4) (fun s off e => by cases e)))

end
end Go.Abs
