import Derived.Test.YtnjoledlgacpeaaOps18
import Derived.ProofKit
import Derived.OpenShut
set_option linter.unusedVariables false
set_option linter.unusedSimpArgs false
/-
  What a reading of the arguments says in the interpreter's data; and what a law that answers true owes to its statement.
-/
namespace Go.Abs
open Go Go.RowKit Go.WideShapes

inductive Wf (P : Program) : TypeId → List D → Prop
  | bool {t : TypeId} (h : P.underlying t = some .bool) (b : Bool) : Wf P t [.bool b]
  | int {t : TypeId} {k : IntKind} (h : P.underlying t = some (.int k)) (n : Int) (hw : (Lit.int k n).wf = true) : Wf P t [.int k n]
  | str {t : TypeId} (h : P.underlying t = some .string) (s : List UInt8) (hs : s.length ≤ maxLen) : Wf P t [.str s]
  | slice {t e : TypeId} (h : P.underlying t = some (.slice e)) (es : List (List D)) (hl : es.length ≤ maxLen) (hes : ∀ x ∈ es, Wf P e x) : Wf P t [.sl es none]
  | struct {t : TypeId} {fs : Array Field} (h : P.underlying t = some (.struct fs)) (parts : List (List D)) (hl : parts.length = fs.toList.length)
      (hf : ∀ (i : Nat) (f : Field) (p : List D), fs.toList[i]? = some f → parts[i]? = some p → Wf P f.type p) : Wf P t parts.flatten
  | array {t e : TypeId} {n : Nat} (h : P.underlying t = some (.array n e)) (parts : List (List D)) (hl : parts.length = n) (hp : ∀ p ∈ parts, Wf P e p) : Wf P t parts.flatten

def contigB (P : Program) : Nat → List Field → Nat → Bool
  | off, [], n => off == n
  | off, f :: fs, n => f.offset == off && contigB P (off + P.cellsOf f.type) fs n

def goodT (P : Program) (S : List TypeId) (t : TypeId) : Bool :=
  match P.underlying t with
  | some .bool | some (.int _) | some .string => true
  | some (.slice e) => S.contains e && decide (0 < P.cellsOf e)
  | some (.struct fs) => fs.toList.all (fun f => S.contains f.type) && contigB P 0 fs.toList (P.cellsOf t)
  | some (.array n e) => S.contains e && (n * P.cellsOf e == P.cellsOf t)
  | _ => false

/-- All that the world holds, as data that stay. -/
def seen (W : World) : Gh := Gh.alone fun b off => W.cell? ⟨b, off, none⟩

section
variable {H : Type} {enc : TypeId × Value → H} {P : Program} {W : World} {S : List TypeId} {T : Table}

theorem contig_rep {R : Value → D → Prop} {cs : List Value} : ∀ (fs : List Field) (off n : Nat) (parts : List (List D)), contigB P off fs n = true → parts.length = fs.length → cs.length = n →
    (∀ (i : Nat) (f : Field) (p : List D), fs[i]? = some f → parts[i]? = some p → AllRep R ((cs.drop f.offset).take (P.cellsOf f.type)) p) → AllRep R (cs.drop off) parts.flatten
  | [], off, n, parts, h, hl, hcs, hp => by
    have : parts = [] := List.eq_nil_of_length_eq_zero (by simpa using hl)
    subst this
    have h0 : off = n := by simpa [contigB] using h
    subst h0
    rw [List.drop_of_length_le (by omega)]
    exact ⟨rfl, fun i v d h => by simp at h⟩
  | f :: fs, off, n, [], h, hl, hcs, hp => by simp at hl
  | f :: fs, off, n, p :: parts, h, hl, hcs, hp => by
    simp only [contigB, Bool.and_eq_true, beq_iff_eq] at h
    obtain ⟨h1, h2⟩ := h
    have ih := contig_rep fs (off + P.cellsOf f.type) n parts h2 (by simpa using hl) hcs (fun i f p k1 k2 => hp (i + 1) f p (by simpa using k1) (by simpa using k2))
    have h0 := hp 0 f p rfl rfl
    rw [h1] at h0
    have := h0.append ih
    rw [List.flatten_cons, ← List.take_append_drop (P.cellsOf f.type) (cs.drop off), List.drop_drop]
    exact this

theorem arr_rep {R : Value → D → Prop} {cs : List Value} {c : Nat} : ∀ (parts : List (List D)) (off : Nat), cs.length = (off + parts.length) * c →
    (∀ (i : Nat) (p : List D), parts[i]? = some p → AllRep R ((cs.drop ((off + i) * c)).take c) p) → AllRep R (cs.drop (off * c)) parts.flatten
  | [], off, hl, _ => by
    rw [List.drop_of_length_le (by rw [hl]; exact Nat.le_refl _)]
    exact ⟨rfl, fun i v d h => by simp at h⟩
  | p :: parts, off, hl, hp => by
    have ih := arr_rep parts (off + 1) (by rw [hl, List.length_cons]; congr 1; omega) (fun i q h => by
      have := hp (i + 1) q (by simpa using h)
      rwa [show off + (i + 1) = off + 1 + i by omega] at this)
    have h0 := hp 0 p rfl
    rw [Nat.add_zero] at h0
    have := h0.append ih
    rw [List.flatten_cons, ← List.take_append_drop c (cs.drop (off * c)), List.drop_drop]
    rw [show off * c + c = (off + 1) * c by rw [Nat.add_mul, Nat.one_mul]]
    exact this

theorem all_flatten {p : D → Bool} {l : List (List D)} (h : ∀ x ∈ l, x.all p = true) : l.flatten.all p = true := by
  induction l with
  | nil => rfl
  | cons x l ih =>
    rw [List.flatten_cons, List.all_append, h x (List.mem_cons_self ..), ih (fun y hy => h y (List.mem_cons_of_mem _ hy))]
    rfl

/-- What a reading finds, the interpreter has. -/
theorem read_ok (hS : S.all (goodT P S) = true) : ∀ (fuel : Nat) (t : TypeId) (cs : List Value) (x : DataW H × List MemPlace), t ∈ S → DataW.trod enc P W 0 (fun _ => true) true fuel t cs = some x →
    ∃ ds, Wf P t ds ∧ AllRep (Rep (seen W)) cs ds ∧ ds.all D.pure1 = true
  | 0, t, cs, x, _, h => by simp [DataW.trod] at h
  | fuel + 1, t, cs, x, ht, h => by
    have hg := List.all_eq_true.1 hS t ht
    unfold goodT at hg
    have one : ∀ {v : Value} {d : D}, Rep (seen W) v d → AllRep (Rep (seen W)) [v] [d] := fun h => .cons h ⟨rfl, fun i v d h => by simp at h⟩
    split at hg
    · rename_i hu
      obtain ⟨b, rfl, _⟩ := DataW.trod_bool hu h
      exact ⟨_, .bool hu b, one (.bool _), rfl⟩
    · rename_i k hu
      obtain ⟨n, rfl, _, hw⟩ := DataW.trod_int hu h
      exact ⟨_, .int hu n hw, one (.int _ _), rfl⟩
    · rename_i hu
      obtain ⟨s, rfl, _, hs⟩ := DataW.trod_string hu h
      exact ⟨_, .str hu s.data.toList (by rw [bytes_size]; exact hs), one (.str _), rfl⟩
    · -- slices
      rename_i e hu
      simp only [Bool.and_eq_true, decide_eq_true_eq, List.contains_iff_mem] at hg
      obtain ⟨he, hz⟩ := hg
      rcases DataW.trod_slice hu h with ⟨rfl, _⟩ | ⟨ad, len, cap, elems, rest, n, hfu, rfl, _, hb, hl, hc, hel, hall, _⟩
      · exact ⟨_, .slice hu [] (Nat.zero_le _) (by simp), one (.sl none 0 0 0 0 0 [] none (fun _ _ => undef) rfl (Nat.le_refl _) (fun _ => rfl) (fun h => absurd rfl h) (by simp) (by simp) (by simp)), rfl⟩
      · have hn : n = fuel := by omega
        subst hn
        have hex : ∀ i : Nat, ∃ y : List Value × List D, i < len → W.cells? 0 (ad.add (i * P.cellsOf e)) (P.cellsOf e) = some y.1 ∧ Wf P e y.2 ∧ AllRep (Rep (seen W)) y.1 y.2 ∧ y.2.all D.pure1 = true := fun i => by
          by_cases hi : i < len
          · have := hall i hi
            rw [List.getElem?_eq_getElem (by omega), Option.bind_eq_some_iff] at this
            obtain ⟨ci, h1, h2⟩ := this
            obtain ⟨ds, h3, h4, h5⟩ := read_ok hS n e ci _ he h2
            exact ⟨(ci, ds), fun _ => ⟨h1, h3, h4, h5⟩⟩
          · exact ⟨([], []), fun h => absurd h hi⟩
        obtain ⟨F, hF⟩ := Classical.axiomOfChoice hex
        have hget : ∀ (i : Nat) (x : List D), ((List.range len).map fun i => (F i).2)[i]? = some x → i < len ∧ x = (F i).2 := fun i x hx => by
          have hi : i < len := by simpa using get_lt hx
          rw [List.getElem?_map, List.getElem?_range hi] at hx
          simp only [Option.map_some, Option.some.injEq] at hx
          exact ⟨hi, hx.symm⟩
        have hmem : ∀ x ∈ ((List.range len).map fun i => (F i).2), ∃ i, i < len ∧ x = (F i).2 := fun x hx => by
          obtain ⟨i, h1, rfl⟩ := List.mem_map.1 hx
          exact ⟨i, List.mem_range.1 h1, rfl⟩
        have hlen2 : ∀ i, i < len → (F i).2.length = P.cellsOf e := fun i hi => by
          obtain ⟨h1, _, h3, _⟩ := hF i hi
          rw [← h3.1]
          exact (World.cells?_some h1).2.1
        obtain ⟨b, off, spot⟩ := ad
        have hspot : 0 < len → spot = none := fun h0 => by
          obtain ⟨h1, _⟩ := hF 0 h0
          obtain ⟨_, k2, k3⟩ := World.cells?_some h1
          have k4 := k3 0 hz
          rw [List.getElem?_eq_getElem (by omega)] at k4
          simpa [Addr.add] using World.cell?_spot k4
        refine ⟨[.sl ((List.range len).map fun i => (F i).2) none], .slice hu _ (by simp; omega) (fun x hx => ?_), one (.sl (some ⟨b, off, spot⟩) len cap b off (P.cellsOf e) _ none (fun i j => (F i).1.getD j undef) (by simp) hl (fun h => by cases h) (fun hne => ?_) (fun x hx => ?_) (fun i x j d h1 h2 => ?_) (fun i x j d h1 h2 => ?_)), rfl⟩
        · obtain ⟨i, hi, rfl⟩ := hmem x hx
          exact (hF i hi).2.1
        · have h0 : 0 < len := by
            rcases Nat.eq_zero_or_pos len with h | h
            · subst h; simp at hne
            · exact h
          rw [hspot h0]
        · obtain ⟨i, hi, rfl⟩ := hmem x hx
          exact ⟨hlen2 i hi, (hF i hi).2.2.2⟩
        · obtain ⟨hi, rfl⟩ := hget i x h1
          obtain ⟨q1, _, q3, _⟩ := hF i hi
          obtain ⟨_, k2, k3⟩ := World.cells?_some q1
          have hj : j < P.cellsOf e := by rw [← hlen2 i hi]; exact get_lt h2
          have k4 := k3 j hj
          rw [List.getElem?_eq_getElem (by omega)] at k4
          have hsp : spot = none := hspot (by omega)
          subst hsp
          show W.cell? _ = _
          rw [Addr.add_lit, Addr.add_lit] at k4
          rw [k4]
          simp [List.getD_eq_getElem?_getD, List.getElem?_eq_getElem (show j < (F i).1.length by omega)]
        · obtain ⟨hi, rfl⟩ := hget i x h1
          obtain ⟨q1, _, q3, _⟩ := hF i hi
          obtain ⟨u, k1, k2⟩ := q3.get h2
          have : (F i).1.getD j undef = u := by simp [List.getD_eq_getElem?_getD, k1]
          rw [this]
          exact k2
    · -- structs
      rename_i fs hu
      simp only [Bool.and_eq_true] at hg
      obtain ⟨hfs, hcon⟩ := hg
      obtain ⟨xs, n, hfu, _, hl, hxl, hall⟩ := DataW.trod_struct hu h
      have hn : n = fuel := by omega
      subst hn
      have hex : ∀ i : Nat, ∃ y : List D, ∀ f, fs.toList[i]? = some f → Wf P f.type y ∧ AllRep (Rep (seen W)) ((cs.drop f.offset).take (P.cellsOf f.type)) y ∧ y.all D.pure1 = true := fun i => by
        cases hf : fs.toList[i]? with
        | none => exact ⟨[], fun f h => by cases h⟩
        | some f =>
          have hf' : fs[i]? = some f := by simpa using hf
          have := hall i f hf'
          have hi : i < fs.size := (Array.getElem?_eq_some_iff.1 hf').1
          rw [List.getElem?_eq_getElem (by omega)] at this
          have hin : f.type ∈ S := by
            have := List.all_eq_true.1 hfs f (List.mem_of_getElem? hf)
            simpa using this
          obtain ⟨ds, h3, h4, h5⟩ := read_ok hS n f.type _ _ hin this
          exact ⟨ds, fun f' hf' => by cases hf'; exact ⟨h3, h4, h5⟩⟩
      obtain ⟨F, hF⟩ := Classical.axiomOfChoice hex
      have hget : ∀ (i : Nat) (x : List D), ((List.range fs.toList.length).map F)[i]? = some x → x = F i := fun i x hx => by
        have hi : i < fs.toList.length := by simpa using get_lt hx
        rw [List.getElem?_map, List.getElem?_range hi] at hx
        simpa using hx.symm
      refine ⟨((List.range fs.toList.length).map F).flatten, .struct hu _ (by simp) (fun i f p h1 h2 => ?_), ?_, all_flatten (fun x hx => ?_)⟩
      · rw [hget i p h2]
        exact (hF i f h1).1
      · have := contig_rep (R := Rep (seen W)) (cs := cs) fs.toList 0 (P.cellsOf t) ((List.range fs.toList.length).map F) hcon (by simp) hl (fun i f p h1 h2 => by
          rw [hget i p h2]
          exact (hF i f h1).2.1)
        simpa using this
      · obtain ⟨i, h1, rfl⟩ := List.mem_map.1 hx
        have hi := List.mem_range.1 h1
        exact (hF i _ (List.getElem?_eq_getElem hi)).2.2
    · -- arrays
      rename_i len e hu
      simp only [Bool.and_eq_true, List.contains_iff_mem, beq_iff_eq] at hg
      obtain ⟨he, hcon⟩ := hg
      obtain ⟨xs, n, hfu, _, hl, hxl, hall⟩ := DataW.trod_array hu h
      have hn : n = fuel := by omega
      subst hn
      have hex : ∀ i : Nat, ∃ y : List D, i < len → Wf P e y ∧ AllRep (Rep (seen W)) ((cs.drop (i * P.cellsOf e)).take (P.cellsOf e)) y ∧ y.all D.pure1 = true := fun i => by
        by_cases hi : i < len
        · have := hall i hi
          rw [List.getElem?_eq_getElem (by omega)] at this
          obtain ⟨ds, h3, h4, h5⟩ := read_ok hS n e _ _ he this
          exact ⟨ds, fun _ => ⟨h3, h4, h5⟩⟩
        · exact ⟨[], fun h => absurd h hi⟩
      obtain ⟨F, hF⟩ := Classical.axiomOfChoice hex
      refine ⟨((List.range len).map F).flatten, .array hu _ (by simp) (fun p hp => ?_), ?_, all_flatten (fun x hx => ?_)⟩
      · obtain ⟨i, h1, rfl⟩ := List.mem_map.1 hp
        exact (hF i (List.mem_range.1 h1)).1
      · have := arr_rep (R := Rep (seen W)) (cs := cs) (c := P.cellsOf e) ((List.range len).map F) 0 (by simp [hl, hcon]) (fun i p hp => by
          have hi : i < len := by simpa using get_lt hp
          rw [List.getElem?_map, List.getElem?_range hi] at hp
          simp only [Option.map_some, Option.some.injEq] at hp
          subst hp
          rw [Nat.zero_add]
          exact (hF i hi).2.1)
        simpa using this
      · obtain ⟨i, h1, rfl⟩ := List.mem_map.1 hx
        exact (hF i (List.mem_range.1 h1)).2.2
    · cases hg

/-- An argument, as the interpreter has it. -/
def ArgOf (P : Program) (t : TypeId) (x : D) : Prop :=
  match P.underlying t with
  | some (.struct _) | some (.array _ _) => ∃ ds, x = .agg ds ∧ Wf P t ds
  | _ => Wf P t [x]

theorem arg_ok (hS : S.all (goodT P S) = true) {t : TypeId} (ht : t ∈ S) {v : Value} {r : Reach} {b0 : Nat} (hval : Value.okWide P W r b0 t v) {d : DataW H} {ps : List MemPlace} (h : DataW.Trod enc P W 0 (fun _ => true) true t v d ps) :
    ∃ x, ArgOf P t x ∧ Rep (seen W) v x ∧ x.notL = true := by
  obtain ⟨fuel, hf⟩ := h
  obtain ⟨ds, h1, h2, h3⟩ := read_ok hS fuel t _ _ ht hf
  have hg := List.all_eq_true.1 hS t ht
  have single : (∀ fs, P.underlying t ≠ some (.struct fs)) → (∀ n e, P.underlying t ≠ some (.array n e)) → v.cells = #[v] → ∃ x, ArgOf P t x ∧ Rep (seen W) v x ∧ x.notL = true := fun hno hno2 hc => by
    rw [hc] at h2
    have hl := h2.1
    match ds, hl with
    | [x], _ =>
      refine ⟨x, ?_, h2.tail.1, notL_of_pure1 (by simpa using h3)⟩
      unfold ArgOf
      split
      · rename_i fs hu
        exact absurd hu (hno fs)
      · rename_i n e hu
        exact absurd hu (hno2 n e)
      · exact h1
  unfold goodT at hg
  split at hg
  · rename_i hu
    obtain ⟨b, rfl⟩ := okWide_bool hu hval
    exact single (fun fs h => by rw [hu] at h; cases h) (fun n e h => by rw [hu] at h; cases h) rfl
  · rename_i k hu
    obtain ⟨b, rfl⟩ := okWide_int hu hval
    exact single (fun fs h => by rw [hu] at h; cases h) (fun n e h => by rw [hu] at h; cases h) rfl
  · rename_i hu
    obtain ⟨b, rfl⟩ := okWide_string hu hval
    exact single (fun fs h => by rw [hu] at h; cases h) (fun n e h => by rw [hu] at h; cases h) rfl
  · rename_i e hu
    obtain ⟨a, b, c, rfl⟩ := okWide_slice hu hval
    exact single (fun fs h => by rw [hu] at h; cases h) (fun n e h => by rw [hu] at h; cases h) rfl
  · rename_i fs hu
    obtain ⟨cs, rfl, _⟩ := okWide_struct hu hval
    refine ⟨.agg ds, ?_, rep_agg_of h2 h3, rfl⟩
    unfold ArgOf
    rw [hu]
    exact ⟨ds, rfl, h1⟩
  · rename_i n e hu
    obtain ⟨cs, rfl⟩ : ∃ cs, v = .agg cs := by
      simp only [Value.okWide, hu] at hval
      obtain ⟨cs, h1, _⟩ := hval
      exact ⟨cs, h1⟩
    refine ⟨.agg ds, ?_, rep_agg_of h2 h3, rfl⟩
    unfold ArgOf
    rw [hu]
    exact ⟨ds, rfl, h1⟩
  · cases hg

/-- A law that answers true. -/
theorem law_true (hm : P.follows .mixedOrders = true) (hT : TabOK P T) {f : Nat} {args : Array Value} {xs : List D} (hr : AllRep (Rep (seen W)) args.toList xs) (hn : xs.all D.notL = true) (h : ∃ n σ', callN T n f xs [] = some (.bool true, σ')) :
    Calls P f args W (fun e W' => e = .returned (.bool true) ∧ Below W.heap.size W W') := by
  obtain ⟨n, σ', hcal⟩ := h
  refine Calls.mono ((callN_ok hm hT n).1 f xs [] _ σ' hcal (seen W) W args (.alone fun _ _ _ h => h) (fun _ => rfl) hr hn) ?_
  rintro e W' ⟨v, rfl, g', e1, _, r1, _, _⟩
  rw [rep_bool r1]
  exact ⟨rfl, e1.os, e1.tape, e1.output, e1.size, fun k hk => (e1.blk k hk rfl).1⟩

end
end Go.Abs
