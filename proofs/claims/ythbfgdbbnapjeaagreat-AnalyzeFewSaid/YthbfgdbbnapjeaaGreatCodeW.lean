/-
  A part of AnalyzeFew's proof.
-/
import Derived.Test.YthbfgdbbnapjeaaGreatOps19
import Derived.Test.YthbfgdbbnapjeaaGreatCodeW1
import Derived.Test.YthbfgdbbnapjeaaGreatCodeW2
import Derived.Test.YthbfgdbbnapjeaaGreatCodeW3
import Derived.ProofKit
import Derived.OpenShut
set_option linter.unusedVariables false
set_option linter.unusedSimpArgs false
namespace Go.Abs.W
open Go Go.Abs
def repeatF : List D → St → Option D
 | [.str s, .int .i64 c], _ => if 0 ≤ c ∧ s.length * c.toNat ≤ 140737488355328 ∧ c ≤ 4611686018427387904 then some (.str (List.replicate c.toNat s).flatten) else none
 | _, _ => none
def m95 : MFunc := toldF 2 repeatF
def m26 : MFunc := mcloneM 65 21 312 [(.str []), (.bool false), (.int .i64 (0)), (.str []), (.str []), (.str []), (.bool false), (.sl [] (some 43)), (.int .i64 (0)), (.str []), (.str []), (.str []), (.bool false), (.sl [] (some 43)), (.int .i64 (0)), (.str []), (.str []), (.str []), (.bool false), (.sl [] (some 43)), (.sl [] (some 59))]
def m16n : MFunc := { m16 with body := putAt [true, true, true, false] (.nat (NG 65 1000000)) m16.body }
def atS : List (List D) → Nat → Option Bool
 | [], _ => some false
 | [.bool b] :: _, 0 => some b
 | _ :: _, 0 => none
 | _ :: es, n + 1 => atS es n
def soF : List D → St → Option D
 | [.int .i64 i, .ref [.sl es _]], _ => if 0 ≤ i then (atS es i.toNat).map .bool else none
 | _, _ => none
def m64n : MFunc := toldF 2 soF
def m35n : MFunc := { m35 with body := insSp [[.junk 3], [.frz 7, .prom 32]] m35.body }
def m31n : MFunc := { m31 with body := putP 34 [true, false] m31.body }
def tree : BT := (.node (.node (.node (.node (.node (.node (.node .leaf 3 m3 .leaf) 4 m4 (.node .leaf 5 m5 .leaf)) 6 m6 (.node (.node .leaf 7 m7 .leaf) 8 m8 (.node .leaf 9 m9 .leaf))) 10 m10 (.node (.node (.node .leaf 11 m11 .leaf) 12 m12 (.node .leaf 13 m13 .leaf)) 14 m14 (.node (.node .leaf 15 m15 .leaf) 16 m16n .leaf))) 17 m17 (.node (.node (.node (.node .leaf 18 m18 .leaf) 19 m19 (.node .leaf 20 m20 .leaf)) 21 m21 (.node (.node .leaf 22 m22 .leaf) 23 m23 (.node .leaf 24 m24 .leaf))) 25 m25 (.node (.node (.node .leaf 26 m26 .leaf) 28 m28 (.node .leaf 29 m29 .leaf)) 30 m30 (.node (.node .leaf 31 m31n .leaf) 32 m32 .leaf)))) 33 m33 (.node (.node (.node (.node (.node .leaf 34 m34 .leaf) 35 m35n (.node .leaf 36 m36 .leaf)) 37 m37 (.node (.node .leaf 38 m38 .leaf) 39 m39 (.node .leaf 40 m40 .leaf))) 41 m41 (.node (.node (.node .leaf 42 m42 .leaf) 43 m43 (.node .leaf 44 m44 .leaf)) 45 m45 (.node (.node .leaf 46 m46 .leaf) 47 m47 .leaf))) 48 m48 (.node (.node (.node (.node .leaf 49 m49 .leaf) 50 m50 (.node .leaf 51 m51 .leaf)) 52 m52 (.node (.node .leaf 53 m53 .leaf) 54 m54 .leaf)) 55 m55 (.node (.node (.node .leaf 56 m56 .leaf) 57 m57 (.node .leaf 58 m58 .leaf)) 59 m59 (.node (.node .leaf 60 m60 .leaf) 61 m61 .leaf))))) 62 m62 (.node (.node (.node (.node (.node (.node .leaf 63 m63 .leaf) 64 m64n (.node .leaf 65 m65 .leaf)) 67 m67 (.node (.node .leaf 68 m68 .leaf) 69 m69 (.node .leaf 70 m70 .leaf))) 71 m71 (.node (.node (.node .leaf 72 m72 .leaf) 73 m73 (.node .leaf 74 m74 .leaf)) 75 m75 (.node (.node .leaf 76 m76 .leaf) 77 m77 .leaf))) 78 m78 (.node (.node (.node (.node .leaf 79 m79 .leaf) 80 m80 (.node .leaf 82 m82 .leaf)) 83 m83 (.node (.node .leaf 84 m84 .leaf) 85 m85 (.node .leaf 86 m86 .leaf))) 87 m87 (.node (.node (.node .leaf 88 m88 .leaf) 89 m89 (.node .leaf 90 m90 .leaf)) 91 m91 (.node (.node .leaf 92 m92 .leaf) 93 m93 .leaf)))) 94 m94 (.node (.node (.node (.node (.node .leaf 95 m95 .leaf) 96 m96 (.node .leaf 97 m97 .leaf)) 98 m98 (.node (.node .leaf 99 m99 .leaf) 101 m101 (.node .leaf 102 m102 .leaf))) 103 m103 (.node (.node (.node .leaf 104 m104 .leaf) 106 m106 (.node .leaf 108 m108 .leaf)) 110 m110 (.node (.node .leaf 111 m111 .leaf) 112 m112 .leaf))) 113 m113 (.node (.node (.node (.node .leaf 115 m115 .leaf) 116 m116 (.node .leaf 123 m123 .leaf)) 124 m124 (.node (.node .leaf 126 m126 .leaf) 135 m135 .leaf)) 136 m136 (.node (.node (.node .leaf 139 m139 .leaf) 141 m141 (.node .leaf 142 m142 .leaf)) 151 m151 (.node (.node .leaf 163 m163 .leaf) 164 m164 .leaf))))))
def T : Table := tree.look
end Go.Abs.W

namespace Go.Abs
open Go Go.RowKit Go.WideShapes
inductive Wf (P : Program) : TypeId → List D → Prop
 | bool {t : TypeId} (h : P.underlying t = some .bool) (b : Bool) : Wf P t [.bool b]
 | int {t : TypeId} {k : IntKind} (h : P.underlying t = some (.int k)) (n : Int) (hw : (Lit.int k n).wf = true) : Wf P t [.int k n]
 | str {t : TypeId} (h : P.underlying t = some .string) (s : List UInt8) (hs : s.length ≤ maxLen) : Wf P t [.str s]
 | slice {t e : TypeId} (h : P.underlying t = some (.slice e)) (es : List (List D)) (hl : es.length ≤ maxLen) (hes : ∀ x ∈ es, Wf P e x) : Wf P t [.sl es none]
 | struct {t : TypeId} {fs : Array Field} (h : P.underlying t = some (.struct fs)) (parts : List (List D)) (hl : parts.length = fs.toList.length)
   (hf : ∀ (i : Nat) (f : Field) (p : List D), fs.toList[i]? = some f → parts[i]? = some p → Wf P f.type p) : Wf P t parts.flatten
 | array {t e : TypeId} {n : Nat} (h : P.underlying t = some (.array n e)) (parts : List (List D)) (hl : parts.length = n) (hp : ∀ p ∈ parts, Wf P e p) : Wf P t parts.flatten
def contigB (P : Program) : Nat → List Field → Nat → Bool
 | off, [], n => off == n
 | off, f :: fs, n => f.offset == off && contigB P (off + P.cellsOf f.type) fs n
def goodT (P : Program) (S : List TypeId) (t : TypeId) : Bool :=
 match P.underlying t with
 | some .bool | some (.int _) | some .string => true
 | some (.slice e) => S.contains e && decide (0 < P.cellsOf e)
 | some (.struct fs) => fs.toList.all (fun f => S.contains f.type) && contigB P 0 fs.toList (P.cellsOf t)
 | some (.array n e) => S.contains e && (n * P.cellsOf e == P.cellsOf t)
 | _ => false
def seen (W : World) : Gh := Gh.alone fun b off => W.cell? ⟨b, off, none⟩
section
variable {H : Type} {enc : TypeId × Value → H} {P : Program} {W : World} {S : List TypeId} {T : Table}
theorem contig_rep {R : Value → D → Prop} {cs : List Value} : ∀ (fs : List Field) (off n : Nat) (parts : List (List D)), contigB P off fs n = true → parts.length = fs.length → cs.length = n →
  (∀ (i : Nat) (f : Field) (p : List D), fs[i]? = some f → parts[i]? = some p → AllRep R ((cs.drop f.offset).take (P.cellsOf f.type)) p) → AllRep R (cs.drop off) parts.flatten
 | [], off, n, parts, h, hl, hcs, hp => by
  have : parts = [] := List.eq_nil_of_length_eq_zero (by simpa using hl)
  subst this
  have h0 : off = n := by simpa [contigB] using h
  subst h0
  rw [List.drop_of_length_le om]
  exact ⟨rfl, fun i v d h => by simp at h⟩
 | f :: fs, off, n, [], h, hl, hcs, hp => by simp at hl
 | f :: fs, off, n, p :: parts, h, hl, hcs, hp => by
  simp only [contigB, Bool.and_eq_true, beq_iff_eq] at h
  obtain ⟨h1, h2⟩ := h
  have ih := contig_rep fs (off + P.cellsOf f.type) n parts h2 (by simpa using hl) hcs (fun i f p k1 k2 => hp (i + 1) f p (by simpa using k1) (by simpa using k2))
  have h0 := hp 0 f p rfl rfl
  rw [h1] at h0
  have := h0.append ih
  rw [List.flatten_cons, ← List.take_append_drop (P.cellsOf f.type) (cs.drop off), List.drop_drop]
  exact this
theorem arr_rep {R : Value → D → Prop} {cs : List Value} {c : Nat} : ∀ (parts : List (List D)) (off : Nat), cs.length = (off + parts.length) * c →
  (∀ (i : Nat) (p : List D), parts[i]? = some p → AllRep R ((cs.drop ((off + i) * c)).take c) p) → AllRep R (cs.drop (off * c)) parts.flatten
 | [], off, hl, _ => by
  rw [List.drop_of_length_le (by rw [hl]; exact Nat.le_refl _)]
  exact ⟨rfl, fun i v d h => by simp at h⟩
 | p :: parts, off, hl, hp => by
  have ih := arr_rep parts (off + 1) (by rw [hl, List.length_cons]; congr 1; omega) (fun i q h => by
   have := hp (i + 1) q (by simpa using h)
   rwa [show off + (i + 1) = off + 1 + i by omega] at this)
  have h0 := hp 0 p rfl
  rw [Nat.add_zero] at h0
  have := h0.append ih
  rw [List.flatten_cons, ← List.take_append_drop c (cs.drop (off * c)), List.drop_drop]
  rw [show off * c + c = (off + 1) * c by rw [Nat.add_mul, Nat.one_mul]]
  exact this
theorem all_flatten {p : D → Bool} {l : List (List D)} (h : ∀ x ∈ l, x.all p = true) : l.flatten.all p = true := by
 induction l with
 | nil => rfl
 | cons x l ih =>
  rw [List.flatten_cons, List.all_append, h x (List.mem_cons_self ..), ih (fun y hy => h y (List.mem_cons_of_mem _ hy))]
  rfl
theorem read_ok (hS : S.all (goodT P S) = true) : ∀ (fuel : Nat) (t : TypeId) (cs : List Value) (x : DataW H × List MemPlace), t ∈ S → DataW.trod enc P W 0 (fun _ => true) true fuel t cs = some x →
  ∃ ds, Wf P t ds ∧ AllRep (Rep (seen W)) cs ds ∧ ds.all D.pure1 = true
 | 0, t, cs, x, _, h => by simp [DataW.trod] at h
 | fuel + 1, t, cs, x, ht, h => by
  have hg := List.all_eq_true.1 hS t ht
  unfold goodT at hg
  have one : ∀ {v : Value} {d : D}, Rep (seen W) v d → AllRep (Rep (seen W)) [v] [d] := fun h => .cons h ⟨rfl, fun i v d h => by simp at h⟩
  split at hg
  ·rename_i hu
   obtain ⟨b, rfl, _⟩ := DataW.trod_bool hu h
   exact ⟨_, .bool hu b, one (.bool _), rfl⟩
  ·rename_i k hu
   obtain ⟨n, rfl, _, hw⟩ := DataW.trod_int hu h
   exact ⟨_, .int hu n hw, one (.int _ _), rfl⟩
  ·rename_i hu
   obtain ⟨s, rfl, _, hs⟩ := DataW.trod_string hu h
   exact ⟨_, .str hu s.data.toList (by rw [bytes_size]; exact hs), one (.str _), rfl⟩
  ·-- slices
   rename_i e hu
   simp only [Bool.and_eq_true, decide_eq_true_eq, List.contains_iff_mem] at hg
   obtain ⟨he, hz⟩ := hg
   rcases DataW.trod_slice hu h with ⟨rfl, _⟩ | ⟨ad, len, cap, elems, rest, n, hfu, rfl, _, hb, hl, hc, hel, hall, _⟩
   ·exact ⟨_, .slice hu [] (Nat.zero_le _) (by simp), one (.sl none 0 0 0 0 0 [] none (fun _ _ => undef) rfl (Nat.le_refl _) (fun _ => rfl) (fun h => absurd rfl h) (by simp) (by simp) (by simp)), rfl⟩
   ·have hn : n = fuel := by omega
    subst hn
    have hex : ∀ i : Nat, ∃ y : List Value × List D, i < len → W.cells? 0 (ad.add (i * P.cellsOf e)) (P.cellsOf e) = some y.1 ∧ Wf P e y.2 ∧ AllRep (Rep (seen W)) y.1 y.2 ∧ y.2.all D.pure1 = true := fun i => by
     by_cases hi : i < len
     ·have := hall i hi
      rw [List.getElem?_eq_getElem om, Option.bind_eq_some_iff] at this
      obtain ⟨ci, h1, h2⟩ := this
      obtain ⟨ds, h3, h4, h5⟩ := read_ok hS n e ci _ he h2
      exact ⟨(ci, ds), fun _ => ⟨h1, h3, h4, h5⟩⟩
     ·exact ⟨([], []), fun h => absurd h hi⟩
    obtain ⟨F, hF⟩ := Classical.axiomOfChoice hex
    have hget : ∀ (i : Nat) (x : List D), ((List.range len).map fun i => (F i).2)[i]? = some x → i < len ∧ x = (F i).2 := fun i x hx => by
     have hi : i < len := by simpa using get_lt hx
     rw [List.getElem?_map, List.getElem?_range hi] at hx
     simp only [Option.map_some, Option.some.injEq] at hx
     exact ⟨hi, hx.symm⟩
    have hmem : ∀ x ∈ ((List.range len).map fun i => (F i).2), ∃ i, i < len ∧ x = (F i).2 := fun x hx => by
     obtain ⟨i, h1, rfl⟩ := List.mem_map.1 hx
     exact ⟨i, List.mem_range.1 h1, rfl⟩
    have hlen2 : ∀ i, i < len → (F i).2.length = P.cellsOf e := fun i hi => by
     obtain ⟨h1, _, h3, _⟩ := hF i hi
     rw [← h3.1]
     exact (World.cells?_some h1).2.1
    obtain ⟨b, off, spot⟩ := ad
    have hspot : 0 < len → spot = none := fun h0 => by
     obtain ⟨h1, _⟩ := hF 0 h0
     obtain ⟨_, k2, k3⟩ := World.cells?_some h1
     have k4 := k3 0 hz
     rw [List.getElem?_eq_getElem om] at k4
     simpa [Addr.add] using World.cell?_spot k4
    refine ⟨[.sl ((List.range len).map fun i => (F i).2) none], .slice hu _ (by simp; omega) (fun x hx => ?_), one (.sl (some ⟨b, off, spot⟩) len cap b off (P.cellsOf e) _ none (fun i j => (F i).1.getD j undef) (by simp) hl (fun h => by cases h) (fun hne => ?_) (fun x hx => ?_) (fun i x j d h1 h2 => ?_) (fun i x j d h1 h2 => ?_)), rfl⟩
    ·obtain ⟨i, hi, rfl⟩ := hmem x hx
     exact (hF i hi).2.1
    ·have h0 : 0 < len := by
      rcases Nat.eq_zero_or_pos len with h | h
      ·subst h; simp at hne
      ·exact h
     rw [hspot h0]
    ·obtain ⟨i, hi, rfl⟩ := hmem x hx
     exact ⟨hlen2 i hi, (hF i hi).2.2.2⟩
    ·obtain ⟨hi, rfl⟩ := hget i x h1
     obtain ⟨q1, _, q3, _⟩ := hF i hi
     obtain ⟨_, k2, k3⟩ := World.cells?_some q1
     have hj : j < P.cellsOf e := by rw [← hlen2 i hi]; exact get_lt h2
     have k4 := k3 j hj
     rw [List.getElem?_eq_getElem om] at k4
     have hsp : spot = none := hspot om
     subst hsp
     show W.cell? _ = _
     rw [Addr.add_lit, Addr.add_lit] at k4
     rw [k4]
     simp [List.getD_eq_getElem?_getD, List.getElem?_eq_getElem (show j < (F i).1.length by omega)]
    ·obtain ⟨hi, rfl⟩ := hget i x h1
     obtain ⟨q1, _, q3, _⟩ := hF i hi
     obtain ⟨u, k1, k2⟩ := q3.get h2
     have : (F i).1.getD j undef = u := by simp [List.getD_eq_getElem?_getD, k1]
     rw [this]
     exact k2
  ·-- structs
   rename_i fs hu
   simp only [Bool.and_eq_true] at hg
   obtain ⟨hfs, hcon⟩ := hg
   obtain ⟨xs, n, hfu, _, hl, hxl, hall⟩ := DataW.trod_struct hu h
   have hn : n = fuel := by omega
   subst hn
   have hex : ∀ i : Nat, ∃ y : List D, ∀ f, fs.toList[i]? = some f → Wf P f.type y ∧ AllRep (Rep (seen W)) ((cs.drop f.offset).take (P.cellsOf f.type)) y ∧ y.all D.pure1 = true := fun i => by
    cases hf : fs.toList[i]? with
    | none => exact ⟨[], fun f h => by cases h⟩
    | some f =>
     have hf' : fs[i]? = some f := by simpa using hf
     have := hall i f hf'
     have hi : i < fs.size := (Array.getElem?_eq_some_iff.1 hf').1
     rw [List.getElem?_eq_getElem om] at this
     have hin : f.type ∈ S := by
      have := List.all_eq_true.1 hfs f (List.mem_of_getElem? hf)
      simpa using this
     obtain ⟨ds, h3, h4, h5⟩ := read_ok hS n f.type _ _ hin this
     exact ⟨ds, fun f' hf' => by cases hf'; exact ⟨h3, h4, h5⟩⟩
   obtain ⟨F, hF⟩ := Classical.axiomOfChoice hex
   have hget : ∀ (i : Nat) (x : List D), ((List.range fs.toList.length).map F)[i]? = some x → x = F i := fun i x hx => by
    have hi : i < fs.toList.length := by simpa using get_lt hx
    rw [List.getElem?_map, List.getElem?_range hi] at hx
    simpa using hx.symm
   refine ⟨((List.range fs.toList.length).map F).flatten, .struct hu _ (by simp) (fun i f p h1 h2 => ?_), ?_, all_flatten (fun x hx => ?_)⟩
   ·rw [hget i p h2]
    exact (hF i f h1).1
   ·have := contig_rep (R := Rep (seen W)) (cs := cs) fs.toList 0 (P.cellsOf t) ((List.range fs.toList.length).map F) hcon (by simp) hl (fun i f p h1 h2 => by
     rw [hget i p h2]
     exact (hF i f h1).2.1)
    simpa using this
   ·obtain ⟨i, h1, rfl⟩ := List.mem_map.1 hx
    have hi := List.mem_range.1 h1
    exact (hF i _ (List.getElem?_eq_getElem hi)).2.2
  ·-- arrays
   rename_i len e hu
   simp only [Bool.and_eq_true, List.contains_iff_mem, beq_iff_eq] at hg
   obtain ⟨he, hcon⟩ := hg
   obtain ⟨xs, n, hfu, _, hl, hxl, hall⟩ := DataW.trod_array hu h
   have hn : n = fuel := by omega
   subst hn
   have hex : ∀ i : Nat, ∃ y : List D, i < len → Wf P e y ∧ AllRep (Rep (seen W)) ((cs.drop (i * P.cellsOf e)).take (P.cellsOf e)) y ∧ y.all D.pure1 = true := fun i => by
    by_cases hi : i < len
    ·have := hall i hi
     rw [List.getElem?_eq_getElem om] at this
     obtain ⟨ds, h3, h4, h5⟩ := read_ok hS n e _ _ he this
     exact ⟨ds, fun _ => ⟨h3, h4, h5⟩⟩
    ·exact ⟨[], fun h => absurd h hi⟩
   obtain ⟨F, hF⟩ := Classical.axiomOfChoice hex
   refine ⟨((List.range len).map F).flatten, .array hu _ (by simp) (fun p hp => ?_), ?_, all_flatten (fun x hx => ?_)⟩
   ·obtain ⟨i, h1, rfl⟩ := List.mem_map.1 hp
    exact (hF i (List.mem_range.1 h1)).1
   ·have := arr_rep (R := Rep (seen W)) (cs := cs) (c := P.cellsOf e) ((List.range len).map F) 0 (by simp [hl, hcon]) (fun i p hp => by
     have hi : i < len := by simpa using get_lt hp
     rw [List.getElem?_map, List.getElem?_range hi] at hp
     simp only [Option.map_some, Option.some.injEq] at hp
     subst hp
     rw [Nat.zero_add]
     exact (hF i hi).2.1)
    simpa using this
   ·obtain ⟨i, h1, rfl⟩ := List.mem_map.1 hx
    exact (hF i (List.mem_range.1 h1)).2.2
  ·cases hg
def ArgOf (P : Program) (t : TypeId) (x : D) : Prop :=
 match P.underlying t with
 | some (.struct _) | some (.array _ _) => ∃ ds, x = .agg ds ∧ Wf P t ds
 | _ => Wf P t [x]
theorem arg_ok (hS : S.all (goodT P S) = true) {t : TypeId} (ht : t ∈ S) {v : Value} {r : Reach} {b0 : Nat} (hval : Value.okWide P W r b0 t v) {d : DataW H} {ps : List MemPlace} (h : DataW.Trod enc P W 0 (fun _ => true) true t v d ps) :
  ∃ x, ArgOf P t x ∧ Rep (seen W) v x ∧ x.notL = true := by
 obtain ⟨fuel, hf⟩ := h
 obtain ⟨ds, h1, h2, h3⟩ := read_ok hS fuel t _ _ ht hf
 have hg := List.all_eq_true.1 hS t ht
 have single : (∀ fs, P.underlying t ≠ some (.struct fs)) → (∀ n e, P.underlying t ≠ some (.array n e)) → v.cells = #[v] → ∃ x, ArgOf P t x ∧ Rep (seen W) v x ∧ x.notL = true := fun hno hno2 hc => by
  rw [hc] at h2
  have hl := h2.1
  match ds, hl with
  | [x], _ =>
   refine ⟨x, ?_, h2.tail.1, notL_of_pure1 (by simpa using h3)⟩
   unfold ArgOf
   split
   ·rename_i fs hu
    exact absurd hu (hno fs)
   ·rename_i n e hu
    exact absurd hu (hno2 n e)
   ·exact h1
 unfold goodT at hg
 split at hg
 ·rename_i hu
  obtain ⟨b, rfl⟩ := okWide_bool hu hval
  exact single (fun fs h => by rw [hu] at h; cases h) (fun n e h => by rw [hu] at h; cases h) rfl
 ·rename_i k hu
  obtain ⟨b, rfl⟩ := okWide_int hu hval
  exact single (fun fs h => by rw [hu] at h; cases h) (fun n e h => by rw [hu] at h; cases h) rfl
 ·rename_i hu
  obtain ⟨b, rfl⟩ := okWide_string hu hval
  exact single (fun fs h => by rw [hu] at h; cases h) (fun n e h => by rw [hu] at h; cases h) rfl
 ·rename_i e hu
  obtain ⟨a, b, c, rfl⟩ := okWide_slice hu hval
  exact single (fun fs h => by rw [hu] at h; cases h) (fun n e h => by rw [hu] at h; cases h) rfl
 ·rename_i fs hu
  obtain ⟨cs, rfl, _⟩ := okWide_struct hu hval
  refine ⟨.agg ds, ?_, rep_agg_of h2 h3, rfl⟩
  unfold ArgOf
  rw [hu]
  exact ⟨ds, rfl, h1⟩
 ·rename_i n e hu
  obtain ⟨cs, rfl⟩ : ∃ cs, v = .agg cs := by
   simp only [Value.okWide, hu] at hval
   obtain ⟨cs, h1, _⟩ := hval
   exact ⟨cs, h1⟩
  refine ⟨.agg ds, ?_, rep_agg_of h2 h3, rfl⟩
  unfold ArgOf
  rw [hu]
  exact ⟨ds, rfl, h1⟩
 ·cases hg
theorem law_true (hm : P.follows .mixedOrders = true) (hT : TabOK P T) {f : Nat} {args : Array Value} {xs : List D} (hr : AllRep (Rep (seen W)) args.toList xs) (hn : xs.all D.notL = true) (h : ∃ n σ', callN T n f xs [] = some (.bool true, σ')) :
  Calls P f args W (fun e W' => e = .returned (.bool true) ∧ Below W.heap.size W W') := by
 obtain ⟨n, σ', hcal⟩ := h
 refine Calls.mono ((callN_ok hm hT n).1 f xs [] _ σ' hcal (seen W) W args (.alone fun _ _ _ h => h) (fun _ => rfl) hr hn) ?_
 rintro e W' ⟨v, rfl, g', e1, _, r1, _, _⟩
 rw [rep_bool r1]
 exact ⟨rfl, e1.os, e1.tape, e1.output, e1.size, fun k hk => (e1.blk k hk rfl).1⟩
end
end Go.Abs

namespace Go.Abs
open Go Go.ChangeShapes Go.WideShapes Go.ChangeAt Go.RowKit
def ArgsOf (P : Program) : List TypeId → List D → Prop
 | [], [] => True
 | t :: ts, x :: xs => ArgOf P t x ∧ ArgsOf P ts xs
 | _, _ => False
section
variable {H : Type} {enc : TypeId × Value → H} {P : Program} {W : World} {S : List TypeId} {T : Table}
theorem allRep_cons {R : Value → D → Prop} {v : Value} {d : D} {vs : List Value} {ds : List D} (h : R v d) (hs : AllRep R vs ds) : AllRep R (v :: vs) (d :: ds) := by
 refine ⟨by simp [hs.1], fun i v' d' h1 h2 => ?_⟩
 match i, h1, h2 with
 | 0, h1, h2 => simp at h1 h2; subst h1 h2; exact h
 | i + 1, h1, h2 => exact hs.2 i v' d' (by simpa using h1) (by simpa using h2)
theorem args_ok (hl : laidOutB P = true) (hS : S.all (goodT P S) = true) (hr : S.all (fun t => P.readableRec t && decide (t < P.types.size)) = true) :
  ∀ (ts : List TypeId) (vs : List Value) (ds : List (DataW H)) (ps : List MemPlace) (b0 : Nat), ts.all S.contains = true → (∀ (j : Nat) t v, ts[j]? = some t → vs[j]? = some v → Value.okWide P W .any b0 t v) →
  DataW.TrodAll enc P W 0 (fun _ => true) true ts vs ds ps → (∀ x ∈ ps, x.block < W.heap.size) →
  ∃ xs, ArgsOf P ts xs ∧ AllRep (Rep (seen W)) vs xs ∧ xs.all D.notL = true ∧
   ∀ W', Below W.heap.size W W' → DataW.TrodAll enc P W' 0 (fun b => decide (b < W.heap.size)) true ts vs ds ps
 | [], vs, ds, ps, b0, _, _, h, _ => by
  obtain ⟨rfl, rfl, rfl⟩ := trodAll_nil h
  exact ⟨[], trivial, ⟨rfl, fun i v d h1 => by simp at h1⟩, rfl, fun _ _ => trodAll_mk0⟩
 | t :: ts, vs, ds, ps, b0, hin, hok, h, hlt => by
  obtain ⟨v, vs', d, ds', p, q, rfl, rfl, rfl, hd, hrest⟩ := trodAll_cons h
  simp only [List.all_cons, Bool.and_eq_true] at hin
  have htS : t ∈ S := by simpa using hin.1
  obtain ⟨x, h1, h2, h3⟩ := arg_ok hS htS (hok 0 t v rfl rfl) hd
  obtain ⟨xs, g1, g2, g3, g4⟩ := args_ok hl hS hr ts vs' ds' q b0 hin.2 (fun j t' v' ht hv => hok (j + 1) t' v' (by simpa using ht) (by simpa using hv)) hrest (fun x hx => hlt x (by simp [hx]))
  refine ⟨x :: xs, ⟨h1, g1⟩, allRep_cons h2 g2, by simp [h3, g3], fun W' hb => ⟨p, q, ?_, g4 W' hb, rfl⟩⟩
  have hrt := List.all_eq_true.1 hr t htS
  simp only [Bool.and_eq_true, decide_eq_true_eq] at hrt
  exact Below.trod hl hrt.1 hrt.2 hd hb (fun x hx => hlt x (by simp [hx]))
theorem law_row {C : Checked} {os : Os} (started : os.Started) {f : FuncId} {fn : Func} {s : ChangeSpec} {tb : TypeId}
  (own : ownKnob C.prog.godebug = none) (noInit : C.prog.inits.idxOf? f = none) (hfn : C.prog.funcs[f]? = some fn)
  (hl : laidOutB C.prog = true) (hS : S.all (goodT C.prog S) = true) (hr : S.all (fun t => C.prog.readableRec t && decide (t < C.prog.types.size)) = true) (hp : fn.params.toList.all S.contains = true)
  (hres : fn.resultTypes = #[tb]) (hb : C.prog.underlying tb = some .bool) (hm : C.prog.follows .mixedOrders = true) (hT : TabOK C.prog T)
  (hv : s.vars = []) (hs : ∀ (ds : List (DataW H)), ds.length = fn.params.toList.length → (s.fn H ds).results = [.lit (.bool true)] ∧ (s.fn H ds).args = ds ∧ (s.fn H ds).vars = [])
  (witness : ∃ (w : World) (tape : Tape) (i : Input), w.os = os ∧ (w.forCall tape i).Shaped C.prog ∧ i.vars = [] ∧ Input.okWide C.prog (w.forCall tape i) .any w.heap.size f i ∧
   s.pre6 enc C.prog fn [] false (w.forCall tape i).memory i.args ∧ ({} : Assume).holds C.prog (lone (Frame.enter C.prog f i.args .normal) [] (w.forCall tape i)))
  (law : ∀ xs, ArgsOf C.prog fn.params.toList xs → ∃ n σ', callN T n f xs [] = some (.bool true, σ')) :
  ReturnsInHanded {} C os f .any (s.pre6 enc C.prog fn [] false) (s.post enc C.prog fn false true false false) := by
 refine returnsInHanded_of_change (C := C) own started noInit hfn witness ?_
 intro W base args ds gs before hval hW _ _
 have hW' := hW
 obtain ⟨p, q, hA, hV, rfl, hfz, hnd⟩ := hW
 rw [hv] at hV
 obtain ⟨rfl, rfl⟩ := trodVars_none hV
 have hlt : ∀ x ∈ p, x.block < W.heap.size := fun x hx => hW'.lt x (by simp [hx])
 have hlen : ds.length = fn.params.toList.length := by
  have : ∀ (ts : List TypeId) (vs : List Value) (ds : List (DataW H)) (ps : List MemPlace), DataW.TrodAll enc C.prog W 0 (fun _ => true) true ts vs ds ps → ds.length = ts.length := by
   intro ts
   induction ts with
   | nil =>
    intro vs ds ps h
    obtain ⟨rfl, rfl, rfl⟩ := trodAll_nil h
    rfl
   | cons t ts ih =>
    intro vs ds ps h
    obtain ⟨v, vs', d, ds', p, q, rfl, rfl, rfl, hd, hrest⟩ := trodAll_cons h
    simp [ih _ _ _ hrest]
  exact this _ _ _ _ hA
 obtain ⟨xs, h1, h2, h3, h4⟩ := args_ok hl hS hr _ _ _ _ base hp (fun j t v ht hv => hval j t v (by simpa using ht) (by simpa using hv)) hA hlt
 refine (law_true hm hT h2 h3 (law xs h1)).mono fun e W' ⟨he, hbel⟩ => ?_
 subst he
 obtain ⟨hs1, hs2, hs3⟩ := hs ds hlen
 refine ⟨_, rfl, _, _, _, [], p, [], hW', ?_, ?_, ?_, hbel.frame _, fun h => by cases h⟩
 ·rw [List.append_nil, hs1, hres]
  exact trodAll_mk1 ⟨1, by simp [DataW.trod, Value.cells, hb, Lit.wf]⟩
 ·rw [List.append_nil, hs2]
  exact h4 W' hbel
 ·rw [List.append_nil, hs3, hv]
  rfl
end
end Go.Abs
