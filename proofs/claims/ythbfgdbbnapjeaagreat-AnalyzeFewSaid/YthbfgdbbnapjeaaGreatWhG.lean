/-
  A part of AnalyzeFew's proof.
-/
import Derived.Test.YthbfgdbbnapjeaaGreatWfB
import Derived.Test.YthbfgdbbnapjeaaGreatWhM00
import Derived.Test.YthbfgdbbnapjeaaGreatWhM01
import Derived.Test.YthbfgdbbnapjeaaGreatWhM10
import Derived.Test.YthbfgdbbnapjeaaGreatWhM11
set_option linter.unusedVariables false
set_option linter.unusedSimpArgs false
namespace Go.Abs.W
open Go Go.Abs
set_option maxRecDepth 8000
attribute [local irreducible] callN runC evalOp
theorem shows2 : Shows 39996 sch1 sch2 [at1, at2] [85] [118] [85] := by
 intro tr h
 match tr, h with
 | b0 :: b1 :: tr, _ =>
  have key : ∃ rm σ, callN T 39996 35 [.agg [.sl sch1 none, .sl sch2 none], .agg [.str [85], .str [118], .str [85]], .sl [at1, at2] none, .sl (bools (b0 :: b1 :: tr)) none] [] = some (rm, σ) ∧ freeze σ rm = some (mdR b0 b1) := by
   cases b0 <;> cases b1
   ·exact model_00 tr
   ·exact model_01 tr
   ·exact model_10 tr
   ·exact model_11 tr
  obtain ⟨rm, σ, h1, h2⟩ := key
  exact ⟨rm, σ, [85], nmP b0, [65, 99, 116, 105, 111, 110], [118], [85], [120, 120, 120, 120], 6, 0, false, [], [], [], _, _, _, h1, h2⟩
theorem oneF : OneEnv 39997 sch1 sch2 [85] [118] [85] := by
 have h : ((callNK T 39997 28 [.agg [.sl sch1 none, .sl sch2 none]] []).map (·.1)) = some (.sl [[.str [85], .str [118], .str [85]]] none) := by kernel_rfl
 rw [Option.map_eq_some_iff] at h
 obtain ⟨⟨d, σ'⟩, h1, h2⟩ := h
 simp only at h2
 subst h2
 exact ⟨σ', callN_of_fast h1⟩
def bitsL (p : Nat) : List Nat := (List.range 8).filter (bitN p)
theorem bitsL_lt {p : Nat} : ∀ i ∈ bitsL p, i < 8 := fun i h => List.mem_range.1 (List.mem_filter.1 h).1
theorem bitsL_len (p : Nat) : (bitsL p).length ≤ 8 := by
 have := List.length_filter_le (bitN p) (List.range 8)
 rwa [List.length_range] at this
def sameB (p q : Nat) : Bool := (List.range 4).all fun c => allowL (bitsL p) c == allowL (bitsL q) c
def clashB (p : Nat) : Bool := (List.range 4).any fun c => clashL (bitsL p) c
theorem same_no {p q : Nat} (t : List Bool) (h : (allowL (bitsL p) (caseT t) != allowL (bitsL q) (caseT t)) = true) : sameB p q = false := by
 rw [Bool.eq_false_iff]
 intro hs
 have := List.all_eq_true.1 hs (caseT t) (List.mem_range.2 (caseT_lt t))
 rw [beq_iff_eq] at this
 rw [this] at h
 simp at h
theorem same_yes {p q : Nat} (h : ∀ t, (allowL (bitsL p) (caseT t) != allowL (bitsL q) (caseT t)) = false) : sameB p q = true := by
 refine List.all_eq_true.2 fun c hc => ?_
 have := h [bitN c 0, bitN c 1]
 rw [case_of (List.mem_range.1 hc)] at this
 simpa using this
theorem clash_yes {p : Nat} (t : List Bool) (h : clashL (bitsL p) (caseT t) = true) : clashB p = true :=
 List.any_eq_true.2 ⟨caseT t, List.mem_range.2 (caseT_lt t), h⟩
theorem clash_no {p : Nat} (h : ∀ t, clashL (bitsL p) (caseT t) = false) : clashB p = false := by
 rw [Bool.eq_false_iff]
 intro hs
 obtain ⟨c, hc, hh⟩ := List.any_eq_true.1 hs
 have := h [bitN c 0, bitN c 1]
 rw [case_of (List.mem_range.1 hc)] at this
 rw [this] at hh
 cases hh
abbrev eqYes : D := .agg [.int .i64 1, .bool false, .str [], .str [], .str [], .str [], .str [], .str [], .int .i64 0, .bool false, .int .i64 0, .str [], .str [], .str [], .sl [] none, .sl [] none, .sl [] none]
abbrev ax0 : Fm := .mk 5 0 []
theorem two0 (d : Nat) (t : List Bool) (g : Fm) : evalR (d + 2) (.mk 5 0 [g, ax0]) t = evalR (d + 1) g t := by
 rw [ev_and]
 simp only [List.all_cons, List.all_nil, Bool.and_true, ev_and]
theorem plain0 {g : Fm} (h : Ok 11 g) (hl : lowF 0 g) (hn : nodes g ≤ 300) : Plain 11 (.mk 5 0 [g, ax0]) 0 := by
 have h0 : Ok 11 ax0 := (ok_mk (d := 0) (.inl rfl) (by simp) (fun k hk => by cases hk)).mono om
 have h1 := ok_pair (.inl rfl) h h0
 refine ⟨h1.fit, h1.may, ?_, ?_⟩
 ·rw [lowF_eq, lowL_iff]
  simp only [Fm.op_mk, Fm.kids_mk]
  refine ⟨fun h => by omega, fun k hk => ?_⟩
  simp only [List.mem_cons, List.not_mem_nil, or_false] at hk
  rcases hk with rfl | rfl
  ·exact hl
  ·rw [lowF_eq]
   simp [Fm.op_mk, Fm.kids_mk, lowL]
 ·simp only [nodes_mk, nodesL]
  omega
theorem equivF (p q : Nat) (o1 o2 : Option Nat) : ∃ r σ', callN T 39999 7 [.agg [.sl sch1 none, .sl sch2 none], .sl (ePs ((bitsL p).map rowP)) o1, .sl (ePs ((bitsL q).map rowP)) o2, .int .i64 7] [] = some (r, σ') ∧ ((isYes 2 r ∧ sameB p q = false) ∨ (r = eqYes ∧ sameB p q = true)) := by
 have lx := bitsL_len p
 have ly := bitsL_len q
 have hx := bitsL_lt (p := p)
 have hy := bitsL_lt (p := q)
 by_cases hne : 0 < (bitsL p ++ bitsL q).length
 ·have hc1 := of31 (bitsL p ++ bitsL q) (fun i hi => by rcases List.mem_append.1 hi with h | h; exact hx i h; exact hy i h) hne (by rw [List.length_append]; omega) none
  rw [List.map_append] at hc1
  obtain ⟨r, σ', h1, h2⟩ := equiv_says (n := 39996) sch1 sch2 [at1, at2] [85] [118] [85] ((bitsL p).map rowP) ((bitsL q).map rowP) o1 o2 7 ((bitsL p ++ bitsL q).map tkF) axM (d := 11) (by simp) (by simp; omega)
   (plain_differ _ _ lx ly) om om (by decide) om oneF hc1 (fun _ => shows2)
  refine ⟨r, σ', h1, ?_⟩
  rcases h2 with ⟨h2, t, ht⟩ | ⟨h2, ht⟩
  ·rw [two_eval, differ_eval t _ _ hx hy] at ht
   exact .inl ⟨h2, same_no t ht⟩
  ·refine .inr ⟨h2, same_yes fun t => ?_⟩
   have := ht t
   rwa [two_eval, differ_eval t _ _ hx hy] at this
 ·have hp0 : bitsL p = [] := List.length_eq_zero_iff.1 (by rw [List.length_append] at hne; omega)
  have hq0 : bitsL q = [] := List.length_eq_zero_iff.1 (by rw [List.length_append] at hne; omega)
  have hs : sameB p q = true := by unfold sameB; rw [hp0, hq0]; simp
  rw [hp0, hq0]
  have hev : ∀ t, evalR 12 (.mk 5 0 [differF [] [] [], ax0]) t = false := fun t => by
   rw [two0]
   simp only [differF, allowF, someF, pickF, ev_or, ev_and, ev_not, List.take_nil, List.drop_nil, List.all_cons, List.all_nil, List.any_cons, List.any_nil, Bool.and_true, Bool.or_false, Bool.not_false, Bool.and_false, Bool.false_and]
  have hok : Ok 11 (differF [] [] []) := by
   have hS : ∀ pr, Ok 4 (someF pr [] []) := fun pr => ok_some pr [] [] (by simp)
   have hA : Ok 6 (allowF [] []) := ok_allow [] [] (by simp)
   exact (ok_pair (.inr rfl) (ok_pair (.inl rfl) (hA.mono om) (ok_not hA)) (ok_pair (.inl rfl) (hA.mono om) (ok_not hA))).mono om
  obtain ⟨r, σ', h1, h2⟩ := equiv_says (n := 39996) sch1 sch2 [] [85] [118] [85] [] [] o1 o2 7 [] ax0 (d := 11) rfl (by simp)
   (plain0 hok (by simp [differF, allowF, someF, pickF, lowF, lowL]) (by simp [differF, allowF, someF, pickF, nodes_mk, nodesL])) om om (by decide) om oneF of31n (fun ⟨t, ht⟩ => by rw [hev t] at ht; cases ht)
  refine ⟨r, σ', h1, ?_⟩
  rcases h2 with ⟨_, t, ht⟩ | ⟨h2, _⟩
  ·rw [hev t] at ht
   cases ht
  ·exact .inr ⟨h2, hs⟩
theorem conflF (p : Nat) (o1 : Option Nat) : ∃ r σ', callN T 39999 8 [.agg [.sl sch1 none, .sl sch2 none], .sl (ePs ((bitsL p).map rowP)) o1, .int .i64 7] [] = some (r, σ') ∧ ((isYes 1 r ∧ clashB p = true) ∨ (r = .agg noR ∧ clashB p = false)) := by
 have lx := bitsL_len p
 have hx := bitsL_lt (p := p)
 by_cases hne : 0 < (bitsL p).length
 ·have hc1 := of31 (bitsL p) hx hne om none
  obtain ⟨r, σ', h1, h2⟩ := confl_says (n := 39996) sch1 sch2 [at1, at2] [85] [118] [85] ((bitsL p).map rowP) o1 7 ((bitsL p).map tkF) axM (d := 11) (by simp) (by simp; omega)
   (plain_both _ lx) om om (by decide) om oneF hc1 (fun _ => shows2)
  refine ⟨r, σ', h1, ?_⟩
  rcases h2 with ⟨h2, t, ht⟩ | ⟨h2, ht⟩
  ·rw [two_eval, both_eval 5 t _ hx] at ht
   exact .inl ⟨h2, clash_yes t ht⟩
  ·refine .inr ⟨h2, clash_no fun t => ?_⟩
   have := ht t
   rwa [two_eval, both_eval 5 t _ hx] at this
 ·have hp0 : bitsL p = [] := List.length_eq_zero_iff.1 om
  have hs : clashB p = false := by unfold clashB; rw [hp0]; rfl
  rw [hp0]
  have hev : ∀ t, evalR 12 (.mk 5 0 [bothF [] [], ax0]) t = false := fun t => by
   rw [two0]
   simp only [bothF, someF, pickF, ev_or, ev_and, List.all_cons, List.all_nil, List.any_nil, Bool.and_true, Bool.and_false, Bool.false_and]
  have hok : Ok 11 (bothF [] []) := by
   have hS : ∀ pr, Ok 4 (someF pr [] []) := fun pr => ok_some pr [] [] (by simp)
   exact (ok_pair (.inl rfl) (hS _) (hS _)).mono om
  obtain ⟨r, σ', h1, h2⟩ := confl_says (n := 39996) sch1 sch2 [] [85] [118] [85] [] o1 7 [] ax0 (d := 11) rfl (by simp)
   (plain0 hok (by simp [bothF, someF, pickF, lowF, lowL]) (by simp [bothF, someF, pickF, nodes_mk, nodesL])) om om (by decide) om oneF of31n (fun ⟨t, ht⟩ => by rw [hev t] at ht; cases ht)
  refine ⟨r, σ', h1, ?_⟩
  rcases h2 with ⟨_, t, ht⟩ | ⟨h2, _⟩
  ·rw [hev t] at ht
   cases ht
  ·exact .inr ⟨h2, hs⟩
end Go.Abs.W

namespace Go.Abs
open Go
def overs : List (Nat × List D × (D × St)) → Cal → Cal
 | [], c => c
 | e :: l, c => fun f args σ => bif Nat.beq f e.1 && sameDs args e.2.1 && σ.isEmpty then some e.2.2 else overs l c f args σ
theorem overs_eq {c : Cal} : ∀ {l : List (Nat × List D × (D × St))}, (∀ e ∈ l, c e.1 e.2.1 [] = some e.2.2) → overs l c = c
 | [], _ => rfl
 | e :: l, h => by
  funext f args σ
  have ih := overs_eq (l := l) (fun x hx => h x (by simp [hx]))
  simp only [overs, ih, cond_eq_ite]
  split
  ·rename_i hc
   simp only [Bool.and_eq_true] at hc
   obtain ⟨⟨h1, h2⟩, h3⟩ := hc
   have h1 := Nat.eq_of_beq_eq_true h1
   have h2 := sameDs_eq _ _ h2
   have h3 := List.isEmpty_iff.1 h3
   subst h1 h2 h3
   exact (h e (by simp)).symm
  ·rfl
theorem call_overs {T : Table} {n f : Nat} {m : MFunc} {args : List D} {d : D} (l : List (Nat × List D × (D × St))) (hm : T f = some m) (hp : args.length = m.nparams) (hp2 : m.nparams ≤ m.ntmps) (ho : ∀ e ∈ l, callN T n e.1 e.2.1 [] = some e.2.2)
  (h : endR m.results (runCK (overs l (callNK T n)) n m.body (enterFr m args) []) = some d) : ∃ σ, callN T (n + 1) f args [] = some (d, σ) := by
 rw [callNK_eq, overs_eq ho, runCK_eq] at h
 obtain ⟨fr, σ, σ', h1, h2, h3⟩ := endR_eq h
 refine ⟨σ', ?_⟩
 have hb : runBody (callN T n) n m args [] = some (fr, σ) := by
  unfold runBody
  rw [if_pos ⟨hp, hp2⟩, h1]
 simp only [callN, hm, hb, h2, List.isEmpty_nil, if_true]
 exact h3
end Go.Abs
