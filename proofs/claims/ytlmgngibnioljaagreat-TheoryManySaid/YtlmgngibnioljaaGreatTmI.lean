import Derived.Test.YtlmgngibnioljaaGreatTmC
import Derived.Test.YtlmgngibnioljaaGreatLwU0
import Derived.Test.YtlmgngibnioljaaGreatSem
set_option linter.unusedVariables false
set_option linter.unusedSimpArgs false
/-
  The policies of the law, the atoms that they make, and the memory in which their names are asked for.
-/
namespace Go.Abs.T
open Go Go.Abs Go.Proofs
set_option maxRecDepth 100000
def idL (i : Nat) : List UInt8 := (List.drop i [97, 98, 99, 100, 101, 102, 103, 104, 105, 106, 107, 108, 109, 110, 111, 112]).take 1
/-- The type of the names. -/
def tyB (b : Bool) : List UInt8 := if b then [71] else [85]
def atomB (b : Bool) (i : Nat) : List D := [.int .i64 (if b then 4 else 1), .str (tyB b), .str (idL i), .str [], .str [], .str [], .str []]
def atomsB (b : Bool) (k : Nat) : List (List D) := (List.range k).map (atomB b)
def polP (i : Nat) : List D := [.str [], .bool false, .int .i64 1, .str [], .str [85], .str (idL i), .bool false, .sl [] none, .int .i64 0, .str [], .str [], .str [], .bool false, .sl [] none, .int .i64 0, .str [], .str [], .str [], .bool false, .sl [] none, .sl [] none]
def polR (i : Nat) : List D := [.str [], .bool false, .int .i64 0, .str [], .str [], .str [], .bool false, .sl [] none, .int .i64 0, .str [], .str [], .str [], .bool false, .sl [] none, .int .i64 2, .str [], .str [71], .str (idL i), .bool false, .sl [] none, .sl [] none]
def envE : D := .agg [.str [85], .str [118], .str [85]]
/-- The book behind k policies. -/
def stB (b : Bool) (k : Nat) : St := [.map ((List.range k).map fun i => (.agg (atomB b i), .int .i64 (i + 1))), .cells [.sl [[.str [85], .sl [[.str [71]]] none, .sl [] none], [.str [71], .sl [] none, .sl [] none]] none, .sl [[.str [118], .sl [] none, .sl [[.str [85]]] none, .sl [[.str [85]]] none, .sl [] none]] none, .str [85], .str [118], .str [85], .sl (atomsB b k) (some 64), .map 0, .bool false]]
def grown : Nat → St
  | 0 => []
  | n + 1 => .dead :: .row 37 :: grown n
/-- What the names leave. -/
def nmB (b : Bool) (k : Nat) : St := match k with
  | 0 => []
  | n + 1 => grown n ++ [.cells ((List.range k).flatMap fun i => [.str (tyB b), .str (idL i)]), .row 37]
def ansB (o k : Nat) : D := match k with
  | 0 => .sl [] none
  | n + 1 => .msl (o + 2 * n) 0 k 2
def boxB (n : Nat) : Obj := .cells [.int .i64 n, .str [85]]
def emp (b : Bool) : St → St := fun s => if b then [] else s
def s1 (b : Bool) (k : Nat) : St := stB b k
def s2 (b : Bool) (k : Nat) : St := s1 b k ++ nmB b k ++ [boxB 1]
def s3 (b : Bool) (k : Nat) : St := s2 b k ++ emp b (nmB b k) ++ [boxB 3]
def s4 (b : Bool) (k : Nat) : St := s3 b k ++ emp (!b) (nmB b k) ++ [boxB 1]
def s5 (b : Bool) (k : Nat) : St := s4 b k ++ emp b (nmB b k) ++ [boxB 3]
def nf (f : Nat) (e b : Bool) (k : Nat) (σ : St) : (List D × St) × (D × St) :=
  (([.ptr 1 0, .func f (if Nat.beq f 15 then [] else [.ptr (σ.length - 1) 0])], σ), (if e then .sl [] none else ansB σ.length k, σ ++ emp e (nmB b k)))
def nf1 (b : Bool) (k : Nat) := nf 15 false b k (s1 b k)
def nf2 (b : Bool) (k : Nat) := nf 18 b b k (s2 b k)
def nf3 (b : Bool) (k : Nat) := nf 18 (!b) b k (s3 b k)
def nf4 (b : Bool) (k : Nat) := nf 23 b b k (s4 b k)
def nf5 (b : Bool) (k : Nat) := nf 23 (!b) b k (s5 b k)
def facts14 (b : Bool) (k : Nat) : List ((List D × St) × (D × St)) := if k ≤ 12 then [nf1 b k, nf2 b k, nf3 b k, nf4 b k, nf5 b k] else [nf1 b k]
def polB (b : Bool) (i : Nat) : List D := if b then polR i else polP i
def polsB (b : Bool) (k : Nat) : List (List D) := (List.range k).map (polB b)
def takeB (b : Bool) (i : Nat) : List D := fC 5 0 (if b then [fC 1 0 [], fC 1 0 [], fC 3 (i + 1) []] else [fC 3 (i + 1) [], fC 1 0 [], fC 1 0 []])
/-- One policy more. -/
def nf0 (b : Bool) (i : Nat) : (List D × St) × (D × St) := (([.ptr 1 0, .agg (polB b i)], stB b i), (.agg (takeB b i), stB b (i + 1)))
def facts13 (b : Bool) : List ((List D × St) × (D × St)) := (List.range 15).map (nf0 b)
def FOK0 (e : (List D × St) × (D × St)) : Prop := e.1.1.all D.notL = true ∧ callN T 21 13 e.1.1 e.1.2 = some e.2 ∧ e.2.1.bare = e.2.1 ∧ e.2.1.notL = true
def FOK (e : (List D × St) × (D × St)) : Prop := e.1.1.all D.notL = true ∧ callN T 21 14 e.1.1 e.1.2 = some e.2 ∧ e.2.1.bare = e.2.1 ∧ e.2.1.notL = true
/-- What is and in answer of a name. -/
def fIs (b : Bool) (i : List UInt8) : Int × Int × List (List D) := if b then (2, 0, []) else (3, (i.getD 0 0).toNat - 96, [])
def fIn (i : List UInt8) : Int × Int × List (List D) := (3, (i.getD 0 0).toNat - 96, [])
def f22 (e : Bool) (x : Int) (b : Bool) (k : Nat) (σ : St) : (List D × St) × (D × St) :=
  if e then (([.ptr 1 0, .agg [.int .i64 x, .str [85]], .sl [] none], σ), (.sl [] none, σ))
  else (([.ptr 1 0, .agg [.int .i64 x, .str [85]], ansB σ.length k], σ ++ nmB b k), (.sl (of0 (fIs b) fIn ((List.range k).map idL)) none, σ ++ nmB b k))
def nf6 (b : Bool) (k : Nat) := f22 b 1 b k (s4 b k)
def nf7 (b : Bool) (k : Nat) := f22 (!b) 3 b k (s5 b k)
def facts22 (b : Bool) (k : Nat) : List ((List D × St) × (D × St)) := if k ≤ 12 then [nf6 b k, nf7 b k] else []
def FOK2 (e : (List D × St) × (D × St)) : Prop := e.1.1.all D.notL = true ∧ callN T 21 22 e.1.1 e.1.2 = some e.2 ∧ e.2.1.bare = e.2.1 ∧ e.2.1.notL = true
end Go.Abs.T

/-
  above, told where its names are of one type that lies above none.
-/
namespace Go.Abs.T
open Go Go.Abs Go.Proofs
set_option maxRecDepth 20000
attribute [local irreducible] callN runC evalOp
def abvF : List D → St → Option (D × St)
  | [.ptr ob 0, .agg [.str t, .str i], .agg [.str t', .str j]], σ =>
    match σ[ob]? with
    | some (.cells [.sl A none, .sl B none, _, _, _, _, _, _]) =>
      bif sameD (.agg [.sl A none, .sl B none]) schS && t == t' && (t == [85] || t == [71]) then some (.agg (fC (bif i == j then 1 else 2) 0 []), σ) else none
    | _ => none
  | _, _ => none
theorem abvF_ok {ds : List D} {σ σ' : St} {d : D} (h : abvF ds σ = some (d, σ')) : callN T 61 21 ds σ = some (d, σ') ∧ (∃ L, d = .agg [.int .i64 L, .int .i64 0, .sl [] none]) ∧ ds.all D.notL = true := by
  unfold abvF at h
  split at h
  rotate_left
  · cases h
  split at h
  rotate_left
  · cases h
  rename_i hσ
  simp only [cond_eq_ite] at h
  split at h
  rotate_left
  · cases h
  rename_i hc
  simp only [Option.some.injEq, Prod.mk.injEq] at h
  obtain ⟨rfl, rfl⟩ := h
  simp only [Bool.and_eq_true, Bool.or_eq_true, beq_iff_eq] at hc
  obtain ⟨⟨hs, rfl⟩, ht⟩ := hc
  have hs := sameD_eq _ _ hs
  rename_i ob t i j _ A B e0 e1 e2 at_ mp bd hs0
  have hA : (t == [65, 99, 116, 105, 111, 110]) = false ∧ ∃ σ', callN T (58 + 2) 59 [.agg [.sl A none, .sl B none], .str t, .str t] [] = some (.bool false, σ') := by
    rw [hs]
    rcases ht with rfl | rfl
    · exact ⟨by decide, ab_uu⟩
    · exact ⟨by decide, ab_gg⟩
  have := above_ok 58 σ ob A B e0 e1 e2 at_ mp bd hσ t i j hA.1 hA.2
  refine ⟨?_, ⟨_, rfl⟩, rfl⟩
  rw [this]
  by_cases hij : i = j
  · simp [hij]
  · simp [hij]
noncomputable def w21 : MFunc := toldS 3 abvF
theorem good21 : GoodT Tryz.prog 21 w21 := good_toldS Tryz.func21 (c := (Tryz.f21.body).getD .skip) (by kernel_rfl) (fun ds σ d σ' ha => by
  obtain ⟨h1, ⟨L, rfl⟩, h2⟩ := abvF_ok ha
  exact ⟨rfl, rfl, fun g w vals hi hide hr _ => (callN_ok hmix tab_ok 61).1 21 ds σ _ σ' h1 g w vals hi hide hr h2⟩)
end Go.Abs.T

/-
  The table with policies, names, sides' axioms and above told at given memories.
-/
namespace Go.Abs.T
open Go Go.Abs Go.Proofs
set_option maxRecDepth 20000
noncomputable def w13 (b : Bool) : MFunc := toldS 2 (factF (facts13 b))
noncomputable def w14 (b : Bool) (k : Nat) : MFunc := toldS 2 (factF (facts14 b k))
noncomputable def v22 (b : Bool) (k : Nat) : MFunc := toldS 3 (factF (facts22 b k))
noncomputable def TJ (b : Bool) (k : Nat) : Table := fun f => bif Nat.beq f 14 then some (w14 b k) else bif Nat.beq f 22 then some (v22 b k) else bif Nat.beq f 13 then some (w13 b) else bif Nat.beq f 21 then some w21 else TE f
theorem tj_ok {b : Bool} {k : Nat} (h0 : ∀ e ∈ facts13 b, FOK0 e) (h : ∀ e ∈ facts14 b k, FOK e) (h2 : ∀ e ∈ facts22 b k, FOK2 e) : TabOK Tryz.prog (TJ b k) := by
  intro f m hm
  unfold TJ at hm
  simp only [cond_eq_ite] at hm
  split at hm
  · rename_i hf
    have := Nat.eq_of_beq_eq_true hf
    subst this
    cases hm
    exact ⟨Tryz.f14, Tryz.func14, .inr (.inr (good_facts hmix tab_ok Tryz.func14 (c := (Tryz.f14.body).getD .skip) (by kernel_rfl) h)), by kernel_rfl⟩
  split at hm
  · rename_i hf
    have := Nat.eq_of_beq_eq_true hf
    subst this
    cases hm
    exact ⟨Tryz.f22, Tryz.func22, .inr (.inr (good_facts hmix tab_ok Tryz.func22 (c := (Tryz.f22.body).getD .skip) (by kernel_rfl) h2)), by kernel_rfl⟩
  split at hm
  · rename_i hf
    have := Nat.eq_of_beq_eq_true hf
    subst this
    cases hm
    exact ⟨Tryz.f13, Tryz.func13, .inr (.inr (good_facts hmix tab_ok Tryz.func13 (c := (Tryz.f13.body).getD .skip) (by kernel_rfl) h0)), by kernel_rfl⟩
  split at hm
  · rename_i hf
    have := Nat.eq_of_beq_eq_true hf
    subst this
    cases hm
    exact ⟨Tryz.f21, Tryz.func21, .inr (.inr good21), by kernel_rfl⟩
  · exact te_ok f m hm
end Go.Abs.T

/-
  Leads of the document, in the schema of the law: told by what the closed runs answered.
-/
namespace Go.Abs.T
open Go Go.Abs Go.Proofs
set_option maxRecDepth 100000
theorem le_uu : ∃ σ, callN T 60 102 [schS, .bool false, .str [85], .str [85]] [] = some (.bool false, σ) := run_ofT (by kernel_rfl)
theorem le_ug : ∃ σ, callN T 60 102 [schS, .bool false, .str [85], .str [71]] [] = some (.bool true, σ) := run_ofT (by kernel_rfl)
theorem le_gu : ∃ σ, callN T 60 102 [schS, .bool false, .str [71], .str [85]] [] = some (.bool false, σ) := run_ofT (by kernel_rfl)
theorem le_gg : ∃ σ, callN T 60 102 [schS, .bool false, .str [71], .str [71]] [] = some (.bool false, σ) := run_ofT (by kernel_rfl)
def facts102 : List (List D × D) := [([schS, .bool false, .str [85], .str [85]], .bool false), ([schS, .bool false, .str [85], .str [71]], .bool true), ([schS, .bool false, .str [71], .str [85]], .bool false), ([schS, .bool false, .str [71], .str [71]], .bool false)]
def w102 : MFunc := toldF 4 (atFs facts102)
theorem good102 : GoodT Tryz.prog 102 w102 := good_ats hmix tab_ok Tryz.func102 (c := (Tryz.f102.body).getD .skip) (by kernel_rfl) (by
  intro e he
  simp only [facts102, List.mem_cons, List.not_mem_nil, or_false] at he
  rcases he with rfl | rfl | rfl | rfl
  · exact ⟨le_uu, by kernel_rfl, fun σ => by kernel_rfl, fun σ => by kernel_rfl, by kernel_rfl, by kernel_rfl⟩
  · exact ⟨le_ug, by kernel_rfl, fun σ => by kernel_rfl, fun σ => by kernel_rfl, by kernel_rfl, by kernel_rfl⟩
  · exact ⟨le_gu, by kernel_rfl, fun σ => by kernel_rfl, fun σ => by kernel_rfl, by kernel_rfl, by kernel_rfl⟩
  · exact ⟨le_gg, by kernel_rfl, fun σ => by kernel_rfl, fun σ => by kernel_rfl, by kernel_rfl, by kernel_rfl⟩)
/-- The table with what leads where. -/
noncomputable def TA : Table := fun f => bif Nat.beq f 102 then some w102 else T f
theorem ta_ok : TabOK Tryz.prog TA := by
  intro f m h
  unfold TA at h
  simp only [cond_eq_ite] at h
  split at h
  · rename_i hf
    have := Nat.eq_of_beq_eq_true hf
    subst this
    cases h
    exact ⟨Tryz.f102, Tryz.func102, .inr (.inr good102), by kernel_rfl⟩
  · exact tab_ok f m h
end Go.Abs.T

/-
  Policies and names of the document, of the law's policies.
-/
namespace Go.Abs.T
open Go Go.Abs Go.Proofs
set_option maxRecDepth 100000
def schL : List D := [.sl [[.str [85], .sl [[.str [71]]] none, .sl [] none], [.str [71], .sl [] none, .sl [] none]] none, .sl [[.str [118], .sl [] none, .sl [[.str [85]]] none, .sl [[.str [85]]] none, .sl [] none]] none]
/-- What the document's answer holds behind k policies. -/
def xB (b : Bool) (k : Nat) : D := .agg (schL ++ [.str [85], .str [118], .str [85], .sl (atomsB b k) none, .sl [] none, .bool false])
def uidsB (b : Bool) (k : Nat) : List (List D) := (List.range k).map fun i => [.str (tyB b), .str (idL i)]
/-- What a function answers. -/
noncomputable def ansK (T : Table) (n f : Nat) (ds : List D) : D := ((callNK T n f ds []).getD (.junk, [])).1
def pf28 (b : Bool) (i : Nat) : List D × D := ([xB b i, .agg (polB b i)], .tup [xB b (i + 1), .bool false])
def pf67 (b : Bool) (i : Nat) : List D × D := ([.sl (uidsB b i) none, .agg [.str (tyB b), .str (idL i)]], .sl (uidsB b (i + 1)) none)
def factsB (b : Bool) (g : Bool → Nat → List D × D) : List (List D × D) := (List.range 15).map (g b)
def FOKP (Tb : Table) (n f : Nat) (e : List D × D) : Prop := (∃ σ, callN Tb n f e.1 [] = some (e.2, σ)) ∧ e.1.all pureArg = true ∧ (∀ σ, snap σ e.1 = some (e.1, [])) ∧ (∀ σ, freeze σ e.2 = some e.2) ∧ e.2.bare = e.2 ∧ e.2.notL = true
def w28 (b : Bool) : MFunc := toldF 2 (atFs (factsB b pf28))
def w67 (b : Bool) : MFunc := toldF 2 (atFs (factsB b pf67))
noncomputable def TP (b : Bool) : Table := fun f => bif Nat.beq f 28 then some (w28 b) else bif Nat.beq f 67 then some (w67 b) else TA f
theorem tp_ok {b : Bool} (h28 : ∀ e ∈ factsB b pf28, FOKP TA 60 28 e) (h67 : ∀ e ∈ factsB b pf67, FOKP TA 60 67 e) : TabOK Tryz.prog (TP b) := by
  intro f m hm
  unfold TP at hm
  simp only [cond_eq_ite] at hm
  split at hm
  · rename_i hf
    have := Nat.eq_of_beq_eq_true hf
    subst this
    cases hm
    exact ⟨Tryz.f28, Tryz.func28, .inr (.inr (good_ats hmix ta_ok Tryz.func28 (c := (Tryz.f28.body).getD .skip) (by kernel_rfl) h28)), by kernel_rfl⟩
  split at hm
  · rename_i hf
    have := Nat.eq_of_beq_eq_true hf
    subst this
    cases hm
    exact ⟨Tryz.f67, Tryz.func67, .inr (.inr (good_ats hmix ta_ok Tryz.func67 (c := (Tryz.f67.body).getD .skip) (by kernel_rfl) h67)), by kernel_rfl⟩
  · exact ta_ok f m hm
end Go.Abs.T

/-
  What is asked of the answers of theory.Of and of the document's Of, told of as many policies as there are.
-/
namespace Go.Abs.T
open Go Go.Abs Go.Proofs
set_option maxRecDepth 20000
def fine (b : Bool) (k : Nat) (at_ : List (List D)) (e : Int) : Bool := bif Nat.ble k 12 then sameD (.sl at_ none) (.sl (atomsB b k) none) && e == 0 else e == 52
def chk6 (b : Bool) (k : Nat) : Option (D × St) → Bool
  | some (.tup [.agg [.sl tk none, .sl at_ none, .int .i64 _, .int .i64 _, .sl _ none], .int .i64 e], _) => fine b k at_ e && (Nat.ble 13 k || Nat.beq tk.length k)
  | _ => false
def chk7 (b : Bool) (k : Nat) : Option (D × St) → Bool
  | some (.tup [.agg [.sl _ none, .sl _ none, .str _, .str _, .str _, .sl at_ none, .sl _ none, .bool _], .sl _ none, .int .i64 e], _) => fine b k at_ e
  | _ => false
def arg6 (b : Bool) (k : Nat) : List D := [schS, envE, .sl (polsB b k) none]
def arg7 (b : Bool) (k : Nat) : List D := [schS, envE, .sl (polsB b k) none, .sl [] none]
/-- What a function answers, in some table that is right. -/
def Rn (f : Nat) (ds : List D) (d : D) : Prop := ∃ Tb σ, TabOK Tryz.prog Tb ∧ callN Tb 60 f ds [] = some (d, σ)
def Fine (b : Bool) (k : Nat) (at_ : List (List D)) (e : Int) : Prop := (k ≤ 12 ∧ at_ = atomsB b k ∧ e = 0) ∨ (12 < k ∧ e = 52)
def R6 (b : Bool) (k : Nat) : Prop := ∃ tk at_ ks a c e, Rn 6 (arg6 b k) (.tup [.agg [.sl tk none, .sl at_ none, .int .i64 a, .int .i64 c, .sl ks none], .int .i64 e]) ∧ Fine b k at_ e ∧ (k ≤ 12 → tk.length = k)
def R7 (b : Bool) (k : Nat) : Prop := ∃ s1 s2 p q r at_ t bad bs e, Rn 7 (arg7 b k) (.tup [.agg [.sl s1 none, .sl s2 none, .str p, .str q, .str r, .sl at_ none, .sl t none, .bool bad], .sl bs none, .int .i64 e]) ∧ Fine b k at_ e
def R9 (b : Bool) (k : Nat) : Prop := Rn 9 [.sl (atomsB b k) none, .sl (atomsB b k) none] (.bool true)
theorem fine_of {b : Bool} {k : Nat} {at_ : List (List D)} {e : Int} (h : fine b k at_ e = true) : Fine b k at_ e := by
  unfold fine at h
  by_cases hk : k ≤ 12
  · rw [show Nat.ble k 12 = true from by simpa using hk] at h
    simp only [cond_true, Bool.and_eq_true, beq_iff_eq] at h
    have := sameD_eq _ _ h.1
    simp only [D.sl.injEq, and_true] at this
    exact .inl ⟨hk, this, h.2⟩
  · rw [show Nat.ble k 12 = false from by simp only [← Bool.not_eq_true, Nat.ble_eq]; exact hk] at h
    simp only [cond_false, beq_iff_eq] at h
    exact .inr ⟨by omega, h⟩
theorem r6_of {b : Bool} {k : Nat} {Tb : Table} (ht : TabOK Tryz.prog Tb) (h : chk6 b k (callNK Tb 60 6 (arg6 b k) []) = true) : R6 b k := by
  rw [callNK_eq] at h
  generalize hr : callN Tb 60 6 (arg6 b k) [] = r at h
  unfold chk6 at h
  split at h
  · simp only [Bool.and_eq_true, Bool.or_eq_true] at h
    refine ⟨_, _, _, _, _, _, ⟨Tb, _, ht, hr⟩, fine_of h.1, fun hk => ?_⟩
    rcases h.2 with h2 | h2
    · have := Nat.le_of_ble_eq_true h2
      omega
    · exact Nat.eq_of_beq_eq_true h2
  · cases h
theorem r7_of {b : Bool} {k : Nat} {Tb : Table} (ht : TabOK Tryz.prog Tb) (h : chk7 b k (callNK Tb 60 7 (arg7 b k) []) = true) : R7 b k := by
  rw [callNK_eq] at h
  generalize hr : callN Tb 60 7 (arg7 b k) [] = r at h
  unfold chk7 at h
  split at h
  · exact ⟨_, _, _, _, _, _, _, _, _, _, ⟨Tb, _, ht, hr⟩, fine_of h⟩
  · cases h
theorem r9_of {b : Bool} {k : Nat} (h : (callNK T 60 9 [.sl (atomsB b k) none, .sl (atomsB b k) none] []).map (fun r => sameD r.1 (.bool true)) = some true) : R9 b k := by
  rw [callNK_eq] at h
  rw [Option.map_eq_some_iff] at h
  obtain ⟨⟨d, σ⟩, h1, h2⟩ := h
  have h3 : d = .bool true := sameD_eq _ _ h2
  exact ⟨T, σ, tab_ok, by rw [h1, h3]⟩
end Go.Abs.T

/-
  A row whose law may be shown in a table that depends on the arguments.
-/
namespace Go.Abs.T
open Go Go.Abs Go.Proofs
set_option maxRecDepth 20000
def w5 : MFunc := toldF 0 (atFs [([], .bool true)])
/-- Told at arguments that are these. -/
noncomputable def atC (ds : List D) (d : D) : List D → St → Option D := fun xs _ => @ite _ (xs = ds) (Classical.propDecidable _) (some d) none
theorem atC_eq {ds xs : List D} {d d' : D} {σ : St} (h : atC ds d xs σ = some d') : xs = ds ∧ d' = d := by
  unfold atC at h
  split at h
  · exact ⟨by assumption, (Option.some.inj h).symm⟩
  · cases h
theorem call_atC {T : Table} {n f k : Nat} {ds : List D} {d : D} (hT : T f = some (toldF k (atC ds d))) (hl : ds.length = k) (hs : ds.map D.strip = ds) (hb : d.bare = d) (hn : d.notL = true) : callN T (n + 1) f ds [] = some (d, []) := by
  have hsl : (enterFr (toldF k (atC ds d)) ds).slots = ds ++ [.junk] := by
    simp only [enterFr, toldF, hs, hl]
    rw [show k + 1 - k = 1 by omega]
    rfl
  have hF : atC ds d ((enterFr (toldF k (atC ds d)) ds).slots.take k) [] = some d := by
    rw [hsl, ← hl, List.take_left]
    unfold atC
    rw [if_pos rfl]
  have hrun : runBody (callN T n) n (toldF k (atC ds d)) ds [] = some ((enterFr (toldF k (atC ds d)) ds).set k d, []) := by
    unfold runBody
    rw [if_pos ⟨hl, by simp [toldF]⟩]
    show (match ((atC ds d ((enterFr (toldF k (atC ds d)) ds).slots.take k) []).map fun d' => (AE.ret, (enterFr (toldF k (atC ds d)) ds).set k d', ([] : St))) with | some (.exit _, _, _) => none | some (_, fr, σ) => some (fr, σ) | none => none) = _
    rw [hF]
    rfl
  have hat : ((enterFr (toldF k (atC ds d)) ds).set k d).at k = d := by
    simp only [Fr.at, Fr.set, hsl, List.getD_eq_getElem?_getD]
    rw [List.getElem?_set_self (by simp [hl])]
    rfl
  simp only [callN, hT, hrun]
  have hd : ((enterFr (toldF k (atC ds d)) ds).set k d).defers.isEmpty = true := rfl
  rw [if_pos hd]
  show resultOf ((enterFr (toldF k (atC ds d)) ds).set k d) [] [.tmp k] = some (d, [])
  simp only [resultOf, resD, hat, hb]
  cases d <;> first | rfl | cases hn
/-- The table of one number of policies. -/
noncomputable def TZ (b : Bool) (k : Nat) (d6 d7 : D) : Table := fun f => bif Nat.beq f 5 then some w5 else bif Nat.beq f 6 then some (toldF 3 (atC (arg6 b k) d6)) else bif Nat.beq f 7 then some (toldF 4 (atC (arg7 b k) d7)) else bif Nat.beq f 9 then some (toldF 2 (atC [.sl (atomsB b k) none, .sl (atomsB b k) none] (.bool true))) else T f
/-- What can be told of a function of content alone. -/
def Clean (d : D) : Prop := (∀ σ, freeze σ d = some d) ∧ d.bare = d ∧ d.notL = true
theorem good_rn {f k : Nat} {ds : List D} {d : D} {fn : Func} {c : Code} (hf : Tryz.prog.funcs[f]? = some fn) (hb : fn.body = some c) (h : Rn f ds d) (hp : ds.all pureArg = true) (hs : ∀ σ, snap σ ds = some (ds, [])) (hc : Clean d) : GoodT Tryz.prog f (toldF k (atC ds d)) := by
  obtain ⟨Tb, σc, ht, hr⟩ := h
  refine good_told hf hb (fun xs σ d' ha => ?_)
  obtain ⟨rfl, rfl⟩ := atC_eq ha
  obtain ⟨hz, hd, hn⟩ := hc
  refine ⟨hd, hn, fun g w vals hi _ hr' hbase => ?_⟩
  have i0 : Inv Tryz.prog g w ⟨[], [], []⟩ σ { tmps := #[], defers := g.base } := ⟨hi, ⟨rfl, rfl, fun t d h => by simp at h, fun t cs h => by simp at h⟩, ⟨[], rfl, rfl, fun k x y h => by simp at h⟩⟩
  refine Calls.mono (call_pure (callN_ok hmix ht 60).1 i0 hp (hs σ) hr (hz σc) hr') ?_
  rintro e w' ⟨v, rfl, g', e1, i1, r1, n1, o1⟩
  refine ⟨v, rfl, g', e1, ?_, r1, n1, o1⟩
  have := i1.h
  simpa using this
theorem clean6 {tk at_ ks : List (List D)} {a c e : Int} : Clean (.tup [.agg [.sl tk none, .sl at_ none, .int .i64 a, .int .i64 c, .sl ks none], .int .i64 e]) := ⟨fun _ => rfl, rfl, rfl⟩
theorem clean7 {s1 s2 at_ t bs : List (List D)} {p q r : List UInt8} {bad : Bool} {e : Int} : Clean (.tup [.agg [.sl s1 none, .sl s2 none, .str p, .str q, .str r, .sl at_ none, .sl t none, .bool bad], .sl bs none, .int .i64 e]) := ⟨fun _ => rfl, rfl, rfl⟩
theorem tz_ok {b : Bool} {k : Nat} {d6 d7 : D} (h5 : ∃ σ, callN T 90 5 [] [] = some (.bool true, σ)) (h6 : Rn 6 (arg6 b k) d6) (h7 : Rn 7 (arg7 b k) d7) (h9 : R9 b k) (c6 : Clean d6) (c7 : Clean d7) : TabOK Tryz.prog (TZ b k d6 d7) := by
  intro f m hm
  unfold TZ at hm
  simp only [cond_eq_ite] at hm
  split at hm
  · rename_i hf
    have := Nat.eq_of_beq_eq_true hf
    subst this
    cases hm
    refine ⟨Tryz.f5, Tryz.func5, .inr (.inr (good_ats hmix tab_ok (n := 90) Tryz.func5 (c := (Tryz.f5.body).getD .skip) (by kernel_rfl) ?_)), by kernel_rfl⟩
    intro e he
    simp only [List.mem_cons, List.not_mem_nil, or_false] at he
    subst he
    exact ⟨h5, by kernel_rfl, fun σ => by kernel_rfl, fun σ => by kernel_rfl, by kernel_rfl, by kernel_rfl⟩
  split at hm
  · rename_i hf
    have := Nat.eq_of_beq_eq_true hf
    subst this
    cases hm
    exact ⟨Tryz.f6, Tryz.func6, .inr (.inr (good_rn Tryz.func6 (c := (Tryz.f6.body).getD .skip) (by kernel_rfl) h6 rfl (fun _ => rfl) c6)), by kernel_rfl⟩
  split at hm
  · rename_i hf
    have := Nat.eq_of_beq_eq_true hf
    subst this
    cases hm
    exact ⟨Tryz.f7, Tryz.func7, .inr (.inr (good_rn Tryz.func7 (c := (Tryz.f7.body).getD .skip) (by kernel_rfl) h7 rfl (fun _ => rfl) c7)), by kernel_rfl⟩
  split at hm
  · rename_i hf
    have := Nat.eq_of_beq_eq_true hf
    subst this
    cases hm
    exact ⟨Tryz.f9, Tryz.func9, .inr (.inr (good_rn Tryz.func9 (c := (Tryz.f9.body).getD .skip) (by kernel_rfl) h9 rfl (fun _ => rfl) ⟨fun _ => rfl, rfl, rfl⟩)), by kernel_rfl⟩
  · exact tab_ok f m hm
theorem z5 (b : Bool) (k : Nat) (d6 d7 : D) (n : Nat) : callN (TZ b k d6 d7) (n + 1) 5 [] [] = some (.bool true, []) := rfl
theorem z6 (b : Bool) (k : Nat) (d6 d7 : D) (c : Clean d6) (n : Nat) : callN (TZ b k d6 d7) (n + 1) 6 (arg6 b k) [] = some (d6, []) := call_atC rfl rfl rfl c.2.1 c.2.2
theorem z7 (b : Bool) (k : Nat) (d6 d7 : D) (c : Clean d7) (n : Nat) : callN (TZ b k d6 d7) (n + 1) 7 (arg7 b k) [] = some (d7, []) := call_atC rfl rfl rfl c.2.1 c.2.2
theorem z9 (b : Bool) (k : Nat) (d6 d7 : D) (n : Nat) : callN (TZ b k d6 d7) (n + 1) 9 [.sl (atomsB b k) none, .sl (atomsB b k) none] [] = some (.bool true, []) := call_atC rfl rfl rfl rfl rfl
end Go.Abs.T

/-
  TheoryMany as the machine code sees it, step by step, for any two bytes.
-/
namespace Go.Abs.T
open Go Go.Abs
set_option maxRecDepth 20000
attribute [local irreducible] callN runC evalOp
def f3 (kk kI : Int) (i : Nat) (L : List (List D)) : Fr :=
  Fr.mk (setsAt (List.replicate 107 .junk) [(1, .int .u8 kk), (4, .bool false), (6, .lptr 6 0), (7, .lptr 7 0), (8, .int .i64 kI), (9, .sl L (some 43)), (10, .int .i64 i)]) (setsAt (List.replicate 107 none) [(6, some schL), (7, some [.str [85], .str [118], .str [85]])]) []
theorem polsB_succ (b : Bool) (i : Nat) : polsB b (i + 1) = polsB b i ++ [polB b i] := by simp [polsB, List.range_succ]
theorem many_ok (n kk : Int) (b : Bool) (k : Nat) (hk : IntKind.wrap IntKind.i64 (n.tmod 16) = (k : Int)) (hk16 : k < 16) (hb : (IntKind.wrap IntKind.u8 ((BitVec.ofInt 8 kk &&& BitVec.ofInt 8 3).toNat : Int) == 1) = b)
    {tk at_ ks : List (List D)} {a c e : Int} {s1 s2 at2 t2 bs : List (List D)} {p q r : List UInt8} {bad : Bool} {e2 : Int} (hf6 : Fine b k at_ e) (hf6l : k ≤ 12 → tk.length = k) (hf7 : Fine b k at2 e2) (d6 d7 : D)
    (hd6 : d6 = .tup [.agg [.sl tk none, .sl at_ none, .int .i64 a, .int .i64 c, .sl ks none], .int .i64 e]) (hd7 : d7 = .tup [.agg [.sl s1 none, .sl s2 none, .str p, .str q, .str r, .sl at2 none, .sl t2 none, .bool bad], .sl bs none, .int .i64 e2]) :
    ∃ σ, callN (TZ b k d6 d7) 62 3 [.int .u8 n, .int .u8 kk] [] = some (.bool true, σ) := by
  have c5 := z5 b k d6 d7 60
  have c6 : callN (TZ b k d6 d7) 61 6 [schS, envE, .sl (polsB b k) none] [] = some (.tup [.agg [.sl tk none, .sl at_ none, .int .i64 a, .int .i64 c, .sl ks none], .int .i64 e], []) := by rw [← hd6]; exact z6 b k d6 d7 (hd6 ▸ clean6) 60
  have c7 : callN (TZ b k d6 d7) 61 7 [schS, envE, .sl (polsB b k) none, .sl [] none] [] = some (.tup [.agg [.sl s1 none, .sl s2 none, .str p, .str q, .str r, .sl at2 none, .sl t2 none, .bool bad], .sl bs none, .int .i64 e2], []) := by rw [← hd7]; exact z7 b k d6 d7 (hd7 ▸ clean7) 60
  obtain ⟨σ8, c8⟩ : ∃ σ, callN (TZ b k d6 d7) 61 8 [.agg [.str [85], .str [118], .str [85]]] [] = some (.agg [.str [85], .str [118], .str [85]], σ) := run_ofT (by kernel_rfl)
  have c9 := z9 b k d6 d7 60
  refine call_ofE (m := m3) rfl rfl (by decide) (k_start ?_)
  unfold m3
  refine k_seq ?_
  refine rv (D.bool false) ?_
  refine k_done (k_skip_seq (k_seq ?_))
  refine runs_call ([]) (by kernel_rfl) (by kernel_rfl) (by kernel_rfl) (by kernel_rfl) (c5) (by kernel_rfl) ?_
  refine ra0 (D.bool true) ?_
  refine k_done (k_skip_seq (k_seq (k_seq ?_)))
  refine rv (D.bool true) ?_
  refine rv (D.bool false) ?_
  refine k_done (k_skip_seq (kcf (k_skip_seq (k_seq ?_))))
  refine rv (D.sl [[D.str [(71 : UInt8)]]] (some (9 : Nat))) ?_
  refine rv (D.agg [D.str [(85 : UInt8)], D.sl [[D.str [(71 : UInt8)]]] none, D.nils (115 : Nat)]) ?_
  refine rv (D.agg [D.str [(71 : UInt8)], D.nils (9 : Nat), D.nils (115 : Nat)]) ?_
  refine rv (D.sl [[D.str [(85 : UInt8)], D.sl [[D.str [(71 : UInt8)]]] none, D.sl [] none], [D.str [(71 : UInt8)], D.sl [] none, D.sl [] none]] (some (26 : Nat))) ?_
  refine rv (D.sl [[D.str [(85 : UInt8)]]] (some (9 : Nat))) ?_
  refine rv (D.sl [[D.str [(85 : UInt8)]]] (some (9 : Nat))) ?_
  refine rv (D.agg [D.str [(118 : UInt8)], D.nils (9 : Nat), D.sl [[D.str [(85 : UInt8)]]] none, D.sl [[D.str [(85 : UInt8)]]] none, D.nils (115 : Nat)]) ?_
  refine rv (D.sl [[D.str [(118 : UInt8)], D.sl [] none, D.sl [[D.str [(85 : UInt8)]]] none, D.sl [[D.str [(85 : UInt8)]]] none, D.sl [] none]] (some (29 : Nat))) ?_
  refine rv (D.agg [D.sl [[D.str [(85 : UInt8)], D.sl [[D.str [(71 : UInt8)]]] none, D.sl [] none], [D.str [(71 : UInt8)], D.sl [] none, D.sl [] none]] none, D.sl [[D.str [(118 : UInt8)], D.sl [] none, D.sl [[D.str [(85 : UInt8)]]] none, D.sl [[D.str [(85 : UInt8)]]] none, D.sl [] none]] none]) ?_
  refine rgf (D.lptr (6 : Nat) (0 : Nat)) ([]) ?_
  refine rgf (D.junk) ([]) ?_
  refine k_done (k_skip_seq (k_seq ?_))
  refine rv (D.agg [D.str [(85 : UInt8)], D.str [(118 : UInt8)], D.str [(85 : UInt8)]]) ?_
  refine rgf (D.lptr (7 : Nat) (0 : Nat)) ([]) ?_
  refine rgf (D.junk) ([]) ?_
  refine k_done (k_skip_seq (k_seq ?_))
  refine rv (D.int IntKind.u8 n) ?_
  refine rv (D.int IntKind.u8 (Int.tmod n (16 : Int))) ?_
  refine rv (D.int IntKind.i64 (IntKind.wrap IntKind.i64 (Int.tmod n (16 : Int)))) ?_
  refine ra0 (D.int IntKind.i64 (IntKind.wrap IntKind.i64 (Int.tmod n (16 : Int)))) ?_
  refine k_done (k_skip_seq (k_seq ?_))
  refine rv (D.sl [] (some (43 : Nat))) ?_
  refine k_done (k_skip_seq (k_seq (k_seq ?_)))
  refine rv (D.int IntKind.i64 (0 : Int)) ?_
  refine k_done (k_skip_seq (k_block ?_))
  refine k_loop (S := Nat) (fun s => f3 kk (IntKind.wrap IntKind.i64 (n.tmod 16)) s (polsB b s)) (fun _ => []) (fun s => s ≤ k) (fun s => k - s) 0 (by kernel_rfl) rfl (by simp) (by intro s hs; omega) ?_
  intro i hi
  have hpl : (polsB b i).length = i := by simp [polsB]
  have hcut : (List.drop i [97, 98, 99, 100, 101, 102, 103, 104, 105, 106, 107, 108, 109, 110, 111, 112]).take (i + 1 - i) = idL i := by rw [show i + 1 - i = 1 by omega]; rfl
  unfold l3_0
  by_cases hlt : i < k
  · cases b
    · refine k_seq (k_seq ?_)
      refine rv (D.int IntKind.i64 (↑i : Int)) ?_
      refine rv (D.int IntKind.i64 (IntKind.wrap IntKind.i64 (Int.tmod n (16 : Int)))) ?_
      refine rv (D.bool (decide ((↑i : Int) < IntKind.wrap IntKind.i64 (Int.tmod n (16 : Int))))) ?_
      refine k_done (k_skip_seq ?_)
      refine rkn 36 (decide ((↑i : Int) < IntKind.wrap IntKind.i64 (Int.tmod n (16 : Int)))) true (decide_eq_true (by omega)) ?_
      refine kct (k_skip_seq (k_seq (k_block (k_seq ?_))))
      refine rv (D.int IntKind.i64 (↑i : Int)) ?_
      refine rv (D.int IntKind.i64 (↑i : Int)) ?_
      refine rve (D.int IntKind.i64 (IntKind.wrap IntKind.i64 ((↑i : Int) + (1 : Int)))) (.int IntKind.i64 ((i + 1 : Nat) : Int)) (congrArg (D.int IntKind.i64) (show IntKind.wrap IntKind.i64 ((↑i : Int) + (1 : Int)) = ((i + 1 : Nat) : Int) from wrap_eq (by omega) (by omega) (by omega))) ?_
      refine runs_cut ([(97 : UInt8), (98 : UInt8), (99 : UInt8), (100 : UInt8), (101 : UInt8), (102 : UInt8), (103 : UInt8), (104 : UInt8), (105 : UInt8), (106 : UInt8), (107 : UInt8), (108 : UInt8), (109 : UInt8), (110 : UInt8), (111 : UInt8), (112 : UInt8)]) _ (i) (i + (1 : Nat)) (by kernel_rfl) (by kernel_rfl) (loD_nat (k := IntKind.i64) (by kernel_rfl)) (hiD_nat (k := IntKind.i64) (by kernel_rfl)) (by simp only [List.length_cons, List.length_nil]; omega) (by assumption) ?_
      refine rv (D.agg [D.str [(85 : UInt8)], D.str (idL i)]) ?_
      refine rgf (D.lptr (11 : Nat) (0 : Nat)) ([]) ?_
      refine rgf (D.junk) ([]) ?_
      refine k_done (k_skip_seq (k_seq ?_))
      refine rv (D.agg [D.str [(85 : UInt8)], D.str (idL i)]) ?_
      refine rv (D.agg [D.int IntKind.i64 (1 : Int), D.str [], D.str [(85 : UInt8)], D.str (idL i), D.bool false, D.nils (37 : Nat)]) ?_
      refine rv (D.agg [D.str [], D.bool false, D.int IntKind.i64 (1 : Int), D.str [], D.str [(85 : UInt8)], D.str (idL i), D.bool false, D.sl [] none, D.int IntKind.i64 (0 : Int), D.str [], D.str [], D.str [], D.bool false, D.nils (37 : Nat), D.int IntKind.i64 (0 : Int), D.str [], D.str [], D.str [], D.bool false, D.nils (37 : Nat), D.nils (139 : Nat)]) ?_
      refine rgf (D.lptr (12 : Nat) (0 : Nat)) ([]) ?_
      refine rgf (D.junk) ([]) ?_
      refine k_done (k_skip_seq (k_seq (k_seq ?_)))
      refine rv (D.int IntKind.u8 kk) ?_
      refine rv (D.int IntKind.u8 (IntKind.wrap IntKind.u8 (↑(BitVec.toNat (BitVec.ofInt (IntKind.bits IntKind.u8) kk &&& BitVec.ofInt (IntKind.bits IntKind.u8) (3 : Int))) : Int))) ?_
      refine rv (D.bool (IntKind.wrap IntKind.u8 (↑(BitVec.toNat (BitVec.ofInt (IntKind.bits IntKind.u8) kk &&& BitVec.ofInt (IntKind.bits IntKind.u8) (3 : Int))) : Int) == (1 : Int))) ?_
      refine k_done (k_skip_seq ?_)
      refine rkn 49 (IntKind.wrap IntKind.u8 (↑(BitVec.toNat (BitVec.ofInt (IntKind.bits IntKind.u8) kk &&& BitVec.ofInt (IntKind.bits IntKind.u8) (3 : Int))) : Int) == (1 : Int)) false (by assumption) ?_
      refine kcf (k_skip_seq ?_)
      refine runs_steal (D.sl (polsB false i) (some (43 : Nat))) (by kernel_rfl) (by kernel_rfl) ?_
      refine rv (D.agg [D.str [], D.bool false, D.int IntKind.i64 (1 : Int), D.str [], D.str [(85 : UInt8)], D.str (idL i), D.bool false, D.sl [] none, D.int IntKind.i64 (0 : Int), D.str [], D.str [], D.str [], D.bool false, D.sl [] none, D.int IntKind.i64 (0 : Int), D.str [], D.str [], D.str [], D.bool false, D.sl [] none, D.sl [] none]) ?_
      refine rv (D.sl [[D.str [], D.bool false, D.int IntKind.i64 (1 : Int), D.str [], D.str [(85 : UInt8)], D.str (idL i), D.bool false, D.sl [] none, D.int IntKind.i64 (0 : Int), D.str [], D.str [], D.str [], D.bool false, D.sl [] none, D.int IntKind.i64 (0 : Int), D.str [], D.str [], D.str [], D.bool false, D.sl [] none, D.sl [] none]] (some (43 : Nat))) ?_
      refine runs_append (polsB false i) ([[D.str [], D.bool false, D.int IntKind.i64 (1 : Int), D.str [], D.str [(85 : UInt8)], D.str (idL i), D.bool false, D.sl [] none, D.int IntKind.i64 (0 : Int), D.str [], D.str [], D.str [], D.bool false, D.sl [] none, D.int IntKind.i64 (0 : Int), D.str [], D.str [], D.str [], D.bool false, D.sl [] none, D.sl [] none]]) (polsB false i ++ [[D.str [], D.bool false, D.int IntKind.i64 (1 : Int), D.str [], D.str [(85 : UInt8)], D.str (idL i), D.bool false, D.sl [] none, D.int IntKind.i64 (0 : Int), D.str [], D.str [], D.str [], D.bool false, D.sl [] none, D.int IntKind.i64 (0 : Int), D.str [], D.str [], D.str [], D.bool false, D.sl [] none, D.sl [] none]]) (by kernel_rfl) (by kernel_rfl) (by kernel_rfl) (by kernel_rfl) (by simp [ints, eInt, rows, eInts, bools, eBool, trips, eTrip, i8s, u16s, u8s, acts, room]; omega) rfl ?_
      refine runs_assign (D.sl (polsB false i ++ [[D.str [], D.bool false, D.int IntKind.i64 (1 : Int), D.str [], D.str [(85 : UInt8)], D.str (idL i), D.bool false, D.sl [] none, D.int IntKind.i64 (0 : Int), D.str [], D.str [], D.str [], D.bool false, D.sl [] none, D.int IntKind.i64 (0 : Int), D.str [], D.str [], D.str [], D.bool false, D.sl [] none, D.sl [] none]]) (some (43 : Nat))) (by kernel_rfl) (by kernel_rfl) ?_
      refine k_done (k_skip_block (k_skip_seq ?_))
      refine rv (D.int IntKind.i64 (↑i : Int)) ?_
      refine rve (D.int IntKind.i64 (IntKind.wrap IntKind.i64 ((↑i : Int) + (1 : Int)))) (.int IntKind.i64 ((i + 1 : Nat) : Int)) (congrArg (D.int IntKind.i64) (show IntKind.wrap IntKind.i64 ((↑i : Int) + (1 : Int)) = ((i + 1 : Nat) : Int) from wrap_eq (by omega) (by omega) (by omega))) ?_
      refine ra0 (D.int IntKind.i64 (↑(i + (1 : Nat)) : Int)) ?_
      refine k_done (k_skip_back ?_)
      refine ⟨i + 1, hlt, by omega, ?_, rfl⟩
      rw [polsB_succ]
      kernel_rfl
    · refine k_seq (k_seq ?_)
      refine rv (D.int IntKind.i64 (↑i : Int)) ?_
      refine rv (D.int IntKind.i64 (IntKind.wrap IntKind.i64 (Int.tmod n (16 : Int)))) ?_
      refine rv (D.bool (decide ((↑i : Int) < IntKind.wrap IntKind.i64 (Int.tmod n (16 : Int))))) ?_
      refine k_done (k_skip_seq ?_)
      refine rkn 36 (decide ((↑i : Int) < IntKind.wrap IntKind.i64 (Int.tmod n (16 : Int)))) true (decide_eq_true (by omega)) ?_
      refine kct (k_skip_seq (k_seq (k_block (k_seq ?_))))
      refine rv (D.int IntKind.i64 (↑i : Int)) ?_
      refine rv (D.int IntKind.i64 (↑i : Int)) ?_
      refine rve (D.int IntKind.i64 (IntKind.wrap IntKind.i64 ((↑i : Int) + (1 : Int)))) (.int IntKind.i64 ((i + 1 : Nat) : Int)) (congrArg (D.int IntKind.i64) (show IntKind.wrap IntKind.i64 ((↑i : Int) + (1 : Int)) = ((i + 1 : Nat) : Int) from wrap_eq (by omega) (by omega) (by omega))) ?_
      refine runs_cut ([(97 : UInt8), (98 : UInt8), (99 : UInt8), (100 : UInt8), (101 : UInt8), (102 : UInt8), (103 : UInt8), (104 : UInt8), (105 : UInt8), (106 : UInt8), (107 : UInt8), (108 : UInt8), (109 : UInt8), (110 : UInt8), (111 : UInt8), (112 : UInt8)]) _ (i) (i + (1 : Nat)) (by kernel_rfl) (by kernel_rfl) (loD_nat (k := IntKind.i64) (by kernel_rfl)) (hiD_nat (k := IntKind.i64) (by kernel_rfl)) (by simp only [List.length_cons, List.length_nil]; omega) (by assumption) ?_
      refine rv (D.agg [D.str [(85 : UInt8)], D.str (idL i)]) ?_
      refine rgf (D.lptr (11 : Nat) (0 : Nat)) ([]) ?_
      refine rgf (D.junk) ([]) ?_
      refine k_done (k_skip_seq (k_seq ?_))
      refine rv (D.agg [D.str [(85 : UInt8)], D.str (idL i)]) ?_
      refine rv (D.agg [D.int IntKind.i64 (1 : Int), D.str [], D.str [(85 : UInt8)], D.str (idL i), D.bool false, D.nils (37 : Nat)]) ?_
      refine rv (D.agg [D.str [], D.bool false, D.int IntKind.i64 (1 : Int), D.str [], D.str [(85 : UInt8)], D.str (idL i), D.bool false, D.sl [] none, D.int IntKind.i64 (0 : Int), D.str [], D.str [], D.str [], D.bool false, D.nils (37 : Nat), D.int IntKind.i64 (0 : Int), D.str [], D.str [], D.str [], D.bool false, D.nils (37 : Nat), D.nils (139 : Nat)]) ?_
      refine rgf (D.lptr (12 : Nat) (0 : Nat)) ([]) ?_
      refine rgf (D.junk) ([]) ?_
      refine k_done (k_skip_seq (k_seq (k_seq ?_)))
      refine rv (D.int IntKind.u8 kk) ?_
      refine rv (D.int IntKind.u8 (IntKind.wrap IntKind.u8 (↑(BitVec.toNat (BitVec.ofInt (IntKind.bits IntKind.u8) kk &&& BitVec.ofInt (IntKind.bits IntKind.u8) (3 : Int))) : Int))) ?_
      refine rv (D.bool (IntKind.wrap IntKind.u8 (↑(BitVec.toNat (BitVec.ofInt (IntKind.bits IntKind.u8) kk &&& BitVec.ofInt (IntKind.bits IntKind.u8) (3 : Int))) : Int) == (1 : Int))) ?_
      refine k_done (k_skip_seq ?_)
      refine rkn 49 (IntKind.wrap IntKind.u8 (↑(BitVec.toNat (BitVec.ofInt (IntKind.bits IntKind.u8) kk &&& BitVec.ofInt (IntKind.bits IntKind.u8) (3 : Int))) : Int) == (1 : Int)) true (by assumption) ?_
      refine kct (k_seq ?_)
      refine rv (D.lptr (11 : Nat) (0 : Nat)) ?_
      refine rgf (D.junk) ([]) ?_
      refine k_done (k_skip_seq ?_)
      refine rv (D.agg [D.str [(71 : UInt8)], D.str (idL i)]) ?_
      refine rv (D.agg [D.int IntKind.i64 (2 : Int), D.str [], D.str [(71 : UInt8)], D.str (idL i), D.bool false, D.nils (37 : Nat)]) ?_
      refine rv (D.agg [D.str [], D.bool false, D.int IntKind.i64 (0 : Int), D.str [], D.str [], D.str [], D.bool false, D.nils (37 : Nat), D.int IntKind.i64 (0 : Int), D.str [], D.str [], D.str [], D.bool false, D.nils (37 : Nat), D.int IntKind.i64 (2 : Int), D.str [], D.str [(71 : UInt8)], D.str (idL i), D.bool false, D.sl [] none, D.nils (139 : Nat)]) ?_
      refine rgf (D.junk) ([]) ?_
      refine k_done (k_skip_seq ?_)
      refine runs_steal (D.sl (polsB true i) (some (43 : Nat))) (by kernel_rfl) (by kernel_rfl) ?_
      refine rv (D.agg [D.str [], D.bool false, D.int IntKind.i64 (0 : Int), D.str [], D.str [], D.str [], D.bool false, D.sl [] none, D.int IntKind.i64 (0 : Int), D.str [], D.str [], D.str [], D.bool false, D.sl [] none, D.int IntKind.i64 (2 : Int), D.str [], D.str [(71 : UInt8)], D.str (idL i), D.bool false, D.sl [] none, D.sl [] none]) ?_
      refine rv (D.sl [[D.str [], D.bool false, D.int IntKind.i64 (0 : Int), D.str [], D.str [], D.str [], D.bool false, D.sl [] none, D.int IntKind.i64 (0 : Int), D.str [], D.str [], D.str [], D.bool false, D.sl [] none, D.int IntKind.i64 (2 : Int), D.str [], D.str [(71 : UInt8)], D.str (idL i), D.bool false, D.sl [] none, D.sl [] none]] (some (43 : Nat))) ?_
      refine runs_append (polsB true i) ([[D.str [], D.bool false, D.int IntKind.i64 (0 : Int), D.str [], D.str [], D.str [], D.bool false, D.sl [] none, D.int IntKind.i64 (0 : Int), D.str [], D.str [], D.str [], D.bool false, D.sl [] none, D.int IntKind.i64 (2 : Int), D.str [], D.str [(71 : UInt8)], D.str (idL i), D.bool false, D.sl [] none, D.sl [] none]]) (polsB true i ++ [[D.str [], D.bool false, D.int IntKind.i64 (0 : Int), D.str [], D.str [], D.str [], D.bool false, D.sl [] none, D.int IntKind.i64 (0 : Int), D.str [], D.str [], D.str [], D.bool false, D.sl [] none, D.int IntKind.i64 (2 : Int), D.str [], D.str [(71 : UInt8)], D.str (idL i), D.bool false, D.sl [] none, D.sl [] none]]) (by kernel_rfl) (by kernel_rfl) (by kernel_rfl) (by kernel_rfl) (by simp [ints, eInt, rows, eInts, bools, eBool, trips, eTrip, i8s, u16s, u8s, acts, room]; omega) rfl ?_
      refine runs_assign (D.sl (polsB true i ++ [[D.str [], D.bool false, D.int IntKind.i64 (0 : Int), D.str [], D.str [], D.str [], D.bool false, D.sl [] none, D.int IntKind.i64 (0 : Int), D.str [], D.str [], D.str [], D.bool false, D.sl [] none, D.int IntKind.i64 (2 : Int), D.str [], D.str [(71 : UInt8)], D.str (idL i), D.bool false, D.sl [] none, D.sl [] none]]) (some (43 : Nat))) (by kernel_rfl) (by kernel_rfl) ?_
      refine k_done (k_skip_block (k_skip_seq ?_))
      refine rv (D.int IntKind.i64 (↑i : Int)) ?_
      refine rve (D.int IntKind.i64 (IntKind.wrap IntKind.i64 ((↑i : Int) + (1 : Int)))) (.int IntKind.i64 ((i + 1 : Nat) : Int)) (congrArg (D.int IntKind.i64) (show IntKind.wrap IntKind.i64 ((↑i : Int) + (1 : Int)) = ((i + 1 : Nat) : Int) from wrap_eq (by omega) (by omega) (by omega))) ?_
      refine ra0 (D.int IntKind.i64 (↑(i + (1 : Nat)) : Int)) ?_
      refine k_done (k_skip_back ?_)
      refine ⟨i + 1, hlt, by omega, ?_, rfl⟩
      rw [polsB_succ]
      kernel_rfl
  · obtain rfl : i = k := by omega
    rcases hf6 with ⟨h12, rfl, rfl⟩ | ⟨h12, rfl⟩
    · obtain ⟨_, rfl, rfl⟩ : i ≤ 12 ∧ at2 = atomsB b i ∧ e2 = 0 := by
        rcases hf7 with h | h
        · exact h
        · omega
      have hla : (atomsB b i).length = i := by simp [atomsB]
      have hlt := hf6l h12
      refine k_seq (k_seq ?_)
      refine rv (D.int IntKind.i64 (↑i : Int)) ?_
      refine rv (D.int IntKind.i64 (IntKind.wrap IntKind.i64 (Int.tmod n (16 : Int)))) ?_
      refine rv (D.bool (decide ((↑i : Int) < IntKind.wrap IntKind.i64 (Int.tmod n (16 : Int))))) ?_
      refine k_done (k_skip_seq ?_)
      refine rkn 36 (decide ((↑i : Int) < IntKind.wrap IntKind.i64 (Int.tmod n (16 : Int)))) false (decide_eq_false (by omega)) ?_
      refine kcf (k_exit_seq (k_exit_back (k_exit_hit rfl (k_skip_seq (k_seq ?_)))))
      refine rv (D.agg [D.sl [[D.str [(85 : UInt8)], D.sl [[D.str [(71 : UInt8)]]] none, D.sl [] none], [D.str [(71 : UInt8)], D.sl [] none, D.sl [] none]] none, D.sl [[D.str [(118 : UInt8)], D.sl [] none, D.sl [[D.str [(85 : UInt8)]]] none, D.sl [[D.str [(85 : UInt8)]]] none, D.sl [] none]] none]) ?_
      refine rv (D.agg [D.str [(85 : UInt8)], D.str [(118 : UInt8)], D.str [(85 : UInt8)]]) ?_
      refine rv (D.sl (polsB b i) none) ?_
      refine runs_call ([D.agg [D.sl [[D.str [(85 : UInt8)], D.sl [[D.str [(71 : UInt8)]]] none, D.sl [] none], [D.str [(71 : UInt8)], D.sl [] none, D.sl [] none]] none, D.sl [[D.str [(118 : UInt8)], D.sl [] none, D.sl [[D.str [(85 : UInt8)]]] none, D.sl [[D.str [(85 : UInt8)]]] none, D.sl [] none]] none], D.agg [D.str [(85 : UInt8)], D.str [(118 : UInt8)], D.str [(85 : UInt8)]], D.sl (polsB b i) none]) (by kernel_rfl) (by kernel_rfl) (by kernel_rfl) (by kernel_rfl) (c6) (by kernel_rfl) ?_
      refine rv (D.tup [D.agg [D.sl tk none, D.sl (atomsB b i) none, D.int IntKind.i64 a, D.int IntKind.i64 c, D.sl ks none], D.int IntKind.i64 (0 : Int)]) ?_
      refine rv (D.agg [D.sl tk none, D.sl (atomsB b i) none, D.int IntKind.i64 a, D.int IntKind.i64 c, D.sl ks none]) ?_
      refine rv (D.int IntKind.i64 (0 : Int)) ?_
      refine rgf (D.lptr (13 : Nat) (0 : Nat)) ([]) ?_
      refine rgf (D.junk) ([]) ?_
      refine ra0 (D.int IntKind.i64 (0 : Int)) ?_
      refine k_done (k_skip_seq (k_seq ?_))
      refine runs_loadA (by kernel_rfl) ?_
      refine rv (D.agg [D.sl [[D.str [(85 : UInt8)], D.sl [[D.str [(71 : UInt8)]]] none, D.sl [] none], [D.str [(71 : UInt8)], D.sl [] none, D.sl [] none]] none, D.sl [[D.str [(118 : UInt8)], D.sl [] none, D.sl [[D.str [(85 : UInt8)]]] none, D.sl [[D.str [(85 : UInt8)]]] none, D.sl [] none]] none]) ?_
      refine runs_loadA (by kernel_rfl) ?_
      refine rv (D.agg [D.str [(85 : UInt8)], D.str [(118 : UInt8)], D.str [(85 : UInt8)]]) ?_
      refine runs_callQ ([D.agg [D.str [(85 : UInt8)], D.str [(118 : UInt8)], D.str [(85 : UInt8)]]]) (by kernel_rfl) (by kernel_rfl) (by kernel_rfl) (by kernel_rfl) (c8) (by kernel_rfl) ?_
      refine rv (D.sl (polsB b i) none) ?_
      refine runs_callQ ([D.agg [D.sl [[D.str [(85 : UInt8)], D.sl [[D.str [(71 : UInt8)]]] none, D.sl [] none], [D.str [(71 : UInt8)], D.sl [] none, D.sl [] none]] none, D.sl [[D.str [(118 : UInt8)], D.sl [] none, D.sl [[D.str [(85 : UInt8)]]] none, D.sl [[D.str [(85 : UInt8)]]] none, D.sl [] none]] none], D.agg [D.str [(85 : UInt8)], D.str [(118 : UInt8)], D.str [(85 : UInt8)]], D.sl (polsB b i) none, D.sl [] none]) (by kernel_rfl) (by kernel_rfl) (by kernel_rfl) (by kernel_rfl) (c7) (by kernel_rfl) ?_
      refine rv (D.tup [D.agg [D.sl s1 none, D.sl s2 none, D.str p, D.str q, D.str r, D.sl (atomsB b i) none, D.sl t2 none, D.bool bad], D.sl bs none, D.int IntKind.i64 (0 : Int)]) ?_
      refine rv (D.agg [D.sl s1 none, D.sl s2 none, D.str p, D.str q, D.str r, D.sl (atomsB b i) none, D.sl t2 none, D.bool bad]) ?_
      refine rv (D.sl bs none) ?_
      refine rv (D.int IntKind.i64 (0 : Int)) ?_
      refine runs_allocR (by kernel_rfl) ?_
      refine rgf (D.lptr (15 : Nat) (0 : Nat)) ([]) ?_
      refine runs_storeR (by kernel_rfl) ?_
      refine rgf (D.junk) ([]) ?_
      refine ra0 (D.sl bs none) ?_
      refine ra0 (D.int IntKind.i64 (0 : Int)) ?_
      refine k_done (k_skip_seq (k_seq (k_seq ?_)))
      refine rv (D.int IntKind.i64 (0 : Int)) ?_
      refine rv (D.int IntKind.i64 (0 : Int)) ?_
      refine rv (D.bool false) ?_
      refine rv (D.bool false) ?_
      refine rv (D.int IntKind.i64 (0 : Int)) ?_
      refine rv (D.bool true) ?_
      refine rv (D.int IntKind.i64 (IntKind.wrap IntKind.i64 (Int.tmod n (16 : Int)))) ?_
      refine rv (D.bool (decide (IntKind.wrap IntKind.i64 (Int.tmod n (16 : Int)) ≤ (12 : Int)))) ?_
      refine rv (D.bool ((true == decide (IntKind.wrap IntKind.i64 (Int.tmod n (16 : Int)) ≤ (12 : Int))) != true)) ?_
      refine rv (D.bool ((true == decide (IntKind.wrap IntKind.i64 (Int.tmod n (16 : Int)) ≤ (12 : Int))) != true)) ?_
      refine k_done (k_skip_seq ?_)
      refine rkn 83 ((true == decide (IntKind.wrap IntKind.i64 (Int.tmod n (16 : Int)) ≤ (12 : Int))) != true) false (by simp [ints, eInt, rows, eInts, bools, eBool, trips, eTrip, i8s, u16s, u8s, acts]; omega) ?_
      refine kcf (k_skip_seq (k_seq ?_))
      refine rv (D.int IntKind.i64 (0 : Int)) ?_
      refine rv (D.bool false) ?_
      refine rv (D.bool false) ?_
      refine rv (D.lptr (13 : Nat) (1 : Nat)) ?_
      refine rv (D.sl (atomsB b i) none) ?_
      refine rv (D.int IntKind.i64 (↑(List.length (atomsB b i)) : Int)) ?_
      refine rv (D.int IntKind.i64 (IntKind.wrap IntKind.i64 (Int.tmod n (16 : Int)))) ?_
      refine rv (D.bool ((↑(List.length (atomsB b i)) : Int) == IntKind.wrap IntKind.i64 (Int.tmod n (16 : Int)))) ?_
      refine rv (D.bool ((↑(List.length (atomsB b i)) : Int) == IntKind.wrap IntKind.i64 (Int.tmod n (16 : Int)))) ?_
      refine rkn 92 ((↑(List.length (atomsB b i)) : Int) == IntKind.wrap IntKind.i64 (Int.tmod n (16 : Int))) true (decide_eq_true (by omega)) ?_
      refine rv (D.lptr (13 : Nat) (1 : Nat)) ?_
      refine rv (D.sl (atomsB b i) none) ?_
      refine rv (D.lptr (15 : Nat) (5 : Nat)) ?_
      refine rv (D.sl (atomsB b i) none) ?_
      refine runs_call ([D.sl (atomsB b i) none, D.sl (atomsB b i) none]) (by kernel_rfl) (by kernel_rfl) (by kernel_rfl) (by kernel_rfl) (c9) (by kernel_rfl) ?_
      refine rv (D.bool true) ?_
      refine rv (D.bool true) ?_
      refine rv (D.lptr (13 : Nat) (0 : Nat)) ?_
      refine rv (D.sl tk none) ?_
      refine rv (D.int IntKind.i64 (↑(List.length tk) : Int)) ?_
      refine rv (D.int IntKind.i64 (IntKind.wrap IntKind.i64 (Int.tmod n (16 : Int)))) ?_
      refine rv (D.bool ((↑(List.length tk) : Int) == IntKind.wrap IntKind.i64 (Int.tmod n (16 : Int)))) ?_
      refine rv (D.bool ((↑(List.length tk) : Int) == IntKind.wrap IntKind.i64 (Int.tmod n (16 : Int)))) ?_
      refine rv (D.bool ((↑(List.length tk) : Int) == IntKind.wrap IntKind.i64 (Int.tmod n (16 : Int)))) ?_
      refine ra0 (D.bool ((↑(List.length tk) : Int) == IntKind.wrap IntKind.i64 (Int.tmod n (16 : Int)))) ?_
      refine k_done (k_skip_seq (k_ret ?_))
      have hz : ((tk.length : Int) == IntKind.wrap IntKind.i64 (Int.tmod n 16)) = true := decide_eq_true (by omega)
      exact ⟨.inr rfl, by kernel_rfl, [], Eq.trans (b := some (.bool ((tk.length : Int) == IntKind.wrap IntKind.i64 (Int.tmod n 16)), [])) (by kernel_rfl) (by rw [hz])⟩
    · obtain ⟨_, rfl⟩ : 12 < i ∧ e2 = 52 := by
        rcases hf7 with h | h
        · omega
        · exact h
      refine k_seq (k_seq ?_)
      refine rv (D.int IntKind.i64 (↑i : Int)) ?_
      refine rv (D.int IntKind.i64 (IntKind.wrap IntKind.i64 (Int.tmod n (16 : Int)))) ?_
      refine rv (D.bool (decide ((↑i : Int) < IntKind.wrap IntKind.i64 (Int.tmod n (16 : Int))))) ?_
      refine k_done (k_skip_seq ?_)
      refine rkn 36 (decide ((↑i : Int) < IntKind.wrap IntKind.i64 (Int.tmod n (16 : Int)))) false (decide_eq_false (by omega)) ?_
      refine kcf (k_exit_seq (k_exit_back (k_exit_hit rfl (k_skip_seq (k_seq ?_)))))
      refine rv (D.agg [D.sl [[D.str [(85 : UInt8)], D.sl [[D.str [(71 : UInt8)]]] none, D.sl [] none], [D.str [(71 : UInt8)], D.sl [] none, D.sl [] none]] none, D.sl [[D.str [(118 : UInt8)], D.sl [] none, D.sl [[D.str [(85 : UInt8)]]] none, D.sl [[D.str [(85 : UInt8)]]] none, D.sl [] none]] none]) ?_
      refine rv (D.agg [D.str [(85 : UInt8)], D.str [(118 : UInt8)], D.str [(85 : UInt8)]]) ?_
      refine rv (D.sl (polsB b i) none) ?_
      refine runs_call ([D.agg [D.sl [[D.str [(85 : UInt8)], D.sl [[D.str [(71 : UInt8)]]] none, D.sl [] none], [D.str [(71 : UInt8)], D.sl [] none, D.sl [] none]] none, D.sl [[D.str [(118 : UInt8)], D.sl [] none, D.sl [[D.str [(85 : UInt8)]]] none, D.sl [[D.str [(85 : UInt8)]]] none, D.sl [] none]] none], D.agg [D.str [(85 : UInt8)], D.str [(118 : UInt8)], D.str [(85 : UInt8)]], D.sl (polsB b i) none]) (by kernel_rfl) (by kernel_rfl) (by kernel_rfl) (by kernel_rfl) (c6) (by kernel_rfl) ?_
      refine rv (D.tup [D.agg [D.sl tk none, D.sl at_ none, D.int IntKind.i64 a, D.int IntKind.i64 c, D.sl ks none], D.int IntKind.i64 (52 : Int)]) ?_
      refine rv (D.agg [D.sl tk none, D.sl at_ none, D.int IntKind.i64 a, D.int IntKind.i64 c, D.sl ks none]) ?_
      refine rv (D.int IntKind.i64 (52 : Int)) ?_
      refine rgf (D.lptr (13 : Nat) (0 : Nat)) ([]) ?_
      refine rgf (D.junk) ([]) ?_
      refine ra0 (D.int IntKind.i64 (52 : Int)) ?_
      refine k_done (k_skip_seq (k_seq ?_))
      refine runs_loadA (by kernel_rfl) ?_
      refine rv (D.agg [D.sl [[D.str [(85 : UInt8)], D.sl [[D.str [(71 : UInt8)]]] none, D.sl [] none], [D.str [(71 : UInt8)], D.sl [] none, D.sl [] none]] none, D.sl [[D.str [(118 : UInt8)], D.sl [] none, D.sl [[D.str [(85 : UInt8)]]] none, D.sl [[D.str [(85 : UInt8)]]] none, D.sl [] none]] none]) ?_
      refine runs_loadA (by kernel_rfl) ?_
      refine rv (D.agg [D.str [(85 : UInt8)], D.str [(118 : UInt8)], D.str [(85 : UInt8)]]) ?_
      refine runs_callQ ([D.agg [D.str [(85 : UInt8)], D.str [(118 : UInt8)], D.str [(85 : UInt8)]]]) (by kernel_rfl) (by kernel_rfl) (by kernel_rfl) (by kernel_rfl) (c8) (by kernel_rfl) ?_
      refine rv (D.sl (polsB b i) none) ?_
      refine runs_callQ ([D.agg [D.sl [[D.str [(85 : UInt8)], D.sl [[D.str [(71 : UInt8)]]] none, D.sl [] none], [D.str [(71 : UInt8)], D.sl [] none, D.sl [] none]] none, D.sl [[D.str [(118 : UInt8)], D.sl [] none, D.sl [[D.str [(85 : UInt8)]]] none, D.sl [[D.str [(85 : UInt8)]]] none, D.sl [] none]] none], D.agg [D.str [(85 : UInt8)], D.str [(118 : UInt8)], D.str [(85 : UInt8)]], D.sl (polsB b i) none, D.sl [] none]) (by kernel_rfl) (by kernel_rfl) (by kernel_rfl) (by kernel_rfl) (c7) (by kernel_rfl) ?_
      refine rv (D.tup [D.agg [D.sl s1 none, D.sl s2 none, D.str p, D.str q, D.str r, D.sl at2 none, D.sl t2 none, D.bool bad], D.sl bs none, D.int IntKind.i64 (52 : Int)]) ?_
      refine rv (D.agg [D.sl s1 none, D.sl s2 none, D.str p, D.str q, D.str r, D.sl at2 none, D.sl t2 none, D.bool bad]) ?_
      refine rv (D.sl bs none) ?_
      refine rv (D.int IntKind.i64 (52 : Int)) ?_
      refine runs_allocR (by kernel_rfl) ?_
      refine rgf (D.lptr (15 : Nat) (0 : Nat)) ([]) ?_
      refine runs_storeR (by kernel_rfl) ?_
      refine rgf (D.junk) ([]) ?_
      refine ra0 (D.sl bs none) ?_
      refine ra0 (D.int IntKind.i64 (52 : Int)) ?_
      refine k_done (k_skip_seq (k_seq (k_seq ?_)))
      refine rv (D.int IntKind.i64 (52 : Int)) ?_
      refine rv (D.int IntKind.i64 (52 : Int)) ?_
      refine rv (D.bool false) ?_
      refine rv (D.bool false) ?_
      refine rv (D.int IntKind.i64 (52 : Int)) ?_
      refine rv (D.bool false) ?_
      refine rv (D.int IntKind.i64 (IntKind.wrap IntKind.i64 (Int.tmod n (16 : Int)))) ?_
      refine rv (D.bool (decide (IntKind.wrap IntKind.i64 (Int.tmod n (16 : Int)) ≤ (12 : Int)))) ?_
      refine rv (D.bool ((false == decide (IntKind.wrap IntKind.i64 (Int.tmod n (16 : Int)) ≤ (12 : Int))) != true)) ?_
      refine rv (D.bool ((false == decide (IntKind.wrap IntKind.i64 (Int.tmod n (16 : Int)) ≤ (12 : Int))) != true)) ?_
      refine k_done (k_skip_seq ?_)
      refine rkn 83 ((false == decide (IntKind.wrap IntKind.i64 (Int.tmod n (16 : Int)) ≤ (12 : Int))) != true) false (by simp [ints, eInt, rows, eInts, bools, eBool, trips, eTrip, i8s, u16s, u8s, acts]; omega) ?_
      refine kcf (k_skip_seq (k_seq ?_))
      refine rv (D.int IntKind.i64 (52 : Int)) ?_
      refine rv (D.bool true) ?_
      refine rv (D.bool true) ?_
      refine rno (rno (rno (rno (rno (rno (rno (rno (rno (rno (rno (rno ?_)))))))))))
      refine rno (rno (rno (rno (rno (rno (rno ?_))))))
      refine rv (D.bool true) ?_
      refine ra0 (D.bool true) ?_
      refine k_done (k_skip_seq (k_ret ?_))
      exact ⟨.inr rfl, by kernel_rfl, [], by kernel_rfl⟩
end Go.Abs.T
