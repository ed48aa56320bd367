import Derived.Test.YtlmgngibnioljaaGreatTmA
import Derived.Test.YtlmgngibnioljaaGreatTabT
import Derived.Test.YtlmgngibnioljaaGreatOps18
import Derived.Test.YtlmgngibnioljaaGreatFast
import Derived.KernelRfl
set_option linter.unusedVariables false
set_option linter.unusedSimpArgs false
/-
  The three loops of the theory's axioms as one step: what they make is told at once.
-/
namespace Go.Abs.T
open Go Go.Abs Go.Proofs
set_option maxRecDepth 20000
attribute [local irreducible] callN runC evalOp
variable {P : Program} {mu : List Nat}
theorem clearS_congr (keep : List Nat) : ∀ (l1 l2 : List D) (i : Nat), l1.length = l2.length → (∀ k, keep.contains (i + k) = true → l1.getD k .junk = l2.getD k .junk) → clearS keep i l1 = clearS keep i l2
  | [], [], _, _, _ => rfl
  | [], _ :: _, _, h, _ => by simp at h
  | _ :: _, [], _, h, _ => by simp at h
  | a :: l1, b :: l2, i, h, hk => by
    have h1 := clearS_congr keep l1 l2 (i + 1) (by simpa using h) (fun k hc => by simpa using hk (k + 1) (by rw [← hc]; congr 1; omega))
    unfold clearS
    rw [h1]
    by_cases hc : keep.contains i = true
    · have := hk 0 hc
      simp only [List.getD_cons_zero] at this
      rw [this]
    · rw [if_neg hc, if_neg hc]
theorem clearB_congr (keep : List Nat) : ∀ (l1 l2 : List (Option (List D))) (i : Nat), l1.length = l2.length → (∀ k, keep.contains (i + k) = true → (l1[k]?).getD none = (l2[k]?).getD none) → clearB keep i l1 = clearB keep i l2
  | [], [], _, _, _ => rfl
  | [], _ :: _, _, h, _ => by simp at h
  | _ :: _, [], _, h, _ => by simp at h
  | a :: l1, b :: l2, i, h, hk => by
    have h1 := clearB_congr keep l1 l2 (i + 1) (by simpa using h) (fun k hc => by simpa using hk (k + 1) (by rw [← hc]; congr 1; omega))
    unfold clearB
    rw [h1]
    by_cases hc : keep.contains i = true
    · have := hk 0 hc
      simp only [List.getElem?_cons_zero, Option.getD_some] at this
      rw [this]
    · rw [if_neg hc, if_neg hc]
/-- The names that lie in cells: as many as told. -/
def idsT (t : List UInt8) : Nat → List D → Option (List (List UInt8))
  | 0, _ => some []
  | n + 1, .str t' :: .str i :: l => if t' = t then (idsT t n l).map (i :: ·) else none
  | _, _ => none
theorem idsT_len {t : List UInt8} : ∀ {n : Nat} {l : List D} {ids : List (List UInt8)}, idsT t n l = some ids → ids.length = n
  | 0, _, ids, h => by cases h; rfl
  | n + 1, l, ids, h => by
    unfold idsT at h
    split at h
    · omega
    · split at h
      · rw [Option.map_eq_some_iff] at h
        obtain ⟨ids', h1, rfl⟩ := h
        rw [List.length_cons, idsT_len h1]
        omega
      · cases h
    · cases h
theorem idsT_at {t : List UInt8} : ∀ {n : Nat} {l : List D} {ids : List (List UInt8)}, idsT t n l = some ids → ∀ (c : Nat) (h : c < ids.length), (l.drop (0 + c * 2)).take 2 = [.str t, .str ids[c]]
  | 0, _, ids, h, c, hc => by cases h; simp at hc
  | n + 1, l, ids, h, c, hc => by
    unfold idsT at h
    split at h
    · omega
    · rename_i heq
      cases heq
      split at h
      · rename_i ht
        subst ht
        rw [Option.map_eq_some_iff] at h
        obtain ⟨ids', h1, rfl⟩ := h
        cases c with
        | zero => rfl
        | succ c =>
          have h2 := idsT_at h1 c (by simpa using hc)
          rw [show 0 + (c + 1) * 2 = (0 + c * 2) + 1 + 1 by omega, List.drop_succ_cons, List.drop_succ_cons]
          exact h2
      · cases h
    · cases h
def headT : List D → List UInt8
  | .str t :: _ => t
  | _ => []
/-- The loops' step, of what the frame holds. -/
noncomputable def NQ (d6 d7 d8 d9 d12 d13 d34 d133 d134 d135 : D) (b6 b9 : Option (List D)) (σ : St) : Option (AE × Fr × St) :=
  match d6, d7, d8, d9, d12, d13, d34, d133, d134, d135, b6, b9 with
  | .lptr 6 0, .int .i64 e, .ptr ob 0, .lptr 9 0, .msl om 0 kk 2, .sl L (some 47), .ptr ob' 0, .msl om' 0 kk' 2, .int .i64 k, .int .i64 0, some c6, some c9 =>
    match σ[om]? with
    | some (.cells cs) =>
      match idsT (headT cs) kk cs with
      | some ids =>
        match σ[ob]? with
        | some (.cells [.sl A none, .sl B none, e0, e1, e2, at_, mp, bd]) =>
          match callNK T 20 59 [.agg [.sl A none, .sl B none], .str (headT cs), .str (headT cs)] [] with
          | some (.bool false, _) => if ob' = ob ∧ om' = om ∧ kk = ids.length ∧ kk' = ids.length ∧ k = ids.length ∧ ids.length ≤ 12 ∧ L.length ≤ 100000 ∧ (headT cs == [65, 99, 116, 105, 111, 110]) = false then some (.normal, f12 ob om e c6 c9 ids.length ids.length (L ++ rw0 ids), σ) else none
          | _ => none
        | _ => none
      | none => none
    | _ => none
  | _, _, _, _, _, _, _, _, _, _, _, _ => none
noncomputable def NL (fr : Fr) (σ : St) : Option (AE × Fr × St) :=
  if fr.slots.length = 201 ∧ fr.boxes.length = 201 ∧ fr.defers = [] ∧ fr.boxAt 8 = none ∧ fr.boxAt 13 = none ∧ fr.boxAt 133 = none ∧ fr.boxAt 12 = none ∧ fr.boxAt 135 = none ∧ fr.boxAt 134 = none ∧ fr.boxAt 7 = none ∧ fr.boxAt 34 = none then
    NQ (fr.at 6) (fr.at 7) (fr.at 8) (fr.at 9) (fr.at 12) (fr.at 13) (fr.at 34) (fr.at 133) (fr.at 134) (fr.at 135) (fr.boxAt 6) (fr.boxAt 9) σ
  else none
theorem nl_loop {fr fr' : Fr} {σ σ' : St} {ae : AE} (h : NL fr σ = some (ae, fr', σ')) : ∃ fr2, runC (callN T 21) 20 (.block 12 (.loop k12 l6_13)) fr σ = some (ae, fr2, σ') ∧ fr2.clear k12 = fr' := by
  unfold NL at h
  split at h
  rotate_left
  · cases h
  rename_i hs
  obtain ⟨hs, hb, hd, h8, h13, h133, h12, h135, h134, h7, h34⟩ := hs
  generalize e6 : fr.at 6 = d6 at h
  generalize e7 : fr.at 7 = d7 at h
  generalize e8 : fr.at 8 = d8 at h
  generalize e9 : fr.at 9 = d9 at h
  generalize e12 : fr.at 12 = d12 at h
  generalize e13 : fr.at 13 = d13 at h
  generalize e34 : fr.at 34 = d34 at h
  generalize e133 : fr.at 133 = d133 at h
  generalize e134 : fr.at 134 = d134 at h
  generalize e135 : fr.at 135 = d135 at h
  generalize f6 : fr.boxAt 6 = b6 at h
  generalize f9 : fr.boxAt 9 = b9 at h
  unfold NQ at h
  split at h
  rotate_left
  · cases h
  split at h
  rotate_left
  · cases h
  rename_i hm
  split at h
  rotate_left
  · cases h
  rename_i hU
  split at h
  rotate_left
  · cases h
  rename_i hσ
  split at h
  rotate_left
  · cases h
  rename_i h59
  split at h
  rotate_left
  · cases h
  rename_i hc
  obtain ⟨rfl, rfl, rfl, rfl, rfl, hl, hL, ht⟩ := hc
  simp only [Option.some.injEq, Prod.mk.injEq] at h
  obtain ⟨rfl, rfl, rfl⟩ := h
  rename_i d6 d7 d8 d9 d12 d13 d34 d133 d134 d135 b6 b9 e L ob om c6 c9 _ cs _ ids _ A B e0 e1 e2 at_ mp bd _ σ59
  have hfr : fr.clear k12 = f12 ob om e c6 c9 ids.length 0 L := by
    have h1 : clearS k12 0 fr.slots = clearS k12 0 (f12 ob om e c6 c9 ids.length 0 L).slots := by
      refine clearS_congr k12 _ _ 0 (by rw [hs]; rfl) (fun k hk => ?_)
      simp only [k12, List.contains_iff_mem, List.mem_cons, List.not_mem_nil, or_false, Nat.zero_add] at hk
      rcases hk with rfl | rfl | rfl | rfl | rfl | rfl | rfl | rfl | rfl | rfl
      · exact e9
      · exact e8
      · exact e13
      · exact e133
      · exact e12
      · exact e135
      · exact e134
      · exact e7
      · exact e6
      · exact e34
    have h2 : clearB k12 0 fr.boxes = clearB k12 0 (f12 ob om e c6 c9 ids.length 0 L).boxes := by
      refine clearB_congr k12 _ _ 0 (by rw [hb]; rfl) (fun k hk => ?_)
      simp only [k12, List.contains_iff_mem, List.mem_cons, List.not_mem_nil, or_false, Nat.zero_add] at hk
      rcases hk with rfl | rfl | rfl | rfl | rfl | rfl | rfl | rfl | rfl | rfl
      · exact f9
      · exact h8
      · exact h13
      · exact h133
      · exact h12
      · exact h135
      · exact h134
      · exact h7
      · exact f6
      · exact h34
    have h3 : fr.clear k12 = (f12 ob om e c6 c9 ids.length 0 L).clear k12 := by
      unfold Fr.clear
      rw [h1, h2, hd]
      kernel_rfl
    exact h3.trans (by kernel_rfl)
  obtain ⟨ae2, fr2, σ2, r1, r2⟩ := k_block (triple 18 20 σ ob A B e0 e1 e2 at_ mp bd hσ (headT cs) ht ⟨σ59, callN_of_fast h59⟩ e c6 c9 ids hl om cs hm (idsT_at hU) (by omega) L hL (Q := fun ae fr2 σ2 => ae = .normal ∧ fr2.clear k12 = f12 ob om e c6 c9 ids.length ids.length (L ++ rw0 ids) ∧ σ2 = σ) (K := []) hfr (fun fr' hf => runs_skip ⟨rfl, hf, rfl⟩))
  obtain ⟨rfl, r3, rfl⟩ := r2
  exact ⟨fr2, r1, r3⟩
/-- The loops' code, told at once. -/
theorem codeM_loops (hm : P.follows .mixedOrders = true) (hT : TabOK P T) {K : Lv} {c : Code} (hc : compC P mu K c = some (.block 12 (.loop k12 l6_13))) : CodeM P c (.nat NL) := by
  intro cal fuel _ _ ae fr fr' σ σ' a g w Q hr i hn
  obtain ⟨fr2, r1, rfl⟩ := nl_loop (ae := ae) (fr := fr) (σ := σ) (σ' := σ') (fr' := fr') (by
    have : runC cal fuel (.nat NL) fr σ = NL fr σ := by unfold runC; rfl
    rw [← this]; exact hr)
  exact wp_code hm (callN_ok hm hT 21).1 (callN_ok hm hT 21).2 K 20 c hc r1 i (fun a' w' g' e i' => hn a' w' g' e.m (i'.clear k12))
end Go.Abs.T

/-
  The table with the theory's loops told at once.
-/
namespace Go.Abs
variable {P : Program} {mu : List Nat}
def putAt : List Bool → MCode → MCode → MCode
  | [], new, _ => new
  | true :: p, new, .seq x y => .seq x (putAt p new y)
  | false :: p, new, .seq x y => .seq (putAt p new x) y
  | _, _, m => m
def subAt : List Bool → MCode → MCode
  | [], m => m
  | true :: p, .seq _ y => subAt p y
  | false :: p, .seq x _ => subAt p x
  | _, _ => .skip
theorem compC_seq {K : Lv} {c : Code} {mx my : MCode} (h : compC P mu K c = some (.seq mx my)) : ∃ x y, c = .seq x y ∧ compC P mu { K with out := live y K } x = some mx ∧ compC P mu K y = some my := by
  cases c with
  | seq x y =>
    simp only [compC] at h
    split at h
    · split at h <;> cases h
    · split at h
      · rename_i h1 h2
        cases h
        exact ⟨x, y, rfl, h1, h2⟩
      · cases h
  | region id ops draw =>
    simp only [compC] at h
    repeat' split at h
    all_goals cases h
  | cond x a b =>
    simp only [compC] at h
    split at h <;> cases h
  | block id c =>
    simp only [compC, Option.map_eq_some_iff] at h
    obtain ⟨_, _, h⟩ := h
    cases h
  | loop c =>
    simp only [compC, Option.map_eq_some_iff] at h
    obtain ⟨_, _, h⟩ := h
    cases h
  | _ => simp [compC] at h
theorem codeM_put (hm : P.follows .mixedOrders = true) {old new : MCode} (hnew : ∀ (c : Code) (K : Lv), compC P mu K c = some old → CodeM P c new) : ∀ (p : List Bool) (c : Code) (K : Lv) (m : MCode), compC P mu K c = some m → subAt p m = old → CodeM P c (putAt p new m)
  | [], c, K, m, h, hs => by
    cases hs
    exact hnew c K h
  | b :: p, c, K, m, h, hs => by
    cases m with
    | seq mx my =>
      obtain ⟨x, y, rfl, h1, h2⟩ := compC_seq h
      cases b with
      | true => exact codeM_seq (codeM_comp hm h1) (codeM_put hm hnew p y K my h2 hs)
      | false => exact codeM_seq (codeM_put hm hnew p x _ mx h1 hs) (codeM_comp hm h2)
    | _ => cases b <;> exact codeM_comp hm h
namespace T
open Go Go.Abs Go.Proofs
set_option maxRecDepth 20000
def path6 : List Bool := [true, true, true, true, true, true, true, true, true, true, true, true, false, true]
noncomputable def m6n : MFunc := { m6 with body := putAt path6 (.nat NL) m6.body }
theorem sub6 : subAt path6 m6.body = .block 12 (.loop k12 l6_13) := by kernel_rfl
theorem good6n : GoodT Tryz.prog 6 m6n := by
  have h := ok6
  unfold compFn at h
  split at h
  · rename_i c rs hb hr
    rw [Option.map_eq_some_iff] at h
    obtain ⟨m, h1, h2⟩ := h
    have hmb : m = m6.body := by rw [← h2]
    have hrs : rs = m6.results := by rw [← h2]
    have hnt : m6.ntmps = Tryz.f6.ntmps := by rw [← h2]
    subst hmb hrs
    exact goodT_of (m := m6n) Tryz.func6 hb hr hnt (by kernel_rfl) (codeM_put hmix (fun c K hc => codeM_loops hmix tab_ok hc) path6 c _ _ h1 sub6)
  · cases h
/-- The table. -/
noncomputable def TM : Table := fun f => if f = 6 then some m6n else T f
theorem tm_ok : TabOK Tryz.prog TM := by
  intro f m h
  unfold TM at h
  split at h
  · rename_i hf
    cases h
    subst hf
    exact ⟨Tryz.f6, Tryz.func6, .inr (.inr good6n), by kernel_rfl⟩
  · exact tab_ok f m h
end T
end Go.Abs

/-
  What lies above what, in the schema of the law: told by what the closed runs answered.
-/
namespace Go.Abs.T
open Go Go.Abs Go.Proofs
set_option maxRecDepth 100000
/-- A function that is told by what it answers to arguments that are some of these. -/
def atFs : List (List D × D) → List D → St → Option D
  | [], _, _ => none
  | e :: L, xs, σ => bif sameDs xs e.1 then some e.2 else atFs L xs σ
theorem atFs_mem : ∀ {L : List (List D × D)} {xs : List D} {σ : St} {d : D}, atFs L xs σ = some d → ∃ e ∈ L, e.1 = xs ∧ e.2 = d
  | [], _, _, _, h => by cases h
  | e :: L, xs, σ, d, h => by
    simp only [atFs, cond_eq_ite] at h
    split at h
    · rename_i h1
      exact ⟨e, List.mem_cons_self .., (sameDs_eq _ _ h1).symm, Option.some.inj h⟩
    · obtain ⟨x, hx, h⟩ := atFs_mem h
      exact ⟨x, List.mem_cons_of_mem _ hx, h⟩
theorem good_ats {P : Program} {Tb : Table} (hm : P.follows .mixedOrders = true) (hT : TabOK P Tb) {n f k : Nat} {L : List (List D × D)} {fn : Func} {c : Code} (hf : P.funcs[f]? = some fn) (hb : fn.body = some c)
    (h : ∀ e ∈ L, (∃ σ, callN Tb n f e.1 [] = some (e.2, σ)) ∧ e.1.all pureArg = true ∧ (∀ σ, snap σ e.1 = some (e.1, [])) ∧ (∀ σ, freeze σ e.2 = some e.2) ∧ e.2.bare = e.2 ∧ e.2.notL = true) : GoodT P f (toldF k (atFs L)) := by
  refine good_told hf hb (fun xs σ d' ha => ?_)
  obtain ⟨e, he, rfl, rfl⟩ := atFs_mem ha
  obtain ⟨⟨σc, h⟩, hp, hs, hz, hd, hn⟩ := h e he
  refine ⟨hd, hn, fun g w vals hi _ hr hbase => ?_⟩
  have i0 : Inv P g w ⟨[], [], []⟩ σ { tmps := #[], defers := g.base } := ⟨hi, ⟨rfl, rfl, fun t d h => by simp at h, fun t cs h => by simp at h⟩, ⟨[], rfl, rfl, fun k x y h => by simp at h⟩⟩
  refine Calls.mono (call_pure (callN_ok hm hT n).1 i0 hp (hs σ) h (hz σc) hr) ?_
  rintro e w' ⟨v, rfl, g', e1, i1, r1, n1, o1⟩
  refine ⟨v, rfl, g', e1, ?_, r1, n1, o1⟩
  have := i1.h
  simpa using this
theorem run_ofT {Tb : Table} {n f : Nat} {args : List D} {d : D} (h : (callNK Tb n f args []).map (·.1) = some d) : ∃ σ, callN Tb n f args [] = some (d, σ) := by
  rw [← callNK_eq]
  cases hc : callNK Tb n f args [] with
  | none => rw [hc] at h; cases h
  | some p =>
    rw [hc] at h
    obtain ⟨d', σ⟩ := p
    simp only [Option.map_some, Option.some.injEq] at h
    subst h
    exact ⟨σ, rfl⟩
def schS : D := .agg [.sl [[.str [85], .sl [[.str [71]]] none, .sl [] none], [.str [71], .sl [] none, .sl [] none]] none, .sl [[.str [118], .sl [] none, .sl [[.str [85]]] none, .sl [[.str [85]]] none, .sl [] none]] none]
theorem ab_uu : ∃ σ, callN T 60 59 [schS, .str [85], .str [85]] [] = some (.bool false, σ) := run_ofT (by kernel_rfl)
theorem ab_ug : ∃ σ, callN T 60 59 [schS, .str [85], .str [71]] [] = some (.bool true, σ) := run_ofT (by kernel_rfl)
theorem ab_gu : ∃ σ, callN T 60 59 [schS, .str [71], .str [85]] [] = some (.bool false, σ) := run_ofT (by kernel_rfl)
theorem ab_gg : ∃ σ, callN T 60 59 [schS, .str [71], .str [71]] [] = some (.bool false, σ) := run_ofT (by kernel_rfl)
def facts59 : List (List D × D) := [([schS, .str [85], .str [85]], .bool false), ([schS, .str [85], .str [71]], .bool true), ([schS, .str [71], .str [85]], .bool false), ([schS, .str [71], .str [71]], .bool false)]
def w59 : MFunc := toldF 3 (atFs facts59)
theorem good59 : GoodT Tryz.prog 59 w59 := good_ats hmix tab_ok Tryz.func59 (c := (Tryz.f59.body).getD .skip) (by kernel_rfl) (by
  intro e he
  simp only [facts59, List.mem_cons, List.not_mem_nil, or_false] at he
  rcases he with rfl | rfl | rfl | rfl
  · exact ⟨ab_uu, by kernel_rfl, fun σ => by kernel_rfl, fun σ => by kernel_rfl, by kernel_rfl, by kernel_rfl⟩
  · exact ⟨ab_ug, by kernel_rfl, fun σ => by kernel_rfl, fun σ => by kernel_rfl, by kernel_rfl, by kernel_rfl⟩
  · exact ⟨ab_gu, by kernel_rfl, fun σ => by kernel_rfl, fun σ => by kernel_rfl, by kernel_rfl, by kernel_rfl⟩
  · exact ⟨ab_gg, by kernel_rfl, fun σ => by kernel_rfl, fun σ => by kernel_rfl, by kernel_rfl, by kernel_rfl⟩)
/-- The table with the loops and with what lies above. -/
noncomputable def TE : Table := fun f => bif Nat.beq f 59 then some w59 else bif Nat.beq f 6 then some m6n else T f
theorem te_ok : TabOK Tryz.prog TE := by
  intro f m h
  unfold TE at h
  simp only [cond_eq_ite] at h
  split at h
  · rename_i hf
    have := Nat.eq_of_beq_eq_true hf
    subst this
    cases h
    exact ⟨Tryz.f59, Tryz.func59, .inr (.inr good59), by kernel_rfl⟩
  · split at h
    · rename_i hf
      have := Nat.eq_of_beq_eq_true hf
      subst this
      cases h
      exact ⟨Tryz.f6, Tryz.func6, .inr (.inr good6n), by kernel_rfl⟩
    · exact tab_ok f m h
end Go.Abs.T

/-
  (*theory.book).of told by what is and in answer of each name.
-/
namespace Go.Abs.T
open Go Go.Abs Go.Proofs
set_option maxRecDepth 20000
attribute [local irreducible] callN runC evalOp
def askR : Option (D × St) → St → Option (Int × Int × List (List D))
  | some (.agg [.int .i64 a, .int .i64 b, .sl ks none], σ'), σ => if sameL sameO σ' σ then some (a, b, ks) else none
  | _, _ => none
theorem askR_eq {r : Option (D × St)} {σ : St} {x : Int × Int × List (List D)} (h : askR r σ = some x) : r = some (.agg (fT x), σ) := by
  unfold askR at h
  split at h
  · split at h
    · rename_i hs
      cases h
      rw [sameL_eq sameO_eq _ _ hs]
    · cases h
  · cases h
noncomputable def askV (f ob : Nat) (xi : Int) (xt t : List UInt8) (σ : St) (i : List UInt8) : Option (Int × Int × List (List D)) := askR (callNK T 20 f [.ptr ob 0, .agg [.int .i64 xi, .str xt], .agg [.str t, .str i]] σ) σ
noncomputable def ofF : List D → St → Option (D × St)
  | [.ptr ob 0, .agg [.int .i64 xi, .str xt], .msl om 0 kk 2], σ =>
    match σ[om]? with
    | some (.cells cs) =>
     match idsT (headT cs) kk cs with
     | some ids =>
      match σ[ob]? with
      | some (.cells [.sl A none, .sl B none, e0, e1, e2, at_, mp, bd]) =>
        match callNK T 19 59 [.agg [.sl A none, .sl B none], .str (headT cs), .str (headT cs)] [] with
        | some (.bool false, _) => if kk = ids.length ∧ ids.length ≤ 12 ∧ (headT cs == [65, 99, 116, 105, 111, 110]) = false ∧ (ids.all fun i => (askV 19 ob xi xt (headT cs) σ i).isSome) = true ∧ (ids.all fun i => (askV 20 ob xi xt (headT cs) σ i).isSome) = true then
            some (.sl (of0 (fun i => (askV 19 ob xi xt (headT cs) σ i).getD (0, 0, [])) (fun i => (askV 20 ob xi xt (headT cs) σ i).getD (0, 0, [])) ids) none, σ) else none
        | _ => none
      | _ => none
     | none => none
    | _ => none
  | [.ptr ob 0, .agg [.int .i64 xi, .str xt], .sl [] o], σ =>
    match callNK T 21 22 [.ptr ob 0, .agg [.int .i64 xi, .str xt], .sl [] o] σ with
    | some (.sl L none, σ') => some (.sl L none, σ')
    | _ => none
  | _, _ => none
theorem ofF_ok {ds : List D} {σ σ' : St} {d : D} (h : ofF ds σ = some (d, σ')) : callN T 21 22 ds σ = some (d, σ') ∧ (∃ L, d = .sl L none) ∧ ds.all D.notL = true := by
  unfold ofF at h
  split at h
  rotate_left
  · split at h
    · rename_i hr
      cases h
      exact ⟨callN_of_fast hr, ⟨_, rfl⟩, rfl⟩
    · cases h
  · cases h
  split at h
  rotate_left
  · cases h
  rename_i hm
  split at h
  rotate_left
  · cases h
  rename_i hU
  split at h
  rotate_left
  · cases h
  rename_i hσ
  split at h
  rotate_left
  · cases h
  rename_i h59
  split at h
  rotate_left
  · cases h
  rename_i hc
  obtain ⟨rfl, hl, ht, h19, h20⟩ := hc
  simp only [Option.some.injEq, Prod.mk.injEq] at h
  obtain ⟨rfl, rfl⟩ := h
  refine ⟨?_, ⟨_, rfl⟩, rfl⟩
  have key : ∀ {f : Nat} {ob : Nat} {xi : Int} {xt t i : List UInt8}, (askV f ob xi xt t σ i).isSome = true → callN T 20 f [.ptr ob 0, .agg [.int .i64 xi, .str xt], .agg [.str t, .str i]] σ = some (.agg (fT ((askV f ob xi xt t σ i).getD (0, 0, []))), σ) := by
    intro f ob xi xt t i hs
    obtain ⟨x, hx⟩ := Option.isSome_iff_exists.1 hs
    rw [hx]
    exact callN_of_fast (askR_eq hx)
  rename_i ob xi xt om _ cs _ ids _ A B e0 e1 e2 at_ mp bd _ σ59
  have h := of_ok 17 (by omega) σ ob xi xt (headT cs) ids (fun i => (askV 19 ob xi xt (headT cs) σ i).getD (0, 0, [])) (fun i => (askV 20 ob xi xt (headT cs) σ i).getD (0, 0, [])) hl om cs hm (idsT_at hU)
    (fun i hi => key (List.all_eq_true.1 h19 i hi)) (fun i hi => key (List.all_eq_true.1 h20 i hi))
    (fun i j => above_ok 17 σ ob A B e0 e1 e2 at_ mp bd hσ (headT cs) i j ht ⟨σ59, callN_of_fast h59⟩)
  exact h
noncomputable def w22 : MFunc := toldS 3 ofF
theorem good22 : GoodT Tryz.prog 22 w22 := good_toldS Tryz.func22 (c := (Tryz.f22.body).getD .skip) (by kernel_rfl) (fun ds σ d σ' ha => by
  obtain ⟨h1, ⟨L, rfl⟩, h2⟩ := ofF_ok ha
  exact ⟨rfl, rfl, fun g w vals hi hide hr _ => (callN_ok hmix tab_ok 21).1 22 ds σ _ σ' h1 g w vals hi hide hr h2⟩)
end Go.Abs.T

/-
  The table with b.of told.
-/
namespace Go.Abs.T
open Go Go.Abs Go.Proofs
set_option maxRecDepth 20000
noncomputable def TG : Table := fun f => bif Nat.beq f 22 then some w22 else TE f
theorem tg_ok : TabOK Tryz.prog TG := by
  intro f m h
  unfold TG at h
  simp only [cond_eq_ite] at h
  split at h
  · rename_i hf
    have := Nat.eq_of_beq_eq_true hf
    subst this
    cases h
    exact ⟨Tryz.f22, Tryz.func22, .inr (.inr good22), by kernel_rfl⟩
  · exact te_ok f m h
end Go.Abs.T
