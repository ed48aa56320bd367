/-
  A part of AnalyzeFew's proof.
-/
import Derived.Test.YthbfgdbbnapjeaaGreatOps13
import Derived.Orders
import Derived.Tactics
import Derived.RangeFuncCalls
import Derived.TacticsIn
import Derived.LoopN
import Derived.Maps.RangeRun
set_option linter.unusedVariables false
set_option linter.unusedSimpArgs false
namespace Go.Abs
open Go Go.RowKit
section
variable {P : Program} {g g' : Gh} {w w' : World} {fr fr' : Fr} {σ σ' : St} {a : Act} {o : Oper} {d : D} {cal : Cal} {q : Bool} {mu : List Nat} {ops : Array Oper} {Q : Exit → Act → World → Prop}
theorem opers_get {l0 : List Oper} : ∀ {l : List Oper} {ms : List MOper}, compOpers P mu l0 l = some ms → l.length = ms.length ∧ ∀ (i : Nat) (o : Oper), l[i]? = some o → ∃ m, ms[i]? = some m ∧ compOper P mu l0 o = some m
 | [], ms, h => by
  simp only [compOpers, Option.some.injEq] at h
  subst h
  exact ⟨rfl, fun i o h => by simp at h⟩
 | x :: l, ms, h => by
  simp only [compOpers] at h
  split at h
  ·rename_i m r h1 h2
   simp only [Option.some.injEq] at h
   subst h
   obtain ⟨k1, k2⟩ := opers_get h2
   refine ⟨by simp [k1], fun i o ho => ?_⟩
   cases i with
   | zero => simp at ho; subst ho; exact ⟨m, rfl, h1⟩
   | succ i => simpa using k2 i o (by simpa using ho)
  ·cases h
theorem compOper_op {l0 : List Oper} {m : MOper} (h : compOper P mu l0 o = some m) : compOp P mu l0 o = some m.op ∧ compGuard l0 o.guard = some m.guard ∧ m.dst = o.dst := by
 unfold compOper at h
 split at h
 ·rename_i op gg h1 h2
  cases h
  exact ⟨h1, h2, rfl⟩
 ·cases h
theorem rep_undef {v : Value} (h : Rep g v .undef) : v = undef := by
 cases h
 rfl
theorem wanted_ok (s : SInv P g w fr a.tmps) {mg : Option (Nat × Bool)} (h : compGuard ops.toList o.guard = some mg) {b : Bool} (hw : wantedD fr mg = some b) : Region.wanted o (yielded ops a.tmps) = b := by
 unfold Region.wanted
 cases hg : o.guard with
 | none =>
  rw [hg] at h
  simp only [compGuard, Option.some.injEq] at h
  subst h
  simpa [wantedD] using hw
 | some jw =>
  obtain ⟨j, want⟩ := jw
  rw [hg] at h
  simp only [compGuard] at h
  split at h
  ·rename_i t ht
   simp only [Option.some.injEq] at h
   subst h
   simp only [wantedD] at hw
   split at hw
   ·rename_i b' hb
    simp only [Option.some.injEq] at hw
    subst hw
    have ht' : (ops[j]?).bind (·.dst) = some t := by simpa using ht
    rcases at_cases fr t with hs | ⟨_, hj⟩
    ·rw [hb] at hs
     obtain ⟨v, h1, h2, _⟩ := s.slots t _ hs
     have := rep_bool h2
     subst this
     simp only [yielded, ht', Option.bind_some, h1]
     cases b' <;> cases want <;> rfl
    ·rw [hj] at hb
     cases hb
   ·rename_i hb
    simp only [Option.some.injEq] at hw
    subst hw
    have ht' : (ops[j]?).bind (·.dst) = some t := by simpa using ht
    rcases at_cases fr t with hs | ⟨_, hj⟩
    ·rw [hb] at hs
     obtain ⟨v, h1, h2, _⟩ := s.slots t _ hs
     have := rep_undef h2
     subst this
     simp only [yielded, ht', Option.bind_some, h1]
     cases want <;> rfl
    ·rw [hj] at hb
     cases hb
   ·cases hw
  ·cases h
theorem snd_runOp (hc : CalOK P cal) (hci : CalIn P cal) {m : MOper} (hm : compOper P mu ops.toList o = some m) (hr : runOp cal q m fr σ = some (fr', σ')) (i : Inv P g w fr σ a)
  (next : Act → World → Prop) (hn : ∀ a' w' g', Ext g w g' w' → Inv P g' w' fr' σ' a' → next a' w') :
  if Region.wanted o (yielded ops a.tmps) then o.wp P a w next Q else next (a.put o.dst undef) w := by
 obtain ⟨h1, h2, h3⟩ := compOper_op hm
 unfold runOp at hr
 split at hr
 ·cases hr
 ·rename_i hw
  simp only [Option.some.injEq, Prod.mk.injEq] at hr
  obtain ⟨rfl, rfl⟩ := hr
  rw [wanted_ok i.s h2 hw]
  simp only [Bool.false_eq_true, if_false]
  rw [h3] at hn
  exact hn _ _ g (.refl g w) (i.put o.dst .undef (fun _ _ => .of_ne rfl) (fun s off e => by cases e))
 ·rename_i hw
  split at hr
  ·rename_i d fr1 σ1 he
   simp only [Option.some.injEq, Prod.mk.injEq] at hr
   obtain ⟨rfl, rfl⟩ := hr
   rw [wanted_ok i.s h2 hw]
   simp only [if_true]
   rw [h3] at he hn
   exact snd_op hc hci h1 he i next Q hn
  ·cases hr
theorem wp_ops_list (hc : CalOK P cal) (hci : CalIn P cal) : ∀ (l : List Oper) {ms : List MOper} {fr : Fr} {σ : St} {a : Act} {g : Gh} {w : World}, compOpers P mu ops.toList l = some ms → runOps cal q ms fr σ = some (fr', σ') → Inv P g w fr σ a →
  (∀ a' w' g', Ext g w g' w' → Inv P g' w' fr' σ' a' → Q .normal a' w') → wpList P ops Q l a w
 | [], ms, fr, σ, a, g, w, hms, hr, i, hn => by
  simp only [compOpers, Option.some.injEq] at hms
  subst hms
  simp only [runOps, Option.some.injEq, Prod.mk.injEq] at hr
  obtain ⟨rfl, rfl⟩ := hr
  exact hn a w g (.refl g w) i
 | o :: l, ms, fr, σ, a, g, w, hms, hr, i, hn => by
  simp only [compOpers] at hms
  split at hms
  ·rename_i m r h1 h2
   simp only [Option.some.injEq] at hms
   subst hms
   simp only [runOps] at hr
   split at hr
   ·rename_i fr1 σ1 hop
    have := snd_runOp (Q := Q) hc hci h1 hop i (wpList P ops Q l) (fun a' w' g' e1 i1 => wp_ops_list hc hci l h2 hr i1 (fun a2 w2 g2 e2 i2 => hn a2 w2 g2 (e1.trans e2) i2))
    unfold wpList
    split
    ·rename_i hw
     rw [if_pos hw] at this
     exact .inl this
    ·rename_i hw
     rw [if_neg hw] at this
     exact this
   ·cases hr
  ·cases hms
theorem snoc_ind {α : Type} {p : List α → Prop} (h0 : p []) (h1 : ∀ l x, p l → p (l ++ [x])) (l : List α) : p l := by
 have : ∀ r : List α, p r.reverse := fun r => by
  induction r with
  | nil => exact h0
  | cons x r ih => rw [List.reverse_cons]; exact h1 _ _ ih
 simpa using this l.reverse
theorem all_of_range {α : Type} : ∀ l : List α, (List.range l.length).filterMap (l[·]?) = l
 | [] => rfl
 | x :: l => by
  rw [List.length_cons, List.range_succ_eq_map, List.filterMap_cons]
  simp only [List.getElem?_cons_zero, List.filterMap_map]
  have := all_of_range l
  congr 1
theorem foreOf_snoc (l : List Oper) (x : Oper) : foreOf (l ++ [x]) = foreOf l ++ [(x.after.toList.filter (Region.binds .any)).foldl (fun r e => joinN (e.on :: (foreOf l).getD e.on []) r) []] := by
 simp only [foreOf, List.foldl_append, List.foldl_cons, List.foldl_nil]
theorem foreOf_len (l : List Oper) : (foreOf l).length = l.length := by
 refine snoc_ind (p := fun l => (foreOf l).length = l.length) rfl (fun l x ih => ?_) l
 rw [foreOf_snoc]
 simp [ih]
theorem getD_pre {α : Type} (l r : List (List α)) {i : Nat} {k : α} (h : k ∈ l.getD i []) : k ∈ (l ++ r).getD i [] := by
 have hlt : i < l.length := by
  rcases Nat.lt_or_ge i l.length with h1 | h1
  ·exact h1
  ·simp [List.getD_eq_getElem?_getD, List.getElem?_eq_none h1] at h
 rw [List.getD_eq_getElem?_getD, List.getElem?_append_left hlt, ← List.getD_eq_getElem?_getD]
 exact h
theorem foldl_join (f : Edge → List Nat) : ∀ (es : List Edge) (acc : List Nat) (k : Nat), k ∈ es.foldl (fun r e => joinN (f e) r) acc → k ∈ acc ∨ ∃ e ∈ es, k ∈ f e
 | [], acc, k, h => .inl h
 | x :: es, acc, k, h => by
  rcases foldl_join f es _ k h with h | ⟨e, he, h⟩
  ·rcases joinN_mem _ _ _ h with h | h
   ·exact .inr ⟨x, by simp, h⟩
   ·exact .inl h
  ·exact .inr ⟨e, List.mem_cons_of_mem _ he, h⟩
theorem foreOf_step (l : List Oper) : ∀ (j k : Nat), k ∈ (foreOf l).getD j [] → ∃ o, l[j]? = some o ∧ ∃ e ∈ o.after, Region.binds .any e = true ∧ (k = e.on ∨ k ∈ (foreOf l).getD e.on []) := by
 refine snoc_ind (p := fun l => ∀ (j k : Nat), k ∈ (foreOf l).getD j [] → ∃ o, l[j]? = some o ∧ ∃ e ∈ o.after, Region.binds .any e = true ∧ (k = e.on ∨ k ∈ (foreOf l).getD e.on [])) (fun j k h => ?_) (fun l x ih => ?_) l
 ·simp [foreOf] at h
 ·intro j k h
  rw [foreOf_snoc] at h
  rcases Nat.lt_trichotomy j l.length with hj | hj | hj
  ·rw [List.getD_eq_getElem?_getD, List.getElem?_append_left (by rw [foreOf_len]; exact hj), ← List.getD_eq_getElem?_getD] at h
   obtain ⟨o, h1, e, h2, h3, h4⟩ := ih j k h
   refine ⟨o, by rw [List.getElem?_append_left hj]; exact h1, e, h2, h3, ?_⟩
   rcases h4 with h4 | h4
   ·exact .inl h4
   ·right
    rw [foreOf_snoc]
    exact getD_pre _ _ h4
  ·subst hj
   rw [List.getD_eq_getElem?_getD, List.getElem?_append_right (by rw [foreOf_len]; exact Nat.le_refl _)] at h
   simp only [foreOf_len, Nat.sub_self, List.getElem?_cons_zero, Option.getD_some] at h
   rcases foldl_join (fun e => e.on :: (foreOf l).getD e.on []) _ _ _ h with h | ⟨e, h12, h3⟩
   ·simp at h
   obtain ⟨h1, h2⟩ := List.mem_filter.1 h12
   rw [List.mem_cons] at h3
   refine ⟨x, by simp, e, by simpa using h1, h2, ?_⟩
   rcases h3 with h3 | h3
   ·exact .inl h3
   ·right
    rw [foreOf_snoc]
    exact getD_pre _ _ h3
  ·rw [List.getD_eq_getElem?_getD, List.getElem?_eq_none (by rw [List.length_append, foreOf_len]; simp; omega)] at h
   simp at h
def Closed (fore : List (List Nat)) (listed : Array Bool) : Prop := ∀ j, listed.getD j false = true → ∀ k ∈ fore.getD j [], listed.getD k false = true
def restOf (listed : Array Bool) (n : Nat) : List Nat := (List.range n).filter fun i => !listed.getD i true
theorem mem_rest {listed : Array Bool} {n i : Nat} : i ∈ restOf listed n ↔ i < n ∧ listed.getD i true = false := by
 simp [restOf]
theorem filter_split (p : Nat → Bool) : ∀ (l : List Nat) (i : Nat), i ∈ l → l.Pairwise (· < ·) → p i = true →
  ∃ A B, l.filter p = A ++ i :: B ∧ (∀ k ∈ A, k < i ∧ p k = true) ∧ l.filter (fun k => p k && k != i) = A ++ B
 | [], i, h, _, _ => by cases h
 | x :: l, i, h, hs, hp => by
  rw [List.pairwise_cons] at hs
  rcases List.mem_cons.1 h with rfl | h
  ·refine ⟨[], l.filter p, by simp [List.filter_cons, hp], by simp, ?_⟩
   simp only [List.filter_cons, bne_self_eq_false, Bool.and_false, Bool.false_eq_true, if_false, List.nil_append]
   apply List.filter_congr
   intro k hk
   have := hs.1 k hk
   have hne : (k != i) = true := by simp; omega
   simp [hne]
  ·obtain ⟨A, B, h1, h2, h3⟩ := filter_split p l i h hs.2 hp
   have hxi : x < i := hs.1 i h
   have hne : (x != i) = true := by simp; omega
   by_cases hpx : p x = true
   ·refine ⟨x :: A, B, by simp [List.filter_cons, hpx, h1], ?_, by simp [List.filter_cons, hpx, hne, h3]⟩
    intro k hk
    rcases List.mem_cons.1 hk with rfl | hk
    ·exact ⟨hxi, hpx⟩
    ·exact h2 k hk
   ·exact ⟨A, B, by simp [List.filter_cons, hpx, h1], h2, by simp [List.filter_cons, hpx, h3]⟩
theorem rest_set (listed : Array Bool) (n i : Nat) : restOf (listed.setIfInBounds i true) n = (List.range n).filter (fun k => (!listed.getD k true) && k != i) := by
 unfold restOf
 apply List.filter_congr
 intro k _
 by_cases hk : i = k
 ·subst hk
  by_cases hl : i < listed.size
  ·simp [hl]
  ·simp [Array.getElem?_eq_none (Nat.le_of_not_lt hl)]
 ·rw [getD_set_ne true hk]
  have : (k != i) = true := by simp; omega
  simp [this]
theorem range_sorted (n : Nat) : (List.range n).Pairwise (· < ·) := List.pairwise_lt_range
theorem wp_ops_any (hc : CalOK P cal) (hci : CalIn P cal) {ms : List MOper} (hget0 : ∀ (i : Nat) (o : Oper), ops.toList[i]? = some o → ∃ m m0, ms[i]? = some m ∧ compOper P mu ops.toList o = some m0 ∧ ∀ (fr : Fr) (σ : St) (r : Fr × St), runOp cal q m fr σ = some r → runOp cal q m0 fr σ = some r) (hback : edgesBack ops.toList = true) (hpairs : pairsOK q ms (foreOf ops.toList) = true) :
  ∀ (fuel : Nat) (listed : Array Bool) {fr : Fr} {σ : St} {a : Act} {g : Gh} {w : World}, listed.size = ops.size → (restOf listed ops.size).length = fuel → Closed (foreOf ops.toList) listed →
  runOps cal q ((restOf listed ops.size).filterMap (ms[·]?)) fr σ = some (fr', σ') → Inv P g w fr σ a →
  (∀ a' w' g', Ext g w g' w' → Inv P g' w' fr' σ' a' → Q .normal a' w') → wpAny P .any ops Q fuel listed a w := by
 have nil : ∀ (listed : Array Bool), restOf listed ops.size = [] → Region.ready .any ops listed = [] := fun listed h => by
  apply List.eq_nil_iff_forall_not_mem.2
  intro j hj
  obtain ⟨h1, o, h2, _⟩ := mem_ready.1 hj
  have : j ∈ restOf listed ops.size := mem_rest.2 ⟨(Array.getElem?_eq_some_iff.1 h2).1, h1⟩
  rw [h] at this
  cases this
 intro fuel
 induction fuel with
 | zero =>
  intro listed fr σ a g w hsz hl hcl hr i hn
  have h0 := List.eq_nil_of_length_eq_zero hl
  rw [h0] at hr
  simp only [List.filterMap_nil, runOps, Option.some.injEq, Prod.mk.injEq] at hr
  obtain ⟨rfl, rfl⟩ := hr
  exact ⟨nil listed h0, hn a w g (.refl g w) i⟩
 | succ fuel ih =>
  intro listed fr σ a g w hsz hl hcl hr i hn
  refine ⟨fun hready => ?_, fun j hj => ?_⟩
  ·-- the first that is left is ready
   exfalso
   cases hrest : restOf listed ops.size with
   | nil => rw [hrest] at hl; cases hl
   | cons j L =>
    have hj : j ∈ restOf listed ops.size := by rw [hrest]; exact List.mem_cons_self ..
    obtain ⟨h1, h2⟩ := mem_rest.1 hj
    have hmin : ∀ k, k < j → listed.getD k false = true := fun k hk => by
     cases hkl : listed.getD k true with
     | false =>
      have hkm : k ∈ restOf listed ops.size := mem_rest.2 ⟨om, hkl⟩
      have hs : (restOf listed ops.size).Pairwise (· < ·) := List.Pairwise.filter _ (range_sorted _)
      rw [hrest] at hkm hs
      rw [List.pairwise_cons] at hs
      rcases List.mem_cons.1 hkm with rfl | hkm
      ·omega
      ·have := hs.1 k hkm
       omega
     | true =>
      have hks : k < listed.size := by rw [hsz]; omega
      simpa [hks] using hkl
    have : j ∈ Region.ready .any ops listed := by
     refine mem_ready.2 ⟨h2, ops[j], by simp [h1], fun e he hb => hmin _ ?_⟩
     have := List.all_eq_true.1 hback j (List.mem_range.2 (by simpa using h1))
     have hoj : ops.toList[j]? = some ops[j] := by simp [h1]
     rw [hoj] at this
     have := Array.all_eq_true_iff_forall_mem.1 this e he
     simpa [hb] using this
    rw [hready] at this
    cases this
  ·obtain ⟨h1, o, h2, h3⟩ := mem_ready.1 hj
   have hjn : j < ops.size := (Array.getElem?_eq_some_iff.1 h2).1
   obtain ⟨m, m0, hmj, hcomp, hann⟩ := hget0 j o (by simpa using h2)
   obtain ⟨A, B, s1, s2, s3⟩ := filter_split (fun k => !listed.getD k true) (List.range ops.size) j (List.mem_range.2 hjn) (range_sorted _) (by rw [h1]; rfl)
   rw [← rest_set] at s3
   have s1' : restOf listed ops.size = A ++ j :: B := s1
   -- none of those before is a forebear
   have hfj : ∀ k ∈ (foreOf ops.toList).getD j [], listed.getD k false = true := fun k hk => by
    obtain ⟨o', k1, e, k2, k3, k4⟩ := foreOf_step _ j k hk
    have hoo : o' = o := by
     have : ops.toList[j]? = some o := by simpa using h2
     rw [this] at k1
     exact (Option.some.inj k1).symm
    subst hoo
    have := h3 e k2 k3
    rcases k4 with rfl | k4
    ·exact this
    ·exact hcl _ this k k4
   rw [s1', List.filterMap_append, List.filterMap_cons, hmj] at hr
   simp only [] at hr
   have hap : ∀ x ∈ A.filterMap (ms[·]?), x.apart q m = true := fun x hx => by
    obtain ⟨k, hk, hkx⟩ := List.mem_filterMap.1 hx
    obtain ⟨k1, k2⟩ := s2 k hk
    have := List.all_eq_true.1 (List.all_eq_true.1 hpairs j (List.mem_range.2 (get_lt hmj))) k (List.mem_range.2 k1)
    rw [hkx, hmj] at this
    simp only [Bool.or_eq_true, List.contains_iff_mem] at this
    rcases this with h | h
    ·have h5 := hfj k h
     have hks : k < listed.size := by rw [hsz]; omega
     have : listed.getD k true = true := by simpa [hks] using h5
     rw [this] at k2
     cases k2
    ·exact h
   have hb := bubble _ _ hap hr
   simp only [runOps] at hb
   split at hb
   ·rename_i fr1 σ1 hop
    rw [← List.filterMap_append, ← s3] at hb
    have hlen' : (restOf (listed.setIfInBounds j true) ops.size).length = fuel := by
     have : (restOf listed ops.size).length = (A ++ B).length + 1 := by rw [s1']; simp; omega
     rw [s3]
     omega
    have hcl' : Closed (foreOf ops.toList) (listed.setIfInBounds j true) := fun x hx k hk => by
     by_cases hxj : j = x
     ·subst hxj
      exact getD_set_true (hfj k hk)
     ·rw [getD_set_ne false hxj] at hx
      exact getD_set_true (hcl x hx k hk)
    have := snd_runOp (Q := Q) hc hci hcomp (hann _ _ _ hop) i (wpAny P .any ops Q fuel (listed.setIfInBounds j true)) (fun a' w' g' e1 i1 => ih _ (by simpa using hsz) hlen' hcl' hb i1 (fun a2 w2 g2 e2 i2 => hn a2 w2 g2 (e1.trans e2) i2))
    unfold wpOp
    rw [h2]
    simp only []
    split
    ·rename_i hw
     rw [if_pos hw] at this
     exact .inl this
    ·rename_i hw
     rw [if_neg hw] at this
     exact this
   ·cases hb
theorem Inv.drawn (i : Inv P g w fr σ a) : Inv P g { w with drawn := w.drawn + 1 } fr σ a :=
 i.keep (C := fun _ => False) ⟨.refl g, Nat.le_refl _, fun _ _ _ => ⟨rfl, rfl, fun _ => rfl⟩⟩ (fun _ h => h.elim) (fun _ _ _ => rfl) i.h.imm rfl
theorem Ext.drawn (g : Gh) (w : World) : Ext g w g { w with drawn := w.drawn + 1 } :=
 ⟨.refl g, rfl, rfl, rfl, Nat.le_refl _, fun _ _ _ => ⟨rfl, rfl⟩, fun _ _ _ h => .inl h, rfl⟩
theorem annot_run {t : Nat} {o : MOper} {r : Fr × St} (h : runOp cal q (annot t o) fr σ = some r) : runOp cal q o fr σ = some r := by
 obtain ⟨dst, op, gd⟩ := o
 cases op with
 | load agg s a st =>
  cases st with
  | true => exact h
  | false =>
   have h' : runOp cal q ⟨dst, .loadA t agg s a, gd⟩ fr σ = some r := h
   unfold runOp at h' ⊢
   simp only [loadA_eq] at h' ⊢
   split at h'
   ·cases h'
   ·exact h'
   ·by_cases hi : (fr.val a).inBox t = true
    ·rw [if_pos hi] at h'
     cases h'
    ·rw [if_neg hi] at h'
     exact h'
 | store s a x =>
  cases a with
  | const d => exact h
  | tmp u =>
   by_cases hu : u = t
   ·subst hu
    have h' : runOp cal q ⟨dst, .storeR s u x, gd⟩ fr σ = some r := by
     have : annot u ⟨dst, .store s (.tmp u) x, gd⟩ = ⟨dst, .storeR s u x, gd⟩ := if_pos rfl
     rw [this] at h
     exact h
    unfold runOp at h' ⊢
    simp only [storeR_eq] at h' ⊢
    split at h'
    ·cases h'
    ·exact h'
    ·by_cases hi : (fr.val (.tmp u)).inBox u = true
     ·rw [if_pos hi] at h'
      exact h'
     ·rw [if_neg hi] at h'
      cases h'
   ·have : annot t ⟨dst, .store s (.tmp u) x, gd⟩ = ⟨dst, .store s (.tmp u) x, gd⟩ := if_neg hu
    rw [this] at h
    exact h
 | alloc z =>
  by_cases hu : dst = some t
  ·subst hu
   have h' : runOp cal q ⟨some t, .allocR z, gd⟩ fr σ = some r := by
    have : annot t ⟨some t, .alloc z, gd⟩ = ⟨some t, .allocR z, gd⟩ := if_pos rfl
    rw [this] at h
    exact h
   unfold runOp at h' ⊢
   simp only [evalOp] at h' ⊢
   split at h'
   ·cases h'
   ·exact h'
   ·by_cases hi : (fr.boxAt t).isNone = true
    ·rw [if_pos hi] at h'
     have hn : fr.newBox t z = fr.setBox t (some z) := by
      unfold Fr.newBox
      cases hb : fr.boxAt t with
      | none => rfl
      | some b =>
       rw [hb] at hi
       cases hi
     rw [hn]
     exact h'
    ·rw [if_neg hi] at h'
     cases h'
  ·have : annot t ⟨dst, .alloc z, gd⟩ = ⟨dst, .alloc z, gd⟩ := if_neg hu
   rw [this] at h
   exact h
 | _ => exact h
theorem annotS_run {t : Nat} {o : MOper} {r : Fr × St} (h : runOp cal false (annotS t o) fr σ = some r) : runOp cal false o fr σ = some r := by
 obtain ⟨dst, op, gd⟩ := o
 cases op with
 | call f xs =>
  have h' : runOp cal false ⟨dst, .callS f xs, gd⟩ fr σ = some r := h
  unfold runOp at h' ⊢
  simp only at h' ⊢
  split at h'
  ·cases h'
  ·exact h'
  ·rename_i hw
   simp only [evalOp] at h' ⊢
   by_cases hn : (xs.map fr.arg).all D.notL = true
   ·rw [if_pos hn] at h'
    simp only [Bool.false_eq_true, if_false, promA_ok xs hn]
    exact h'
   ·rw [if_neg hn] at h'
    cases h'
 | _ => exact annot_run (t := t) h
def RegionW (P : Program) (ops : Array Oper) (draw : Bool) (Q : Exit → Act → World → Prop) (a : Act) (w : World) : Prop :=
 if draw then ∀ t, wpOps P ops Q (Region.schedule (P.follows .mixedOrders) ops t) a { w with drawn := w.drawn + 1 } else wpOps P ops Q (List.range ops.size) a w
theorem regionW_list (h : wpList P ops Q ops.toList a w) : RegionW P ops false Q a w := by
 show wpOps P ops Q (List.range ops.size) a w
 rw [List.range_eq_range', ← Array.length_toList, wpOps_eq_wpList ops.toList 0 (by simp)]
 exact h
theorem regionW_any (hm : P.follows .mixedOrders = true) (h : wpAny P .any ops Q ops.size (Array.replicate ops.size false) a { w with drawn := w.drawn + 1 }) : RegionW P ops true Q a w := by
 intro t
 simp only [Region.schedule, hm, Bool.true_or, if_true]
 exact wpAny_sound ops.size t _ a _ h
mutual
theorem sameD_eq : ∀ (a b : D), sameD a b = true → a = b
 | .ref cs, b, h => by cases b <;> simp only [sameD, Bool.false_eq_true] at h; rw [sameDs_eq _ _ h]
 | .sl es o, b, h => by
  cases b <;> simp only [sameD, Bool.false_eq_true, Bool.and_eq_true, beq_iff_eq] at h
  rw [h.1, sameDss_eq _ _ h.2]
 | .func f cs, b, h => by
  cases b <;> simp only [sameD, Bool.false_eq_true, Bool.and_eq_true, beq_iff_eq] at h
  rw [h.1, sameDs_eq _ _ h.2]
 | .agg cs, b, h => by cases b <;> simp only [sameD, Bool.false_eq_true] at h; rw [sameDs_eq _ _ h]
 | .tup cs, b, h => by cases b <;> simp only [sameD, Bool.false_eq_true] at h; rw [sameDs_eq _ _ h]
 | .junk, b, h => by cases b <;> simp_all [sameD]
 | .undef, b, h => by cases b <;> simp_all [sameD]
 | .nils _, b, h => by cases b <;> simp_all [sameD]
 | .bool _, b, h => by cases b <;> simp_all [sameD]
 | .int _ _, b, h => by cases b <;> simp_all [sameD]
 | .str _, b, h => by cases b <;> simp_all [sameD]
 | .nilp, b, h => by cases b <;> simp_all [sameD]
 | .nilm, b, h => by cases b <;> simp_all [sameD]
 | .nilf, b, h => by cases b <;> simp_all [sameD]
 | .ptr _ _, b, h => by cases b <;> simp_all [sameD]
 | .lptr _ _, b, h => by cases b <;> simp_all [sameD]
 | .msl _ _ _ _, b, h => by cases b <;> simp_all [sameD]
 | .map _, b, h => by cases b <;> simp_all [sameD]
 | .val _, b, h => by cases b <;> simp_all [sameD]
theorem sameDs_eq : ∀ (a b : List D), sameDs a b = true → a = b
 | [], [], _ => rfl
 | [], _ :: _, h => by cases h
 | _ :: _, [], h => by cases h
 | d :: ds, e :: es, h => by
  simp only [sameDs, Bool.and_eq_true] at h
  rw [sameD_eq _ _ h.1, sameDs_eq _ _ h.2]
theorem sameDss_eq : ∀ (a b : List (List D)), sameDss a b = true → a = b
 | [], [], _ => rfl
 | [], _ :: _, h => by cases h
 | _ :: _, [], h => by cases h
 | d :: ds, e :: es, h => by
  simp only [sameDss, Bool.and_eq_true] at h
  rw [sameDs_eq _ _ h.1, sameDss_eq _ _ h.2]
end
theorem sameL_eq {α : Type} {f : α → α → Bool} (hf : ∀ a b, f a b = true → a = b) : ∀ a b : List α, sameL f a b = true → a = b
 | [], [], _ => rfl
 | [], _ :: _, h => by cases h
 | _ :: _, [], h => by cases h
 | d :: ds, e :: es, h => by
  simp only [sameL, Bool.and_eq_true] at h
  rw [hf _ _ h.1, sameL_eq hf _ _ h.2]
theorem sameB_eq (a b : Option (List D)) (h : sameB a b = true) : a = b := by
 cases a <;> cases b <;> simp only [sameB, Bool.false_eq_true] at h
 ·rfl
 ·rw [sameDs_eq _ _ h]
theorem sameO_eq (a b : Obj) (h : sameO a b = true) : a = b := by
 cases a <;> cases b <;> simp only [sameO, Bool.false_eq_true] at h
 ·rw [sameDs_eq _ _ h]
 ·rw [sameL_eq (fun x y h => by
   simp only [Bool.and_eq_true] at h
   exact Prod.ext (sameD_eq _ _ h.1) (sameD_eq _ _ h.2)) _ _ h]
 ·rfl
 ·rw [beq_iff_eq.1 h]
 ·rw [sameL_eq (fun x y h => by
   simp only [Bool.and_eq_true] at h
   exact Prod.ext (sameD_eq _ _ h.1) (sameD_eq _ _ h.2)) _ _ h]
theorem sameFr_eq (a b : Fr) (h : sameFr a b = true) : a = b := by
 simp only [sameFr, Bool.and_eq_true] at h
 have h1 := sameDs_eq _ _ h.1.1
 have h2 := sameL_eq sameB_eq _ _ h.1.2
 have h3 := sameL_eq (fun x y h => by
   simp only [Bool.and_eq_true] at h
   exact Prod.ext (sameD_eq _ _ h.1) (sameDs_eq _ _ h.2)) _ _ h.2
 cases a; cases b
 simp only at h1 h2 h3
 rw [h1, h2, h3]
theorem sameS_eq (a b : Fr × St) (h : sameS a b = true) : a = b := by
 simp only [sameS, Bool.and_eq_true] at h
 exact Prod.ext (sameFr_eq _ _ h.1) (sameL_eq sameO_eq _ _ h.2)
theorem anyAdd_mem : ∀ {L L' : AnyLay} {k : List Bool} {s : Fr × St}, anyAdd L k s = some L' → (k, s) ∈ L' ∧ ∀ x ∈ L, x ∈ L'
 | [], L', k, s, h => by
  simp only [anyAdd, Option.some.injEq] at h
  subst h
  exact ⟨by simp, by simp⟩
 | x :: L, L', k, s, h => by
  simp only [anyAdd] at h
  split at h
  ·rename_i hk
   split at h
   ·rename_i hs
    cases h
    have h1 := beq_iff_eq.1 hk
    have h2 := sameS_eq _ _ hs
    refine ⟨?_, fun _ h => h⟩
    rw [← h1, h2]
    exact List.mem_cons_self ..
   ·cases h
  ·cases hL : anyAdd L k s with
   | none => rw [hL] at h; cases h
   | some L1 =>
    rw [hL] at h
    cases h
    obtain ⟨h1, h2⟩ := anyAdd_mem hL
    refine ⟨List.mem_cons_of_mem _ h1, fun y hy => ?_⟩
    rcases List.mem_cons.1 hy with rfl | hy
    ·exact List.mem_cons_self ..
    ·exact List.mem_cons_of_mem _ (h2 y hy)
theorem anyFrom_mem {cal : Cal} {q : Bool} {ms : List MOper} {pre : List (List Nat)} {m : List Bool} {s : Fr × St} : ∀ {js : List Nat} {L L' : AnyLay}, anyFrom cal q ms pre m s js L = some L' →
  (∀ x ∈ L, x ∈ L') ∧ ∀ j ∈ js, anyMay pre m j = true → ∃ o s', ms[j]? = some o ∧ runOp cal q o s.1 s.2 = some s' ∧ (m.set j true, s') ∈ L'
 | [], L, L', h => by
  simp only [anyFrom, Option.some.injEq] at h
  subst h
  exact ⟨fun _ h => h, fun j h => by cases h⟩
 | j :: js, L, L', h => by
  simp only [anyFrom] at h
  split at h
  ·split at h
   ·rename_i o ho
    split at h
    ·rename_i s' hs
     split at h
     ·rename_i L1 hL
      obtain ⟨h1, h2⟩ := anyAdd_mem hL
      obtain ⟨h3, h4⟩ := anyFrom_mem h
      refine ⟨fun x hx => h3 x (h2 x hx), fun k hk hm => ?_⟩
      rcases List.mem_cons.1 hk with rfl | hk
      ·exact ⟨o, s', ho, hs, h3 _ h1⟩
      ·exact h4 k hk hm
     ·cases h
    ·cases h
   ·cases h
  ·rename_i hno
   obtain ⟨h3, h4⟩ := anyFrom_mem h
   refine ⟨h3, fun k hk hm => ?_⟩
   rcases List.mem_cons.1 hk with rfl | hk
   ·exact absurd hm hno
   ·exact h4 k hk hm
theorem anyStep_mem {cal : Cal} {q : Bool} {ms : List MOper} {pre : List (List Nat)} : ∀ {xs L L' : AnyLay}, anyStep cal q ms pre xs L = some L' →
  (∀ x ∈ L, x ∈ L') ∧ ∀ x ∈ xs, ∀ j < ms.length, anyMay pre x.1 j = true → ∃ o s', ms[j]? = some o ∧ runOp cal q o x.2.1 x.2.2 = some s' ∧ (x.1.set j true, s') ∈ L'
 | [], L, L', h => by
  simp only [anyStep, Option.some.injEq] at h
  subst h
  exact ⟨fun _ h => h, fun j h => by cases h⟩
 | x :: xs, L, L', h => by
  simp only [anyStep] at h
  split at h
  ·rename_i L1 hL
   obtain ⟨h1, h2⟩ := anyFrom_mem hL
   obtain ⟨h3, h4⟩ := anyStep_mem h
   refine ⟨fun y hy => h3 y (h1 y hy), fun y hy j hj hm => ?_⟩
   rcases List.mem_cons.1 hy with rfl | hy
   ·obtain ⟨o, s', a1, a2, a3⟩ := h2 j (List.mem_range.2 hj) hm
    exact ⟨o, s', a1, a2, h3 _ a3⟩
   ·exact h4 y hy j hj hm
  ·cases h
theorem wp_ops_all (hc : CalOK P cal) (hci : CalIn P cal) {ms : List MOper} (hlen : ms.length = ops.size) (hget0 : ∀ (i : Nat) (o : Oper), ops.toList[i]? = some o → ∃ m, ms[i]? = some m ∧ compOper P mu ops.toList o = some m) (hback : edgesBack ops.toList = true) :
  ∀ (fuel : Nat) (listed : Array Bool) {L : AnyLay} {fr : Fr} {σ : St} {a : Act} {g : Gh} {w : World}, listed.size = ops.size → (restOf listed ops.size).length = fuel →
  anyLays cal q ms (preOf ops.toList) fuel L = some (fr', σ') → (listed.toList, (fr, σ)) ∈ L → Inv P g w fr σ a →
  (∀ a' w' g', Ext g w g' w' → Inv P g' w' fr' σ' a' → Q .normal a' w') → wpAny P .any ops Q fuel listed a w := by
 have nil : ∀ (listed : Array Bool), restOf listed ops.size = [] → Region.ready .any ops listed = [] := fun listed h => by
  apply List.eq_nil_iff_forall_not_mem.2
  intro j hj
  obtain ⟨h1, o, h2, _⟩ := mem_ready.1 hj
  have : j ∈ restOf listed ops.size := mem_rest.2 ⟨(Array.getElem?_eq_some_iff.1 h2).1, h1⟩
  rw [h] at this
  cases this
 intro fuel
 induction fuel with
 | zero =>
  intro listed L fr σ a g w hsz hl hr hL i hn
  have h0 := List.eq_nil_of_length_eq_zero hl
  have : (fr', σ') = (fr, σ) := by
   unfold anyLays at hr
   split at hr
   ·rename_i x
    rw [List.mem_singleton] at hL
    rw [← hL] at hr
    exact (Option.some.inj hr).symm
   ·cases hr
   ·simp_all
  cases this
  exact ⟨nil listed h0, hn a w g (.refl g w) i⟩
 | succ fuel ih =>
  intro listed L fr σ a g w hsz hl hr hL i hn
  simp only [anyLays] at hr
  split at hr
  case h_2 => cases hr
  rename_i L' hst
  obtain ⟨_, hmem⟩ := anyStep_mem hst
  refine ⟨fun hready => ?_, fun j hj => ?_⟩
  ·exfalso
   cases hrest : restOf listed ops.size with
   | nil => rw [hrest] at hl; cases hl
   | cons j L =>
    have hj : j ∈ restOf listed ops.size := by rw [hrest]; exact List.mem_cons_self ..
    obtain ⟨h1, h2⟩ := mem_rest.1 hj
    have hmin : ∀ k, k < j → listed.getD k false = true := fun k hk => by
     cases hkl : listed.getD k true with
     | false =>
      have hkm : k ∈ restOf listed ops.size := mem_rest.2 ⟨om, hkl⟩
      have hs : (restOf listed ops.size).Pairwise (· < ·) := List.Pairwise.filter _ (range_sorted _)
      rw [hrest] at hkm hs
      rw [List.pairwise_cons] at hs
      rcases List.mem_cons.1 hkm with rfl | hkm
      ·omega
      ·have := hs.1 k hkm
       omega
     | true =>
      have hks : k < listed.size := by rw [hsz]; omega
      simpa [hks] using hkl
    have : j ∈ Region.ready .any ops listed := by
     refine mem_ready.2 ⟨h2, ops[j], by simp [h1], fun e he hb => hmin _ ?_⟩
     have := List.all_eq_true.1 hback j (List.mem_range.2 (by simpa using h1))
     have hoj : ops.toList[j]? = some ops[j] := by simp [h1]
     rw [hoj] at this
     have := Array.all_eq_true_iff_forall_mem.1 this e he
     simpa [hb] using this
    rw [hready] at this
    cases this
  ·obtain ⟨h1, o, h2, h3⟩ := mem_ready.1 hj
   have hjn : j < ops.size := (Array.getElem?_eq_some_iff.1 h2).1
   have h2' : ops.toList[j]? = some o := by simpa using h2
   have hjl : j < listed.size := by rw [hsz]; exact hjn
   have hmay : anyMay (preOf ops.toList) listed.toList j = true := by
    simp only [anyMay, Bool.and_eq_true, Bool.not_eq_true', List.all_eq_true]
    refine ⟨by simpa [hjl] using h1, fun k hk => ?_⟩
    have hp : (preOf ops.toList).getD j [] = (o.after.toList.filter (Region.binds .any)).map (·.on) := by
     rw [List.getD_eq_getElem?_getD, preOf, List.getElem?_map, h2']
     rfl
    rw [hp] at hk
    obtain ⟨e, he, rfl⟩ := List.mem_map.1 hk
    obtain ⟨he1, he2⟩ := List.mem_filter.1 he
    have := h3 e (by simpa using he1) he2
    simpa using this
   obtain ⟨m, s', q1, q2, q3⟩ := hmem _ hL j (by rw [hlen]; exact hjn) hmay
   obtain ⟨m', q4, hcomp⟩ := hget0 j o h2'
   rw [q1] at q4
   cases q4
   have hlen' : (restOf (listed.setIfInBounds j true) ops.size).length = fuel := by
    obtain ⟨A, B, s1, _, s3⟩ := filter_split (fun k => !listed.getD k true) (List.range ops.size) j (List.mem_range.2 hjn) (range_sorted _) (by rw [h1]; rfl)
    rw [← rest_set] at s3
    have s1' : restOf listed ops.size = A ++ j :: B := s1
    have : (restOf listed ops.size).length = (A ++ B).length + 1 := by rw [s1']; simp; omega
    rw [s3]
    omega
   have q3' : ((listed.setIfInBounds j true).toList, (s'.1, s'.2)) ∈ L' := by
    rw [Array.toList_setIfInBounds]
    exact q3
   have := snd_runOp (Q := Q) (fr' := s'.1) (σ' := s'.2) hc hci hcomp q2 i (wpAny P .any ops Q fuel (listed.setIfInBounds j true)) (fun a' w' g' e1 i1 => ih _ (by simpa using hsz) hlen' hr q3' i1 (fun a2 w2 g2 e2 i2 => hn a2 w2 g2 (e1.trans e2) i2))
   unfold wpOp
   rw [h2]
   simp only []
   split
   ·rename_i hw
    rw [if_pos hw] at this
    exact .inl this
   ·rename_i hw
    rw [if_neg hw] at this
    exact this
theorem regionW_all (hm : P.follows .mixedOrders = true) (hc : CalOK P cal) (hci : CalIn P cal) {ms : List MOper} (hcomp : compOpers P mu ops.toList ops.toList = some ms) (hback : edgesBack ops.toList = true)
  (hr : runAny cal q ms (preOf ops.toList) fr σ = some (fr', σ')) (i : Inv P g w fr σ a) (hn : ∀ a' w' g', Ext g w g' w' → Inv P g' w' fr' σ' a' → Q .normal a' w') : RegionW P ops true Q a w := by
 obtain ⟨hlen, hget⟩ := opers_get hcomp
 have hl : ms.length = ops.size := by rw [← hlen]; simp
 refine regionW_any hm (wp_ops_all hc hci hl hget hback ops.size _ (by simp) ?_ (L := [(List.replicate ms.length false, (fr, σ))]) (by rw [← hl]; exact hr) ?_ i.drawn (fun a' w' g' e1 i1 => hn a' w' g' ((Ext.drawn g w).trans e1) i1))
 ·have : restOf (Array.replicate ops.size false) ops.size = List.range ops.size := by
   unfold restOf
   apply List.filter_eq_self.2
   intro k hk
   have := List.mem_range.1 hk
   simp [this]
  rw [this]
  simp
 ·rw [hl]
  simp
theorem region_w (hm : P.follows .mixedOrders = true) (hc : CalOK P cal) (hci : CalIn P cal) {id : Nat} {draw : Bool} {keep : Lv} {quiet : Bool} {ms : List MOper} (hcomp : compC P mu keep (.region id ops draw) = some (.region quiet ms))
  (hr : runOps cal quiet ms fr σ = some (fr', σ')) (i : Inv P g w fr σ a) (hn : ∀ a' w' g', Ext g w g' w' → Inv P g' w' fr' σ' a' → Q .normal a' w') : RegionW P ops draw Q a w := by
 simp only [compC] at hcomp
 split at hcomp
 ·rename_i ms' h1
  cases draw with
  | false =>
   simp only [Bool.not_false, if_true, Option.some.injEq, MCode.region.injEq] at hcomp
   obtain ⟨rfl, rfl⟩ := hcomp
   exact regionW_list (wp_ops_list hc hci ops.toList h1 hr i hn)
  | true =>
   simp only [Bool.not_true, Bool.false_eq_true, if_false] at hcomp
   split at hcomp
   ·rename_i hb
    obtain ⟨hlen, hget⟩ := opers_get h1
    have fin : ∀ (f : MOper → MOper), (∀ (o : MOper) (fr : Fr) (σ : St) (r : Fr × St), runOp cal quiet (f o) fr σ = some r → runOp cal quiet o fr σ = some r) → pairsOK quiet (ms'.map f) (foreOf ops.toList) = true → ms'.map f = ms → RegionW P ops true Q a w := fun f hf hp he => by
     subst he
     have hrest : restOf (Array.replicate ops.size false) ops.size = List.range ops.size := by
      unfold restOf
      apply List.filter_eq_self.2
      intro k hk
      have := List.mem_range.1 hk
      simp [this]
     have hg0 : ∀ (i : Nat) (o : Oper), ops.toList[i]? = some o → ∃ m m0, (ms'.map f)[i]? = some m ∧ compOper P mu ops.toList o = some m0 ∧ ∀ (fr : Fr) (σ : St) (r : Fr × St), runOp cal quiet m fr σ = some r → runOp cal quiet m0 fr σ = some r := fun j o ho => by
      obtain ⟨m, q1, q2⟩ := hget j o ho
      exact ⟨f m, m, by rw [List.getElem?_map, q1]; rfl, q2, hf m⟩
     refine regionW_any hm (wp_ops_any hc hci hg0 hb hp ops.size _ (by simp) (by rw [hrest]; simp) (fun j hj => ?_) ?_ i.drawn (fun a' w' g' e1 i1 => hn a' w' g' ((Ext.drawn g w).trans e1) i1))
     ·exfalso
      by_cases hjs : j < ops.size
      ·simp [hjs] at hj
      ·simp [hjs] at hj
     ·have : (List.range ops.size).filterMap ((ms'.map f)[·]?) = ms'.map f := by
       have hl : (ms'.map f).length = ops.size := by rw [List.length_map, ← hlen]; simp
       rw [← hl]
       exact all_of_range (ms'.map f)
      rw [hrest, this]
      exact hr
    have hid : ms'.map (fun o => o) = ms' := by simp
    split at hcomp
    ·rename_i hp
     cases hcomp
     exact fin (fun o => o) (fun _ _ _ _ h => h) (by rw [hid]; exact hp) hid
    ·split at hcomp
     ·cases hcomp
     ·split at hcomp
      ·rename_i t hf
       cases hcomp
       have hp : pairsOK false (ms'.map (annotS t)) (foreOf ops.toList) = true := List.find?_some (p := fun t => pairsOK false (ms'.map (annotS t)) (foreOf ops.toList)) hf
       exact fin (annotS t) (fun _ _ _ _ h => annotS_run h) hp rfl
      ·split at hcomp
       ·rename_i t hf
        split at hcomp
        ·cases hcomp
        cases hcomp
        have hp : pairsOK true (ms'.map (annot t)) (foreOf ops.toList) = true := List.find?_some (p := fun t => pairsOK true (ms'.map (annot t)) (foreOf ops.toList)) hf
        exact fin (annot t) (fun _ _ _ _ h => annot_run h) hp rfl
       ·repeat' split at hcomp
        all_goals cases hcomp
   ·cases hcomp
 ·cases hcomp
theorem annotL_run {o : MOper} {r : Fr × St} (h : runOp cal false (annotL o) fr σ = some r) : runOp cal false o fr σ = some r := by
 obtain ⟨dst, op, gd⟩ := o
 cases op with
 | call f xs => exact annotS_run (t := 0) (o := ⟨dst, .call f xs, gd⟩) h
 | load agg s a st =>
  cases st with
  | true => exact h
  | false =>
   have h' : runOp cal false ⟨dst, .loadL agg s a, gd⟩ fr σ = some r := h
   unfold runOp at h' ⊢
   simp only [loadL_eq] at h' ⊢
   split at h'
   ·cases h'
   ·exact h'
   ·by_cases hi : okL (fr.val a) = true
    ·rw [if_pos hi] at h'
     exact h'
    ·rw [if_neg hi] at h'
     cases h'
 | _ => exact h
theorem annotB_run {t : Nat} {o : MOper} {r : Fr × St} (h : runOp cal false (annotB t o) fr σ = some r) : runOp cal false o fr σ = some r := by
 obtain ⟨dst, op, gd⟩ := o
 cases op with
 | call f xs => exact annotS_run (t := 0) (o := ⟨dst, .call f xs, gd⟩) h
 | callv f xs =>
  have h' : runOp cal false ⟨dst, .callvS f xs, gd⟩ fr σ = some r := h
  unfold runOp at h' ⊢
  simp only at h' ⊢
  split at h'
  ·cases h'
  ·exact h'
  ·rename_i hw
   simp only [evalOp] at h' ⊢
   cases hv : fr.val f with
   | func id caps =>
    rw [hv] at h'
    simp only [] at h' ⊢
    by_cases hn : (xs.map fr.arg).all D.notL = true
    ·rw [if_pos hn] at h'
     simp only [Bool.false_eq_true, if_false, promA_ok xs hn]
     exact h'
    ·rw [if_neg hn] at h'
     cases h'
   | _ =>
    rw [hv] at h'
    cases h'
 | load agg s a st =>
  cases st with
  | true => exact h
  | false =>
   have h' : runOp cal false ⟨dst, .loadB t agg s a, gd⟩ fr σ = some r := h
   unfold runOp at h' ⊢
   simp only [loadB_eq, loadL_eq] at h' ⊢
   split at h'
   ·cases h'
   ·exact h'
   ·by_cases hb : (fr.val a).inBox t = true
    ·rw [if_pos hb] at h'
     cases h'
    ·rw [if_neg hb] at h'
     by_cases hi : okL (fr.val a) = true
     ·rw [if_pos hi] at h'
      exact h'
     ·rw [if_neg hi] at h'
      cases h'
 | _ => exact annot_run (t := t) h
theorem annotQ_run {q : Bool} {o : MOper} {r : Fr × St} (h : runOp cal q (annotQ o) fr σ = some r) : runOp cal q o fr σ = some r := by
 obtain ⟨dst, op, gd⟩ := o
 cases op with
 | load agg s a st =>
  cases st with
  | true => exact h
  | false =>
   have h' : runOp cal q ⟨dst, .loadP agg s a, gd⟩ fr σ = some r := h
   unfold runOp at h' ⊢
   simp only [loadP_eq] at h' ⊢
   split at h'
   ·cases h'
   ·exact h'
   ·by_cases hi : okP (fr.val a) = true
    ·rw [if_pos hi] at h'
     exact h'
    ·rw [if_neg hi] at h'
     cases h'
 | store s a x =>
  cases a with
  | tmp u => exact annot_run (t := u) h
  | const d => exact h
 | alloc z =>
  cases dst with
  | some t => exact annot_run (t := t) h
  | none => exact h
 | _ => exact h
theorem annotM_run {D : List (Option Nat)} {o : MOper} {r : Fr × St} (h : runOp cal false (annotM D o) fr σ = some r) : runOp cal false o fr σ = some r := by
 obtain ⟨dst, op, gd⟩ := o
 cases op with
 | call f xs => exact annotS_run (t := 0) (o := ⟨dst, .call f xs, gd⟩) h
 | load agg s a st =>
  cases st with
  | true => exact h
  | false =>
   simp only [annotM] at h
   split at h
   ·exact annotL_run (o := ⟨dst, .load agg s a false, gd⟩) h
   ·exact h
 | _ => exact h
theorem annotT_run {D : List (Option Nat)} {o : MOper} {r : Fr × St} (h : runOp cal false (annotT D o) fr σ = some r) : runOp cal false o fr σ = some r := by
 obtain ⟨dst, op, gd⟩ := o
 cases op with
 | load agg s a st =>
  cases st with
  | false => exact annotM_run (D := D) h
  | true =>
   have h' : runOp cal false ⟨dst, .loadT agg s a, gd⟩ fr σ = some r := h
   unfold runOp at h' ⊢
   simp only [loadT_eq] at h' ⊢
   split at h'
   ·cases h'
   ·exact h'
   ·by_cases hi : okT (fr.val a) = true
    ·rw [if_pos hi] at h'
     exact h'
    ·rw [if_neg hi] at h'
     cases h'
 | _ => exact annotM_run (D := D) h
theorem annotK_run {q : Bool} {ms : List MOper} {o : MOper} {r : Fr × St} (h : runOp cal q (annotK ms o) fr σ = some r) : runOp cal q o fr σ = some r := by
 obtain ⟨dst, op, gd⟩ := o
 cases op with
 | load agg s a st =>
  cases agg with
  | true => exact h
  | false =>
   cases st with
   | false => exact h
   | true =>
    simp only [annotK] at h
    cases hc : cellOf ms 8 a with
    | none => rw [hc] at h; exact h
    | some c =>
     rw [hc] at h
     have h' : runOp cal q ⟨dst, .loadK c.1 c.2 s a, gd⟩ fr σ = some r := h
     unfold runOp at h' ⊢
     simp only [loadK_eq] at h' ⊢
     split at h'
     ·cases h'
     ·exact h'
     ·by_cases hi : okK c.1 c.2 (fr.val a) = true
      ·rw [if_pos hi] at h'
       exact h'
      ·rw [if_neg hi] at h'
       cases h'
 | _ => exact h
theorem region_alt (hm : P.follows .mixedOrders = true) (hc : CalOK P cal) (hci : CalIn P cal) {ms' : List MOper} {f : MOper → MOper} {q : Bool} (h1 : compOpers P mu ops.toList ops.toList = some ms') (hb : edgesBack ops.toList = true)
  (hf : ∀ (o : MOper) (fr : Fr) (σ : St) (r : Fr × St), runOp cal q (f o) fr σ = some r → runOp cal q o fr σ = some r) (hp : pairsOK q (ms'.map f) (foreOf ops.toList) = true)
  (hr : runOps cal q (ms'.map f) fr σ = some (fr', σ')) (i : Inv P g w fr σ a) (hn : ∀ a' w' g', Ext g w g' w' → Inv P g' w' fr' σ' a' → Q .normal a' w') : RegionW P ops true Q a w := by
 obtain ⟨hlen, hget⟩ := opers_get h1
 have hrest : restOf (Array.replicate ops.size false) ops.size = List.range ops.size := by
  unfold restOf
  apply List.filter_eq_self.2
  intro k hk
  have := List.mem_range.1 hk
  simp [this]
 have hg0 : ∀ (i : Nat) (o : Oper), ops.toList[i]? = some o → ∃ m m0, (ms'.map f)[i]? = some m ∧ compOper P mu ops.toList o = some m0 ∧ ∀ (fr : Fr) (σ : St) (r : Fr × St), runOp cal q m fr σ = some r → runOp cal q m0 fr σ = some r := fun j o ho => by
  obtain ⟨m, q1, q2⟩ := hget j o ho
  exact ⟨f m, m, by rw [List.getElem?_map, q1]; rfl, q2, hf m⟩
 refine regionW_any hm (wp_ops_any hc hci hg0 hb hp ops.size _ (by simp) (by rw [hrest]; simp) (fun j hj => ?_) ?_ i.drawn (fun a' w' g' e1 i1 => hn a' w' g' ((Ext.drawn g w).trans e1) i1))
 ·exfalso
  by_cases hjs : j < ops.size
  ·simp [hjs] at hj
  ·simp [hjs] at hj
 ·have : (List.range ops.size).filterMap ((ms'.map f)[·]?) = ms'.map f := by
   have hl : (ms'.map f).length = ops.size := by rw [List.length_map, ← hlen]; simp
   rw [← hl]
   exact all_of_range (ms'.map f)
  rw [hrest, this]
  exact hr
theorem runAlts_mem : ∀ {alts : List (Bool × List MOper)} {r : Fr × St}, runAlts cal alts fr σ = some r → ∃ x ∈ alts, runOps cal x.1 x.2 fr σ = some r
 | [], _, h => by cases h
 | (q, os) :: alts, r, h => by
  simp only [runAlts] at h
  split at h
  ·rename_i r' hr
   cases h
   exact ⟨_, List.mem_cons_self .., hr⟩
  ·obtain ⟨x, hx, h⟩ := runAlts_mem h
   exact ⟨x, List.mem_cons_of_mem _ hx, h⟩
theorem region_wQ1 (hm : P.follows .mixedOrders = true) (hc : CalOK P cal) (hci : CalIn P cal) {id : Nat} {draw : Bool} {keep : Lv} {alts : List (Bool × List MOper)} {ms : List MOper} {pre : List (List Nat)} (hcomp : compC P mu keep (.region id ops draw) = some (.regionQ alts ms pre))
    (hr : runAlts cal alts fr σ = some (fr', σ')) (i : Inv P g w fr σ a) (hn : ∀ a' w' g', Ext g w g' w' → Inv P g' w' fr' σ' a' → Q .normal a' w') : RegionW P ops draw Q a w := by
  obtain ⟨x, hx, hr⟩ := runAlts_mem hr
  simp only [compC] at hcomp
  split at hcomp
  · rename_i ms' h1
    cases draw with
    | false => simp at hcomp
    | true =>
      simp only [Bool.not_true, Bool.false_eq_true, if_false] at hcomp
      split at hcomp
      · rename_i hb
        have quiet : x ∈ (if pairsOK true ms' (foreOf ops.toList) then [(true, ms')] else []) → RegionW P ops true Q a w := fun hx => by
          split at hx
          · rename_i hp
            rw [List.mem_singleton] at hx
            subst hx
            have hid : ms'.map (fun o => o) = ms' := by simp
            exact region_alt (f := fun o => o) hm hc hci h1 hb (fun _ _ _ _ h => h) (by rw [hid]; exact hp) (by rw [hid]; exact hr) i hn
          · cases hx
        have key : altsOf ms' (foreOf ops.toList) = alts → RegionW P ops true Q a w := fun he => by
          rw [← he] at hx
          unfold altsOf at hx
          rcases List.mem_append.1 hx with hx | hx
          rotate_left
          · unfold altsT at hx
            split at hx
            · rename_i hp
              rw [Bool.and_eq_true] at hp
              rw [List.mem_singleton] at hx
              subst hx
              exact region_alt hm hc hci h1 hb (fun _ _ _ _ h => annotT_run h) hp.2 hr i hn
            · cases hx
          rcases List.mem_append.1 hx with hx | hx
          · split at hx
            · rename_i hp
              rw [List.mem_singleton] at hx
              subst hx
              exact region_alt hm hc hci h1 hb (fun _ _ _ _ h => annotL_run h) hp hr i hn
            · cases hx
          · split at hx
            · rcases List.mem_append.1 hx with hx | hx
              · unfold altsM at hx
                split at hx
                · rename_i hp
                  rw [Bool.and_eq_true] at hp
                  rw [List.mem_singleton] at hx
                  subst hx
                  exact region_alt hm hc hci h1 hb (fun _ _ _ _ h => annotM_run h) hp.2 hr i hn
                · cases hx
              · exact quiet hx
            · exact quiet hx
        have keyB : ∀ t, altsB t ms' (foreOf ops.toList) = alts → RegionW P ops true Q a w := fun t he => by
          rw [← he] at hx
          unfold altsB at hx
          split at hx
          · rename_i hp
            rw [List.mem_singleton] at hx
            subst hx
            exact region_alt hm hc hci h1 hb (fun _ _ _ _ h => annotB_run (t := t) h) hp hr i hn
          · cases hx
        have keyQ : altsQ ms' (foreOf ops.toList) = alts → RegionW P ops true Q a w := fun he => by
          rw [← he] at hx
          unfold altsQ at hx
          split at hx
          · rename_i hp
            rw [List.mem_singleton] at hx
            subst hx
            exact region_alt hm hc hci h1 hb (fun _ _ _ _ h => annotQ_run h) hp hr i hn
          · cases hx
        have keyK : pairsOK true (ms'.map (annotK ms')) (foreOf ops.toList) = true → [(true, ms'.map (annotK ms'))] = alts → RegionW P ops true Q a w := fun hp he => by
          rw [← he, List.mem_singleton] at hx
          subst hx
          exact region_alt hm hc hci h1 hb (fun _ _ _ _ h => annotK_run h) hp hr i hn
        repeat' split at hcomp
        all_goals first
          | (cases hcomp; done)
          | (simp only [Option.some.injEq, MCode.regionQ.injEq] at hcomp
             exact keyK asm hcomp.1)
          | (simp only [Option.some.injEq, MCode.regionQ.injEq] at hcomp
             exact key hcomp.1)
          | (simp only [Option.some.injEq, MCode.regionQ.injEq] at hcomp
             exact keyQ hcomp.1)
          | (simp only [Option.some.injEq, MCode.regionQ.injEq] at hcomp
             exact keyB _ hcomp.1)
      · cases hcomp
  · cases hcomp
theorem region_wQ2 (hm : P.follows .mixedOrders = true) (hc : CalOK P cal) (hci : CalIn P cal) {id : Nat} {draw : Bool} {keep : Lv} {alts : List (Bool × List MOper)} {ms : List MOper} {pre : List (List Nat)} (hcomp : compC P mu keep (.region id ops draw) = some (.regionQ alts ms pre))
    (hr : runAny cal false ms pre fr σ = some (fr', σ')) (i : Inv P g w fr σ a) (hn : ∀ a' w' g', Ext g w g' w' → Inv P g' w' fr' σ' a' → Q .normal a' w') : RegionW P ops draw Q a w := by
  simp only [compC] at hcomp
  split at hcomp
  · rename_i ms' h1
    cases draw with
    | false => simp at hcomp
    | true =>
      simp only [Bool.not_true, Bool.false_eq_true, if_false] at hcomp
      split at hcomp
      · rename_i hb
        repeat' split at hcomp
        all_goals first
          | (cases hcomp; done)
          | (simp only [Option.some.injEq, MCode.regionQ.injEq] at hcomp
             obtain ⟨_, rfl, rfl⟩ := hcomp
             exact regionW_all hm hc hci h1 hb hr i hn)
      · cases hcomp
  · cases hcomp
theorem region_wQ (hm : P.follows .mixedOrders = true) (hc : CalOK P cal) (hci : CalIn P cal) {id : Nat} {draw : Bool} {keep : Lv} {alts : List (Bool × List MOper)} {ms : List MOper} {pre : List (List Nat)} (hcomp : compC P mu keep (.region id ops draw) = some (.regionQ alts ms pre)) {fuel : Nat} {ae : AE}
  (hr : runC cal fuel (.regionQ alts ms pre) fr σ = some (ae, fr', σ')) (i : Inv P g w fr σ a) (hn : ∀ a' w' g', Ext g w g' w' → Inv P g' w' fr' σ' a' → Q .normal a' w') : ae = .normal ∧ RegionW P ops draw Q a w := by
 simp only [runC] at hr
 split at hr
 ·rename_i fr1 σ1 h1
  cases hr
  exact ⟨rfl, region_wQ1 hm hc hci hcomp h1 i hn⟩
 ·simp only [Option.map_eq_some_iff] at hr
  obtain ⟨⟨fr1, σ1⟩, h1, h2⟩ := hr
  cases h2
  exact ⟨rfl, region_wQ2 hm hc hci hcomp h1 i hn⟩
theorem compC_region {id : Nat} {draw : Bool} {keep : Lv} {m : MCode} (hcomp : compC P mu keep (.region id ops draw) = some m) : (∃ quiet ms, m = .region quiet ms) ∨ (∃ ms pre, m = .regionA ms pre) ∨ ∃ alts ms pre, m = .regionQ alts ms pre := by
 simp only [compC] at hcomp
 repeat' split at hcomp
 all_goals first | (cases hcomp; done) | (cases hcomp; exact .inl ⟨_, _, rfl⟩) | (cases hcomp; exact .inr (.inl ⟨_, _, rfl⟩)) | (cases hcomp; exact .inr (.inr ⟨_, _, _, rfl⟩))
theorem region_wA (hm : P.follows .mixedOrders = true) (hc : CalOK P cal) (hci : CalIn P cal) {id : Nat} {draw : Bool} {keep : Lv} {ms : List MOper} {pre : List (List Nat)} (hcomp : compC P mu keep (.region id ops draw) = some (.regionA ms pre))
    (hr : runAny cal false ms pre fr σ = some (fr', σ')) (i : Inv P g w fr σ a) (hn : ∀ a' w' g', Ext g w g' w' → Inv P g' w' fr' σ' a' → Q .normal a' w') : RegionW P ops draw Q a w := by
  simp only [compC] at hcomp
  split at hcomp
  · rename_i ms' h1
    cases draw with
    | false => simp at hcomp
    | true =>
      simp only [Bool.not_true, Bool.false_eq_true, if_false] at hcomp
      split at hcomp
      · rename_i hb
        repeat' split at hcomp
        all_goals first
          | (cases hcomp; done)
          | (simp only [Option.some.injEq, MCode.regionA.injEq] at hcomp
             obtain ⟨rfl, rfl⟩ := hcomp
             exact regionW_all hm hc hci h1 hb hr i hn)
      · cases hcomp
  · cases hcomp
theorem wp_region_code (hm : P.follows .mixedOrders = true) (hc : CalOK P cal) (hci : CalIn P cal) {id : Nat} {draw : Bool} {keep : Lv} {quiet : Bool} {ms : List MOper} (hcomp : compC P mu keep (.region id ops draw) = some (.region quiet ms))
  (hr : runOps cal quiet ms fr σ = some (fr', σ')) (i : Inv P g w fr σ a) (hn : ∀ a' w' g', Ext g w g' w' → Inv P g' w' fr' σ' a' → Q .normal a' w') : (Code.region id ops draw).wp P Q a w := by
 have h := region_w hm hc hci hcomp hr i hn
 cases draw with
 | false => exact wp_region h
 | true => exact wp_region_draw h
theorem wp_region_codeA (hm : P.follows .mixedOrders = true) (hc : CalOK P cal) (hci : CalIn P cal) {id : Nat} {draw : Bool} {keep : Lv} {ms : List MOper} {pre : List (List Nat)} (hcomp : compC P mu keep (.region id ops draw) = some (.regionA ms pre))
  (hr : runAny cal false ms pre fr σ = some (fr', σ')) (i : Inv P g w fr σ a) (hn : ∀ a' w' g', Ext g w g' w' → Inv P g' w' fr' σ' a' → Q .normal a' w') : (Code.region id ops draw).wp P Q a w := by
 have h := region_wA hm hc hci hcomp hr i hn
 cases draw with
 | false => exact wp_region h
 | true => exact wp_region_draw h
theorem wp_region_codeQ (hm : P.follows .mixedOrders = true) (hc : CalOK P cal) (hci : CalIn P cal) {id : Nat} {draw : Bool} {keep : Lv} {alts : List (Bool × List MOper)} {ms : List MOper} {pre : List (List Nat)} (hcomp : compC P mu keep (.region id ops draw) = some (.regionQ alts ms pre)) {fuel : Nat} {ae : AE}
  (hr : runC cal fuel (.regionQ alts ms pre) fr σ = some (ae, fr', σ')) (i : Inv P g w fr σ a) (hn : ∀ a' w' g', Ext g w g' w' → Inv P g' w' fr' σ' a' → Q .normal a' w') : ae = .normal ∧ (Code.region id ops draw).wp P Q a w := by
 obtain ⟨h0, h⟩ := region_wQ hm hc hci hcomp hr i hn
 refine ⟨h0, ?_⟩
 cases draw with
 | false => exact wp_region h
 | true => exact wp_region_draw h
end
end Go.Abs

namespace Go.Abs
open Go Go.RowKit
open Go.ChangeMaps (setBlock)
section
variable {P : Program} {g g' : Gh} {w w' : World} {fr fr' : Fr} {σ σ' : St} {a : Act} {o : Oper} {d : D} {cal : Cal} {q : Bool} {mu : List Nat} {Q : Exit → Act → World → Prop}
theorem clearS_get (keep : List Nat) : ∀ (l : List D) (n i : Nat), (clearS keep n l)[i]? = (l[i]?).map fun d => if keep.contains (n + i) then keptD keep d else .junk
 | [], n, i => by simp [clearS]
 | d :: l, n, i => by
  cases i with
  | zero => simp [clearS]
  | succ i =>
   simp only [clearS, List.getElem?_cons_succ]
   rw [clearS_get keep l (n + 1) i]
   have : n + 1 + i = n + (i + 1) := by omega
   rw [this]
theorem clearB_get (keep : List Nat) : ∀ (l : List (Option (List D))) (n i : Nat), (clearB keep n l)[i]? = (l[i]?).map fun b => if keep.contains (n + i) then b else none
 | [], n, i => by simp [clearB]
 | d :: l, n, i => by
  cases i with
  | zero => simp [clearB]
  | succ i =>
   simp only [clearB, List.getElem?_cons_succ]
   rw [clearB_get keep l (n + 1) i]
   have : n + 1 + i = n + (i + 1) := by omega
   rw [this]
theorem clearS_len (keep : List Nat) : ∀ (l : List D) (n : Nat), (clearS keep n l).length = l.length
 | [], _ => rfl
 | _ :: l, n => by simp [clearS, clearS_len keep l]
theorem clearB_len (keep : List Nat) : ∀ (l : List (Option (List D))) (n : Nat), (clearB keep n l).length = l.length
 | [], _ => rfl
 | _ :: l, n => by simp [clearB, clearB_len keep l]
theorem Inv.clear (i : Inv P g w fr σ a) (keep : List Nat) : Inv P g w (fr.clear keep) σ a := by
 refine ⟨i.h, ⟨by simpa [Fr.clear, clearS_len] using i.s.size, by simpa [Fr.clear, clearS_len, clearB_len] using i.s.blen, fun t e ht => ?_, fun t cs ht => ?_⟩, i.d⟩
 ·simp only [Fr.clear, clearS_get, Nat.zero_add, Option.map_eq_some_iff] at ht
  obtain ⟨e0, h1, h2⟩ := ht
  obtain ⟨v, q1, q2, q3, q4⟩ := i.s.slots t e0 h1
  by_cases hk : keep.contains t = true
  ·rw [if_pos hk] at h2
   by_cases hl : ∃ s off, e0 = .lptr s off
   ·obtain ⟨s, off, rfl⟩ := hl
    simp only [keptD] at h2
    split at h2
    ·rename_i hs
     subst h2
     refine ⟨v, q1, q2, q3, fun s' off' e => ?_⟩
     cases e
     obtain ⟨cs, hc⟩ := q4 s off rfl
     refine ⟨cs, ?_⟩
     simp only [Fr.clear, clearB_get, Nat.zero_add, hc, Option.map_some, hs, if_true]
    ·subst h2
     exact ⟨v, q1, .junk _, .of_ne rfl, fun s off e => by cases e⟩
   ·have : keptD keep e0 = e0 := by
     cases e0 <;> first | rfl | exact absurd ⟨_, _, rfl⟩ hl
    rw [this] at h2
    subst h2
    exact ⟨v, q1, q2, q3, fun s off e => absurd ⟨s, off, e⟩ hl⟩
  ·rw [if_neg hk] at h2
   subst h2
   exact ⟨v, q1, .junk _, .of_ne rfl, fun s off e => by cases e⟩
 ·simp only [Fr.clear, clearB_get, Nat.zero_add, Option.map_eq_some_iff] at ht
  obtain ⟨b0, h1, h2⟩ := ht
  split at h2
  ·subst h2
   exact i.s.boxes t cs h1
  ·cases h2
def AE.exit' : AE → Exit
 | .normal => .normal
 | .exit id => .exit id
 | .ret => .ret
structure ExtBut (X : Nat → Prop) (g : Gh) (w : World) (g' : Gh) (w' : World) : Prop where
 le : g.Le g'
 os : w'.os = w.os
 tape : w'.tape = w.tape
 output : w'.output = w.output
 size : w.heap.size ≤ w'.heap.size
 blk : ∀ b, b < w.heap.size → (g.ω b).mine = false → (¬ X b → w'.heap[b]? = w.heap[b]?) ∧ g'.ω b = g.ω b
 new : ∀ (b off : Nat) (v : Value), g'.I b off = some v → g.I b off = some v ∨ w.heap.size ≤ b ∨ (g.ω b).mine = true
 base : g'.base = g.base
theorem Ext.but {X : Nat → Prop} (e : Ext g w g' w') : ExtBut X g w g' w' := ⟨e.le, e.os, e.tape, e.output, e.size, fun b h1 h2 => ⟨fun _ => (e.blk b h1 h2).1, (e.blk b h1 h2).2⟩, e.new, e.base⟩
theorem ExtBut.trans {X : Nat → Prop} {g1 : Gh} {w1 : World} (h : ExtBut X g w g1 w1) (k : ExtBut X g1 w1 g' w') : ExtBut X g w g' w' := by
 refine ⟨h.le.trans k.le, k.os.trans h.os, k.tape.trans h.tape, k.output.trans h.output, Nat.le_trans h.size k.size, fun b hb hm => ?_, fun b off v hv => ?_, k.base.trans h.base⟩
 ·obtain ⟨h1, h2⟩ := h.blk b hb hm
  obtain ⟨k1, k2⟩ := k.blk b (Nat.lt_of_lt_of_le hb h.size) (by rw [h2]; exact hm)
  exact ⟨fun hx => (k1 hx).trans (h1 hx), k2.trans h2⟩
 ·rcases k.new b off v hv with h1 | h1 | h1
  ·exact h.new b off v h1
  ·exact .inr (.inl (Nat.le_trans h.size h1))
  ·rcases Nat.lt_or_ge b w.heap.size with hb | hb
   ·by_cases hm : (g.ω b).mine = true
    ·exact .inr (.inr hm)
    ·have := (h.blk b hb (by simpa using hm)).2
     rw [this] at h1
     exact absurd h1 hm
   ·exact .inr (.inl hb)
theorem Ext.of_but {X : Nat → Prop} {g0 : Gh} {w0 : World} (e : Ext g0 w0 g w) (h : ExtBut X g w g' w') (hX : ∀ b, X b → w0.heap.size ≤ b) : Ext g0 w0 g' w' := by
 refine ⟨e.le.trans h.le, h.os.trans e.os, h.tape.trans e.tape, h.output.trans e.output, Nat.le_trans e.size h.size, fun b hb hm => ?_, fun b off v hv => ?_, h.base.trans e.base⟩
 ·obtain ⟨h1, h2⟩ := e.blk b hb hm
  obtain ⟨k1, k2⟩ := h.blk b (Nat.lt_of_lt_of_le hb e.size) (by rw [h2]; exact hm)
  exact ⟨(k1 (fun hx => by have := hX b hx; omega)).trans h1, k2.trans h2⟩
 ·rcases h.new b off v hv with h1 | h1 | h1
  ·exact e.new b off v h1
  ·exact .inr (.inl (Nat.le_trans e.size h1))
  ·rcases Nat.lt_or_ge b w0.heap.size with hb | hb
   ·by_cases hm : (g0.ω b).mine = true
    ·exact .inr (.inr hm)
    ·rw [(e.blk b hb (by simpa using hm)).2] at h1
     exact absurd h1 hm
   ·exact .inr (.inl hb)
theorem mem_insAll {α : Type} (x : α) : ∀ (l1 l2 : List α), l1 ++ x :: l2 ∈ insAll x (l1 ++ l2)
 | [], [] => by simp [insAll]
 | [], y :: l2 => by simp [insAll]
 | y :: l1, l2 => by
  simp only [List.cons_append, insAll, List.mem_cons, List.mem_map]
  exact .inr ⟨_, mem_insAll x l1 l2, rfl⟩
theorem mem_permsOf {α : Type} : ∀ (l p : List α), p.Perm l → p ∈ permsOf l
 | [], p, h => by
  have := h.eq_nil
  subst this
  simp [permsOf]
 | x :: xs, p, h => by
  obtain ⟨l1, l2, rfl⟩ := List.append_of_mem (h.mem_iff.2 (by simp : x ∈ x :: xs))
  have h2 : (l1 ++ l2).Perm xs := by
   have := List.perm_middle.symm.trans h
   exact List.Perm.cons_inv this
  simp only [permsOf, List.mem_flatMap]
  exact ⟨l1 ++ l2, mem_permsOf xs _ h2, mem_insAll x l1 l2⟩
theorem sameAE_eq : ∀ (a b : AE), sameAE a b = true → a = b
 | .normal, b, h => by cases b <;> simp_all [sameAE]
 | .exit i, b, h => by cases b <;> simp_all [sameAE]
 | .ret, b, h => by cases b <;> simp_all [sameAE]
theorem sameR_eq (a b : AE × Fr × St) (h : sameR a b = true) : a = b := by
 simp only [sameR, Bool.and_eq_true] at h
 exact Prod.ext (sameAE_eq _ _ h.1) (sameS_eq _ _ h.2)
theorem agreeR_mem {l : List RunR} {r : AE × Fr × St} (h : agreeR l = some r) {x : RunR} (hx : x ∈ l) : x = some r := by
 unfold agreeR at h
 split at h
 ·cases h
 ·split at h
  ·cases h
  ·rename_i rs r0
   split at h
   ·rename_i hall
    cases h
    rcases List.mem_cons.1 hx with rfl | hx
    ·rfl
    ·have := List.all_eq_true.1 hall x hx
     cases x with
     | none => simp at this
     | some y => rw [sameR_eq _ _ this]
   ·cases h
theorem samePairs_eq (a b : List (D × D)) (h : samePairs a b = true) : a = b := by
 refine sameL_eq (fun x y h => ?_) a b h
 simp only [Bool.and_eq_true] at h
 exact Prod.ext (sameD_eq _ _ h.1) (sameD_eq _ _ h.2)
theorem Inv.lock (i : Inv P g w fr σ a) {ob : Nat} {es : List (D × D)} (ho : σ[ob]? = some (.map es)) :
  Inv P (g.tagAt (g.μ ob) (.ro ob)) w fr (σ.set ob (.mapR es)) a ∧ Ext g w (g.tagAt (g.μ ob) (.ro ob)) w := by
 obtain ⟨h1, ents, clock, h2, h3, h4⟩ := i.h.maps ob es ho
 have hle : g.Le (g.tagAt (g.μ ob) (.ro ob)) := ⟨fun _ _ _ h => h, Nat.le_refl _, fun _ _ => rfl, fun _ _ => rfl⟩
 have hk : Keep g w (g.tagAt (g.μ ob) (.ro ob)) w (fun x => x = g.μ ob) := ⟨hle, Nat.le_refl _, fun c _ hc => ⟨rfl, by simp [Gh.tagAt, hc], fun _ => rfl⟩⟩
 have hlt : ob < σ.length := (List.getElem?_eq_some_iff.1 ho).1
 have i1 : Inv P (g.tagAt (g.μ ob) (.ro ob)) w fr (σ.set ob .dead) a := (i.kill ob).keep hk (fun c hc h => by
  rw [hc, h1] at h
  rcases h with ⟨cs, h⟩ | ⟨es, h⟩ <;> simp [hlt] at h) (fun _ _ _ => rfl) i.h.imm rfl
 have hset : σ.set ob (.mapR es) = (σ.set ob .dead).set ob (.mapR es) := by rw [List.set_set]
 refine ⟨⟨⟨i1.h.imm, by rw [hset]; simpa using i1.h.n, fun o1 cs h => ?_, fun o1 es1 h => ?_, ?_, fun o1 es1 h => ?_⟩, i1.s, i1.d⟩, Ext.of_keep hk (fun c hc _ => by rw [hc, h1]; rfl) rfl rfl rfl⟩
 ·rw [hset, list_set_get] at h
  split at h
  ·cases h
  ·exact i1.h.cells o1 cs h
 ·rw [hset, list_set_get] at h
  split at h
  ·cases h
  ·exact i1.h.maps o1 es1 h
 ·rw [hset]
  exact rows_set (fun e h => by cases h) (fun _ h => by cases h) i1.h.rows
 ·rw [hset, list_set_get] at h
  split at h
  ·rename_i hc
   obtain ⟨rfl, _⟩ := hc
   cases h
   exact ⟨by simp [Gh.tagAt], ents, clock, h2, h3.mono hle, h4⟩
  ·exact i1.h.mapsR o1 es1 h
theorem Inv.unlock (i : Inv P g w fr σ a) {ob : Nat} {es : List (D × D)} (ho : σ[ob]? = some (.mapR es)) :
  Inv P (g.tagAt (g.μ ob) (.obj ob)) w fr (σ.set ob (.map es)) a := by
 obtain ⟨h1, ents, clock, h2, h3, h4⟩ := i.h.mapsR ob es ho
 have hle : g.Le (g.tagAt (g.μ ob) (.obj ob)) := ⟨fun _ _ _ h => h, Nat.le_refl _, fun _ _ => rfl, fun _ _ => rfl⟩
 have hk : Keep g w (g.tagAt (g.μ ob) (.obj ob)) w (fun x => x = g.μ ob) := ⟨hle, Nat.le_refl _, fun c _ hc => ⟨rfl, by simp [Gh.tagAt, hc], fun _ => rfl⟩⟩
 have hlt : ob < σ.length := (List.getElem?_eq_some_iff.1 ho).1
 have i1 : Inv P (g.tagAt (g.μ ob) (.obj ob)) w fr (σ.set ob .dead) a := (i.kill ob).keep hk (fun c hc h => by
  rw [hc, h1] at h
  obtain ⟨es, h⟩ := h
  simp [hlt] at h) (fun _ _ _ => rfl) i.h.imm rfl
 have hset : σ.set ob (.map es) = (σ.set ob .dead).set ob (.map es) := by rw [List.set_set]
 refine ⟨⟨i1.h.imm, by rw [hset]; simpa using i1.h.n, fun o1 cs h => ?_, fun o1 es1 h => ?_, ?_, fun o1 es1 h => ?_⟩, i1.s, i1.d⟩
 ·rw [hset, list_set_get] at h
  split at h
  ·cases h
  ·exact i1.h.cells o1 cs h
 ·rw [hset, list_set_get] at h
  split at h
  ·rename_i hc
   obtain ⟨rfl, _⟩ := hc
   cases h
   exact ⟨by simp [Gh.tagAt], ents, clock, h2, h3.mono hle, h4⟩
  ·exact i1.h.maps o1 es1 h
 ·rw [hset]
  exact rows_set (fun e h => by cases h) (fun _ h => by cases h) i1.h.rows
 ·rw [hset, list_set_get] at h
  split at h
  ·cases h
  ·exact i1.h.mapsR o1 es1 h
theorem Ext.retag {g0 : Gh} {w0 : World} (e : Ext g0 w0 g w) {b : Nat} (tag : Tag) (hb : b < w0.heap.size → (g0.ω b).mine = true) : Ext g0 w0 (g.tagAt b tag) w :=
 ⟨⟨e.le.I, e.le.n, e.le.μ, e.le.sz⟩, e.os, e.tape, e.output, e.size, fun c hc hm => by
  obtain ⟨h1, h2⟩ := e.blk c hc hm
  refine ⟨h1, ?_⟩
  have : c ≠ b := by
   rintro rfl
   rw [hb hc] at hm
   cases hm
  simp [Gh.tagAt, this, h2], e.new, e.base⟩
theorem Inv.forget (i : Inv P g w fr σ a) {σ2 : St} (hl : σ2.length = σ.length) (h : ∀ (k : Nat) (ob : Obj), σ2[k]? = some ob → ob = .dead ∨ σ[k]? = some ob) : Inv P g w fr σ2 a := by
 refine ⟨⟨i.h.imm, i.h.n.trans hl.symm, fun o cs ho => ?_, fun o es ho => ?_, fun o e cs h1 h2 => ?_, fun o es ho => ?_⟩, i.s, i.d⟩
 ·rcases h _ _ ho with h1 | h1
  ·cases h1
  ·exact i.h.cells o cs h1
 ·rcases h _ _ ho with h1 | h1
  ·cases h1
  ·exact i.h.maps o es h1
 ·rcases h _ _ h1 with h3 | h3
  ·cases h3
  rcases h _ _ h2 with h4 | h4
  ·cases h4
  exact i.h.rows o e cs h3 h4
 ·rcases h _ _ ho with h1 | h1
  ·cases h1
  ·exact i.h.mapsR o es h1
theorem Inv.killFrom (i : Inv P g w fr σ a) (n0 : Nat) : Inv P g w fr (killFrom n0 σ) a := by
 refine i.forget ?_ (fun k ob h => ?_)
 ·simp only [Abs.killFrom, List.length_append, List.length_take, List.length_replicate]
  omega
 ·simp only [Abs.killFrom] at h
  by_cases hk : k < (σ.take n0).length
  ·rw [List.getElem?_append_left hk] at h
   rw [List.getElem?_take] at h
   split at h
   ·exact .inr h
   ·cases h
  ·rw [List.getElem?_append_right om] at h
   have := List.mem_of_getElem? h
   exact .inl (List.mem_replicate.1 this).2
theorem Inv.endOf {R : MRange} {n0 : Nat} {ae ae' : AE} (i : Inv P g w fr σ a) (h : endOf R n0 (ae, fr, σ) = (ae', fr', σ')) : ae' = ae ∧ Inv P g w fr' σ' a := by
 cases ae with
 | ret =>
  simp only [Abs.endOf, Prod.mk.injEq] at h
  obtain ⟨rfl, rfl, rfl⟩ := h
  refine ⟨rfl, ?_⟩
  split
  ·exact (i.clear R.res).killFrom n0
  ·exact i.clear R.res
 | normal =>
  simp only [Abs.endOf, Prod.mk.injEq] at h
  obtain ⟨rfl, rfl, rfl⟩ := h
  exact ⟨rfl, i⟩
 | exit id =>
  simp only [Abs.endOf, Prod.mk.injEq] at h
  obtain ⟨rfl, rfl, rfl⟩ := h
  exact ⟨rfl, i⟩
theorem setBlock_other {b c : Nat} {ob : Go.Obj} (h : c ≠ b) : (setBlock w b ob).heap[c]? = w.heap[c]? := by
 simp only [setBlock]
 rw [Array.getElem?_setIfInBounds_ne (Ne.symm h)]
theorem setBlock_same {b : Nat} {ob : Go.Obj} (h : b < w.heap.size) : (setBlock w b ob).heap[b]? = some ob := by
 simp [setBlock, h]
theorem Inv.setOther (i : Inv P g w fr σ a) {b : Nat} {ob : Go.Obj} (h0 : w.heap[b]? = some ob) (hnc : ∀ arr ty f, ob ≠ .cells arr ty f) (hω : g.ω b = .other) (ob' : Go.Obj) : Inv P g (setBlock w b ob') fr σ a := by
 refine i.keep (C := fun x => x = b) ⟨.refl g, by simp [setBlock], fun c _ hc => ⟨setBlock_other hc, rfl, fun _ => rfl⟩⟩ (fun c hc h => ?_) (fun _ _ _ => rfl) (fun c off v hv => ?_) rfl
 ·rw [hc, hω] at h
  exact h
 ·have h1 := i.h.imm c off v hv
  have hne : c ≠ b := by
   rintro rfl
   unfold World.cell? at h1
   rw [h0] at h1
   cases ob with
   | cells arr ty f => exact hnc _ _ _ rfl
   | _ => simp at h1
  unfold World.cell? at h1 ⊢
  simp only [] at h1 ⊢
  rw [setBlock_other hne]
  exact h1
theorem ExtBut.set {X : Nat → Prop} {b : Nat} (hb : X b) (ob : Go.Obj) : ExtBut X g w g (setBlock w b ob) :=
 ⟨.refl g, rfl, rfl, rfl, by simp [setBlock], fun c _ _ => ⟨fun hx => setBlock_other (fun e => hx (e ▸ hb)), rfl⟩, fun _ _ _ h => .inl h, rfl⟩
theorem Inv.pushIter (i : Inv P g w fr σ a) (ob : Go.Obj) : ∃ g', Ext g w g' (w.alloc ob) ∧ Inv P g' (w.alloc ob) fr (σ ++ [.dead]) a ∧ g'.ω w.heap.size = .other ∧ g'.μ σ.length = w.heap.size ∧ σ.length < g'.n ∧ (∀ o, o < g.n → g'.μ o = g.μ o) ∧ ∀ b, b < w.heap.size → g'.ω b = g.ω b := by
 have i1 := i.alloc ob .hand
 have e1 := Ext.alloc g w ob .hand
 obtain ⟨i2, e2⟩ := i1.push (b := w.heap.size) (sz := 0) (by simp [Gh.tagAt]) .dead (fun cs h => by cases h) (fun es h => by cases h)
 have hn : g.n = σ.length := i.h.n
 have hω2 : ((g.tagAt w.heap.size .hand).push w.heap.size 0).ω w.heap.size = .obj g.n := by simp [Gh.push, Gh.tagAt]
 have hk : Keep ((g.tagAt w.heap.size .hand).push w.heap.size 0) (w.alloc ob) (((g.tagAt w.heap.size .hand).push w.heap.size 0).tagAt w.heap.size .other) (w.alloc ob) (fun x => x = w.heap.size) :=
  ⟨⟨fun _ _ _ h => h, Nat.le_refl _, fun _ _ => rfl, fun _ _ => rfl⟩, Nat.le_refl _, fun c _ hc => ⟨rfl, by simp [Gh.tagAt, hc], fun _ => rfl⟩⟩
 have i3 := i2.keep hk (fun c hc h => by
  rw [hc, hω2] at h
  rcases h with ⟨cs, h⟩ | ⟨es, h⟩ <;> simp [hn] at h) (fun _ _ _ => rfl) i2.h.imm rfl
 have e3 := Ext.of_keep hk (fun c hc _ => by rw [hc, hω2]; rfl) rfl rfl rfl
 refine ⟨_, (e1.trans e2).trans e3, i3, by simp [Gh.tagAt], ?_, ?_, fun o ho => ?_, fun b hb => ?_⟩
 ·simp [Gh.tagAt, Gh.push, hn]
 ·show σ.length < g.n + 1
  omega
 ·simp [Gh.tagAt, Gh.push, Nat.ne_of_lt ho]
 ·simp [Gh.tagAt, Gh.push, Nat.ne_of_lt hb]
theorem wp_pre_list {ops : Array Oper} {rest : List Oper} (hc : CalOK P cal) (hci : CalIn P cal) : ∀ (l : List Oper) {ms : List MOper} {fr fr' : Fr} {σ σ' : St} {a : Act} {g : Gh} {w : World}, compOpers P mu ops.toList l = some ms → runOps cal q ms fr σ = some (fr', σ') → Inv P g w fr σ a →
  (∀ a' w' g', Ext g w g' w' → Inv P g' w' fr' σ' a' → wpList P ops Q rest a' w') → wpList P ops Q (l ++ rest) a w
 | [], ms, fr, fr', σ, σ', a, g, w, hms, hr, i, hn => by
  simp only [compOpers, Option.some.injEq] at hms
  subst hms
  simp only [runOps, Option.some.injEq, Prod.mk.injEq] at hr
  obtain ⟨rfl, rfl⟩ := hr
  exact hn a w g (.refl g w) i
 | o :: l, ms, fr, fr', σ, σ', a, g, w, hms, hr, i, hn => by
  simp only [compOpers] at hms
  split at hms
  ·rename_i m r h1 h2
   simp only [Option.some.injEq] at hms
   subst hms
   simp only [runOps] at hr
   split at hr
   ·rename_i fr1 σ1 hop
    have := snd_runOp (Q := Q) hc hci h1 hop i (wpList P ops Q (l ++ rest)) (fun a' w' g' e1 i1 => wp_pre_list hc hci l h2 hr i1 (fun a2 w2 g2 e2 i2 => hn a2 w2 g2 (e1.trans e2) i2))
    show wpList P ops Q (o :: (l ++ rest)) a w
    unfold wpList
    split
    ·rename_i hw
     rw [if_pos hw] at this
     exact .inl this
    ·rename_i hw
     rw [if_neg hw] at this
     exact this
   ·cases hr
  ·cases hms
theorem wp_list_value {ops : Array Oper} {rest : List Oper} {v : Value} (hg : o.guard = none) (hr : (execOp a.eval o).run P w = .ok (.value v) w') (h : wpList P ops Q rest (a.put o.dst v) w') : wpList P ops Q (o :: rest) a w := by
 unfold wpList
 have hw : Region.wanted o (yielded ops a.tmps) = true := by simp [Region.wanted, hg]
 rw [if_pos hw]
 exact .inl (wp_value hr h)
theorem splitLast_some {l pre : List Oper} {o : Oper} (h : splitLast l = some (pre, o)) : l = pre ++ [o] := by
 unfold splitLast at h
 split at h
 ·cases h
 ·rename_i o' r hr
  simp only [Option.some.injEq, Prod.mk.injEq] at h
  obtain ⟨rfl, rfl⟩ := h
  have := congrArg List.reverse hr
  simpa using this
theorem isIt_eval {R : MRange} {n0 : Nat} (i : Inv P g w fr σ a) (h : isIt R n0 fr = true) : a.eval (.tmp R.it) = .pointer (some ⟨g.μ n0, 0, none⟩) := by
 have hv := (val_ok i.s (x := .tmp R.it) (X := .tmp R.it) rfl).1
 unfold isIt at h
 split at h
 ·rename_i n hx
  rw [hx] at hv
  have hn := beq_iff_eq.1 h
  subst hn
  generalize a.eval (.tmp R.it) = v at hv
  cases hv
  rfl
 ·cases h
theorem Inv.drew (i : Inv P g w fr σ a) : Inv P g w.drew fr σ a :=
 i.keep (C := fun _ => False) ⟨.refl g, Nat.le_refl _, fun _ _ _ => ⟨rfl, rfl, fun _ => rfl⟩⟩ (fun _ hc => hc.elim) (fun _ _ _ => rfl) (fun b off v h => i.h.imm b off v h) rfl
theorem Ext.drew (g : Gh) (w : World) : Ext g w g w.drew :=
 ⟨.refl g, rfl, rfl, rfl, Nat.le_refl _, fun _ _ _ => ⟨rfl, rfl⟩, fun _ _ _ h => .inl h, rfl⟩
section
variable {β : Type}
theorem visit_end {ents : Array MapEntry} {seen : Array Nat} {zs vz lz : List (MapEntry × β)} (hz : zs.map (·.1) = ents.toList) (hn : (ents.toList.map (·.born)).Nodup) (hp : zs.Perm (vz ++ lz)) (hs : seen.toList = vz.map (·.1.born)) (h0 : (leftOf ents seen).size = 0) : zs.Perm vz := by
 have hl : lz = [] := by
  cases lz with
  | nil => rfl
  | cons p l =>
   exfalso
   have hm : p ∈ zs := hp.mem_iff.2 (by simp)
   have hme : p.1 ∈ ents.toList := by rw [← hz]; exact List.mem_map.2 ⟨p, hm, rfl⟩
   have hnd : ((vz ++ p :: l).map (·.1.born)).Nodup := by
    have h1 : (zs.map (·.1.born)).Nodup := by
     have : zs.map (·.1.born) = ents.toList.map (·.born) := by rw [← hz, List.map_map]; rfl
     rw [this]
     exact hn
    exact (hp.map _).nodup_iff.1 h1
   have hns : p.1.born ∉ seen.toList := by
    rw [hs]
    rw [List.map_append, List.map_cons, List.nodup_append] at hnd
    intro hin
    exact hnd.2.2 _ hin _ (by simp) rfl
   have hin : p.1 ∈ leftOf ents seen := by
    unfold leftOf
    rw [Array.mem_filter]
    refine ⟨Array.mem_toList_iff.1 hme, ?_⟩
    cases hc : seen.contains p.1.born with
    | false => rfl
    | true => exact absurd (Array.mem_toList_iff.2 (by simpa using hc)) hns
   have : 0 < (leftOf ents seen).size := Array.size_pos_of_mem hin
   omega
 rw [hl, List.append_nil] at hp
 exact hp
theorem visit_step {ents : Array MapEntry} {seen : Array Nat} {zs vz lz : List (MapEntry × β)} (hz : zs.map (·.1) = ents.toList) (hp : zs.Perm (vz ++ lz)) (hs : seen.toList = vz.map (·.1.born)) {e : MapEntry} (he : e ∈ (leftOf ents seen).toList) :
  ∃ b l1 l2, (e, b) ∈ zs ∧ lz = l1 ++ (e, b) :: l2 ∧ zs.Perm ((vz ++ [(e, b)]) ++ (l1 ++ l2)) ∧ (seen.push e.born).toList = (vz ++ [(e, b)]).map (·.1.born) := by
 obtain ⟨h1, h2⟩ := mem_left he
 rw [← hz] at h1
 obtain ⟨⟨e', b⟩, hm, rfl⟩ := List.mem_map.1 h1
 have hm2 := hp.mem_iff.1 hm
 rcases List.mem_append.1 hm2 with hv | hl
 ·exfalso
  have : e'.born ∈ seen.toList := by rw [hs]; exact List.mem_map.2 ⟨(e', b), hv, rfl⟩
  have hc : seen.contains e'.born = true := by simpa using this
  rw [hc] at h2
  cases h2
 ·obtain ⟨l1, l2, rfl⟩ := List.append_of_mem hl
  refine ⟨b, l1, l2, hm, rfl, ?_, by simp [hs]⟩
  refine hp.trans ?_
  simp only [List.append_assoc, List.singleton_append]
  exact List.Perm.append_left vz List.perm_middle
end
theorem mrep_tup1 {v : Value} {d : D} (h : Rep g v d) (hd : d.notL = true) : Rep g (.tuple #[v]) (.tup [d]) := by
 refine .tup _ _ rfl (fun i u e h1 h2 => ?_) (by simp [hd])
 match i, h1, h2 with
 | 0, h1, h2 => simp at h1 h2; subst h1 h2; exact h
 | k + 1, h1, h2 => simp at h2
theorem mrep_tup2 {v u : Value} {d e : D} (h : Rep g v d) (hd : d.notL = true) (k : Rep g u e) (he : e.notL = true) : Rep g (.tuple #[v, u]) (.tup [d, e]) := by
 refine .tup _ _ rfl (fun i x y h1 h2 => ?_) (by simp [hd, he])
 match i, h1, h2 with
 | 0, h1, h2 => simp at h1 h2; subst h1 h2; exact h
 | 1, h1, h2 => simp at h1 h2; subst h1 h2; exact k
 | n + 2, h1, h2 => simp at h2
theorem mrep_tup3 {v u x : Value} {d e f : D} (h : Rep g v d) (hd : d.notL = true) (k : Rep g u e) (he : e.notL = true) (l : Rep g x f) (hf : f.notL = true) : Rep g (.tuple #[v, u, x]) (.tup [d, e, f]) := by
 refine .tup _ _ rfl (fun i x y h1 h2 => ?_) (by simp [hd, he, hf])
 match i, h1, h2 with
 | 0, h1, h2 => simp at h1 h2; subst h1 h2; exact h
 | 1, h1, h2 => simp at h1 h2; subst h1 h2; exact k
 | 2, h1, h2 => simp at h1 h2; subst h1 h2; exact l
 | n + 3, h1, h2 => simp at h2
theorem askM_some {R : MRange} {n0 : Nat} {b : Bool} {t : List D} (h : askM cal R n0 b t fr σ = some (fr', σ')) :
  isIt R n0 (fr.clear R.keep) = true ∧ runOps cal false [R.ext] ((fr.clear R.keep).put (some R.tupN) (.tup (.bool b :: t))) σ = some (fr', σ') ∧ fr'.val (.tmp R.okT) = .bool b ∧ isIt R n0 fr' = true := by
 unfold askM at h
 split at h
 ·rename_i h1
  split at h
  ·rename_i fr1 σ1 h2
   split at h
   ·rename_i b' h3
    split at h
    ·rename_i h4
     cases h
     obtain ⟨rfl, h5⟩ := h4
     exact ⟨h1, h2, h3, h5⟩
    ·cases h
   ·cases h
  ·cases h
 ·cases h
def RangeShape (P : Program) (mu : List Nat) (R : MRange) (c B : Code) : Prop :=
 ∃ (id : Nat) (ops : Array Oper) (id5 : Nat) (ops5 : Array Oper) (id6 : Nat) (ops6 : Array Oper) (pre : List Oper) (o : Oper) (t : TypeId) (x : Operand) (n1 n2 e1 : Oper) (tl : List Oper) (kt e : TypeId),
  c = .seq (.region id ops false) (.block R.idOut (.loop (.seq (.region id5 ops5 false) (.seq (.cond (.tmp R.okT) .skip (.exit R.idOut)) (.block R.idIn (.seq (.region id6 ops6 false) B)))))) ∧
  ops.toList = pre ++ [o] ∧ o.op = .range t x ∧ o.dst = some R.it ∧ o.guard = none ∧ ops5.toList = [n1, n2] ∧ ops6.toList = e1 :: tl ∧ n1.op = .next (.tmp R.it) false ∧ n1.dst = some R.tupN ∧ n1.guard = none ∧
  e1.op = .entry (.tmp R.it) ∧ e1.dst = some R.tupE ∧ e1.guard = none ∧ compOpers P mu ops.toList pre = some R.pre ∧ compX x = some R.m ∧ compOper P mu ops5.toList n2 = some R.ext ∧ compOpers P mu ops6.toList tl = some R.tail ∧ P.underlying t = some (.map kt e)
theorem rangeOf_shape {keep : Lv} {c : Code} {R : MRange} (h : rangeOf P mu keep c = some R) : ∃ B K', RangeShape P mu R c B ∧ bodyC P mu keep 3 c = compC P mu K' B := by
 unfold rangeOf at h
 split at h <;> first | (cases h; done) | skip
 rename_i id ops idOut id5 ops5 ok idOut' idIn id6 ops6 B
 split at h <;> first | (cases h; done) | skip
 rename_i pre o hsp
 split at h <;> first | (cases h; done) | skip
 rename_i t x it n1 n2 e1 tl h1 h2 h3 h4 h5
 split at h <;> first | (cases h; done) | skip
 rename_i it1 tupN it2 tupE h6 h7 h8 h9 h10 h11
 split at h <;> first | (cases h; done) | skip
 rename_i ms m ext tail kt e k1 k2 k3 k4 k5
 split at h <;> first | (cases h; done) | skip
 rename_i hc
 obtain ⟨rfl, rfl, rfl⟩ := hc
 cases h
 exact ⟨B, _, ⟨id, ops, id5, ops5, id6, ops6, pre, o, t, x, n1, n2, e1, tl, kt, e, rfl, splitLast_some hsp, h1, h2, h3, h4, h5, h6, h7, h8, h9, h10, h11, k1, k2, k3, k4, k5⟩, rfl⟩
end
end Go.Abs

namespace Go.Abs
open Go Go.RowKit
open Go.ChangeMaps (setBlock)
section
variable {P : Program} {g g' : Gh} {w w' : World} {fr fr' : Fr} {σ σ' : St} {a : Act} {cal : Cal} {mu : List Nat}
def BodyOK (P : Program) (F : Fr → St → RunR) (B : Code) : Prop :=
 ∀ {ae : AE} {fr fr' : Fr} {σ σ' : St} {a : Act} {g : Gh} {w : World} {Q : Exit → Act → World → Prop}, F fr σ = some (ae, fr', σ') → Inv P g w fr σ a → (∀ a' w' g', Ext g w g' w' → Inv P g' w' fr' σ' a' → Q ae.exit' a' w') → B.wp P Q a w
theorem rounds_ok (hc : CalOK P cal) (hci : CalIn P cal) {F : Fr → St → RunR} {B : Code} (hB : BodyOK P F B) {R : MRange} {n0 ob : Nat} {Good : RunR → Prop} (hnone : ¬ Good none) {Q1 : Exit → Act → World → Prop}
  {g1 : Gh} {w1 : World} {ents : Array MapEntry} {clock : Nat} {zs : List (MapEntry × (D × D))} (hz : zs.map (·.1) = ents.toList)
  (hrep : ∀ p ∈ zs, Rep g1 p.1.key p.2.1 ∧ Rep g1 p.1.val p.2.2 ∧ p.2.1.notL = true ∧ p.2.2.notL = true) (hborn : Born ents clock)
  (hob : ob < g1.n) (hn0 : n0 < g1.n) (hbm : w1.heap[g1.μ ob]? = some (.map ents clock)) (hωm : g1.ω (g1.μ ob) = .ro ob) (hωr : g1.ω (g1.μ n0) = .other) (hrl : g1.μ n0 < w1.heap.size)
  (hFin : ∀ (ae : AE) (fr : Fr) (σ : St) (A : Act) (W : World) (gk : Gh), Good (some (ae, fr, σ)) → ExtBut (fun b => b = g1.μ n0) g1 w1 gk W → Inv P gk W fr σ A → Q1 ae.exit' A W)
  {id5 id6 : Nat} {ops5 ops6 : Array Oper} {n1 n2 e1 : Oper} {tl : List Oper} (h5 : ops5.toList = [n1, n2]) (h6 : ops6.toList = e1 :: tl) (hn1 : n1.op = .next (.tmp R.it) false) (hd1 : n1.dst = some R.tupN) (hg1 : n1.guard = none)
  (he1 : e1.op = .entry (.tmp R.it)) (hde : e1.dst = some R.tupE) (hge : e1.guard = none) (hext : compOper P mu ops5.toList n2 = some R.ext) (htail : compOpers P mu ops6.toList tl = some R.tail) :
  ∀ (n : Nat) {vz lz : List (MapEntry × (D × D))} {seen : Array Nat} {gk : Gh} {W : World} {A : Act} {frk : Fr} {σk : St}, lz.length < n → zs.Perm (vz ++ lz) → seen.toList = vz.map (·.1.born) → ExtBut (fun b => b = g1.μ n0) g1 w1 gk W →
   Inv P gk W frk σk A → (∃ c0, clock ≤ c0 ∧ W.heap[g1.μ n0]? = some (.mapIter (some (g1.μ ob)) clock seen c0)) →
   (∀ p : List (MapEntry × (D × D)), p.Perm lz → Good (roundsM cal F R n0 (p.map (·.2)) frk σk)) →
   Code.rounds P (.seq (.region id5 ops5 false) (.seq (.cond (.tmp R.okT) .skip (.exit R.idOut)) (.block R.idIn (.seq (.region id6 ops6 false) B)))) (Exit.inBlock R.idOut Q1) n A W
 | 0, vz, lz, seen, gk, W, A, frk, σk, h, _, _, _, _, _, _ => by omega
 | n + 1, vz, lz, seen, gk, W, A, frk, σk, hn, hp, hs, e0, i, hit0, H => by
  rw [rounds_succ]
  obtain ⟨c0, hc0, hit⟩ := hit0
  have hbr : g1.μ ob ≠ g1.μ n0 := fun e => by rw [e, hωr] at hωm; cases hωm
  have hμn : gk.μ n0 = g1.μ n0 := e0.le.μ n0 hn0
  have hbmW : W.heap[g1.μ ob]? = some (.map ents clock) := ((e0.blk _ (lt_of_heap hbm) (by rw [hωm]; rfl)).1 hbr).trans hbm
  have hωk : gk.ω (g1.μ n0) = .other := ((e0.blk _ hrl (by rw [hωr]; rfl)).2).trans hωr
  have ic := i.clear R.keep
  have hext1 : compOpers P mu ops5.toList [n2] = some [R.ext] := by simp only [compOpers, hext]
  -- the question is asked
  have ask : ∀ {b : Bool} {t : List D} {fr1 : Fr} {σ1 : St}, askM cal R n0 b t frk σk = some (fr1, σ1) → ∀ {W' : World} {v : Value} {X : Exit → Act → World → Prop}, Inv P gk W' (frk.clear R.keep) σk A →
    (execOp A.eval n1).run P W = .ok (.value v) W' → Rep gk v (.tup (.bool b :: t)) → (∀ a' w' g', Ext gk W' g' w' → Inv P g' w' fr1 σ1 a' → X .normal a' w') → (Code.region id5 ops5 false).wp P X A W := by
   intro b t fr1 σ1 ha W' v X iW hrun hv hX
   obtain ⟨_, hr, _, _⟩ := askM_some ha
   refine wp_region (regionW_list ?_)
   rw [h5]
   refine wp_list_value hg1 hrun ?_
   rw [hd1]
   have i1 := iW.put (some R.tupN) hv (fun _ _ => .of_ne rfl) (fun s off e => by cases e)
   exact wp_pre_list (rest := []) hc hci [n2] hext1 hr i1 (fun a2 w2 g2 e2 i2 => hX a2 w2 g2 e2 i2)
  have hask : ∀ {b : Bool} {t : List D} {fr1 : Fr} {σ1 : St}, askM cal R n0 b t frk σk = some (fr1, σ1) → A.eval (.tmp R.it) = .pointer (some ⟨g1.μ n0, 0, none⟩) := fun ha => by
   obtain ⟨h, _, _, _⟩ := askM_some ha
   rw [isIt_eval ic h, hμn]
  rcases run_next_at (P := P) W n1.type (g1.μ n0) (g1.μ ob) clock c0 seen ents clock hit hbmW hborn.1 hc0 with ⟨h0, hrun⟩ | ⟨e, he, w2, hw2, hrun⟩
  ·-- the end
   have hvz := visit_end hz hborn.2 hp hs h0
   have hlz : lz = [] := by
    have h1 := hp.length_eq
    have h2 := hvz.length_eq
    simp only [List.length_append] at h1
    exact List.eq_nil_of_length_eq_zero om
   subst hlz
   have hH := H [] (.refl _)
   simp only [List.map_nil, roundsM] at hH
   cases ha : askM cal R n0 false [] frk σk with
   | none => rw [ha] at hH; exact absurd hH hnone
   | some r =>
    obtain ⟨fr1, σ1⟩ := r
    rw [ha] at hH
    simp only [Option.map_some] at hH
    obtain ⟨_, _, hok, _⟩ := askM_some ha
    refine wp_seq (ask ha ic (by simp only [execOp, hn1, hask ha, Sem.run_bind, hrun, Result.andThen]; rfl) (mrep_tup1 (.bool false) rfl) (fun a2 w2 g2 e2 i2 => ?_))
    have hv := (val_ok i2.s (x := .tmp R.okT) (X := .tmp R.okT) rfl).1
    rw [hok] at hv
    refine wp_seq (wp_cond_false (rep_bool hv) (wp_exit ?_))
    show Exit.inBlock R.idOut Q1 (.exit R.idOut) a2 w2
    simp only [Exit.inBlock, if_true]
    exact hFin .normal fr1 σ1 a2 w2 g2 hH (e0.trans e2.but) i2
  ·-- one entry
   obtain ⟨b, l1, l2, hmem, rfl, hp', hs'⟩ := visit_step hz hp hs he
   have H' : ∀ p : List (MapEntry × (D × D)), p.Perm (l1 ++ l2) → Good (roundsM cal F R n0 (b :: p.map (·.2)) frk σk) := fun p hp2 => by
    have := H ((e, b) :: p) ((hp2.cons _).trans List.perm_middle.symm)
    simpa using this
   have hH := H' _ (.refl _)
   cases ha : askM cal R n0 true [.junk, .junk] frk σk with
   | none => simp only [roundsM, ha] at hH; exact absurd hH hnone
   | some r =>
   obtain ⟨fr1, σ1⟩ := r
   have hiteval := hask ha
   obtain ⟨_, _, hok, hit1⟩ := askM_some ha
   let W' : World := setBlock w2 (g1.μ n0) (.mapIter (some (g1.μ ob)) clock (seen.push e.born) clock)
   have hw2s : w2.heap = W.heap := by rcases hw2 with rfl | rfl <;> rfl
   have eW : ExtBut (fun b => b = g1.μ n0) gk W gk W' := by
    rcases hw2 with h | h
    ·rw [show W' = setBlock W (g1.μ n0) (.mapIter (some (g1.μ ob)) clock (seen.push e.born) clock) from by simp only [W', h]]
     exact ExtBut.set (X := fun b => b = g1.μ n0) (b := g1.μ n0) rfl _
    ·rw [show W' = setBlock W.drew (g1.μ n0) (.mapIter (some (g1.μ ob)) clock (seen.push e.born) clock) from by simp only [W', h]]
     exact (Ext.drew gk W).but.trans (ExtBut.set (X := fun b => b = g1.μ n0) (b := g1.μ n0) rfl _)
   have iW : Inv P gk W' (frk.clear R.keep) σk A := by
    rcases hw2 with h | h
    ·rw [show W' = setBlock W (g1.μ n0) (.mapIter (some (g1.μ ob)) clock (seen.push e.born) clock) from by simp only [W', h]]
     exact ic.setOther hit (fun _ _ _ h => by cases h) hωk _
    ·rw [show W' = setBlock W.drew (g1.μ n0) (.mapIter (some (g1.μ ob)) clock (seen.push e.born) clock) from by simp only [W', h]]
     exact ic.drew.setOther (w := W.drew) hit (fun _ _ _ h => by cases h) hωk _
   have hitW : W'.heap[g1.μ n0]? = some (.mapIter (some (g1.μ ob)) clock (seen.push e.born) clock) := setBlock_same (by rw [hw2s]; exact lt_of_heap hit)
   refine wp_seq (ask ha iW (by simp only [execOp, hn1, hiteval, Sem.run_bind, hrun, Result.andThen]; rfl) (mrep_tup3 (.bool true) rfl (.junk _) rfl (.junk _) rfl) (fun a2 w3 g2 e2 i2 => ?_))
   have hv := (val_ok i2.s (x := .tmp R.okT) (X := .tmp R.okT) rfl).1
   rw [hok] at hv
   refine wp_seq (wp_cond_true (rep_bool hv) (wp_skip ?_))
   have e02 := (e0.trans eW).trans (e2.but (X := fun b => b = g1.μ n0))
   have hbm2 : w3.heap[g1.μ ob]? = some (.map ents clock) := ((e02.blk _ (lt_of_heap hbm) (by rw [hωm]; rfl)).1 hbr).trans hbm
   have keepIt : ∀ {ga gb : Gh} {wa wb : World}, Ext ga wa gb wb → ga.ω (g1.μ n0) = .other → ∀ {x : Go.Obj}, wa.heap[g1.μ n0]? = some x → wb.heap[g1.μ n0]? = some x ∧ gb.ω (g1.μ n0) = .other := fun e h x hx => by
    obtain ⟨k1, k2⟩ := e.blk _ (lt_of_heap hx) (by rw [h]; rfl)
    exact ⟨k1.trans hx, k2.trans h⟩
   obtain ⟨hit3, hω3⟩ := keepIt e2 hωk hitW
   have hμ2 : g2.μ n0 = g1.μ n0 := e02.le.μ n0 hn0
   have hv2 : a2.eval (.tmp R.it) = .pointer (some ⟨g1.μ n0, 0, none⟩) := by rw [isIt_eval i2 hit1, hμ2]
   have hme := (mem_left he).1
   obtain ⟨rk, rv, lk, lv⟩ := hrep _ hmem
   cases ht : runOps cal false R.tail (fr1.put (some R.tupE) (.tup [b.1, b.2])) σ1 with
   | none => simp only [roundsM, ha, ht] at hH; exact absurd hH hnone
   | some r =>
   obtain ⟨fr2, σ2⟩ := r
   refine wp_block (wp_seq (wp_region (regionW_list ?_)))
   rw [h6]
   have hrep2 : Rep g2 (.tuple #[e.key, e.val]) (.tup [b.1, b.2]) := mrep_tup2 (rk.mono e02.le (fun t off q => by rw [q] at lk; cases lk)) lk (rv.mono e02.le (fun t off q => by rw [q] at lv; cases lv)) lv
   refine wp_list_value (v := .tuple #[e.key, e.val]) (w' := w3) hge (by simp only [execOp, he1, hv2, Sem.run_bind, run_entry_at w3 (g1.μ n0) (g1.μ ob) clock seen ents clock e hit3 hbm2 hme hborn.2, Result.andThen]; rfl) ?_
   rw [hde]
   have i4 := i2.put (some R.tupE) hrep2 (fun _ _ => .of_ne rfl) (fun s off e => by cases e)
   have := wp_pre_list (rest := []) (Q := Exit.then (B.wp P (Exit.inBlock R.idIn (Exit.then (Code.rounds P (.seq (.region id5 ops5 false) (.seq (.cond (.tmp R.okT) .skip (.exit R.idOut)) (.block R.idIn (.seq (.region id6 ops6 false) B)))) (Exit.inBlock R.idOut Q1) n) (Exit.inBlock R.idOut Q1)))) (Exit.inBlock R.idIn (Exit.then (Code.rounds P (.seq (.region id5 ops5 false) (.seq (.cond (.tmp R.okT) .skip (.exit R.idOut)) (.block R.idIn (.seq (.region id6 ops6 false) B)))) (Exit.inBlock R.idOut Q1) n) (Exit.inBlock R.idOut Q1)))) hc hci tl htail ht i4 (fun a5 w5 g5 e5 i5 => ?_)
   ·rw [List.append_nil] at this
    exact this
   obtain ⟨hit5, hω5⟩ := keepIt e5 hω3 hit3
   have e05 := e02.trans (e5.but (X := fun b => b = g1.μ n0))
   cases hF : F fr2 σ2 with
   | none => simp only [roundsM, ha, ht, hF] at hH; exact absurd hH hnone
   | some r =>
   obtain ⟨ae, fr3, σ3⟩ := r
   show B.wp P _ a5 w5
   refine hB hF i5 (fun a6 w6 g6 e6 i6 => ?_)
   obtain ⟨hit6, hω6⟩ := keepIt e6 hω5 hit5
   have e06 := e05.trans (e6.but (X := fun b => b = g1.μ n0))
   have again : (∀ p : List (MapEntry × (D × D)), p.Perm (l1 ++ l2) → Good (roundsM cal F R n0 (p.map (·.2)) fr3 σ3)) → Code.rounds P (.seq (.region id5 ops5 false) (.seq (.cond (.tmp R.okT) .skip (.exit R.idOut)) (.block R.idIn (.seq (.region id6 ops6 false) B)))) (Exit.inBlock R.idOut Q1) n a6 w6 := fun H2 =>
    rounds_ok hc hci hB hnone hz hrep hborn hob hn0 hbm hωm hωr hrl hFin h5 h6 hn1 hd1 hg1 he1 hde hge hext htail n (vz := vz ++ [(e, b)]) (lz := l1 ++ l2) (seen := seen.push e.born) (by simp only [List.length_append, List.length_cons] at hn ⊢; omega) hp' hs' e06 i6 ⟨clock, Nat.le_refl _, hit6⟩ H2
   cases ae with
   | normal =>
    show Exit.inBlock R.idIn _ Exit.normal a6 w6
    simp only [Exit.inBlock]
    exact again (fun p hp2 => by
     have := H' p hp2
     simp only [roundsM, ha, ht, hF] at this
     exact this)
   | exit k =>
    show Exit.inBlock R.idIn _ (Exit.exit k) a6 w6
    simp only [Exit.inBlock]
    by_cases hk : k = R.idIn
    ·rw [if_pos hk]
     exact again (fun p hp2 => by
      have := H' p hp2
      simp only [roundsM, ha, ht, hF] at this
      rw [if_pos hk] at this
      exact this)
    ·rw [if_neg hk]
     show Exit.inBlock R.idOut Q1 (.exit k) a6 w6
     simp only [Exit.inBlock]
     simp only [roundsM, ha, ht, hF] at hH
     rw [if_neg hk] at hH
     by_cases hk2 : k = R.idOut
     ·rw [if_pos hk2]
      rw [if_pos hk2] at hH
      exact hFin .normal fr3 σ3 a6 w6 g6 hH e06 i6
     ·rw [if_neg hk2]
      rw [if_neg hk2] at hH
      exact hFin (.exit k) fr3 σ3 a6 w6 g6 hH e06 i6
   | ret =>
    show Exit.inBlock R.idIn _ Exit.ret a6 w6
    simp only [Exit.inBlock]
    show Exit.inBlock R.idOut Q1 .ret a6 w6
    simp only [Exit.inBlock]
    simp only [roundsM, ha, ht, hF] at hH
    exact hFin .ret fr3 σ3 a6 w6 g6 hH e06 i6
theorem perm_zip {β : Type} {ents : List MapEntry} : ∀ {es : List β}, ents.length = es.length → ∃ zs : List (MapEntry × β), zs.map (·.1) = ents ∧ zs.map (·.2) = es ∧ ∀ (i : Nat) (p : MapEntry × β), zs[i]? = some p → ents[i]? = some p.1 ∧ es[i]? = some p.2 := fun {es} h => by
 refine ⟨ents.zip es, List.map_fst_zip om, List.map_snd_zip om, fun i p hp => ?_⟩
 have := List.getElem?_zip_eq_some.1 hp
 exact this
theorem unlockM_some {ob : Nat} {es : List (D × D)} {r r' : AE × Fr × St} (h : unlockM ob es r = some r') : r.2.2[ob]? = some (.mapR es) ∧ r' = (r.1, r.2.1, r.2.2.set ob (.map es)) := by
 unfold unlockM at h
 split at h
 ·rename_i es' hm
  split at h
  ·rename_i hs
   cases h
   rw [samePairs_eq _ _ hs]
   rw [samePairs_eq _ _ hs] at *
   exact ⟨hm, rfl⟩
  ·cases h
 ·cases h
theorem wp_rangeM (hc : CalOK P cal) (hci : CalIn P cal) {R : MRange} {c B rest : Code} (hsh : RangeShape P mu R c B) {body restM : MCode} {fuel : Nat} (hB : BodyOK P (runC cal fuel body) B) (hRest : BodyOK P (runC cal fuel restM) rest)
  {ae : AE} {Q : Exit → Act → World → Prop} (hr : runC cal fuel (.rangeM R body restM) fr σ = some (ae, fr', σ')) (i : Inv P g w fr σ a) (hn : ∀ a' w' g', Ext g w g' w' → Inv P g' w' fr' σ' a' → Q ae.exit' a' w') : (Code.seq c rest).wp P Q a w := by
 obtain ⟨id, ops, id5, ops5, id6, ops6, pre, o, t, x, n1, n2, e1, tl, kt, e, rfl, q1, q2, q3, q4, q5, q6, q7, q8, q9, q10, q11, q12, q13, q14, q15, q16, q17⟩ := hsh
 simp only [runC] at hr
 split at hr <;> first | (cases hr; done) | skip
 rename_i fr1 σ1 hpre
 split at hr <;> first | (cases hr; done) | skip
 rename_i ob hx
 split at hr <;> first | (cases hr; done) | skip
 rename_i es hm
 refine wp_seq (wp_seq (wp_region (regionW_list ?_)))
 rw [q1]
 refine wp_pre_list hc hci pre q13 hpre i (fun a1 w1 g1 e1' i1 => ?_)
 have hvx := (val_ok i1.s q14).1
 rw [hx] at hvx
 have hob : ob < g1.n := by rw [i1.h.n]; exact (List.getElem?_eq_some_iff.1 hm).1
 have hvx' : a1.eval x = .map (some (g1.μ ob)) := by
  generalize a1.eval x = v at hvx
  cases hvx
  rfl
 obtain ⟨hω, ents, clock, hh, hmr, hborn⟩ := i1.h.maps ob es hm
 obtain ⟨i2, e2⟩ := i1.lock hm
 obtain ⟨g3, e3, i3, hω3, hμ3, hn3, hμo, hωo⟩ := i2.pushIter (.mapIter (some (g1.μ ob)) clock #[] clock)
 have hlen : (σ1.set ob (.mapR es)).length = σ1.length := by simp
 rw [hlen] at hμ3 hn3
 refine wp_list_value (v := .pointer (some ⟨w1.heap.size, 0, none⟩)) (w' := w1.alloc (.mapIter (some (g1.μ ob)) clock #[] clock)) q4 (by simp only [execOp, q2, hvx', Sem.run_bind, run_range_map w1 t kt e (g1.μ ob) ents clock q17 hh, Result.andThen]; rfl) ?_
 rw [q3]
 have hr3 : Rep g3 (.pointer (some ⟨w1.heap.size, 0, none⟩)) (.ptr σ1.length 0) := by
  have := Rep.ptr (g := g3) σ1.length 0 hn3
  rw [hμ3] at this
  exact this
 have i4 := i3.put (some R.it) hr3 (fun _ _ => .of_ne rfl) (fun s off e => by cases e)
 obtain ⟨es', hpm, _, hrow⟩ := hmr
 obtain ⟨zs, hz1, hz2, hzi⟩ := perm_zip hrow.1
 have hμ3o : g3.μ ob = g1.μ ob := (hμo ob hob).trans rfl
 have hbm3 : (w1.alloc (.mapIter (some (g1.μ ob)) clock #[] clock)).heap[g3.μ ob]? = some (.map ents clock) := by
  rw [hμ3o]
  have hlt := lt_of_heap hh
  simp only [World.alloc]
  rw [Array.getElem?_push_lt hlt, ← Array.getElem?_eq_getElem hlt]
  exact hh
 have hit3 : (w1.alloc (.mapIter (some (g1.μ ob)) clock #[] clock)).heap[g3.μ σ1.length]? = some (.mapIter (some (g1.μ ob)) clock #[] clock) := by
  rw [hμ3]
  exact heap_new w1 _
 have hωm : g3.ω (g3.μ ob) = .ro ob := by
  rw [hμ3o, hωo _ (lt_of_heap hh)]
  simp [Gh.tagAt]
 have hpp : ∀ p : List (MapEntry × (D × D)), p.Perm zs → roundsM cal (runC cal fuel body) R σ1.length (p.map (·.2)) (fr1.put (some R.it) (.ptr σ1.length 0)) (σ1.set ob (.mapR es) ++ [.dead]) ∈
   (permsOf es).map fun p => roundsM cal (runC cal fuel body) R σ1.length p (fr1.put (some R.it) (.ptr σ1.length 0)) (σ1.set ob (.mapR es) ++ [.dead]) := fun p hp => by
  have hpp : (p.map (·.2)).Perm es := by
   have := hp.map (·.2)
   rw [hz2] at this
   exact this.trans hpm.symm
  exact List.mem_map.2 ⟨_, mem_permsOf es _ hpp, rfl⟩
 -- what is good of a state behind the rounds
 have main : ∀ (Good : RunR → Prop), ¬ Good none → (∀ p : List (MapEntry × (D × D)), p.Perm zs → Good (roundsM cal (runC cal fuel body) R σ1.length (p.map (·.2)) (fr1.put (some R.it) (.ptr σ1.length 0)) (σ1.set ob (.mapR es) ++ [.dead]))) →
   (∀ (ae4 : AE) (fr4 : Fr) (σ4 : St), Good (some (ae4, fr4, σ4)) → ∃ rr, unlockM ob es (ae4, fr4, σ4) = some rr ∧ ∃ kp : Option (List Nat), 
    ((ae4 = .normal ∧ (runC cal fuel restM (kp.elim fr4 fun k => fr4.clear k) (σ4.set ob (.map es))).map (endOf R σ1.length) = some (ae, fr', σ')) ∨ (ae4 ≠ .normal ∧ endOf R σ1.length (ae4, kp.elim fr4 (fun k => fr4.clear k), σ4.set ob (.map es)) = (ae, fr', σ')))) →
   (Code.block R.idOut (.loop (.seq (.region id5 ops5 false) (.seq (.cond (.tmp R.okT) .skip (.exit R.idOut)) (.block R.idIn (.seq (.region id6 ops6 false) B)))))).wp P (Exit.then (rest.wp P Q) Q) (a1.put (some R.it) (.pointer (some ⟨w1.heap.size, 0, none⟩))) (w1.alloc (.mapIter (some (g1.μ ob)) clock #[] clock)) := by
  intro Good hnone hmem hgood
  refine wp_block (wp_loop_rounds (zs.length + 1) (rounds_ok hc hci hB (R := R) (n0 := σ1.length) (ob := ob) (Good := Good) hnone
   (g1 := g3) (w1 := w1.alloc (.mapIter (some (g1.μ ob)) clock #[] clock)) (ents := ents) (clock := clock) (zs := zs) hz1 (fun p hp => ?_) hborn (Nat.lt_of_lt_of_le hob (Nat.le_trans (e2.le.n) e3.le.n)) hn3 hbm3 hωm (by rw [hμ3]; exact hω3) (by rw [hμ3]; exact lt_of_heap (heap_new w1 _)) ?_
   q5 q6 q7 q8 q9 q10 q11 q12 q15 q16 (zs.length + 1) (vz := []) (lz := zs) (seen := #[]) om (by simp) rfl ((Ext.refl _ _).but) i4 ⟨clock, Nat.le_refl _, by rw [hμ3o]; exact hit3⟩ (fun p hp => hmem p hp)))
  ·obtain ⟨k, hk⟩ := List.mem_iff_getElem?.1 hp
   obtain ⟨h1, h2⟩ := hzi k p hk
   obtain ⟨r1, r2, r3, r4, _⟩ := hrow.2 k p.1 p.2 h1 h2
   have hle : g1.Le g3 := e2.le.trans e3.le
   exact ⟨r1.mono hle (fun t off q => by rw [q] at r3; cases r3), r2.mono hle (fun t off q => by rw [q] at r4; cases r4), r3, r4⟩
  ·intro ae4 fr4 σ4 A W gk hg eX iX
   obtain ⟨rr, hu, kp, hcase⟩ := hgood ae4 fr4 σ4 hg
   have hμk : gk.μ ob = g1.μ ob := (eX.le.μ ob (Nat.lt_of_lt_of_le hob (Nat.le_trans (e2.le.n) e3.le.n))).trans hμ3o
   -- the map is opened again; all that has happened since the start
   have e13 : Ext g w gk W := (((e1'.trans e2).trans e3).of_but eX (fun b hb => by
    rw [hb, hμ3]
    exact e1'.size))
   have hmineOb : g1.μ ob < w.heap.size → (g.ω (g1.μ ob)).mine = true := fun hlt => by
    cases hmm : (g.ω (g1.μ ob)).mine with
    | true => rfl
    | false =>
     have := (e1'.blk _ hlt hmm).2
     rw [hω] at this
     rw [← this] at hmm
     cases hmm
   obtain ⟨u1, _⟩ := unlockM_some hu
   have i5 := iX.unlock u1
   rw [hμk] at i5
   have f2 := e13.retag (.obj ob) hmineOb
   have f3 : Inv P (gk.tagAt (g1.μ ob) (.obj ob)) W (kp.elim fr4 fun k => fr4.clear k) (σ4.set ob (.map es)) A := by
    cases kp with
    | none => exact i5
    | some k => exact i5.clear k
   rcases hcase with ⟨rfl, hcase⟩ | ⟨hne, hcase⟩
   ·show rest.wp P Q A W
    simp only [Option.map_eq_some_iff] at hcase
    obtain ⟨⟨ae6, fr6, σ6⟩, hg1, hg2⟩ := hcase
    refine hRest hg1 f3 (fun a7 w7 g7 e7 i7 => ?_)
    obtain ⟨rfl, i8⟩ := i7.endOf hg2
    exact hn a7 w7 g7 (f2.trans e7) i8
   ·obtain ⟨h1, i8⟩ := f3.endOf hcase
    have hq := hn A W _ f2 i8
    rw [h1] at hq
    cases ae4 with
    | normal => exact absurd rfl hne
    | exit k => exact hq
    | ret => exact hq
 show (Code.block R.idOut (.loop _)).wp P _ _ _
 unfold allM at hr
 split at hr
 ·-- all orders come to the same, here
  rename_i fr5 σ5 hag
  refine main (fun x => midM R ob es x = some (.normal, fr5, σ5)) (by simp [midM]) (fun p hp => agreeR_mem hag (List.mem_map.2 ⟨_, hpp p hp, rfl⟩)) (fun ae4 fr4 σ4 hg => ?_)
  simp only [midM, Option.map_eq_some_iff] at hg
  obtain ⟨rr, hu, h2⟩ := hg
  obtain ⟨u1, u2⟩ := unlockM_some hu
  subst u2
  simp only [Prod.mk.injEq] at h2
  obtain ⟨rfl, rfl, rfl⟩ := h2
  exact ⟨_, hu, some R.keep, .inl ⟨rfl, hr⟩⟩
 ·rename_i r5 hne hag
  obtain ⟨ae5, fr5, σ5⟩ := r5
  refine main (fun x => midM R ob es x = some (ae5, fr5, σ5)) (by simp [midM]) (fun p hp => agreeR_mem hag (List.mem_map.2 ⟨_, hpp p hp, rfl⟩)) (fun ae4 fr4 σ4 hg => ?_)
  simp only [midM, Option.map_eq_some_iff] at hg
  obtain ⟨rr, hu, h2⟩ := hg
  obtain ⟨u1, u2⟩ := unlockM_some hu
  subst u2
  simp only [Prod.mk.injEq] at h2
  obtain ⟨rfl, rfl, rfl⟩ := h2
  refine ⟨_, hu, some R.keep, .inr ⟨fun e => ?_, Option.some.inj hr⟩⟩
  subst e
  exact hne _ _ rfl
 ·refine main (fun x => afterM R ob es σ1.length (runC cal fuel restM) x = some (ae, fr', σ')) (by simp [afterM]) (fun p hp => agreeR_mem hr (List.mem_map.2 ⟨_, hpp p hp, rfl⟩)) (fun ae4 fr4 σ4 hg => ?_)
  simp only [afterM] at hg
  split at hg
  ·rename_i fr5 σ5 hu
   obtain ⟨u1, u2⟩ := unlockM_some hu
   simp only [Prod.mk.injEq] at u2
   obtain ⟨rfl, rfl, rfl⟩ := u2
   exact ⟨_, hu, none, .inl ⟨rfl, hg⟩⟩
  ·rename_i rr hne hu
   obtain ⟨u1, u2⟩ := unlockM_some hu
   subst u2
   refine ⟨_, hu, none, .inr ⟨fun e => ?_, Option.some.inj hg⟩⟩
   subst e
   exact hne _ _ rfl
  ·cases hg
end
end Go.Abs

namespace Go.Abs
open Go Go.RowKit
section
variable {P : Program} {g g' : Gh} {w w' : World} {fr fr' : Fr} {σ σ' : St} {a : Act} {o : Oper} {d : D} {cal : Cal} {q : Bool} {mu : List Nat} {Q : Exit → Act → World → Prop}
theorem wp_codeN (hm : P.follows .mixedOrders = true) (hc : CalOK P cal) (hci : CalIn P cal) (fuel : Nat) : ∀ (N : Nat) (c : Code), SizeOf.sizeOf c < N → ∀ (keep : Lv) {m : MCode} {ae : AE} {fr fr' : Fr} {σ σ' : St} {a : Act} {g : Gh} {w : World} {Q : Exit → Act → World → Prop},
  compC P mu keep c = some m → runC cal fuel m fr σ = some (ae, fr', σ') → Inv P g w fr σ a → (∀ a' w' g', Ext g w g' w' → Inv P g' w' fr' σ' a' → Q ae.exit' a' w') → c.wp P Q a w := by
 intro N
 induction N with
 | zero => intro c h; exact absurd h (Nat.not_lt_zero _)
 | succ N IH =>
 intro c hN
 cases c with
 | skip =>
  intro keep m ae fr fr' σ σ' a g w Q hcomp hr i hn
  simp only [compC, Option.some.injEq] at hcomp
  subst hcomp
  simp only [runC, Option.some.injEq, Prod.mk.injEq] at hr
  obtain ⟨rfl, rfl, rfl⟩ := hr
  exact wp_skip (hn a w g (.refl g w) i)
 | region id ops draw =>
  intro keep m ae fr fr' σ σ' a g w Q hcomp hr i hn
  rcases compC_region hcomp with ⟨quiet, ms, rfl⟩ | ⟨ms, pre, rfl⟩ | ⟨alts, ms, pre, rfl⟩
  ·simp only [runC, Option.map_eq_some_iff] at hr
   obtain ⟨⟨fr1, σ1⟩, h1, h2⟩ := hr
   cases h2
   exact wp_region_code hm hc hci hcomp h1 i hn
  ·simp only [runC, Option.map_eq_some_iff] at hr
   obtain ⟨⟨fr1, σ1⟩, h1, h2⟩ := hr
   cases h2
   exact wp_region_codeA hm hc hci hcomp h1 i hn
  ·have hae : ae = .normal := (wp_region_codeQ (Q := fun _ _ _ => True) hm hc hci hcomp hr i (fun _ _ _ _ _ => trivial)).1
   subst hae
   exact (wp_region_codeQ hm hc hci hcomp hr i hn).2
 | seq x y =>
  intro keep m ae fr fr' σ σ' a g w Q hcomp hr i hn
  have hx0 : SizeOf.sizeOf x < N := by simp only [Code.seq.sizeOf_spec] at hN; omega
  have hy0 : SizeOf.sizeOf y < N := by simp only [Code.seq.sizeOf_spec] at hN; omega
  simp only [compC] at hcomp
  split at hcomp
  ·rename_i R hR
   obtain ⟨B, K', hsh, hbd⟩ := rangeOf_shape hR
   rw [hbd] at hcomp
   have hB0 : SizeOf.sizeOf B < N := by
    obtain ⟨id, ops, id5, ops5, id6, ops6, pre, o, t, x', n1, n2, e1, tl, kt, e, hxe, _⟩ := hsh
    subst hxe
    simp only [Code.seq.sizeOf_spec, Code.block.sizeOf_spec, Code.loop.sizeOf_spec] at hx0
    omega
   split at hcomp
   ·rename_i mb mr hb hr'
    cases hcomp
    exact wp_rangeM hc hci hsh (fun h1 h2 h3 => IH B hB0 _ hb h1 h2 h3) (fun h1 h2 h3 => IH y hy0 _ hr' h1 h2 h3) hr i hn
   ·cases hcomp
  have ihx := fun {K} => @IH x hx0 K
  have ihy := fun {K} => @IH y hy0 K
  split at hcomp
  ·rename_i mx my hx hy
   cases hcomp
   simp only [runC] at hr
   split at hr
   ·rename_i fr1 σ1 h1
    refine wp_seq (ihx hx h1 i (fun a1 w1 g1 e1 i1 => ?_))
    exact ihy hy hr i1 (fun a2 w2 g2 e2 i2 => hn a2 w2 g2 (e1.trans e2) i2)
   ·rename_i hno
    refine wp_seq (ihx hx hr i (fun a1 w1 g1 e1 i1 => ?_))
    cases ae with
    | normal => exact absurd hr (hno _ _)
    | exit id => exact hn a1 w1 g1 e1 i1
    | ret => exact hn a1 w1 g1 e1 i1
  ·cases hcomp
 | cond x c1 c2 =>
  intro keep m ae fr fr' σ σ' a g w Q hcomp hr i hn
  have ih1 := fun {K} => @IH c1 (by simp only [Code.cond.sizeOf_spec] at hN; omega) K
  have ih2 := fun {K} => @IH c2 (by simp only [Code.cond.sizeOf_spec] at hN; omega) K
  simp only [compC] at hcomp
  split at hcomp
  ·rename_i x' m1 m2 hX h1 h2
   cases hcomp
   have hv := (val_ok i.s hX).1
   simp only [runC] at hr
   split at hr
   ·rename_i hb
    rw [hb] at hv
    exact wp_cond_true (rep_bool hv) (ih1 h1 hr i hn)
   ·rename_i hb
    rw [hb] at hv
    exact wp_cond_false (rep_bool hv) (ih2 h2 hr i hn)
   ·cases hr
  ·cases hcomp
 | block id c =>
  intro keep m ae fr fr' σ σ' a g w Q hcomp hr i hn
  have ih := fun {K} => @IH c (by simp only [Code.block.sizeOf_spec] at hN; omega) K
  simp only [compC, Option.map_eq_some_iff] at hcomp
  obtain ⟨m1, h1, rfl⟩ := hcomp
  simp only [runC] at hr
  split at hr
  ·rename_i i' fr1 σ1 hr1
   refine wp_block (ih h1 hr1 i (fun a1 w1 g1 e1 i1 => ?_))
   simp only [AE.exit', Exit.inBlock]
   split at hr
   ·rename_i hid
    cases hr
    rw [if_pos hid]
    exact hn a1 w1 g1 e1 i1
   ·rename_i hid
    cases hr
    rw [if_neg hid]
    exact hn a1 w1 g1 e1 i1
  ·rename_i hno
   refine wp_block (ih h1 hr i (fun a1 w1 g1 e1 i1 => ?_))
   cases ae with
   | normal => exact hn a1 w1 g1 e1 i1
   | exit id' => exact absurd hr (hno _ _ _)
   | ret => exact hn a1 w1 g1 e1 i1
 | loop c =>
  intro keep m ae fr fr' σ σ' a g w Q hcomp hr i hn
  have ih := fun {K} => @IH c (by simp only [Code.loop.sizeOf_spec] at hN; omega) K
  simp only [compC, Option.map_eq_some_iff] at hcomp
  obtain ⟨m1, h1, rfl⟩ := hcomp
  simp only [runC] at hr
  have key : ∀ (n : Nat) (fr : Fr) (σ : St) (a : Act) (g : Gh) (w : World), iter (runC cal fuel m1) (loopKeep c keep) n fr σ = some (ae, fr', σ') → Inv P g w fr σ a →
    (∀ a' w' g', Ext g w g' w' → Inv P g' w' fr' σ' a' → Q ae.exit' a' w') → Code.rounds P c Q n a w := by
   intro n
   induction n with
   | zero => intro fr σ a g w h; cases h
   | succ n ihn =>
    intro fr σ a g w h i hn
    simp only [iter] at h
    rw [rounds_succ]
    split at h
    ·rename_i fr1 σ1 h2
     exact ih h1 h2 (i.clear (loopKeep c keep)) (fun a1 w1 g1 e1 i1 => ihn fr1 σ1 a1 g1 w1 h i1 (fun a2 w2 g2 e2 i2 => hn a2 w2 g2 (e1.trans e2) i2))
    ·rename_i hno
     refine ih h1 h (i.clear (loopKeep c keep)) (fun a1 w1 g1 e1 i1 => ?_)
     cases ae with
     | normal => exact absurd h (hno _ _)
     | exit id => exact hn a1 w1 g1 e1 i1
     | ret => exact hn a1 w1 g1 e1 i1
  exact wp_loop_rounds fuel (key fuel fr σ a g w hr i hn)
 | exit id =>
  intro keep m ae fr fr' σ σ' a g w Q hcomp hr i hn
  simp only [compC, Option.some.injEq] at hcomp
  subst hcomp
  simp only [runC, Option.some.injEq, Prod.mk.injEq] at hr
  obtain ⟨rfl, rfl, rfl⟩ := hr
  exact wp_exit (hn a w g (.refl g w) i)
 | ret =>
  intro keep m ae fr fr' σ σ' a g w Q hcomp hr i hn
  simp only [compC, Option.some.injEq] at hcomp
  subst hcomp
  simp only [runC, Option.some.injEq, Prod.mk.injEq] at hr
  obtain ⟨rfl, rfl, rfl⟩ := hr
  exact wp_ret (hn a w g (.refl g w) i)
 | _ =>
  intro keep m ae fr fr' σ σ' a g w Q hcomp
  simp [compC] at hcomp
theorem wp_code (hm : P.follows .mixedOrders = true) (hc : CalOK P cal) (hci : CalIn P cal) (keep : Lv) (fuel : Nat) (c : Code) {m : MCode} {ae : AE} {fr fr' : Fr} {σ σ' : St} {a : Act} {g : Gh} {w : World} {Q : Exit → Act → World → Prop}
  (h : compC P mu keep c = some m) (hr : runC cal fuel m fr σ = some (ae, fr', σ')) (i : Inv P g w fr σ a) (hn : ∀ a' w' g', Ext g w g' w' → Inv P g' w' fr' σ' a' → Q ae.exit' a' w') : c.wp P Q a w :=
 wp_codeN hm hc hci fuel _ c (Nat.lt_succ_self _) keep h hr i hn
end
end Go.Abs
