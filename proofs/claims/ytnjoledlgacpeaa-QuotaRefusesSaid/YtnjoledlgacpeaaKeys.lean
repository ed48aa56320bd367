import Derived.Test.YtnjoledlgacpeaaSem
import Derived.Laws.AppendOwn
import Derived.Laws.OwnMore
import Derived.Laws.Sem
import Derived.Laws.World
import Derived.Below
import Derived.Calls
set_option linter.unusedVariables false
set_option linter.unusedSimpArgs false
/-
  A map's entries in another order: what is found, put, taken away.
-/
namespace Go.Abs

/-- No two keys are the same. -/
def KeysOK (es : List (D × D)) : Prop := (es.map (·.1)).Pairwise fun a b => ∃ kk, eqKey kk a b = some false
theorem eqKey_true {kk : Nat} {a b : D} (h : eqKey kk a b = some true) : a = b := by
  unfold eqKey at h
  split at h
  · split at h
    · simp only [Option.some.injEq, beq_iff_eq] at h
      simp_all
    · cases h
  · simp only [Option.some.injEq, beq_iff_eq] at h
    simp_all
  · simp only [Option.some.injEq, beq_iff_eq] at h
    simp_all
  · cases h
theorem eqKey_symm {kk : Nat} {a b : D} {r : Bool} (h : eqKey kk a b = some r) : eqKey kk b a = some r := by
  unfold eqKey at h
  split at h
  · split at h
    · rename_i e
      subst e
      simp only [Option.some.injEq] at h
      subst h
      simp only [eqKey, if_true]
      rw [Bool.beq_comm]
    · cases h
  · simp only [Option.some.injEq] at h
    subst h
    simp only [eqKey]
    rw [Bool.beq_comm]
  · simp only [Option.some.injEq] at h
    subst h
    simp only [eqKey]
    rw [Bool.beq_comm]
  · cases h
theorem eqKey_one {kk kk' : Nat} {a b : D} (h : eqKey kk a a = some true) (k : eqKey kk' a b = some false) : eqKey kk a b = some false := by
  have : kk = kk' := by
    unfold eqKey at h k
    split at h
    · split at k <;> simp_all
    · split at k <;> simp_all
    · split at k <;> simp_all
    · cases h
  rw [this]
  exact k
theorem keys_symm {a b : D} (h : ∃ kk, eqKey kk a b = some false) : ∃ kk, eqKey kk b a = some false := by
  obtain ⟨kk, h⟩ := h
  exact ⟨kk, eqKey_symm h⟩
theorem KeysOK.perm {a b : List (D × D)} (h : a.Perm b) (k : KeysOK a) : KeysOK b := by
  unfold KeysOK at k ⊢
  exact ((h.map (·.1)).pairwise_iff (fun h => keys_symm h)).1 k
theorem KeysOK.tail {e : D × D} {es : List (D × D)} (h : KeysOK (e :: es)) : KeysOK es := by
  unfold KeysOK at h ⊢
  rw [List.map_cons, List.pairwise_cons] at h
  exact h.2
theorem KeysOK.two {a b : D × D} {es : List (D × D)} (h : KeysOK (a :: b :: es)) : ∃ kk, eqKey kk a.1 b.1 = some false := by
  unfold KeysOK at h
  rw [List.map_cons, List.pairwise_cons] at h
  exact h.1 _ (by simp)
theorem hit_miss {kk : Nat} {x : D} {a b : D} (h : eqKey kk x a = some true) (k : ∃ kk, eqKey kk a b = some false) : eqKey kk x b = some false := by
  have e := eqKey_true h
  subst e
  obtain ⟨kk', k⟩ := k
  exact eqKey_one h k
theorem findKey_perm {kk : Nat} {x : D} {a b : List (D × D)} (hp : a.Perm b) : ∀ {r : Option D}, KeysOK a → findKey kk x a = some r → findKey kk x b = some r := by
  induction hp with
  | nil => exact fun _ h => h
  | cons e _ ih =>
    intro r hk h
    obtain ⟨ke, ve⟩ := e
    simp only [findKey] at h ⊢
    split at h
    · rename_i h1; (try rw [h1]); exact h
    · rename_i h1; (try rw [h1]); exact ih hk.tail h
    · cases h
  | swap a b l =>
    intro r hk h
    obtain ⟨ka, va⟩ := a
    obtain ⟨kb, vb⟩ := b
    have h2 := hk.two
    simp only [findKey] at h ⊢
    split at h
    · rename_i h1
      rw [hit_miss h1 h2]; try rw [h1]
      exact h
    · rename_i h1
      split at h
      · rename_i h3; (try rw [h3]); exact h
      · rename_i h3; (try rw [h3]); (try rw [h1]); exact h
      · cases h
    · cases h
  | trans p q ih1 ih2 =>
    intro r hk h
    exact ih2 (hk.perm p) (ih1 hk h)
theorem putKey_perm {kk : Nat} {x y : D} {a b : List (D × D)} (hp : a.Perm b) : ∀ {r : List (D × D)}, KeysOK a → putKey kk x y a = some r → ∃ r', putKey kk x y b = some r' ∧ r.Perm r' := by
  induction hp with
  | nil => exact fun _ h => ⟨_, h, .refl _⟩
  | @cons e l l' p ih =>
    intro r hk h
    obtain ⟨ke, ve⟩ := e
    simp only [putKey] at h ⊢
    split at h
    · rename_i h1
      cases h
      try rw [h1]
      exact ⟨_, rfl, p.cons _⟩
    · rename_i h1
      try rw [h1]
      cases h0 : putKey kk x y l with
      | none => rw [h0] at h; cases h
      | some r0 =>
        rw [h0] at h
        cases h
        obtain ⟨r', h3, h4⟩ := ih hk.tail h0
        try rw [h3]
        exact ⟨_, rfl, h4.cons _⟩
    · cases h
  | swap a b l =>
    intro r hk h
    obtain ⟨ka, va⟩ := a
    obtain ⟨kb, vb⟩ := b
    have h2 := hk.two
    simp only [putKey] at h ⊢
    split at h
    · rename_i h1
      cases h
      rw [hit_miss h1 h2]; try rw [h1]
      exact ⟨_, rfl, List.Perm.swap _ _ _⟩
    · rename_i h1
      split at h
      · rename_i h3
        cases h
        try rw [h3]
        exact ⟨_, rfl, List.Perm.swap _ _ _⟩
      · rename_i h3
        (try rw [h3]); try rw [h1]
        cases h0 : putKey kk x y l with
        | none => rw [h0] at h; cases h
        | some r0 =>
          rw [h0] at h
          cases h
          exact ⟨_, rfl, List.Perm.swap _ _ _⟩
      · cases h
    · cases h
  | trans p q ih1 ih2 =>
    intro r hk h
    obtain ⟨r', h1, h2⟩ := ih1 hk h
    obtain ⟨r2, h3, h4⟩ := ih2 (hk.perm p) h1
    exact ⟨r2, h3, h2.trans h4⟩
theorem delKey_perm {kk : Nat} {x : D} {a b : List (D × D)} (hp : a.Perm b) : ∀ {r : List (D × D)}, KeysOK a → delKey kk x a = some r → ∃ r', delKey kk x b = some r' ∧ r.Perm r' := by
  induction hp with
  | nil => exact fun _ h => ⟨_, h, .refl _⟩
  | @cons e l l' p ih =>
    intro r hk h
    obtain ⟨ke, ve⟩ := e
    simp only [delKey] at h ⊢
    split at h
    · rename_i h1
      cases h
      try rw [h1]
      exact ⟨_, rfl, p⟩
    · rename_i h1
      try rw [h1]
      cases h0 : delKey kk x l with
      | none => rw [h0] at h; cases h
      | some r0 =>
        rw [h0] at h
        cases h
        obtain ⟨r', h3, h4⟩ := ih hk.tail h0
        try rw [h3]
        exact ⟨_, rfl, h4.cons _⟩
    · cases h
  | swap a b l =>
    intro r hk h
    obtain ⟨ka, va⟩ := a
    obtain ⟨kb, vb⟩ := b
    have h2 := hk.two
    simp only [delKey] at h ⊢
    split at h
    · rename_i h1
      cases h
      rw [hit_miss h1 h2]; try rw [h1]
      exact ⟨_, rfl, .refl _⟩
    · rename_i h1
      split at h
      · rename_i h3
        cases h
        try rw [h3]
        exact ⟨_, rfl, .refl _⟩
      · rename_i h3
        (try rw [h3]); try rw [h1]
        cases h0 : delKey kk x l with
        | none => rw [h0] at h; cases h
        | some r0 =>
          rw [h0] at h
          cases h
          exact ⟨_, rfl, List.Perm.swap _ _ _⟩
      · cases h
    · cases h
  | trans p q ih1 ih2 =>
    intro r hk h
    obtain ⟨r', h1, h2⟩ := ih1 hk h
    obtain ⟨r2, h3, h4⟩ := ih2 (hk.perm p) h1
    exact ⟨r2, h3, h2.trans h4⟩
theorem put_keys {kk : Nat} {x y : D} : ∀ {es r : List (D × D)}, putKey kk x y es = some r → (r.map (·.1) = es.map (·.1)) ∨ (r = es ++ [(x, y)] ∧ ∀ e ∈ es, eqKey kk x e.1 = some false)
  | [], r, h => by
    simp only [putKey, Option.some.injEq] at h
    subst h
    exact .inr ⟨rfl, fun e he => by simp at he⟩
  | (k', v) :: es, r, h => by
    simp only [putKey] at h
    split at h
    · rename_i h1
      cases h
      left
      simp [eqKey_true h1]
    · rename_i h1
      cases h0 : putKey kk x y es with
      | none => rw [h0] at h; cases h
      | some r0 =>
        rw [h0] at h
        cases h
        rcases put_keys h0 with h3 | ⟨h3, h4⟩
        · left
          simp [h3]
        · right
          refine ⟨by simp [h3], fun e he => ?_⟩
          rcases List.mem_cons.1 he with rfl | he
          · exact h1
          · exact h4 e he
    · cases h
theorem KeysOK.put {kk : Nat} {x y : D} {es r : List (D × D)} (h : putKey kk x y es = some r) (k : KeysOK es) : KeysOK r := by
  rcases put_keys h with h1 | ⟨rfl, h1⟩
  · unfold KeysOK at k ⊢
    rw [h1]
    exact k
  · unfold KeysOK at k ⊢
    rw [List.map_append, List.pairwise_append]
    refine ⟨k, by simp, fun a ha b hb => ?_⟩
    simp only [List.map_cons, List.map_nil, List.mem_singleton] at hb
    subst hb
    obtain ⟨e, he, rfl⟩ := List.mem_map.1 ha
    exact ⟨kk, eqKey_symm (h1 e he)⟩
theorem del_sub {kk : Nat} {x : D} : ∀ {es r : List (D × D)}, delKey kk x es = some r → r.Sublist es
  | [], r, h => by
    simp only [delKey, Option.some.injEq] at h
    subst h
    exact .slnil
  | (k', v) :: es, r, h => by
    simp only [delKey] at h
    split at h
    · cases h
      exact .cons _ (.refl _)
    · cases h0 : delKey kk x es with
      | none => rw [h0] at h; cases h
      | some r0 =>
        rw [h0] at h
        cases h
        exact (del_sub h0).cons_cons _
    · cases h
theorem KeysOK.del {kk : Nat} {x : D} {es r : List (D × D)} (h : delKey kk x es = some r) (k : KeysOK es) : KeysOK r :=
  List.Pairwise.sublist ((del_sub h).map (·.1)) k
end Go.Abs

/-
  What a value of the model stands for: the relation between values and the interpreter's data, and what it keeps when memory grows.
-/
namespace Go.Abs
open Go Go.RowKit

inductive Tag where
  | free | other | hand
  | obj (o : Nat)
  | box (t : Nat)
  | sbuf (t : Nat)
  | bbuf (t j : Nat)
  | obuf (o j : Nat)
  deriving DecidableEq

/-- Whose a block is: this call's to write, or not. -/
def Tag.mine : Tag → Bool
  | .free | .other => false
  | _ => true

structure Gh where
  I : Nat → Nat → Option Value
  n : Nat
  μ : Nat → Nat
  sz : Nat → Nat
  β : Nat → Nat
  ω : Nat → Tag
  /-- the deferred calls that lie below this frame's own -/
  base : List Deferred := []

/-- A list of values stands for a list of data, one by one. -/
def AllRep (R : Value → D → Prop) (vs : List Value) (ds : List D) : Prop :=
  vs.length = ds.length ∧ ∀ (i : Nat) (v : Value) (d : D), vs[i]? = some v → ds[i]? = some d → R v d

inductive Rep (g : Gh) : Value → D → Prop
  | junk (v : Value) : Rep g v .junk
  | undef : Rep g _root_.Go.undef .undef
  | nils (e : Nat) : Rep g (.slice none 0 0) (.nils e)
  | bool (b : Bool) : Rep g (.bool b) (.bool b)
  | int (k : IntKind) (n : Int) : Rep g (.int k n) (.int k n)
  | str (s : ByteArray) : Rep g (.string s) (.str s.data.toList)
  | nilp : Rep g (.pointer none) .nilp
  | nilm : Rep g (.map none) .nilm
  | nilf : Rep g .nilFunc .nilf
  | val (v : Value) : Rep g v (.val v)
  | ptr (o off : Nat) (h : o < g.n) : Rep g (.pointer (some ⟨g.μ o, off, none⟩)) (.ptr o off)
  | lptr (t off : Nat) : Rep g (.pointer (some ⟨g.β t, off, none⟩)) (.lptr t off)
  | ref (b off : Nat) (cs : List D) (V : Nat → Value) (hI : ∀ (i : Nat) (d : D), cs[i]? = some d → g.I b (off + i) = some (V i))
      (hR : ∀ (i : Nat) (d : D), cs[i]? = some d → Rep g (V i) d) (hp : cs.all D.pure1 = true) : Rep g (.pointer (some ⟨b, off, none⟩)) (.ref cs)
  | sl (a : Option Addr) (len cap b off esz : Nat) (es : List (List D)) (own : Option Nat) (V : Nat → Nat → Value) (hl : len = es.length)
      (hc : len ≤ cap) (hn : a = none → cap = 0) (ha : es ≠ [] → a = some ⟨b, off, none⟩) (he : ∀ e ∈ es, e.length = esz ∧ e.all D.pure1 = true)
      (hI : ∀ (i : Nat) (e : List D) (j : Nat) (d : D), es[i]? = some e → e[j]? = some d → g.I b (off + i * esz + j) = some (V i j))
      (hR : ∀ (i : Nat) (e : List D) (j : Nat) (d : D), es[i]? = some e → e[j]? = some d → Rep g (V i j) d) : Rep g (.slice a len cap) (.sl es own)
  | msl (o off n esz cap : Nat) (h : o < g.n) (hc : n ≤ cap) (hs : off + cap * esz ≤ g.sz o) : Rep g (.slice (some ⟨g.μ o, off, none⟩) n cap) (.msl o off n esz)
  | map (o : Nat) (h : o < g.n) : Rep g (.map (some (g.μ o))) (.map o)
  | func (f : Nat) (vs : Array Value) (ds : List D) (hl : vs.toList.length = ds.length)
      (hR : ∀ (i : Nat) (v : Value) (d : D), vs.toList[i]? = some v → ds[i]? = some d → Rep g v d) (hp : ds.all D.notL = true) : Rep g (.func (.func f) #[] vs) (.func f ds)
  | agg (vs : Array Value) (ds : List D) (hl : vs.toList.length = ds.length)
      (hR : ∀ (i : Nat) (v : Value) (d : D), vs.toList[i]? = some v → ds[i]? = some d → Rep g v d) (hp : ds.all D.plain = true) : Rep g (.agg vs) (.agg ds)
  | tup (vs : Array Value) (ds : List D) (hl : vs.toList.length = ds.length)
      (hR : ∀ (i : Nat) (v : Value) (d : D), vs.toList[i]? = some v → ds[i]? = some d → Rep g v d) (hp : ds.all D.notL = true) : Rep g (.tuple vs) (.tup ds)

theorem notL_of_pure1 {d : D} (h : d.pure1 = true) : d.notL = true := by cases d <;> simp_all [D.pure1, D.notL]
theorem notL_of_plain {d : D} (h : d.plain = true) : d.notL = true := by cases d <;> simp_all [D.plain, D.notL]
theorem plain_of_pure1 {d : D} (h : d.pure1 = true) : d.plain = true := by cases d <;> simp_all [D.pure1, D.plain]

theorem all_get {p : D → Bool} {ds : List D} (h : ds.all p = true) {i : Nat} {d : D} (hd : ds[i]? = some d) : p d = true :=
  List.all_eq_true.1 h d (List.mem_of_getElem? hd)

/-- What grows. -/
structure Gh.Le (g g' : Gh) : Prop where
  I : ∀ (b off : Nat) (v : Value), g.I b off = some v → g'.I b off = some v
  n : g.n ≤ g'.n
  μ : ∀ o, o < g.n → g'.μ o = g.μ o
  sz : ∀ o, o < g.n → g'.sz o = g.sz o

theorem Gh.Le.refl (g : Gh) : g.Le g := ⟨fun _ _ _ h => h, Nat.le_refl _, fun _ _ => rfl, fun _ _ => rfl⟩
theorem Gh.Le.trans {a b c : Gh} (h : a.Le b) (k : b.Le c) : a.Le c :=
  ⟨fun _ _ _ x => k.I _ _ _ (h.I _ _ _ x), Nat.le_trans h.n k.n, fun o ho => (k.μ o (Nat.lt_of_lt_of_le ho h.n)).trans (h.μ o ho), fun o ho => (k.sz o (Nat.lt_of_lt_of_le ho h.n)).trans (h.sz o ho)⟩

theorem Rep.mono {g g' : Gh} (hg : g.Le g') {v : Value} {d : D} (h : Rep g v d) : (∀ t off, d = .lptr t off → g'.β t = g.β t) → Rep g' v d := by
  induction h with
  | junk v => exact fun _ => .junk v
  | undef => exact fun _ => .undef
  | nils e => exact fun _ => .nils e
  | bool b => exact fun _ => .bool b
  | int k n => exact fun _ => .int k n
  | str s => exact fun _ => .str s
  | nilp => exact fun _ => .nilp
  | nilm => exact fun _ => .nilm
  | nilf => exact fun _ => .nilf
  | val v => exact fun _ => .val v
  | ptr o off h => intro _; rw [← hg.μ o h]; exact .ptr o off (Nat.lt_of_lt_of_le h hg.n)
  | lptr t off => intro hb; rw [← hb t off rfl]; exact .lptr t off
  | ref b off cs V hI hR hp ih =>
    exact fun _ => .ref b off cs V (fun i d hd => hg.I _ _ _ (hI i d hd)) (fun i d hd => ih i d hd (fun t off e => by subst e; exact absurd (notL_of_pure1 (all_get hp hd)) (by simp [D.notL]))) hp
  | sl a len cap b off esz es own V hl hc hn ha he hI hR ih =>
    exact fun _ => .sl a len cap b off esz es own V hl hc hn ha he (fun i e j d h1 h2 => hg.I _ _ _ (hI i e j d h1 h2))
      (fun i e j d h1 h2 => ih i e j d h1 h2 (fun t off x => by subst x; exact absurd (notL_of_pure1 (all_get (he e (List.mem_of_getElem? h1)).2 h2)) (by simp [D.notL])))
  | msl o off n esz cap h hc hs => intro _; rw [← hg.μ o h]; exact .msl o off n esz cap (Nat.lt_of_lt_of_le h hg.n) hc (by rw [hg.sz o h]; exact hs)
  | map o h => intro _; rw [← hg.μ o h]; exact .map o (Nat.lt_of_lt_of_le h hg.n)
  | func f vs ds hl hR hp ih =>
    exact fun _ => .func f vs ds hl (fun i v d h1 h2 => ih i v d h1 h2 (fun t off e => by subst e; exact absurd (all_get hp h2) (by simp [D.notL]))) hp
  | agg vs ds hl hR hp ih =>
    exact fun _ => .agg vs ds hl (fun i v d h1 h2 => ih i v d h1 h2 (fun t off e => by subst e; exact absurd (all_get hp h2) (by simp [D.plain]))) hp
  | tup vs ds hl hR hp ih =>
    exact fun _ => .tup vs ds hl (fun i v d h1 h2 => ih i v d h1 h2 (fun t off e => by subst e; exact absurd (all_get hp h2) (by simp [D.notL]))) hp

/-- Data that hold nothing but their content. -/
def pureD : D → Bool
  | .agg cs => cs.all D.pure1
  | .tup vs => vs.all fun | .agg cs => cs.all D.pure1 | d => d.pure1
  | d => d.pure1

theorem Rep.out1 {g g' : Gh} (hI : ∀ (b off : Nat) (v : Value), g.I b off = some v → g'.I b off = some v) {v : Value} {d : D} (h : Rep g v d) : d.pure1 = true → Rep g' v d := by
  induction h with
  | junk v => exact fun _ => .junk v
  | undef => exact fun _ => .undef
  | nils e => exact fun _ => .nils e
  | bool b => exact fun _ => .bool b
  | int k n => exact fun _ => .int k n
  | str s => exact fun _ => .str s
  | nilp => exact fun _ => .nilp
  | nilm => exact fun _ => .nilm
  | nilf => exact fun _ => .nilf
  | val v => exact fun _ => .val v
  | ptr o off h => intro hp; simp [D.pure1] at hp
  | lptr t off => intro hp; simp [D.pure1] at hp
  | ref b off cs V hI' hR hp ih => exact fun _ => .ref b off cs V (fun i d hd => hI _ _ _ (hI' i d hd)) (fun i d hd => ih i d hd (all_get hp hd)) hp
  | sl a len cap b off esz es own V hl hc hn ha he hI' hR ih =>
    exact fun _ => .sl a len cap b off esz es own V hl hc hn ha he (fun i e j d h1 h2 => hI _ _ _ (hI' i e j d h1 h2))
      (fun i e j d h1 h2 => ih i e j d h1 h2 (all_get (he e (List.mem_of_getElem? h1)).2 h2))
  | msl o off n esz cap h hc hs => intro hp; simp [D.pure1] at hp
  | map o h => intro hp; simp [D.pure1] at hp
  | func f vs ds hl hR hp ih =>
    intro hq
    cases ds with
    | nil => exact .func f vs [] hl (fun i v d _ h2 => by simp at h2) rfl
    | cons a b => simp [D.pure1] at hq
  | agg vs ds hl hR hp ih => intro hq; simp [D.pure1] at hq
  | tup vs ds hl hR hp ih => intro hq; simp [D.pure1] at hq

theorem Rep.outA {g g' : Gh} (hI : ∀ (b off : Nat) (v : Value), g.I b off = some v → g'.I b off = some v) {v : Value} {cs : List D} (h : Rep g v (.agg cs)) (hp : cs.all D.pure1 = true) : Rep g' v (.agg cs) := by
  cases h with
  | agg vs _ hl hR hq => exact .agg vs cs hl (fun i v d h1 h2 => (hR i v d h1 h2).out1 hI (all_get hp h2)) hq

theorem Rep.out {g g' : Gh} (hI : ∀ (b off : Nat) (v : Value), g.I b off = some v → g'.I b off = some v) {v : Value} {d : D} (h : Rep g v d) (hp : pureD d = true) : Rep g' v d := by
  cases d with
  | agg cs => exact h.outA hI hp
  | tup ds =>
    cases h with
    | tup vs _ hl hR hq =>
      refine .tup vs ds hl (fun i v d h1 h2 => ?_) hq
      have hd := List.all_eq_true.1 hp d (List.mem_of_getElem? h2)
      cases d with
      | agg cs => exact (hR i v _ h1 h2).outA hI hd
      | _ => exact (hR i v _ h1 h2).out1 hI hd
  | _ => exact h.out1 hI hp

theorem Rep.strip {g : Gh} {v : Value} {d : D} (h : Rep g v d) : Rep g v d.strip := by
  cases h with
  | sl a len cap b off esz es own V hl hc hn ha he hI hR => exact .sl a len cap b off esz es none V hl hc hn ha he hI hR
  | nils e => exact .sl none 0 0 0 0 0 [] _ (fun _ _ => _root_.Go.undef) rfl (Nat.le_refl _) (fun _ => rfl) (fun h => absurd rfl h) (by simp) (by simp) (by simp)
  | _ => constructor <;> assumption

theorem Rep.unstrip {g : Gh} {v : Value} {es : List (List D)} {o : Option Nat} (o' : Option Nat) (h : Rep g v (.sl es o)) : Rep g v (.sl es o') := by
  cases h with
  | sl a len cap b off esz es own V hl hc hn ha he hI hR => exact .sl a len cap b off esz es o' V hl hc hn ha he hI hR

theorem strip_strip (d : D) : d.strip.strip = d.strip := by cases d <;> rfl
theorem Rep.nil {g : Gh} (own : Option Nat) : Rep g (.slice none 0 0) (.sl [] own) :=
  .sl none 0 0 0 0 0 [] _ (fun _ _ => _root_.Go.undef) rfl (Nat.le_refl _) (fun _ => rfl) (fun h => absurd rfl h) (by simp) (by simp) (by simp)
theorem bare_notL (d : D) : d.bare.notL = d.notL := by cases d <;> rfl
theorem Rep.bare {g : Gh} {v : Value} {d : D} (h : Rep g v d) : Rep g v d.bare := by
  cases h with
  | agg vs ds hl hR hp =>
    refine .agg vs _ (by simpa using hl) (fun i v d h1 h2 => ?_) ?_
    · simp only [List.getElem?_map, Option.map_eq_some_iff] at h2
      obtain ⟨d0, h2, rfl⟩ := h2
      exact (hR i v d0 h1 h2).strip
    · rw [List.all_map]
      refine List.all_eq_true.2 fun x hx => ?_
      have := List.all_eq_true.1 hp x hx
      cases x <;> simp_all [D.strip, D.plain]
  | sl a len cap b off esz es own V hl hc hn ha he hI hR => exact .sl a len cap b off esz es own V hl hc hn ha he hI hR
  | _ => constructor <;> assumption
theorem Rep.deep {g : Gh} {v : Value} {d : D} (h : Rep g v d) : Rep g v d.deep := h.bare.strip
theorem Rep.deep_of_strip {g : Gh} {v : Value} {d : D} (h : Rep g v d.strip) : Rep g v d.deep := by
  cases d with
  | agg cs => exact h.deep
  | _ => exact h
theorem deep_strip (d : D) : d.deep.strip = d.deep := by cases d <;> rfl
theorem deep_notL (d : D) : d.deep.notL = d.notL := by cases d <;> rfl
theorem pure1_strip (d : D) : d.strip.pure1 = d.pure1 := by cases d <;> rfl
theorem plain_strip (d : D) : d.strip.plain = d.plain := by cases d <;> rfl
theorem notL_strip (d : D) : d.strip.notL = d.notL := by cases d <;> rfl

theorem Rep.one {g : Gh} {v : Value} {d : D} (h : Rep g v d) (hp : d.plain = true) : v.oneCell' = true := by
  cases h <;> first | rfl | simp [D.plain] at hp

theorem Rep.cells_one {g : Gh} {v : Value} {d : D} (h : Rep g v d) (hp : d.plain = true) : v.cells = #[v] := by
  cases h <;> first | rfl | simp [D.plain] at hp

/-- The cells of a value stand for the cells of the data. -/
theorem Rep.cells {g : Gh} {v : Value} {d : D} (h : Rep g v d) (hp : d.cells.all D.plain = true) : AllRep (Rep g) v.cells.toList d.cells := by
  cases d with
  | agg ds =>
    cases h with
    | agg vs _ hl hR hq =>
      refine ⟨by simpa [D.cells, Value.cells] using hl, fun i v d h1 h2 => ?_⟩
      simp only [D.cells, List.getElem?_map, Option.map_eq_some_iff] at h2
      obtain ⟨d0, h2, rfl⟩ := h2
      exact (hR i v d0 h1 h2).strip
  | _ =>
    have hp' := List.all_eq_true.1 hp _ (List.mem_singleton.2 rfl)
    rw [h.cells_one hp']
    refine ⟨rfl, fun i v' d' h1 h2 => ?_⟩
    cases i with
    | zero => simp [D.cells] at h1 h2; subst h1 h2; exact h
    | succ i => simp [D.cells] at h2

end Go.Abs

/-
  The invariant that ties the interpreter's frame and store to the model's temporaries and memory; what it keeps when memory grows.
-/
namespace Go.Abs
open Go Go.RowKit

def Own (P : Program) (g : Gh) (w : World) (tag : Tag) (v : Value) (d : D) : Prop :=
  ∀ (es : List (List D)) (e : Nat), d = .sl es (some e) → (es = [] ∧ v = .slice none 0 0) ∨ ∃ i xs, P.info? e = some i ∧ 0 < i.size ∧ (∀ x ∈ es, x.length = i.size) ∧ w.ownsRow 0 e i.size v es.length xs ∧
    ∀ b, v.ownBlock = some b → g.ω b = tag ∧ ∀ off, es.length * i.size ≤ off → g.I b off = none

theorem Own.of_strip {P : Program} {g : Gh} {w : World} {tag : Tag} {v : Value} {d : D} : Own P g w tag v d.strip := by
  intro es e h; cases d <;> simp [D.strip] at h

theorem Own.of_ne {P : Program} {g : Gh} {w : World} {tag : Tag} {v : Value} {d : D} (h : d.strip = d) : Own P g w tag v d := by
  rw [← h]; exact .of_strip

def Blk (P : Program) (g : Gh) (w : World) (b sz : Nat) (tag : Nat → Tag) (cs : List D) : Prop :=
  ∃ arr ty, w.heap[b]? = some (.cells arr ty (0, 0)) ∧ arr.size = sz ∧ (∀ off, g.I b off = none) ∧
    ∀ (j : Nat) (d : D), cs[j]? = some d → d.plain = true ∧ ∃ v, arr[j]? = some v ∧ Rep g v d ∧ Own P g w (tag j) v d

theorem raw_len (d : D) : d.raw.length = d.cells.length := by cases d <;> simp [D.raw, D.cells]
theorem raw_plain {d : D} (h : d.cells.all D.plain = true) : d.raw.all D.plain = true := by
  cases d with
  | agg cs =>
    refine List.all_eq_true.2 fun x hx => ?_
    obtain ⟨y, hy, rfl⟩ := List.mem_map.1 (show x ∈ cs.map D.ripe from hx)
    have := List.all_eq_true.1 h y.strip (List.mem_map.2 ⟨y, hy, rfl⟩)
    cases y <;> simp_all [D.ripe, D.strip, D.plain]
  | _ => exact h
theorem Rep.ripe {g : Gh} {v : Value} {d : D} (h : Rep g v d) : Rep g v d.ripe := by
  cases h with
  | nils e => exact Rep.nil _
  | sl a len cap b off esz es own V hl hc hn ha he hI hR => exact .sl a len cap b off esz es none V hl hc hn ha he hI hR
  | _ => constructor <;> assumption
theorem own_ripe {P : Program} {g g0 : Gh} {w : World} {tag : Tag} {v : Value} {d : D} (h : Rep g0 v d) : Own P g w tag v d.ripe := by
  cases h with
  | nils e => exact fun es e' hd => by cases hd; exact .inl ⟨rfl, rfl⟩
  | sl a len cap b off esz es own V hl hc hn ha he hI hR => exact Own.of_strip (d := .sl es own)
  | _ => exact .of_ne rfl
theorem Rep.raws {g : Gh} {v : Value} {d : D} (h : Rep g v d) (hp : d.cells.all D.plain = true) : AllRep (Rep g) v.cells.toList d.raw := by
  cases d with
  | agg ds =>
    cases h with
    | agg vs _ hl hR hq =>
      refine ⟨by simpa [D.raw, Value.cells] using hl, fun i v d h1 h2 => ?_⟩
      simp only [D.raw, List.getElem?_map, Option.map_eq_some_iff] at h2
      obtain ⟨d0, h2, rfl⟩ := h2
      exact (hR i v d0 h1 h2).ripe
  | _ => exact h.cells hp
theorem own_raw {P : Program} {g : Gh} {w : World} {tag : Nat → Tag} {v : Value} {d : D} (h : Rep g v d) (ho : Own P g w (tag 0) v d) (hp : d.cells.all D.plain = true) (j : Nat) (u : Value) (e : D) (hj : v.cells.toList[j]? = some u) (hej : d.raw[j]? = some e) : Own P g w (tag j) u e := by
  cases d with
  | agg ds =>
    cases h with
    | agg vs _ hl hR hq =>
      simp only [D.raw, List.getElem?_map, Option.map_eq_some_iff] at hej
      obtain ⟨d0, h2, rfl⟩ := hej
      exact own_ripe (hR j u d0 (by simpa [Value.cells] using hj) h2)
  | _ =>
    have hj0 : j = 0 := by
      have := (List.getElem?_eq_some_iff.1 hej).1
      simp [D.raw] at this
      exact this
    subst hj0
    simp only [D.raw, List.getElem?_cons_zero, Option.some.injEq] at hej
    subst hej
    have hone : v.cells = #[v] := h.cells_one (by simpa [D.cells] using hp)
    rw [hone] at hj
    simp at hj
    subst hj
    exact ho

theorem own_rawS {P : Program} {g g0 : Gh} {w : World} {tag : Tag} {v : Value} {d : D} (h : Rep g0 v d) (hs : d.strip = d) (j : Nat) (u : Value) (e : D) (hj : v.cells.toList[j]? = some u) (hej : d.raw[j]? = some e) : Own P g w tag u e := by
  cases d with
  | agg ds =>
    cases h with
    | agg vs _ hl hR hq =>
      simp only [D.raw, List.getElem?_map, Option.map_eq_some_iff] at hej
      obtain ⟨d0, h2, rfl⟩ := hej
      exact own_ripe (hR j u d0 (by simpa [Value.cells] using hj) h2)
  | _ =>
    have hj0 : j = 0 := by
      have := (List.getElem?_eq_some_iff.1 hej).1
      simp [D.raw] at this
      exact this
    subst hj0
    simp only [D.raw, List.getElem?_cons_zero, Option.some.injEq] at hej
    subst hej
    exact .of_ne hs
theorem val_strip (fr : Fr) (x : X) : (fr.val x).strip = fr.val x := by cases x <;> exact strip_strip _

def MapRow (g : Gh) (ents : List MapEntry) (es : List (D × D)) : Prop :=
  ents.length = es.length ∧ ∀ (i : Nat) (e : MapEntry) (kd : D × D), ents[i]? = some e → es[i]? = some kd → Rep g e.key kd.1 ∧ Rep g e.val kd.2 ∧ kd.1.notL = true ∧ kd.2.notL = true ∧ kd.2.strip = kd.2

/-- A map's entries, in whatever order. -/
def MapRep (g : Gh) (ents : List MapEntry) (es : List (D × D)) : Prop := ∃ es', es.Perm es' ∧ KeysOK es ∧ MapRow g ents es'
theorem MapRep.len {g : Gh} {ents : List MapEntry} {es : List (D × D)} (h : MapRep g ents es) : ents.length = es.length := by
  obtain ⟨es', h1, _, h2⟩ := h
  rw [h2.1, h1.length_eq]

/-- The stamps of a map's entries. -/
def Born (ents : Array MapEntry) (clock : Nat) : Prop := (∀ e ∈ ents.toList, e.born < clock) ∧ (ents.toList.map (·.born)).Nodup

structure HInv (P : Program) (g : Gh) (w : World) (σ : St) : Prop where
  imm : ∀ (b off : Nat) (v : Value), g.I b off = some v → w.cell? ⟨b, off, none⟩ = some v
  n : g.n = σ.length
  cells : ∀ (o : Nat) (cs : List D), σ[o]? = some (.cells cs) → g.ω (g.μ o) = .obj o ∧ Blk P g w (g.μ o) (g.sz o) (.obuf o) cs
  maps : ∀ (o : Nat) (es : List (D × D)), σ[o]? = some (.map es) → g.ω (g.μ o) = .obj o ∧ ∃ ents clock, w.heap[g.μ o]? = some (.map ents clock) ∧ MapRep g ents.toList es ∧ Born ents clock
  rows : ∀ (o e : Nat) (cs : List D), σ[o]? = some (.cells cs) → σ[o + 1]? = some (.row e) → ∃ arr, w.heap[g.μ o]? = some (.cells arr e (0, 0))

structure SInv (P : Program) (g : Gh) (w : World) (fr : Fr) (tm : Array Value) : Prop where
  size : tm.size = fr.slots.length
  blen : fr.boxes.length = fr.slots.length
  slots : ∀ (t : Nat) (d : D), fr.slots[t]? = some d → ∃ v, tm[t]? = some v ∧ Rep g v d ∧ Own P g w (.sbuf t) v d ∧ ∀ s off, d = .lptr s off → ∃ cs, fr.boxes[s]? = some (some cs)
  boxes : ∀ (t : Nat) (cs : List D), fr.boxes[t]? = some (some cs) → g.ω (g.β t) = .box t ∧ ∃ sz, Blk P g w (g.β t) sz (.bbuf t) cs

/-- The deferred calls of the frame. -/
def DefRep (g : Gh) (ds : List Deferred) (fs : List (D × List D)) : Prop :=
  ds.length = fs.length ∧ ∀ (i : Nat) (d : Deferred) (f : D × List D), ds[i]? = some d → fs[i]? = some f →
    ∃ fn caps, d.target = .fn (.func fn) caps ∧ ∃ cd, f.1 = .func fn cd ∧ Rep g (.func (.func fn) #[] caps) f.1 ∧ AllRep (Rep g) d.args.toList f.2 ∧ f.2.all D.notL = true

/-- .. above what lies below. -/
def DefOK (g : Gh) (ds : List Deferred) (fs : List (D × List D)) : Prop := ∃ l, ds = l ++ g.base ∧ DefRep g l fs

structure Inv (P : Program) (g : Gh) (w : World) (fr : Fr) (σ : St) (a : Act) : Prop where
  h : HInv P g w σ
  s : SInv P g w fr a.tmps
  d : DefOK g a.defers fr.defers

/-- What is claimed of a block with that tag. -/
def claims (fr : Fr) (σ : St) : Tag → Prop
  | .sbuf t => ∃ es e, fr.slots[t]? = some (.sl es (some e))
  | .box t => ∃ cs, fr.boxes[t]? = some (some cs)
  | .bbuf t j => ∃ cs es e, fr.boxes[t]? = some (some cs) ∧ cs[j]? = some (.sl es (some e))
  | .obj o => (∃ cs, σ[o]? = some (.cells cs)) ∨ ∃ es, σ[o]? = some (.map es)
  | .obuf o j => ∃ cs es e, σ[o]? = some (.cells cs) ∧ cs[j]? = some (.sl es (some e))
  | _ => False

structure Keep (g : Gh) (w : World) (g' : Gh) (w' : World) (C : Nat → Prop) : Prop where
  le : g.Le g'
  size : w.heap.size ≤ w'.heap.size
  blk : ∀ b, b < w.heap.size → ¬ C b → w'.heap[b]? = w.heap[b]? ∧ g'.ω b = g.ω b ∧ ∀ off, g'.I b off = g.I b off

theorem lt_of_heap {w : World} {b : Nat} {o : Go.Obj} (h : w.heap[b]? = some o) : b < w.heap.size := (Array.getElem?_eq_some_iff.1 h).1

theorem ownsRow_same {w w' : World} {e sz n : Nat} {v : Value} {xs : List Value} (h : w.ownsRow 0 e sz v n xs)
    (hb : ∀ b, v.ownBlock = some b → b < w.heap.size → w'.heap[b]? = w.heap[b]?) : w'.ownsRow 0 e sz v n xs := by
  refine ⟨h.1, ?_⟩
  rcases h.2 with h2 | ⟨b, cap, cur, rfl, h3, h4, h5⟩
  · exact .inl h2
  · exact .inr ⟨b, cap, cur, rfl, h3, (hb b rfl (lt_of_heap h4)).trans h4, h5⟩

theorem ownsRow_lt {w : World} {e sz n : Nat} {v : Value} {xs : List Value} (h : w.ownsRow 0 e sz v n xs) {b : Nat} (hb : v.ownBlock = some b) : b < w.heap.size := (h.lt b hb).2

section
variable {P : Program} {g g' : Gh} {w w' : World} {C : Nat → Prop}

theorem Own.keep {tag : Tag} {v : Value} {d : D} (h : Own P g w tag v d) (k : Keep g w g' w' C)
    (hC : ∀ b es e, d = .sl es (some e) → C b → g.ω b ≠ tag) : Own P g' w' tag v d := by
  intro es e hd
  rcases h es e hd with h0 | ⟨i, xs, h1, h2, h3, h4, h5⟩
  · exact .inl h0
  refine .inr ?_
  have hn : ∀ b, v.ownBlock = some b → b < w.heap.size ∧ ¬ C b := fun b hb => ⟨ownsRow_lt h4 hb, fun hc => hC b es e hd hc (h5 b hb).1⟩
  refine ⟨i, xs, h1, h2, h3, ownsRow_same h4 (fun b hb hl => (k.blk b hl (hn b hb).2).1), fun b hb => ?_⟩
  obtain ⟨q1, q2, q3⟩ := k.blk b (hn b hb).1 (hn b hb).2
  exact ⟨q2.trans (h5 b hb).1, fun off ho => (q3 off).trans ((h5 b hb).2 off ho)⟩

theorem Blk.keep {b sz : Nat} {tag : Nat → Tag} {cs : List D} (h : Blk P g w b sz tag cs) (k : Keep g w g' w' C) (hb : ¬ C b)
    (hC : ∀ j es e, cs[j]? = some (.sl es (some e)) → ∀ b, C b → g.ω b ≠ tag j) : Blk P g' w' b sz tag cs := by
  obtain ⟨arr, ty, h1, h2, h3, h4⟩ := h
  obtain ⟨q1, _, q3⟩ := k.blk b (lt_of_heap h1) hb
  refine ⟨arr, ty, q1.trans h1, h2, fun off => (q3 off).trans (h3 off), fun j d hd => ?_⟩
  obtain ⟨hp, v, hv, hr, ho⟩ := h4 j d hd
  exact ⟨hp, v, hv, hr.mono k.le (fun t off e => by subst e; simp [D.plain] at hp), ho.keep k (fun b' es e hde => by subst hde; exact hC j es e hd b')⟩

theorem MapRow.mono {ents : List MapEntry} {es : List (D × D)} (h : MapRow g ents es) (k : g.Le g') : MapRow g' ents es :=
  ⟨h.1, fun i e kd h1 h2 => by
    obtain ⟨a, b, c, d, x⟩ := h.2 i e kd h1 h2
    exact ⟨a.mono k (fun t off q => by rw [q] at c; simp [D.notL] at c), b.mono k (fun t off q => by rw [q] at d; simp [D.notL] at d), c, d, x⟩⟩

theorem MapRep.mono {ents : List MapEntry} {es : List (D × D)} (h : MapRep g ents es) (k : g.Le g') : MapRep g' ents es := by
  obtain ⟨es', h1, h2, h3⟩ := h
  exact ⟨es', h1, h2, h3.mono k⟩

theorem DefRep.mono {ds : List Deferred} {fs : List (D × List D)} (h : DefRep g ds fs) (k : g.Le g') : DefRep g' ds fs :=
  ⟨h.1, fun i d f h1 h2 => by
    obtain ⟨fn, caps, a, cd, b, c, e, x⟩ := h.2 i d f h1 h2
    refine ⟨fn, caps, a, cd, b, c.mono k (fun t off q => by rw [b] at q; cases q), ⟨e.1, fun i v d q1 q2 => (e.2 i v d q1 q2).mono k (fun t off q => by rw [q] at q2; have := all_get x q2; simp [D.notL] at this)⟩, x⟩⟩

theorem DefOK.mono {ds : List Deferred} {fs : List (D × List D)} (h : DefOK g ds fs) (k : g.Le g') (hb : g'.base = g.base := by rfl) : DefOK g' ds fs := by
  obtain ⟨l, h1, h2⟩ := h
  exact ⟨l, by rw [hb]; exact h1, h2.mono k⟩

theorem HInv.cells_keep {σ : St} (h : HInv P g w σ) (k : Keep g w g' w' C) {fr : Fr} (hC : ∀ b, C b → ¬ claims fr σ (g.ω b)) (o : Nat) (cs : List D) (ho : σ[o]? = some (.cells cs)) :
    g'.ω (g'.μ o) = .obj o ∧ Blk P g' w' (g'.μ o) (g'.sz o) (.obuf o) cs := by
  obtain ⟨h1, h2⟩ := h.cells o cs ho
  have hlt : o < g.n := by rw [h.n]; exact (List.getElem?_eq_some_iff.1 ho).1
  have hnc : ¬ C (g.μ o) := fun hc => hC _ hc (by rw [h1]; exact .inl ⟨cs, ho⟩)
  have hb : g.μ o < w.heap.size := by obtain ⟨arr, ty, q, _⟩ := h2; exact lt_of_heap q
  rw [k.le.μ o hlt, k.le.sz o hlt]
  refine ⟨(k.blk _ hb hnc).2.1.trans h1, h2.keep k hnc (fun j es e hj b hc he => hC b hc (by rw [he]; exact ⟨cs, es, e, ho, hj⟩))⟩

theorem HInv.maps_keep {σ : St} (h : HInv P g w σ) (k : Keep g w g' w' C) {fr : Fr} (hC : ∀ b, C b → ¬ claims fr σ (g.ω b)) (o : Nat) (es : List (D × D)) (ho : σ[o]? = some (.map es)) :
    g'.ω (g'.μ o) = .obj o ∧ ∃ ents clock, w'.heap[g'.μ o]? = some (.map ents clock) ∧ MapRep g' ents.toList es ∧ Born ents clock := by
  obtain ⟨h1, ents, clock, h2, h3, h4⟩ := h.maps o es ho
  have hlt : o < g.n := by rw [h.n]; exact (List.getElem?_eq_some_iff.1 ho).1
  have hnc : ¬ C (g.μ o) := fun hc => hC _ hc (by rw [h1]; exact .inr ⟨es, ho⟩)
  rw [k.le.μ o hlt]
  obtain ⟨q1, q2, _⟩ := k.blk _ (lt_of_heap h2) hnc
  exact ⟨q2.trans h1, ents, clock, q1.trans h2, h3.mono k.le, h4⟩

theorem HInv.rows_keep {σ : St} (h : HInv P g w σ) (k : Keep g w g' w' C) {fr : Fr} (hC : ∀ b, C b → ¬ claims fr σ (g.ω b)) (o e : Nat) (cs : List D) (ho : σ[o]? = some (.cells cs)) (hr : σ[o + 1]? = some (.row e)) :
    ∃ arr, w'.heap[g'.μ o]? = some (.cells arr e (0, 0)) := by
  obtain ⟨h1, _⟩ := h.cells o cs ho
  obtain ⟨arr, h2⟩ := h.rows o e cs ho hr
  have hlt : o < g.n := by rw [h.n]; exact (List.getElem?_eq_some_iff.1 ho).1
  have hnc : ¬ C (g.μ o) := fun hc => hC _ hc (by rw [h1]; exact .inl ⟨cs, ho⟩)
  rw [k.le.μ o hlt]
  exact ⟨arr, (k.blk _ (lt_of_heap h2) hnc).1.trans h2⟩
/-- One object more that is no mark. -/
theorem rows_snoc {σ : St} {ob : Obj} {Q : Nat → Nat → List D → Prop} (hob : ∀ e, ob ≠ .row e) (h : ∀ (o e : Nat) (cs : List D), σ[o]? = some (.cells cs) → σ[o + 1]? = some (.row e) → Q o e cs) (o e : Nat) (cs : List D)
    (h1 : (σ ++ [ob])[o]? = some (.cells cs)) (h2 : (σ ++ [ob])[o + 1]? = some (.row e)) : Q o e cs := by
  have hlt : o + 1 < (σ ++ [ob]).length := (List.getElem?_eq_some_iff.1 h2).1
  simp only [List.length_append, List.length_cons, List.length_nil] at hlt
  rw [List.getElem?_append_left (by omega)] at h1
  by_cases hl : o + 1 < σ.length
  · rw [List.getElem?_append_left hl] at h2
    exact h o e cs h1 h2
  · rw [List.getElem?_append_right (by omega)] at h2
    have : o + 1 - σ.length = 0 := by omega
    rw [this] at h2
    simp at h2
    exact absurd h2 (hob e)
/-- One object is another one now. -/
theorem rows_set {σ : St} {k : Nat} {ob : Obj} {Q : Nat → Nat → Prop} (hob : ∀ e, ob ≠ .row e) (hk : ∀ cs, ob = .cells cs → ∃ cs', σ[k]? = some (.cells cs')) (h : ∀ (o e : Nat) (cs : List D), σ[o]? = some (.cells cs) → σ[o + 1]? = some (.row e) → Q o e) (o e : Nat) (cs : List D)
    (h1 : (σ.set k ob)[o]? = some (.cells cs)) (h2 : (σ.set k ob)[o + 1]? = some (.row e)) : Q o e := by
  rw [List.getElem?_set] at h1 h2
  have h2' : σ[o + 1]? = some (.row e) := by
    by_cases hq : k = o + 1
    · rw [if_pos hq] at h2
      split at h2
      · simp only [Option.some.injEq] at h2
        exact absurd h2 (hob e)
      · cases h2
    · rwa [if_neg hq] at h2
  by_cases hq : k = o
  · rw [if_pos hq] at h1
    split at h1
    · simp only [Option.some.injEq] at h1
      obtain ⟨cs', hc⟩ := hk cs h1
      rw [hq] at hc
      exact h o e cs' hc h2'
    · cases h1
  · rw [if_neg hq] at h1
    exact h o e cs h1 h2'

theorem SInv.keep {fr : Fr} {σ : St} {tm : Array Value} (s : SInv P g w fr tm) (k : Keep g w g' w' C) (hC : ∀ b, C b → ¬ claims fr σ (g.ω b)) (hβ : ∀ t cs, fr.boxes[t]? = some (some cs) → g'.β t = g.β t) : SInv P g' w' fr tm := by
  refine ⟨s.size, s.blen, fun t d hd => ?_, fun t cs hb => ?_⟩
  · obtain ⟨v, h1, h2, h3, h4⟩ := s.slots t d hd
    exact ⟨v, h1, h2.mono k.le (fun t off e => by obtain ⟨cs, hb⟩ := h4 t off e; exact hβ t cs hb), h3.keep k (fun b es e hde hc he => hC b hc (by rw [he]; subst hde; exact ⟨es, e, hd⟩)), h4⟩
  · obtain ⟨h1, sz, h2⟩ := s.boxes t cs hb
    have hnc : ¬ C (g.β t) := fun hc => hC _ hc (by rw [h1]; exact ⟨cs, hb⟩)
    have hlt : g.β t < w.heap.size := by obtain ⟨arr, ty, q, _⟩ := h2; exact lt_of_heap q
    rw [hβ t cs hb]
    exact ⟨(k.blk _ hlt hnc).2.1.trans h1, sz, h2.keep k hnc (fun j es e hj b hc he => hC b hc (by rw [he]; exact ⟨cs, es, e, hb, hj⟩))⟩

theorem Inv.keep {fr : Fr} {σ : St} {a : Act} (i : Inv P g w fr σ a) (k : Keep g w g' w' C) (hC : ∀ b, C b → ¬ claims fr σ (g.ω b)) (hβ : ∀ t cs, fr.boxes[t]? = some (some cs) → g'.β t = g.β t)
    (himm : ∀ (b off : Nat) (v : Value), g'.I b off = some v → w'.cell? ⟨b, off, none⟩ = some v) (hn : g'.n = g.n) (hbase : g'.base = g.base := by rfl) : Inv P g' w' fr σ a :=
  ⟨⟨himm, hn.trans i.h.n, i.h.cells_keep k hC, i.h.maps_keep k hC, i.h.rows_keep k hC⟩, i.s.keep k hC hβ, i.d.mono k.le hbase⟩

end

/-- From one moment of a call to a later one: what isn't the call's own is as it was. -/
structure Ext (g : Gh) (w : World) (g' : Gh) (w' : World) : Prop where
  le : g.Le g'
  os : w'.os = w.os
  tape : w'.tape = w.tape
  output : w'.output = w.output
  size : w.heap.size ≤ w'.heap.size
  blk : ∀ b, b < w.heap.size → (g.ω b).mine = false → w'.heap[b]? = w.heap[b]? ∧ g'.ω b = g.ω b
  new : ∀ (b off : Nat) (v : Value), g'.I b off = some v → g.I b off = some v ∨ w.heap.size ≤ b ∨ (g.ω b).mine = true
  base : g'.base = g.base

theorem Ext.refl (g : Gh) (w : World) : Ext g w g w := ⟨.refl g, rfl, rfl, rfl, Nat.le_refl _, fun _ _ _ => ⟨rfl, rfl⟩, fun _ _ _ h => .inl h, rfl⟩

theorem Ext.trans {g g1 g2 : Gh} {w w1 w2 : World} (h : Ext g w g1 w1) (k : Ext g1 w1 g2 w2) : Ext g w g2 w2 := by
  refine ⟨h.le.trans k.le, k.os.trans h.os, k.tape.trans h.tape, k.output.trans h.output, Nat.le_trans h.size k.size, fun b hb hm => ?_, fun b off v hv => ?_, k.base.trans h.base⟩
  · obtain ⟨h1, h2⟩ := h.blk b hb hm
    obtain ⟨k1, k2⟩ := k.blk b (Nat.lt_of_lt_of_le hb h.size) (by rw [h2]; exact hm)
    exact ⟨k1.trans h1, k2.trans h2⟩
  · rcases k.new b off v hv with h1 | h1 | h1
    · exact h.new b off v h1
    · exact .inr (.inl (Nat.le_trans h.size h1))
    · rcases Nat.lt_or_ge b w.heap.size with hb | hb
      · by_cases hm : (g.ω b).mine = true
        · exact .inr (.inr hm)
        · have := (h.blk b hb (by simpa using hm)).2
          rw [this] at h1
          exact absurd h1 hm
      · exact .inr (.inl hb)

/-- One step: what is changed is the call's own. -/
theorem Ext.of_keep {g g' : Gh} {w w' : World} {C : Nat → Prop} (k : Keep g w g' w' C) (hm : ∀ b, C b → b < w.heap.size → (g.ω b).mine = true)
    (os : w'.os = w.os) (tape : w'.tape = w.tape) (output : w'.output = w.output) (base : g'.base = g.base := by rfl) : Ext g w g' w' := by
  refine ⟨k.le, os, tape, output, k.size, fun b hb hmn => ?_, fun b off v hv => ?_, base⟩
  · obtain ⟨h1, h2, _⟩ := k.blk b hb (fun hc => by rw [hm b hc hb] at hmn; cases hmn)
    exact ⟨h1, h2⟩
  · rcases Nat.lt_or_ge b w.heap.size with hb | hb
    · by_cases hc : C b
      · exact .inr (.inr (hm b hc hb))
      · exact .inl ((k.blk b hb hc).2.2 off ▸ hv)
    · exact .inr (.inl hb)

end Go.Abs
