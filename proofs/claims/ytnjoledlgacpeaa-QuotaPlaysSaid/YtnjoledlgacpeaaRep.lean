import Derived.Test.YtnjoledlgacpeaaSem
import Derived.Laws.AppendOwn
import Derived.Laws.OwnMore
import Derived.Laws.Sem
import Derived.Laws.World
import Derived.Below
set_option linter.unusedVariables false
set_option linter.unusedSimpArgs false
/-
  What a value of the model stands for: the relation between values and the interpreter's data, and what it keeps when memory grows.
-/
namespace Go.Abs
open Go Go.RowKit

inductive Tag where
  | free | other | hand
  | obj (o : Nat)
  | box (t : Nat)
  | sbuf (t : Nat)
  | bbuf (t j : Nat)
  | obuf (o j : Nat)
  deriving DecidableEq

/-- Whose a block is: this call's to write, or not. -/
def Tag.mine : Tag → Bool
  | .free | .other => false
  | _ => true

structure Gh where
  I : Nat → Nat → Option Value
  n : Nat
  μ : Nat → Nat
  sz : Nat → Nat
  β : Nat → Nat
  ω : Nat → Tag
  /-- the deferred calls that lie below this frame's own -/
  base : List Deferred := []

/-- A list of values stands for a list of data, one by one. -/
def AllRep (R : Value → D → Prop) (vs : List Value) (ds : List D) : Prop :=
  vs.length = ds.length ∧ ∀ (i : Nat) (v : Value) (d : D), vs[i]? = some v → ds[i]? = some d → R v d

inductive Rep (g : Gh) : Value → D → Prop
  | junk (v : Value) : Rep g v .junk
  | undef : Rep g _root_.Go.undef .undef
  | nils (e : Nat) : Rep g (.slice none 0 0) (.nils e)
  | bool (b : Bool) : Rep g (.bool b) (.bool b)
  | int (k : IntKind) (n : Int) : Rep g (.int k n) (.int k n)
  | str (s : ByteArray) : Rep g (.string s) (.str s.data.toList)
  | nilp : Rep g (.pointer none) .nilp
  | nilm : Rep g (.map none) .nilm
  | nilf : Rep g .nilFunc .nilf
  | val (v : Value) : Rep g v (.val v)
  | ptr (o off : Nat) (h : o < g.n) : Rep g (.pointer (some ⟨g.μ o, off, none⟩)) (.ptr o off)
  | lptr (t off : Nat) : Rep g (.pointer (some ⟨g.β t, off, none⟩)) (.lptr t off)
  | ref (b off : Nat) (cs : List D) (V : Nat → Value) (hI : ∀ (i : Nat) (d : D), cs[i]? = some d → g.I b (off + i) = some (V i))
      (hR : ∀ (i : Nat) (d : D), cs[i]? = some d → Rep g (V i) d) (hp : cs.all D.pure1 = true) : Rep g (.pointer (some ⟨b, off, none⟩)) (.ref cs)
  | sl (a : Option Addr) (len cap b off esz : Nat) (es : List (List D)) (own : Option Nat) (V : Nat → Nat → Value) (hl : len = es.length)
      (hc : len ≤ cap) (hn : a = none → cap = 0) (ha : es ≠ [] → a = some ⟨b, off, none⟩) (he : ∀ e ∈ es, e.length = esz ∧ e.all D.pure1 = true)
      (hI : ∀ (i : Nat) (e : List D) (j : Nat) (d : D), es[i]? = some e → e[j]? = some d → g.I b (off + i * esz + j) = some (V i j))
      (hR : ∀ (i : Nat) (e : List D) (j : Nat) (d : D), es[i]? = some e → e[j]? = some d → Rep g (V i j) d) : Rep g (.slice a len cap) (.sl es own)
  | msl (o off n esz cap : Nat) (h : o < g.n) (hc : n ≤ cap) (hs : off + cap * esz ≤ g.sz o) : Rep g (.slice (some ⟨g.μ o, off, none⟩) n cap) (.msl o off n esz)
  | map (o : Nat) (h : o < g.n) : Rep g (.map (some (g.μ o))) (.map o)
  | func (f : Nat) (vs : Array Value) (ds : List D) (hl : vs.toList.length = ds.length)
      (hR : ∀ (i : Nat) (v : Value) (d : D), vs.toList[i]? = some v → ds[i]? = some d → Rep g v d) (hp : ds.all D.notL = true) : Rep g (.func (.func f) #[] vs) (.func f ds)
  | agg (vs : Array Value) (ds : List D) (hl : vs.toList.length = ds.length)
      (hR : ∀ (i : Nat) (v : Value) (d : D), vs.toList[i]? = some v → ds[i]? = some d → Rep g v d) (hp : ds.all D.plain = true) : Rep g (.agg vs) (.agg ds)
  | tup (vs : Array Value) (ds : List D) (hl : vs.toList.length = ds.length)
      (hR : ∀ (i : Nat) (v : Value) (d : D), vs.toList[i]? = some v → ds[i]? = some d → Rep g v d) (hp : ds.all D.notL = true) : Rep g (.tuple vs) (.tup ds)

theorem notL_of_pure1 {d : D} (h : d.pure1 = true) : d.notL = true := by cases d <;> simp_all [D.pure1, D.notL]
theorem notL_of_plain {d : D} (h : d.plain = true) : d.notL = true := by cases d <;> simp_all [D.plain, D.notL]
theorem plain_of_pure1 {d : D} (h : d.pure1 = true) : d.plain = true := by cases d <;> simp_all [D.pure1, D.plain]

theorem all_get {p : D → Bool} {ds : List D} (h : ds.all p = true) {i : Nat} {d : D} (hd : ds[i]? = some d) : p d = true :=
  List.all_eq_true.1 h d (List.mem_of_getElem? hd)

/-- What grows. -/
structure Gh.Le (g g' : Gh) : Prop where
  I : ∀ (b off : Nat) (v : Value), g.I b off = some v → g'.I b off = some v
  n : g.n ≤ g'.n
  μ : ∀ o, o < g.n → g'.μ o = g.μ o
  sz : ∀ o, o < g.n → g'.sz o = g.sz o

theorem Gh.Le.refl (g : Gh) : g.Le g := ⟨fun _ _ _ h => h, Nat.le_refl _, fun _ _ => rfl, fun _ _ => rfl⟩
theorem Gh.Le.trans {a b c : Gh} (h : a.Le b) (k : b.Le c) : a.Le c :=
  ⟨fun _ _ _ x => k.I _ _ _ (h.I _ _ _ x), Nat.le_trans h.n k.n, fun o ho => (k.μ o (Nat.lt_of_lt_of_le ho h.n)).trans (h.μ o ho), fun o ho => (k.sz o (Nat.lt_of_lt_of_le ho h.n)).trans (h.sz o ho)⟩

theorem Rep.mono {g g' : Gh} (hg : g.Le g') {v : Value} {d : D} (h : Rep g v d) : (∀ t off, d = .lptr t off → g'.β t = g.β t) → Rep g' v d := by
  induction h with
  | junk v => exact fun _ => .junk v
  | undef => exact fun _ => .undef
  | nils e => exact fun _ => .nils e
  | bool b => exact fun _ => .bool b
  | int k n => exact fun _ => .int k n
  | str s => exact fun _ => .str s
  | nilp => exact fun _ => .nilp
  | nilm => exact fun _ => .nilm
  | nilf => exact fun _ => .nilf
  | val v => exact fun _ => .val v
  | ptr o off h => intro _; rw [← hg.μ o h]; exact .ptr o off (Nat.lt_of_lt_of_le h hg.n)
  | lptr t off => intro hb; rw [← hb t off rfl]; exact .lptr t off
  | ref b off cs V hI hR hp ih =>
    exact fun _ => .ref b off cs V (fun i d hd => hg.I _ _ _ (hI i d hd)) (fun i d hd => ih i d hd (fun t off e => by subst e; exact absurd (notL_of_pure1 (all_get hp hd)) (by simp [D.notL]))) hp
  | sl a len cap b off esz es own V hl hc hn ha he hI hR ih =>
    exact fun _ => .sl a len cap b off esz es own V hl hc hn ha he (fun i e j d h1 h2 => hg.I _ _ _ (hI i e j d h1 h2))
      (fun i e j d h1 h2 => ih i e j d h1 h2 (fun t off x => by subst x; exact absurd (notL_of_pure1 (all_get (he e (List.mem_of_getElem? h1)).2 h2)) (by simp [D.notL])))
  | msl o off n esz cap h hc hs => intro _; rw [← hg.μ o h]; exact .msl o off n esz cap (Nat.lt_of_lt_of_le h hg.n) hc (by rw [hg.sz o h]; exact hs)
  | map o h => intro _; rw [← hg.μ o h]; exact .map o (Nat.lt_of_lt_of_le h hg.n)
  | func f vs ds hl hR hp ih =>
    exact fun _ => .func f vs ds hl (fun i v d h1 h2 => ih i v d h1 h2 (fun t off e => by subst e; exact absurd (all_get hp h2) (by simp [D.notL]))) hp
  | agg vs ds hl hR hp ih =>
    exact fun _ => .agg vs ds hl (fun i v d h1 h2 => ih i v d h1 h2 (fun t off e => by subst e; exact absurd (all_get hp h2) (by simp [D.plain]))) hp
  | tup vs ds hl hR hp ih =>
    exact fun _ => .tup vs ds hl (fun i v d h1 h2 => ih i v d h1 h2 (fun t off e => by subst e; exact absurd (all_get hp h2) (by simp [D.notL]))) hp

/-- Data that hold nothing but their content. -/
def pureD : D → Bool
  | .agg cs => cs.all D.pure1
  | .tup vs => vs.all fun | .agg cs => cs.all D.pure1 | d => d.pure1
  | d => d.pure1

theorem Rep.out1 {g g' : Gh} (hI : ∀ (b off : Nat) (v : Value), g.I b off = some v → g'.I b off = some v) {v : Value} {d : D} (h : Rep g v d) : d.pure1 = true → Rep g' v d := by
  induction h with
  | junk v => exact fun _ => .junk v
  | undef => exact fun _ => .undef
  | nils e => exact fun _ => .nils e
  | bool b => exact fun _ => .bool b
  | int k n => exact fun _ => .int k n
  | str s => exact fun _ => .str s
  | nilp => exact fun _ => .nilp
  | nilm => exact fun _ => .nilm
  | nilf => exact fun _ => .nilf
  | val v => exact fun _ => .val v
  | ptr o off h => intro hp; simp [D.pure1] at hp
  | lptr t off => intro hp; simp [D.pure1] at hp
  | ref b off cs V hI' hR hp ih => exact fun _ => .ref b off cs V (fun i d hd => hI _ _ _ (hI' i d hd)) (fun i d hd => ih i d hd (all_get hp hd)) hp
  | sl a len cap b off esz es own V hl hc hn ha he hI' hR ih =>
    exact fun _ => .sl a len cap b off esz es own V hl hc hn ha he (fun i e j d h1 h2 => hI _ _ _ (hI' i e j d h1 h2))
      (fun i e j d h1 h2 => ih i e j d h1 h2 (all_get (he e (List.mem_of_getElem? h1)).2 h2))
  | msl o off n esz cap h hc hs => intro hp; simp [D.pure1] at hp
  | map o h => intro hp; simp [D.pure1] at hp
  | func f vs ds hl hR hp ih =>
    intro hq
    cases ds with
    | nil => exact .func f vs [] hl (fun i v d _ h2 => by simp at h2) rfl
    | cons a b => simp [D.pure1] at hq
  | agg vs ds hl hR hp ih => intro hq; simp [D.pure1] at hq
  | tup vs ds hl hR hp ih => intro hq; simp [D.pure1] at hq

theorem Rep.outA {g g' : Gh} (hI : ∀ (b off : Nat) (v : Value), g.I b off = some v → g'.I b off = some v) {v : Value} {cs : List D} (h : Rep g v (.agg cs)) (hp : cs.all D.pure1 = true) : Rep g' v (.agg cs) := by
  cases h with
  | agg vs _ hl hR hq => exact .agg vs cs hl (fun i v d h1 h2 => (hR i v d h1 h2).out1 hI (all_get hp h2)) hq

theorem Rep.out {g g' : Gh} (hI : ∀ (b off : Nat) (v : Value), g.I b off = some v → g'.I b off = some v) {v : Value} {d : D} (h : Rep g v d) (hp : pureD d = true) : Rep g' v d := by
  cases d with
  | agg cs => exact h.outA hI hp
  | tup ds =>
    cases h with
    | tup vs _ hl hR hq =>
      refine .tup vs ds hl (fun i v d h1 h2 => ?_) hq
      have hd := List.all_eq_true.1 hp d (List.mem_of_getElem? h2)
      cases d with
      | agg cs => exact (hR i v _ h1 h2).outA hI hd
      | _ => exact (hR i v _ h1 h2).out1 hI hd
  | _ => exact h.out1 hI hp

theorem Rep.strip {g : Gh} {v : Value} {d : D} (h : Rep g v d) : Rep g v d.strip := by
  cases h with
  | sl a len cap b off esz es own V hl hc hn ha he hI hR => exact .sl a len cap b off esz es none V hl hc hn ha he hI hR
  | nils e => exact .sl none 0 0 0 0 0 [] _ (fun _ _ => _root_.Go.undef) rfl (Nat.le_refl _) (fun _ => rfl) (fun h => absurd rfl h) (by simp) (by simp) (by simp)
  | _ => constructor <;> assumption

theorem Rep.unstrip {g : Gh} {v : Value} {es : List (List D)} {o : Option Nat} (o' : Option Nat) (h : Rep g v (.sl es o)) : Rep g v (.sl es o') := by
  cases h with
  | sl a len cap b off esz es own V hl hc hn ha he hI hR => exact .sl a len cap b off esz es o' V hl hc hn ha he hI hR

theorem strip_strip (d : D) : d.strip.strip = d.strip := by cases d <;> rfl
theorem Rep.nil {g : Gh} (own : Option Nat) : Rep g (.slice none 0 0) (.sl [] own) :=
  .sl none 0 0 0 0 0 [] _ (fun _ _ => _root_.Go.undef) rfl (Nat.le_refl _) (fun _ => rfl) (fun h => absurd rfl h) (by simp) (by simp) (by simp)
theorem bare_notL (d : D) : d.bare.notL = d.notL := by cases d <;> rfl
theorem Rep.bare {g : Gh} {v : Value} {d : D} (h : Rep g v d) : Rep g v d.bare := by
  cases h with
  | agg vs ds hl hR hp =>
    refine .agg vs _ (by simpa using hl) (fun i v d h1 h2 => ?_) ?_
    · simp only [List.getElem?_map, Option.map_eq_some_iff] at h2
      obtain ⟨d0, h2, rfl⟩ := h2
      exact (hR i v d0 h1 h2).strip
    · rw [List.all_map]
      refine List.all_eq_true.2 fun x hx => ?_
      have := List.all_eq_true.1 hp x hx
      cases x <;> simp_all [D.strip, D.plain]
  | sl a len cap b off esz es own V hl hc hn ha he hI hR => exact .sl a len cap b off esz es own V hl hc hn ha he hI hR
  | _ => constructor <;> assumption
theorem Rep.deep {g : Gh} {v : Value} {d : D} (h : Rep g v d) : Rep g v d.deep := h.bare.strip
theorem Rep.deep_of_strip {g : Gh} {v : Value} {d : D} (h : Rep g v d.strip) : Rep g v d.deep := by
  cases d with
  | agg cs => exact h.deep
  | _ => exact h
theorem deep_strip (d : D) : d.deep.strip = d.deep := by cases d <;> rfl
theorem deep_notL (d : D) : d.deep.notL = d.notL := by cases d <;> rfl
theorem pure1_strip (d : D) : d.strip.pure1 = d.pure1 := by cases d <;> rfl
theorem plain_strip (d : D) : d.strip.plain = d.plain := by cases d <;> rfl
theorem notL_strip (d : D) : d.strip.notL = d.notL := by cases d <;> rfl

theorem Rep.one {g : Gh} {v : Value} {d : D} (h : Rep g v d) (hp : d.plain = true) : v.oneCell' = true := by
  cases h <;> first | rfl | simp [D.plain] at hp

theorem Rep.cells_one {g : Gh} {v : Value} {d : D} (h : Rep g v d) (hp : d.plain = true) : v.cells = #[v] := by
  cases h <;> first | rfl | simp [D.plain] at hp

/-- The cells of a value stand for the cells of the data. -/
theorem Rep.cells {g : Gh} {v : Value} {d : D} (h : Rep g v d) (hp : d.cells.all D.plain = true) : AllRep (Rep g) v.cells.toList d.cells := by
  cases d with
  | agg ds =>
    cases h with
    | agg vs _ hl hR hq =>
      refine ⟨by simpa [D.cells, Value.cells] using hl, fun i v d h1 h2 => ?_⟩
      simp only [D.cells, List.getElem?_map, Option.map_eq_some_iff] at h2
      obtain ⟨d0, h2, rfl⟩ := h2
      exact (hR i v d0 h1 h2).strip
  | _ =>
    have hp' := List.all_eq_true.1 hp _ (List.mem_singleton.2 rfl)
    rw [h.cells_one hp']
    refine ⟨rfl, fun i v' d' h1 h2 => ?_⟩
    cases i with
    | zero => simp [D.cells] at h1 h2; subst h1 h2; exact h
    | succ i => simp [D.cells] at h2

end Go.Abs
