/-
  Operations that leave the memory as it is: what the interpreter says of them, the model does.
-/
import Derived.Test.YtjmhfliaehhijaaInv
import Derived.Test.YtjmhfliaehhijaaCompile
import Derived.Laws.Entries
import Derived.Laws.Bits
import Derived.Laws.Strings
import Derived.Tactics2
set_option linter.unusedVariables false
set_option linter.unusedSimpArgs false
namespace Go.Abs
open Go Go.RowKit

section
variable {P : Program} {g : Gh} {w : World} {fr : Fr} {σ : St} {a : Act}

theorem wp_value {o : Oper} {v : Value} {w' : World} {next : Act → World → Prop} {Q : Exit → Act → World → Prop}
    (hr : (execOp a.eval o).run P w = .ok (.value v) w') (h : next (a.put o.dst v) w') : o.wp P a w next Q := by
  unfold Oper.wp; rw [hr]; exact h

theorem wp_skipOp {o : Oper} {w' : World} {next : Act → World → Prop} {Q : Exit → Act → World → Prop}
    (hr : (execOp a.eval o).run P w = .ok .skip w') (h : next (a.put o.dst undef) w') : o.wp P a w next Q := by
  unfold Oper.wp; rw [hr]; exact h

theorem list_set_get {α : Type} (l : List α) (t i : Nat) (x : α) : (l.set t x)[i]? = if i = t ∧ t < l.length then some x else l[i]? := by
  rw [List.getElem?_set]
  by_cases h : t = i
  · subst h
    by_cases hl : t < l.length
    · simp [hl]
    · simp [hl]
  · simp [h, Ne.symm h]

theorem Inv.put (i : Inv P g w fr σ a) (dst : Option Nat) {v : Value} {d : D} (hr : Rep g v d) (ho : ∀ t, dst = some t → Own P g w (.sbuf t) v d)
    (hl : ∀ s off, d = .lptr s off → ∃ cs, fr.boxes[s]? = some (some cs)) : Inv P g w (fr.put dst d) σ (a.put dst v) := by
  cases dst with
  | none => exact i
  | some t =>
    refine ⟨i.h, ⟨by simp [Act.put, Fr.put, Fr.set, i.s.size], by simp [Fr.put, Fr.set, i.s.blen], fun k e hk => ?_, i.s.boxes⟩, i.d⟩
    simp only [Fr.put, Fr.set] at hk
    rw [list_set_get] at hk
    simp only [Act.put]
    by_cases hc : k = t ∧ t < fr.slots.length
    · rw [if_pos hc] at hk
      obtain ⟨rfl, hlt⟩ := hc
      cases hk
      exact ⟨v, by simp [i.s.size, hlt], hr, ho k rfl, hl⟩
    · rw [if_neg hc] at hk
      obtain ⟨v', h1, h2, h3, h4⟩ := i.s.slots k e hk
      refine ⟨v', ?_, h2, h3, h4⟩
      have hne : t ≠ k := fun h => hc ⟨h.symm, by subst h; exact (List.getElem?_eq_some_iff.1 hk).1⟩
      rw [Array.getElem?_setIfInBounds_ne hne]
      exact h1

theorem at_cases (fr : Fr) (t : Nat) : (fr.slots[t]? = some (fr.at t)) ∨ (fr.slots.length ≤ t ∧ fr.at t = .junk) := by
  unfold Fr.at
  rcases Nat.lt_or_ge t fr.slots.length with h | h
  · left; simp [List.getD, List.getElem?_eq_getElem h]
  · right; exact ⟨h, by simp [List.getD, List.getElem?_eq_none h]⟩

theorem constD_rep {v : Value} {d : D} (h : constD v = some d) : Rep g v d ∧ d.strip = d ∧ d.notL = true := by
  unfold constD at h
  split at h <;> first | (cases h) | skip
  · exact ⟨.bool _, rfl, rfl⟩
  · exact ⟨.int _ _, rfl, rfl⟩
  · exact ⟨.str _, rfl, rfl⟩
  · exact ⟨.nilp, rfl, rfl⟩
  · exact ⟨.sl none 0 0 0 0 0 [] none (fun _ _ => undef) rfl (Nat.le_refl _) (fun _ => rfl) (fun h => absurd rfl h) (by simp) (by simp) (by simp), rfl, rfl⟩
  · split at h
    · rename_i hc
      cases h
      simp only [Bool.and_eq_true, Array.isEmpty_iff] at hc
      obtain ⟨rfl, rfl⟩ := hc
      exact ⟨.func _ _ _ rfl (by simp) rfl, rfl, rfl⟩
    · cases h

theorem val_ok (s : SInv P g w fr a.tmps) {x : Operand} {X : X} (hc : compX x = some X) :
    Rep g (a.eval x) (fr.val X) ∧ (fr.val X).strip = fr.val X ∧ ∀ s off, fr.val X = .lptr s off → ∃ cs, fr.boxes[s]? = some (some cs) := by
  cases x with
  | tmp t =>
    simp only [compX, Option.some.injEq] at hc
    subst hc
    simp only [Fr.val, Act.eval]
    rcases at_cases fr t with h | ⟨h, hj⟩
    · obtain ⟨v, h1, h2, h3, h4⟩ := s.slots t _ h
      refine ⟨?_, strip_strip _, fun q off e => h4 q off ?_⟩
      · rw [show a.tmps.getD t undef = v by simp [h1]]
        exact h2.strip
      · revert e; cases fr.at t <;> simp [D.strip]
    · rw [hj]
      exact ⟨.junk _, rfl, fun q off e => by cases e⟩
  | const v =>
    simp only [compX, Option.map_eq_some_iff] at hc
    obtain ⟨d, hd, rfl⟩ := hc
    obtain ⟨h1, h2, h3⟩ := constD_rep (g := g) hd
    simp only [Fr.val, Act.eval, h2]
    exact ⟨h1, trivial, fun q off e => by subst e; simp [D.notL] at h3⟩
  | func f =>
    simp only [compX, Option.some.injEq] at hc
    subst hc
    exact ⟨.func _ _ _ rfl (by simp) rfl, rfl, fun q off e => by cases e⟩
  | global n => simp [compX] at hc

/-- What a step of the interpreter asks of the model's step. -/
def Snd (P : Program) (g : Gh) (w : World) (a : Act) (o : Oper) (fr' : Fr) (σ' : St) (d : D) : Prop :=
  ∀ (next : Act → World → Prop) (Q : Exit → Act → World → Prop),
    (∀ a' w' g', Ext g w g' w' → Inv P g' w' (fr'.put o.dst d) σ' a' → next a' w') → o.wp P a w next Q

theorem snd_same {o : Oper} {v : Value} {d : D} (i : Inv P g w fr σ a) (hr : (execOp a.eval o).run P w = .ok (.value v) w)
    (h : Rep g v d ∧ d.strip = d ∧ ∀ s off, d = .lptr s off → ∃ cs, fr.boxes[s]? = some (some cs)) : Snd P g w a o fr σ d :=
  fun _ _ hn => wp_value hr (hn _ _ g (.refl g w) (i.put o.dst h.1 (fun _ _ => .of_ne h.2.1) h.2.2))

theorem snd_plain {o : Oper} {v : Value} {d : D} (i : Inv P g w fr σ a) (hr : (execOp a.eval o).run P w = .ok (.value v) w)
    (h : Rep g v d) (hs : d.strip = d) (hl : d.notL = true) : Snd P g w a o fr σ d :=
  snd_same i hr ⟨h, hs, fun s off e => by subst e; simp [D.notL] at hl⟩

/-! Shapes -/
theorem rep_bool {v : Value} {b : Bool} (h : Rep g v (.bool b)) : v = .bool b := by cases h; rfl
theorem rep_int {v : Value} {k : IntKind} {n : Int} (h : Rep g v (.int k n)) : v = .int k n := by cases h; rfl
theorem rep_str {v : Value} {l : List UInt8} (h : Rep g v (.str l)) : ∃ s : ByteArray, v = .string s ∧ s.data.toList = l := by cases h; exact ⟨_, rfl, rfl⟩
theorem rep_agg {v : Value} {ds : List D} (h : Rep g v (.agg ds)) : ∃ vs : Array Value, v = .agg vs ∧ AllRep (Rep g) vs.toList ds ∧ ds.all D.plain = true := by
  cases h with | agg vs _ hl hR hp => exact ⟨vs, rfl, ⟨hl, hR⟩, hp⟩
theorem rep_tup {v : Value} {ds : List D} (h : Rep g v (.tup ds)) : ∃ vs : Array Value, v = .tuple vs ∧ AllRep (Rep g) vs.toList ds ∧ ds.all D.notL = true := by
  cases h with | tup vs _ hl hR hp => exact ⟨vs, rfl, ⟨hl, hR⟩, hp⟩

theorem AllRep.get {R : Value → D → Prop} {vs : List Value} {ds : List D} (h : AllRep R vs ds) {i : Nat} {d : D} (hd : ds[i]? = some d) : ∃ v, vs[i]? = some v ∧ R v d := by
  have hlt : i < vs.length := by rw [h.1]; exact (List.getElem?_eq_some_iff.1 hd).1
  exact ⟨vs[i], List.getElem?_eq_getElem hlt, h.2 i _ d (List.getElem?_eq_getElem hlt) hd⟩

/-! binary and unary operations -/
theorem bytes_toList (s : ByteArray) : s.toList = s.data.toList := by
  exact Go.ByteArray.toList_eq s

theorem bytes_size (s : ByteArray) : s.data.toList.length = s.size := by cases s; rfl

theorem run_bo {α β : Type} {s : Sem α} {f : α → Sem β} {x : α} {w' : World} (h : s.run P w = .ok x w') : (s >>= f).run P w = (f x).run P w' := by
  rw [Sem.run_bind, h]; rfl

theorem guard_none (op : BinOp) (t : TypeId) (x y : Operand) (v u : Value) (h1 : v ≠ .nilIface) (h2 : ∀ c, v ≠ .agg c) : (eqGuard op t x y v u).run P w = .ok () w := by
  unfold eqGuard
  by_cases h : op = .eql ∨ op = .neq
  · rcases h with rfl | rfl <;> (cases v <;> first | exact absurd rfl h1 | exact absurd rfl (h2 _) | (cases u <;> rfl))
  · cases op <;> first | exact absurd (.inl rfl) h | exact absurd (.inr rfl) h | rfl

def flatD : D → Bool
  | .bool _ | .int _ _ | .str _ => true
  | _ => false

theorem intD_run {op : BinOp} {k : IntKind} {x y : Int} {d : D} (t : TypeId) (h : intD op k x y = some d) (hs : op ≠ .shl ∧ op ≠ .shr) :
    ∃ v, (binOp op t (.int k x) (.int k y)).run P w = .ok v w ∧ Rep g v d ∧ flatD d = true := by
  cases op
  case shl => exact absurd rfl hs.1
  case shr => exact absurd rfl hs.2
  case andNot => simp [intD] at h
  case add | sub | mul => simp only [intD, Option.some.injEq] at h; subst h; exact ⟨.int k _, by simp only [binOp, ne_eq, not_true_eq_false, if_false]; rfl, .int _ _, rfl⟩
  case quo | rem =>
    simp only [intD] at h
    split at h
    · cases h
    · rename_i hy; cases h; exact ⟨.int k _, by simp only [binOp, ne_eq, not_true_eq_false, if_false, Op.intDiv, hy]; rfl, .int _ _, rfl⟩
  case and | or | xor => simp only [intD, Option.some.injEq] at h; subst h; exact ⟨.int k _, by simp only [binOp, ne_eq, not_true_eq_false, if_false]; rfl, .int _ _, rfl⟩
  all_goals (simp only [intD, Option.some.injEq] at h; subst h; exact ⟨.bool _, by simp only [binOp, ne_eq, not_true_eq_false, if_false]; rfl, .bool _, rfl⟩)

theorem shiftD_run {op : BinOp} {k k' : IntKind} {x y : Int} {d : D} (t : TypeId) (h : shiftD op k x y = some d) :
    ∃ v, (binOp op t (.int k x) (.int k' y)).run P w = .ok v w ∧ Rep g v d ∧ flatD d = true := by
  unfold shiftD at h
  split at h
  · cases h
  · rename_i hy
    split at h <;> first
      | (cases h; done)
      | (cases h; exact ⟨.int k _, by simp only [binOp, Op.shift, hy, if_false]; rfl, .int _ _, rfl⟩)

theorem strD_run {op : BinOp} {x y : ByteArray} {d : D} (t : TypeId) (h : strD op x.data.toList y.data.toList = some d) :
    ∃ v, (binOp op t (.string x) (.string y)).run P w = .ok v w ∧ Rep g v d ∧ flatD d = true := by
  have e1 := bytes_toList x
  have e2 := bytes_toList y
  cases op <;> simp only [strD] at h <;> first
    | (cases h; done)
    | (split at h <;> first
        | (cases h; done)
        | (cases h
           rename_i hy
           rw [bytes_size, bytes_size] at hy
           have hm : ¬ (((x.size + y.size : Nat) : Int) > IntKind.i64.max) := by
             have : IntKind.i64.max = 9223372036854775807 := rfl
             omega
           exact ⟨.string (x ++ y), by simp only [binOp, Op.stringOp]; rw [if_neg hm]; rfl, by
             have := Rep.str (g := g) (x ++ y)
             rw [ByteArray.data_append, Array.toList_append] at this
             exact this, rfl⟩))
    | (cases h; exact ⟨.bool _, by simp only [binOp, Op.stringOp, e1, e2]; rfl, .bool _, rfl⟩)

theorem binD_run {op : BinOp} {dx dy d : D} {vx vy : Value} (t : TypeId) (x y : Operand) (h : binD op dx dy = some d) (hx : Rep g vx dx) (hy : Rep g vy dy) :
    ∃ v, (do eqGuard op t x y vx vy; binOp op t vx vy : Sem Value).run P w = .ok v w ∧ Rep g v d ∧ flatD d = true := by
  unfold binD at h
  split at h
  · rename_i k x' k' y'
    have e1 := rep_int hx; have e2 := rep_int hy
    subst e1 e2
    rw [Sem.run_bind, guard_none op t x y _ _ (by simp) (by simp)]
    split at h
    · exact shiftD_run t h
    · exact shiftD_run t h
    · rename_i h1 h2
      split at h
      · rename_i hk
        subst hk
        exact intD_run t h ⟨h1, h2⟩
      · cases h
  · obtain ⟨s1, rfl, rfl⟩ := rep_str hx
    obtain ⟨s2, rfl, rfl⟩ := rep_str hy
    rw [Sem.run_bind, guard_none op t x y _ _ (by simp) (by simp)]
    exact strD_run t h
  · cases h

theorem flat_ok {d : D} (h : flatD d = true) : d.strip = d ∧ d.notL = true := by cases d <;> simp_all [flatD, D.strip, D.notL]

theorem unD_run {op : UnOp} {dx d : D} {vx : Value} (h : unD op dx = some d) (hx : Rep g vx dx) :
    ∃ v, (Op.unary op vx).run P w = .ok v w ∧ Rep g v d ∧ flatD d = true := by
  unfold unD at h
  split at h
  · have e1 := rep_int hx; subst e1
    split at h <;> first
      | (cases h; done)
      | (cases h; exact ⟨.int _ _, rfl, .int _ _, rfl⟩)
  · have e1 := rep_bool hx; subst e1
    split at h <;> first
      | (cases h; done)
      | (cases h; exact ⟨.bool _, rfl, .bool _, rfl⟩)
  · cases h

theorem run_vmap {s : Sem Value} {v : Value} (h : s.run P w = .ok v w) : (do pure (.value (← s)) : Sem Next).run P w = .ok (.value v) w := by
  rw [Sem.run_bind, h]; rfl

theorem run_vmap' {s : Sem Value} {v : Value} {w' : World} (h : s.run P w = .ok v w') : (do pure (.value (← s)) : Sem Next).run P w = .ok (.value v) w' := by
  rw [Sem.run_bind, h]; rfl

theorem run_umap {s : Sem Unit} {w' : World} (h : s.run P w = .ok () w') : (do s; pure .skip : Sem Next).run P w = .ok .skip w' := by
  rw [Sem.run_bind, h]; rfl

theorem run_und {t : TypeId} {d : TypeDesc} (h : P.underlying t = some d) : (underlying t).run P w = .ok d w := run_underlying h w

theorem equalIn_bool (n : Nat) {t : TypeId} (ht : P.underlying t = some .bool) (a b : Bool) : (Op.equalIn (n + 1) t (.bool a) (.bool b)).run P w = .ok (a == b) w := by
  simp [Op.equalIn, run_und ht]

theorem equalIn_nil (n : Nat) {t e : TypeId} (ht : P.underlying t = some (.pointer e)) : (Op.equalIn (n + 1) t (.pointer none) (.pointer none)).run P w = .ok true w := by
  simp [Op.equalIn, run_und ht]

theorem equalIn_some (n : Nat) {t e : TypeId} (ht : P.underlying t = some (.pointer e)) (x : Addr) : (Op.equalIn (n + 1) t (.pointer (some x)) (.pointer none)).run P w = .ok false w := by
  simp [Op.equalIn, run_und ht]

theorem eqb_run {neg : Bool} {dx dy d : D} {vx vy : Value} {t : TypeId} (x y : Operand) (ht : P.underlying t = some .bool) (h : eqbD neg dx dy = some d) (hx : Rep g vx dx) (hy : Rep g vy dy) :
    ∃ v, (do eqGuard (if neg then .neq else .eql) t x y vx vy; binOp (if neg then .neq else .eql) t vx vy : Sem Value).run P w = .ok v w ∧ Rep g v d ∧ flatD d = true := by
  unfold eqbD at h
  split at h
  · cases h
    have e1 := rep_bool hx; have e2 := rep_bool hy
    subst e1 e2
    rw [run_bo (guard_none _ t x y _ _ (by simp) (by simp))]
    rename_i b c
    cases neg
    · refine ⟨.bool (b == c), ?_, by simpa using Rep.bool _, rfl⟩
      simp only [binOp, Op.equal, Op.maxDepth, Bool.false_eq_true, if_false]
      rw [run_bo (equalIn_bool 9999 ht b c)]
      rfl
    · refine ⟨.bool (!(b == c)), ?_, ?_, rfl⟩
      · simp only [binOp, Op.equal, Op.maxDepth, if_true]
        rw [run_bo (equalIn_bool 9999 ht b c)]
        rfl
      · have : ((b == c) != true) = !(b == c) := by cases b <;> cases c <;> rfl
        rw [this]
        exact .bool _
  · cases h

theorem eqn_run {neg : Bool} {dx d : D} {vx : Value} {t e : TypeId} (x y : Operand) (ht : P.underlying t = some (.pointer e)) (h : eqnD neg dx = some d) (hx : Rep g vx dx) :
    ∃ v, (do eqGuard (if neg then .neq else .eql) t x y vx (.pointer none); binOp (if neg then .neq else .eql) t vx (.pointer none) : Sem Value).run P w = .ok v w ∧ Rep g v d ∧ flatD d = true := by
  unfold eqnD at h
  split at h <;> first | (cases h; done) | skip
  all_goals
    cases h
    cases hx
    rw [run_bo (guard_none _ t x y _ _ (by simp) (by simp))]
    cases neg
    · refine ⟨.bool _, ?_, .bool _, rfl⟩
      simp only [binOp, Op.equal, Op.maxDepth, Bool.false_eq_true, if_false]
      first | rw [run_bo (equalIn_nil 9999 ht)] | rw [run_bo (equalIn_some 9999 ht _)]
      rfl
    · refine ⟨.bool _, ?_, .bool _, rfl⟩
      simp only [binOp, Op.equal, Op.maxDepth, if_true]
      first | rw [run_bo (equalIn_nil 9999 ht)] | rw [run_bo (equalIn_some 9999 ht _)]
      rfl

end
end Go.Abs
