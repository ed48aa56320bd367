/-
  A part of AnalyzeFew's proof.
-/
import Derived.Test.YthbfgdbbnapjeaaGreatSem
import Derived.Laws.AppendOwn
import Derived.Laws.OwnMore
import Derived.Laws.Sem
import Derived.Laws.World
import Derived.Below
set_option linter.unusedVariables false
set_option linter.unusedSimpArgs false
namespace Go.Abs
open Go
section
variable {cal : Cal} {q : Bool} {fr fr1 fr2 : Fr} {σ σ1 σ2 : St} {dst : Option Nat} {m : MOp} {d : D}
theorem strip2 (d : D) : d.strip.strip = d.strip := by cases d <;> rfl
theorem pure1S (d : D) : d.strip.pure1 = d.pure1 := by cases d <;> rfl
def Fr.withBoxes (fr : Fr) (b : List (Option (List D))) : Fr := ⟨fr.slots, b, fr.defers⟩
def stripsL (s : List D) (ts : List Nat) : List D := ts.foldl (fun s t => s.set t (s.getD t .junk).strip) s
def Fr.strips (fr : Fr) (ts : List Nat) : Fr := { fr with slots := stripsL fr.slots ts }
def Obj.stripO : Obj → Obj
 | .cells cs => .cells (cs.map D.strip)
 | o => o
structure SameMem (b b2 : List (Option (List D))) (σ σ2 : St) : Prop where
 b : b.map (Option.map (List.map D.strip)) = b2.map (Option.map (List.map D.strip))
 s : σ.map Obj.stripO = σ2.map Obj.stripO
structure Agree (m : MOp) (fr fr2 : Fr) : Prop where
 reads : ∀ t ∈ m.reads, (fr2.at t).strip = (fr.at t).strip
 takes : ∀ t ∈ m.takes, fr2.at t = fr.at t
theorem val_eq {x : X} (h : ∀ t ∈ x.tmps, (fr2.at t).strip = (fr.at t).strip) : fr2.val x = fr.val x := by
 cases x with
 | tmp t => exact h t (by simp [X.tmps])
 | const d => rfl
theorem vals_eq {xs : List X} (h : ∀ t ∈ xs.flatMap X.tmps, (fr2.at t).strip = (fr.at t).strip) : xs.map fr2.val = xs.map fr.val := by
 apply List.map_congr_left
 intro x hx
 exact val_eq fun t ht => h t (List.mem_flatMap.2 ⟨x, hx, ht⟩)
theorem args_eq {xs : List X} (h : ∀ t ∈ xs.flatMap X.tmps, (fr2.at t).strip = (fr.at t).strip) : xs.map fr2.arg = xs.map fr.arg := by
 refine List.map_congr_left fun x hx => ?_
 cases x with
 | const d => rfl
 | tmp t =>
  simp only [Fr.arg]
  rw [val_eq (fr := fr) (fr2 := fr2) (x := .tmp t) (fun u hu => h u (List.mem_flatMap.2 ⟨_, hx, hu⟩))]
theorem promX_ok (x : X) (h : (fr.arg x).notL = true) : fr.promoteX σ x = some (fr.arg x, fr, σ) := by
 cases x with
 | const d => rfl
 | tmp t =>
  simp only [Fr.promoteX, Fr.arg, Fr.val] at h ⊢
  cases hd : fr.at t <;> rw [hd] at h <;> first | (cases h; done) | rfl
theorem promA_ok : ∀ (xs : List X), (xs.map fr.arg).all D.notL = true → fr.promoteAll σ xs = some (xs.map fr.arg, fr, σ)
 | [], _ => rfl
 | x :: xs, h => by
  simp only [List.map_cons, List.all_cons, Bool.and_eq_true] at h
  simp only [Fr.promoteAll, promX_ok x h.1, promA_ok xs h.2, Option.map_some, List.map_cons]
theorem optVal_eq {x : Option X} (h : ∀ t ∈ (x.map X.tmps).getD [], (fr2.at t).strip = (fr.at t).strip) : fr2.optVal x = fr.optVal x := by
 cases x with
 | none => rfl
 | some x => simp only [Fr.optVal]; rw [val_eq (by simpa using h)]
theorem take_eq {x : X} (h : ∀ t ∈ x.tmps, fr2.at t = fr.at t) : fr2.take x = ((fr.take x).1, fr2.strips x.tmps) := by
 cases x with
 | tmp t =>
  have := h t (by simp [X.tmps])
  simp only [Fr.take, X.tmps, Fr.strips, stripsL, List.foldl_cons, List.foldl_nil, this]
  rw [← this]
  rfl
 | const d => rfl
theorem take_snd (x : X) : (fr.take x).2 = fr.strips x.tmps := by
 have := take_eq (fr := fr) (fr2 := fr) (x := x) (fun _ _ => rfl)
 rw [this]
theorem k0 (hk : m.kind q = 0) (h : Agree m fr fr2) : evalOp cal q dst m fr2 σ2 = (evalOp cal q dst m fr σ).map (fun r => (r.1, fr2.strips m.takes, σ2)) := by
 have hr := h.reads
 have ht := h.takes
 cases m with
 | move x st =>
  cases st with
  | true =>
   have := take_eq (fr := fr) (fr2 := fr2) (x := x) ht
   simp only [evalOp, this, if_true, Option.map_some]
   rfl
  | false =>
   have := val_eq (fr := fr) (fr2 := fr2) (x := x) hr
   simp only [evalOp, this]
   rfl
 | assign x =>
  have := take_eq (fr := fr) (fr2 := fr2) (x := x) ht
  simp only [evalOp, this, Option.map_some]
  rfl
 | pick c a b =>
  have h1 := val_eq (fr := fr) (fr2 := fr2) (x := c) (fun t ht => hr t (by simp [MOp.reads, ht]))
  have h2 := val_eq (fr := fr) (fr2 := fr2) (x := a) (fun t ht => hr t (by simp [MOp.reads, ht]))
  have h3 := val_eq (fr := fr) (fr2 := fr2) (x := b) (fun t ht => hr t (by simp [MOp.reads, ht]))
  simp only [evalOp, h1, h2, h3]
  split <;> rfl
 | build z ps =>
  have : (ps.map fun (o, s, x) => (o, s, fr2.val x)) = (ps.map fun (o, s, x) => (o, s, fr.val x)) := by
   apply List.map_congr_left
   rintro ⟨o, s, x⟩ hx
   simp only [Prod.mk.injEq, true_and]
   exact val_eq fun t ht => hr t (List.mem_flatMap.2 ⟨_, hx, ht⟩)
  simp only [evalOp, this, Option.map_map]
  rfl
 | buildSlice e esz n z ps =>
  have : (ps.map fun (i, x) => (i, fr2.val x)) = (ps.map fun (i, x) => (i, fr.val x)) := by
   apply List.map_congr_left
   rintro ⟨o, x⟩ hx
   simp only [Prod.mk.injEq, true_and]
   exact val_eq fun t ht => hr t (List.mem_flatMap.2 ⟨_, hx, ht⟩)
  simp only [evalOp, this, Option.map_map]
  rfl
 | nilCheck x | un op x | conv k x | fieldAddr off x | extract x n =>
  have h1 := val_eq (fr := fr) (fr2 := fr2) (x := x) hr
  simp only [evalOp, h1]
  first
   | (simp only [Option.map_map]; rfl)
   | (split <;> first | rfl | (simp only [Option.map_map]; rfl))
 | field agg off s x =>
  have h1 := val_eq (fr := fr) (fr2 := fr2) (x := x) hr
  simp only [evalOp, h1]
  split
  ·split
   ·split <;> rfl
   ·simp only [Option.map_map]; rfl
  ·rfl
 | eqn n x =>
  have h1 := val_eq (fr := fr) (fr2 := fr2) (x := x) hr
  simp only [evalOp, h1, Option.map_map]
  rfl
 | bin op x y | eqb op x y | eqA n op x y =>
  have h1 := val_eq (fr := fr) (fr2 := fr2) (x := x) (fun t ht => hr t (by simp [MOp.reads, ht]))
  have h2 := val_eq (fr := fr) (fr2 := fr2) (x := y) (fun t ht => hr t (by simp [MOp.reads, ht]))
  simp only [evalOp, h1, h2, Option.map_map]
  rfl
 | indexAddr esz x y =>
  have h1 := val_eq (fr := fr) (fr2 := fr2) (x := x) (fun t ht => hr t (by simp [MOp.reads, ht]))
  have h2 := val_eq (fr := fr) (fr2 := fr2) (x := y) (fun t ht => hr t (by simp [MOp.reads, ht]))
  simp only [evalOp, h1, h2]
  repeat' split
  all_goals rfl
 | indexArr ad agg len esz x y =>
  have h1 := val_eq (fr := fr) (fr2 := fr2) (x := x) (fun t ht => hr t (by simp [MOp.reads, ht]))
  have h2 := val_eq (fr := fr) (fr2 := fr2) (x := y) (fun t ht => hr t (by simp [MOp.reads, ht]))
  simp only [evalOp, h1, h2]
  repeat' split
  all_goals first | rfl | (simp only [Option.map_map]; rfl)
 | slice esz x lo hi =>
  have h1 := val_eq (fr := fr) (fr2 := fr2) (x := x) (fun t ht => hr t (by simp [MOp.reads, ht]))
  have h2 := optVal_eq (fr := fr) (fr2 := fr2) (x := lo) (fun t ht => hr t (by simp [MOp.reads, ht]))
  have h3 := optVal_eq (fr := fr) (fr2 := fr2) (x := hi) (fun t ht => hr t (by simp [MOp.reads, ht]))
  simp only [evalOp, h1, h2, h3]
  repeat' split
  all_goals rfl
 | sliceStr x lo hi =>
  have h1 := val_eq (fr := fr) (fr2 := fr2) (x := x) (fun t ht => hr t (by simp [MOp.reads, ht]))
  have h2 := optVal_eq (fr := fr) (fr2 := fr2) (x := lo) (fun t ht => hr t (by simp [MOp.reads, ht]))
  have h3 := optVal_eq (fr := fr) (fr2 := fr2) (x := hi) (fun t ht => hr t (by simp [MOp.reads, ht]))
  simp only [evalOp, h1, h2, h3]
  repeat' split
  all_goals rfl
 | indexStr x y =>
  have h1 := val_eq (fr := fr) (fr2 := fr2) (x := x) (fun t ht => hr t (by simp [MOp.reads, ht]))
  have h2 := val_eq (fr := fr) (fr2 := fr2) (x := y) (fun t ht => hr t (by simp [MOp.reads, ht]))
  simp only [evalOp, h1, h2]
  repeat' split
  all_goals first | rfl | (simp only [Option.map_map]; rfl)
 | max xs =>
  have h1 := vals_eq (fr := fr) (fr2 := fr2) (xs := xs) hr
  simp only [evalOp, h1]
  split
  ·simp only [Option.map_map]; rfl
  ·rfl
 | min xs =>
  have h1 := vals_eq (fr := fr) (fr2 := fr2) (xs := xs) hr
  simp only [evalOp, h1]
  split
  ·simp only [Option.map_map]; rfl
  ·rfl
 | bad => rfl
 | load agg s x st => cases st <;> simp [MOp.kind] at hk
 | append e s b mu x y => cases mu <;> simp [MOp.kind] at hk
 | call f xs => cases q <;> simp [MOp.kind] at hk
 | callv f xs => cases q <;> simp [MOp.kind] at hk
 | alloc z | box x | store s x y | mkfunc f xs | mkmap | mkslice a b c e f | lookup a b c e f g | mapUpdate a b c e | len k x | defer x xs | loadA t a s x | loadL a s x | storeR s t x | allocR z | delete a b c | clear a b c | buildM a b c e f | callM f xs | mapUpdateP a b c e | callS f xs | loadB t a s x | loadP a s x | loadT a s x | loadK t o s x | callvS f xs => simp [MOp.kind] at hk
theorem SameMem.refl (b : List (Option (List D))) (σ : St) : SameMem b b σ σ := ⟨rfl, rfl⟩
theorem SameMem.symm {b b2 : List (Option (List D))} (h : SameMem b b2 σ σ2) : SameMem b2 b σ2 σ := ⟨h.b.symm, h.s.symm⟩
theorem SameMem.box (h : SameMem fr.boxes fr2.boxes σ σ2) (t : Nat) : (fr2.boxAt t).map (List.map D.strip) = (fr.boxAt t).map (List.map D.strip) := by
 have h1 : (fr.boxes.map (Option.map (List.map D.strip)))[t]? = (fr2.boxes.map (Option.map (List.map D.strip)))[t]? := by rw [h.b]
 simp only [List.getElem?_map] at h1
 simp only [Fr.boxAt]
 cases e1 : fr.boxes[t]? <;> cases e2 : fr2.boxes[t]? <;> rw [e1, e2] at h1 <;> simp at h1 ⊢
 exact h1.symm
theorem SameMem.obj {b b2 : List (Option (List D))} (h : SameMem b b2 σ σ2) (o : Nat) : (σ2[o]?).map Obj.stripO = (σ[o]?).map Obj.stripO := by
 have h1 : (σ.map Obj.stripO)[o]? = (σ2.map Obj.stripO)[o]? := by rw [h.s]
 simpa using h1.symm
theorem SameMem.mapOf {b b2 : List (Option (List D))} (h : SameMem b b2 σ σ2) (o : Nat) : mapOf σ2 o = mapOf σ o := by
 have h1 : (σ.map Obj.stripO)[o]? = (σ2.map Obj.stripO)[o]? := by rw [h.s]
 simp only [List.getElem?_map] at h1
 unfold Abs.mapOf
 cases e1 : σ[o]? with
 | none =>
  rw [e1] at h1
  cases e2 : σ2[o]? with
  | none => rfl
  | some y => rw [e2] at h1; cases h1
 | some x =>
  rw [e1] at h1
  cases e2 : σ2[o]? with
  | none => rw [e2] at h1; cases h1
  | some y =>
   rw [e2] at h1
   simp only [Option.map_some, Option.some.injEq] at h1
   cases x <;> cases y <;> simp_all [Obj.stripO]
theorem SameMem.map {b b2 : List (Option (List D))} (h : SameMem b b2 σ σ2) (o : Nat) (es : List (D × D)) : σ2[o]? = some (.map es) ↔ σ[o]? = some (.map es) := by
 have := h.obj o
 cases e1 : σ[o]? with
 | none => rw [e1] at this; cases e2 : σ2[o]? <;> rw [e2] at this <;> simp at this ⊢
 | some x =>
  rw [e1] at this
  cases e2 : σ2[o]? with
  | none => rw [e2] at this; simp at this
  | some y =>
   rw [e2] at this
   cases x <;> cases y <;> simp [Obj.stripO] at this ⊢
   rw [this]
theorem SameMem.cells {b b2 : List (Option (List D))} (h : SameMem b b2 σ σ2) (o : Nat) :
  (∃ cs cs2, σ[o]? = some (.cells cs) ∧ σ2[o]? = some (.cells cs2) ∧ cs2.map D.strip = cs.map D.strip) ∨ ((∀ cs, σ[o]? ≠ some (.cells cs)) ∧ ∀ cs, σ2[o]? ≠ some (.cells cs)) := by
 have := h.obj o
 cases e1 : σ[o]? with
 | none => rw [e1] at this; cases e2 : σ2[o]? <;> rw [e2] at this <;> simp at this ⊢
 | some x =>
  rw [e1] at this
  cases e2 : σ2[o]? with
  | none => rw [e2] at this; simp at this
  | some y =>
   rw [e2] at this
   cases x <;> cases y <;> simp [Obj.stripO] at this ⊢
   exact this
theorem cellsAt_same (h : SameMem fr.boxes fr2.boxes σ σ2) (d : D) : (cellsAt fr2 σ2 d).map (List.map D.strip) = (cellsAt fr σ d).map (List.map D.strip) := by
  cases d with
  | lptr t off =>
    have := h.box t
    simp only [cellsAt, Option.map_map]
    cases e1 : fr.boxAt t <;> cases e2 : fr2.boxAt t <;> rw [e1, e2] at this <;> simp at this ⊢
    rw [this]
  | ptr o off =>
    simp only [cellsAt]
    rcases h.cells o with ⟨cs, cs2, h1, h2, h3⟩ | ⟨h1, h2⟩
    · rw [h1, h2]
      simp [h3]
    · split
      · rename_i hh; exact absurd hh (h2 _)
      · first
          | rfl
          | (split
             · rename_i hh; exact absurd hh (h1 _)
             · rfl)
  | ref cs => rfl
  | _ => rfl
theorem elems_same {b b2 : List (Option (List D))} (h : SameMem b b2 σ σ2) (d : D) : elems σ2 d = elems σ d := by
  cases d with
  | msl o off n esz =>
    simp only [elems]
    rcases h.cells o with ⟨cs, cs2, h1, h2, h3⟩ | ⟨h1, h2⟩
    · rw [h1, h2]
      have hl : cs2.length = cs.length := by simpa using congrArg List.length h3
      have hp : ∀ l : List D, l.all D.pure1 = (l.map D.strip).all D.pure1 := fun l => by
        induction l with
        | nil => rfl
        | cons x xs ih => simp [pure1S, ih]
      simp only []
      rw [List.map_drop, List.map_drop, h3, hl, hp cs2, h3, ← hp cs]
    · split
      · rename_i hh; exact absurd hh (h2 _)
      · first
          | rfl
          | (split
             · rename_i hh; exact absurd hh (h1 _)
             · rfl)
  | _ => rfl
theorem snap_same {b b2 : List (Option (List D))} (h : SameMem b b2 σ σ2) : ∀ ds : List D, snap σ2 ds = snap σ ds
 | [] => rfl
 | d :: ds => by
  have ih := snap_same h ds
  cases d <;> simp only [snap, ih, elems_same h]
theorem doCallQ_same {b b2 : List (Option (List D))} (h : SameMem b b2 σ σ2) (f : Nat) (ds : List D) : doCallQ cal f ds σ2 = doCallQ cal f ds σ := by
 unfold doCallQ
 rw [snap_same h]
def loadD (agg : Bool) (size : Nat) : Option (List D) → Option D
 | none => none
 | some cs => if agg then (if size ≤ cs.length then some (.agg (cs.take size)) else none) else match cs with | [] => none | d :: _ => some d
theorem load_eq (agg : Bool) (size : Nat) (x : X) : evalOp cal q dst (.load agg size x false) fr σ = (loadD agg size ((cellsAt fr σ (fr.val x)).map (List.map D.strip))).map (·, fr, σ) := by
 simp only [evalOp]
 cases cellsAt fr σ (fr.val x) with
 | none => rfl
 | some cs =>
  simp only [loadD, Option.map_some]
  cases agg with
  | true =>
   simp only [if_true, List.length_map]
   split
   ·simp [List.map_take]
   ·rfl
  | false => cases cs <;> rfl
theorem loadA_eq (t : Nat) (agg : Bool) (size : Nat) (x : X) : evalOp cal q dst (.loadA t agg size x) fr σ = if (fr.val x).inBox t then none else evalOp cal q dst (.load agg size x false) fr σ := rfl
theorem loadL_eq (agg : Bool) (size : Nat) (x : X) : evalOp cal q dst (.loadL agg size x) fr σ = if okL (fr.val x) then evalOp cal q dst (.load agg size x false) fr σ else none := rfl
theorem storeR_eq (size t : Nat) (x : X) : evalOp cal q dst (.storeR size t x) fr σ = if (fr.val (.tmp t)).inBox t then evalOp cal q dst (.store size (.tmp t) x) fr σ else none := rfl
theorem loadB_eq (t : Nat) (agg : Bool) (size : Nat) (x : X) : evalOp cal q dst (.loadB t agg size x) fr σ = if (fr.val x).inBox t then none else evalOp cal q dst (.loadL agg size x) fr σ := rfl
theorem loadK_eq (t off size : Nat) (x : X) : evalOp cal q dst (.loadK t off size x) fr σ = if okK t off (fr.val x) then evalOp cal q dst (.load false size x true) fr σ else none := rfl
theorem loadT_eq (agg : Bool) (size : Nat) (x : X) : evalOp cal q dst (.loadT agg size x) fr σ = if okT (fr.val x) then evalOp cal q dst (.load agg size x true) fr σ else none := rfl
theorem loadP_eq (agg : Bool) (size : Nat) (x : X) : evalOp cal q dst (.loadP agg size x) fr σ = if okP (fr.val x) then evalOp cal q dst (.load agg size x false) fr σ else none := rfl
theorem k1 (hk : m.kind q = 1) (h : Agree m fr fr2) (hm : SameMem fr.boxes fr2.boxes σ σ2) : evalOp cal q dst m fr2 σ2 = (evalOp cal q dst m fr σ).map (fun r => (r.1, fr2.strips m.takes, σ2)) := by
 have hr := h.reads
 have ht := h.takes
 cases m with
 | load agg s x st =>
  cases st with
  | true => simp [MOp.kind] at hk
  | false =>
   have h1 := val_eq (fr := fr) (fr2 := fr2) (x := x) hr
   rw [load_eq, load_eq, h1, cellsAt_same hm, Option.map_map]
   rfl
 | append e s b mu x y =>
  cases mu with
  | true => simp [MOp.kind] at hk
  | false =>
   have h1 := take_eq (fr := fr) (fr2 := fr2) (x := x) ht
   have h2 := val_eq (fr := fr) (fr2 := fr2) (x := y) (fun t ht => hr t (by simp [MOp.reads, ht]))
   simp only [evalOp, h2, elems_same hm, h1]
   cases elems σ (fr.val y) with
   | none => rfl
   | some ys =>
    simp only [Bool.false_eq_true, if_false]
    split
    ·split
     ·split
      ·rfl
      ·rfl
     ·rfl
    ·rfl
 | lookup kk agg z x y ok =>
  have h1 := val_eq (fr := fr) (fr2 := fr2) (x := x) (fun t ht => hr t (by simp [MOp.reads, ht]))
  have h2 := val_eq (fr := fr) (fr2 := fr2) (x := y) (fun t ht => hr t (by simp [MOp.reads, ht]))
  simp only [evalOp, h1, h2]
  cases fr.val x with
  | map o =>
   simp only [hm.mapOf o]
   cases mapOf σ o with
   | none => rfl
   | some es =>
    simp only []
    repeat' split
    all_goals rfl
  | _ => rfl
 | len k x =>
  have h1 := val_eq (fr := fr) (fr2 := fr2) (x := x) hr
  match k with
  | 0 => simp only [evalOp, h1]; split <;> rfl
  | 1 => simp only [evalOp, h1]; split <;> rfl
  | k + 2 =>
   simp only [evalOp, h1]
   cases fr.val x with
   | map o =>
    simp only [hm.mapOf o]
    cases mapOf σ o <;> rfl
   | _ => rfl
 | call f xs =>
  cases q with
  | false => simp [MOp.kind] at hk
  | true =>
   have h1 := vals_eq (fr := fr) (fr2 := fr2) (xs := xs) hr
   have h1' : xs.map (fun x => (fr2.val x).deep) = xs.map (fun x => (fr.val x).deep) := by
    have := congrArg (List.map D.deep) h1
    simpa only [List.map_map, Function.comp_def] using this
   simp only [evalOp, h1', if_true, doCallQ_same hm, Option.map_map]
   rfl
 | callv f xs =>
  cases q with
  | false => simp [MOp.kind] at hk
  | true =>
   have h1 := vals_eq (fr := fr) (fr2 := fr2) (xs := xs) (fun t ht => hr t (by simp only [MOp.reads, List.mem_append]; exact .inr ht))
   have h2 := val_eq (fr := fr) (fr2 := fr2) (x := f) (fun t ht => hr t (by simp [MOp.reads, ht]))
   have h1' : xs.map (fun x => (fr2.val x).deep) = xs.map (fun x => (fr.val x).deep) := by
    have := congrArg (List.map D.deep) h1
    simpa only [List.map_map, Function.comp_def] using this
   simp only [evalOp, h1', h2, if_true, doCallQ_same hm]
   split
   ·simp only [Option.map_map]; rfl
   ·rfl
 | loadA t agg s x =>
  have h1 := val_eq (fr := fr) (fr2 := fr2) (x := x) hr
  rw [loadA_eq, loadA_eq, h1, load_eq, load_eq, h1, cellsAt_same hm]
  split
  ·rfl
  ·rw [Option.map_map]
   rfl
 | loadL agg s x =>
  have h1 := val_eq (fr := fr) (fr2 := fr2) (x := x) hr
  rw [loadL_eq, loadL_eq, h1, load_eq, load_eq, h1, cellsAt_same hm]
  split
  ·rw [Option.map_map]
   rfl
  ·rfl
 | loadP agg s x =>
  have h1 := val_eq (fr := fr) (fr2 := fr2) (x := x) hr
  rw [loadP_eq, loadP_eq, h1, load_eq, load_eq, h1, cellsAt_same hm]
  split
  ·rw [Option.map_map]
   rfl
  ·rfl
 | loadB t agg s x =>
  have h1 := val_eq (fr := fr) (fr2 := fr2) (x := x) hr
  rw [loadB_eq, loadB_eq, loadL_eq, loadL_eq, h1, load_eq, load_eq, h1, cellsAt_same hm]
  split
  ·rfl
  ·split
   ·rw [Option.map_map]
    rfl
   ·rfl
 | alloc z | box x | store s x y | mkfunc f xs | mkmap | mkslice a b c e f | mapUpdate a b c e | defer x xs | storeR s t x | allocR z => simp [MOp.kind] at hk
 | _ => simp [MOp.kind] at hk
theorem storeAt_same (h : fr2.boxes = fr.boxes) (ad : D) (ds : List D) : storeAt fr2 σ ad ds = (storeAt fr σ ad ds).map (fun r => ((Fr.withBoxes (fr2) (r.1.boxes)), r.2)) := by
 cases ad with
 | lptr t off =>
  simp only [storeAt, Fr.boxAt, h]
  split
  ·split
   ·simp [Fr.setBox, Fr.withBoxes, h]
   ·rfl
  ·rfl
 | ptr o off =>
  simp only [storeAt]
  split
  ·split
   ·simp [Fr.withBoxes, ← h]
   ·rfl
  ·rfl
 | _ => rfl
theorem k2_load {agg : Bool} {s : Nat} {x : X} (hr : ∀ t ∈ x.tmps, (fr2.at t).strip = (fr.at t).strip) (hb : fr2.boxes = fr.boxes) :
  evalOp cal q dst (.load agg s x true) fr2 σ = (evalOp cal q dst (.load agg s x true) fr σ).map (fun r => (r.1, (Fr.withBoxes (fr2.strips []) (r.2.1.boxes)), r.2.2)) := by
 have h1 := val_eq (fr := fr) (fr2 := fr2) (x := x) hr
 have h2 : cellsAt fr2 σ (fr.val x) = cellsAt fr σ (fr.val x) := by
  cases fr.val x <;> simp only [cellsAt, Fr.boxAt, hb]
 simp only [evalOp, h1, h2]
 cases cellsAt fr σ (fr.val x) with
 | none => rfl
 | some cs =>
  simp only []
  cases agg with
  | true =>
   simp only [if_true]
   split
   ·simp [Fr.withBoxes, Fr.strips, stripsL, ← hb]
   ·rfl
  | false =>
   simp only [Bool.false_eq_true, if_false]
   split
   ·rfl
   ·simp only [if_true]
    rw [storeAt_same hb, Option.map_map, Option.map_map]
    rfl
theorem k2 (hk : m.kind q = 2 ∨ m.kind q = 4) (h : Agree m fr fr2) (hb : fr2.boxes = fr.boxes) :
  evalOp cal q dst m fr2 σ = (evalOp cal q dst m fr σ).map (fun r => (r.1, (Fr.withBoxes (fr2.strips m.takes) (r.2.1.boxes)), r.2.2)) := by
 have hr := h.reads
 have ht := h.takes
 cases m with
 | load agg s x st =>
  cases st with
  | false => simp [MOp.kind] at hk
  | true => exact k2_load hr hb
 | loadT agg s x =>
  have h1 := val_eq (fr := fr) (fr2 := fr2) (x := x) hr
  rw [loadT_eq, loadT_eq, h1]
  split
  ·exact k2_load hr hb
  ·rfl
 | loadK t o s x =>
  have h1 := val_eq (fr := fr) (fr2 := fr2) (x := x) hr
  rw [loadK_eq, loadK_eq, h1]
  split
  ·exact k2_load hr hb
  ·rfl
 | store s x y =>
  have h1 := val_eq (fr := fr) (fr2 := fr2) (x := x) (fun t ht => hr t (by simp [MOp.reads, ht]))
  have h2 := take_eq (fr := fr) (fr2 := fr2) (x := y) ht
  simp only [evalOp, h1, h2]
  split
  ·have : (fr2.strips y.tmps).boxes = (fr.take y).2.boxes := by
    rw [take_snd]
    exact hb
   rw [storeAt_same (fr := (fr.take y).2) this, Option.map_map, Option.map_map]
   rfl
  ·rfl
 | callS f xs =>
  have h1' : xs.map fr2.arg = xs.map fr.arg := args_eq hr
  simp only [evalOp, h1']
  split
  ·simp only [Option.map_map]
   congr 1
   funext r
   simp [Fr.withBoxes, Fr.strips, stripsL, MOp.takes, ← hb]
  ·rfl
 | callvS f xs =>
  have h1' : xs.map fr2.arg = xs.map fr.arg := args_eq (fun t ht => hr t (by simp only [MOp.reads, List.mem_append]; exact .inr ht))
  have h2 := val_eq (fr := fr) (fr2 := fr2) (x := f) (fun t ht => hr t (by simp [MOp.reads, ht]))
  simp only [evalOp, h1', h2]
  cases fr.val f with
  | func id caps =>
   simp only []
   split
   ·simp only [Option.map_map]
    congr 1
    funext r
    simp [Fr.withBoxes, Fr.strips, stripsL, MOp.takes, ← hb]
   ·rfl
  | _ => rfl
 | storeR s t y =>
  have h1 := val_eq (fr := fr) (fr2 := fr2) (x := .tmp t) (fun u hu => hr u (by simp only [X.tmps, List.mem_singleton] at hu; simp [MOp.reads, hu]))
  have h2 := take_eq (fr := fr) (fr2 := fr2) (x := y) ht
  simp only [evalOp, h1, h2]
  split
  ·split
   ·have : (fr2.strips y.tmps).boxes = (fr.take y).2.boxes := by
     rw [take_snd]
     exact hb
    rw [storeAt_same (fr := (fr.take y).2) this, Option.map_map, Option.map_map]
    rfl
   ·rfl
  ·rfl
 | allocR z =>
  cases dst with
  | none => rfl
  | some t =>
   have hbt : fr2.boxAt t = fr.boxAt t := by simp only [Fr.boxAt, hb]
   simp only [evalOp, hbt]
   by_cases hn : (fr.boxAt t).isNone = true
   ·rw [if_pos hn, if_pos hn]
    simp [Fr.withBoxes, Fr.setBox, Fr.strips, stripsL, MOp.takes, hb]
   ·rw [if_neg hn, if_neg hn]
    rfl
 | mapUpdate kk x y z =>
  have h1 := val_eq (fr := fr) (fr2 := fr2) (x := x) (fun t ht => hr t (by simp [MOp.reads, ht]))
  have h2 := val_eq (fr := fr) (fr2 := fr2) (x := y) (fun t ht => hr t (by simp [MOp.reads, ht]))
  have h3 := val_eq (fr := fr) (fr2 := fr2) (x := z) (fun t ht => hr t (by simp [MOp.reads, ht]))
  simp only [evalOp, h1, h2, h3]
  split
  ·split
   ·split
    ·simp only [Option.map_map]
     congr 1
     funext es
     simp [Fr.withBoxes, Fr.strips, stripsL, MOp.takes, ← hb]
    ·rfl
   ·rfl
  ·rfl
 | mkmap => simp [evalOp, Fr.withBoxes, Fr.strips, stripsL, MOp.takes, ← hb]
 | mkslice esz by' z x y =>
  have h1 := val_eq (fr := fr) (fr2 := fr2) (x := x) (fun t ht => hr t (by simp [MOp.reads, ht]))
  have h2 := val_eq (fr := fr) (fr2 := fr2) (x := y) (fun t ht => hr t (by simp [MOp.reads, ht]))
  simp only [evalOp, h1, h2]
  split
  ·split
   ·simp [Fr.withBoxes, Fr.strips, stripsL, MOp.takes, ← hb]
   ·rfl
  ·rfl
 | append e s b mu x y =>
  cases mu with
  | false => simp [MOp.kind] at hk
  | true => simp [MOp.kind] at hk
 | call f xs => cases q <;> simp [MOp.kind] at hk
 | callv f xs => cases q <;> simp [MOp.kind] at hk
 | _ => simp [MOp.kind] at hk
theorem kB {t : Nat} (hk : m.offBox q t = true) (h : Agree m fr fr2) (hb : ∀ k, k ≠ t → fr2.boxAt k = fr.boxAt k) : evalOp cal q dst m fr2 σ = (evalOp cal q dst m fr σ).map (fun r => (r.1, fr2.strips m.takes, σ)) := by
 by_cases h0 : m.kind q = 0
 ·exact k0 h0 h
 have hr := h.reads
 cases m with
 | len k x =>
  have h1 := val_eq (fr := fr) (fr2 := fr2) (x := x) hr
  match k with
  | 0 => simp only [evalOp, h1]; split <;> rfl
  | 1 => simp only [evalOp, h1]; split <;> rfl
  | k + 2 =>
   simp only [evalOp, h1]
   cases fr.val x with
   | map o =>
    simp only []
    cases mapOf σ o <;> rfl
   | _ => rfl
 | loadP agg n x =>
  have h1 := val_eq (fr := fr) (fr2 := fr2) (x := x) hr
  rw [loadP_eq, loadP_eq, h1, load_eq, load_eq, h1]
  cases hv : fr.val x with
  | ptr o off =>
   have hc : cellsAt fr2 σ (.ptr o off) = cellsAt fr σ (.ptr o off) := rfl
   rw [hc]
   simp only [okP, if_true, Option.map_map]
   rfl
  | ref cs =>
   simp only [okP, if_true, Option.map_map, cellsAt]
   rfl
  | _ => rfl
 | loadB s agg n x =>
  have hs : s = t := by simpa [MOp.offBox] using hk
  subst hs
  have h1 := val_eq (fr := fr) (fr2 := fr2) (x := x) hr
  rw [loadB_eq, loadB_eq, loadL_eq, loadL_eq, h1, load_eq, load_eq, h1]
  by_cases hi : (fr.val x).inBox s = true
  ·rw [if_pos hi, if_pos hi]
   rfl
  ·rw [if_neg hi, if_neg hi]
   have hc : cellsAt fr2 σ (fr.val x) = cellsAt fr σ (fr.val x) := by
    cases hv : fr.val x with
    | lptr u off =>
     have hu : u ≠ s := by
      rintro rfl
      rw [hv] at hi
      simp [D.inBox] at hi
     simp only [cellsAt, hb u hu]
    | _ => rfl
   rw [hc]
   split
   ·rw [Option.map_map]
    rfl
   ·rfl
 | loadA s agg n x =>
  have hs : s = t := by simpa [MOp.offBox] using hk
  subst hs
  have h1 := val_eq (fr := fr) (fr2 := fr2) (x := x) hr
  rw [loadA_eq, loadA_eq, h1, load_eq, load_eq, h1]
  by_cases hi : (fr.val x).inBox s = true
  ·rw [if_pos hi, if_pos hi]
   rfl
  ·rw [if_neg hi, if_neg hi]
   have hc : cellsAt fr2 σ (fr.val x) = cellsAt fr σ (fr.val x) := by
    cases hv : fr.val x with
    | lptr u off =>
     have hu : u ≠ s := by
      rintro rfl
      rw [hv] at hi
      simp [D.inBox] at hi
     simp only [cellsAt, hb u hu]
    | _ => rfl
   rw [hc, Option.map_map]
   rfl
 | call f xs =>
  cases q with
  | false => simp [MOp.offBox, MOp.kind] at hk
  | true =>
   have h1 := vals_eq (fr := fr) (fr2 := fr2) (xs := xs) hr
   have h1' : xs.map (fun x => (fr2.val x).deep) = xs.map (fun x => (fr.val x).deep) := by
    have := congrArg (List.map D.deep) h1
    simpa only [List.map_map, Function.comp_def] using this
   simp only [evalOp, h1', if_true, Option.map_map]
   rfl
 | callv f xs =>
  cases q with
  | false => simp [MOp.offBox, MOp.kind] at hk
  | true =>
   have h1 := vals_eq (fr := fr) (fr2 := fr2) (xs := xs) (fun t ht => hr t (by simp only [MOp.reads, List.mem_append]; exact .inr ht))
   have h2 := val_eq (fr := fr) (fr2 := fr2) (x := f) (fun t ht => hr t (by simp [MOp.reads, ht]))
   have h1' : xs.map (fun x => (fr2.val x).deep) = xs.map (fun x => (fr.val x).deep) := by
    have := congrArg (List.map D.deep) h1
    simpa only [List.map_map, Function.comp_def] using this
   simp only [evalOp, h1', h2, if_true]
   split
   ·simp only [Option.map_map]; rfl
   ·rfl
 | _ => exact absurd (by simpa [MOp.offBox, MOp.isCall] using hk) h0
theorem kT {t : Nat} (ht : m.target dst = some t) {fr' : Fr} {σ' : St} (h : evalOp cal q dst m fr σ = some (d, fr', σ')) : σ' = σ ∧ ∀ k, k ≠ t → fr'.boxAt k = fr.boxAt k := by
 cases m with
 | storeR size s x =>
  have hs : s = t := by simpa [MOp.target] using ht
  subst hs
  simp only [evalOp] at h
  split at h
  ·rename_i hi
   split at h
   ·cases hv : fr.val (.tmp s) with
    | lptr u off =>
     rw [hv] at h hi
     have hu : u = s := by simpa [D.inBox] using hi
     subst hu
     simp only [storeAt] at h
     split at h
     ·split at h
      ·simp only [Option.map_some, Option.some.injEq, Prod.mk.injEq] at h
       obtain ⟨_, rfl, rfl⟩ := h
       refine ⟨rfl, fun k hk => ?_⟩
       rw [take_snd]
       simp only [Fr.boxAt, Fr.setBox, Fr.strips]
       rw [List.getElem?_set_ne (fun e => hk e.symm)]
      ·cases h
     ·cases h
    | _ =>
     rw [hv] at hi
     simp [D.inBox] at hi
   ·cases h
  ·cases h
 | allocR z =>
  have hs : dst = some t := by simpa [MOp.target] using ht
  subst hs
  simp only [evalOp] at h
  split at h
  ·simp only [Option.some.injEq, Prod.mk.injEq] at h
   obtain ⟨_, rfl, rfl⟩ := h
   refine ⟨rfl, fun k hk => ?_⟩
   simp only [Fr.boxAt, Fr.setBox]
   rw [List.getElem?_set_ne (fun e => hk e.symm)]
  ·cases h
 | _ => simp [MOp.target] at ht
theorem kT2 {t : Nat} (ht : m.target dst = some t) (h : Agree m fr fr2) (hb : fr2.boxes = fr.boxes) {fr' : Fr} {σ' : St} (he : evalOp cal q dst m fr σ = some (d, fr', σ')) : evalOp cal q dst m fr2 σ2 = some (d, Fr.withBoxes (fr2.strips m.takes) fr'.boxes, σ2) := by
 have hk : m.kind q = 2 := by
  cases m <;> simp [MOp.target] at ht <;> rfl
 have h2 := k2 (cal := cal) (dst := dst) (σ := σ) (.inl hk) h hb
 rw [he] at h2
 simp only [Option.map_some] at h2
 have h3 : (evalOp cal q dst m fr2 σ2).map (fun r => (r.1, r.2.1)) = (evalOp cal q dst m fr2 σ).map (fun r => (r.1, r.2.1)) ∧ ∀ r, evalOp cal q dst m fr2 σ2 = some r → r.2.2 = σ2 := by
  cases m with
  | storeR size s x =>
   refine ⟨?_, fun r hr => ?_⟩
   ·simp only [evalOp]
    split
    ·split
     ·rename_i hi _
      cases hv : fr2.val (.tmp s) with
      | lptr u off =>
       simp only [storeAt]
       split
       ·split <;> rfl
       ·rfl
      | _ =>
       rw [hv] at hi
       simp [D.inBox] at hi
     ·rfl
    ·rfl
   ·obtain ⟨d0, f0, s0⟩ := r
    exact (kT ht hr).1
  | allocR z =>
   refine ⟨?_, fun r hr => ?_⟩
   ·simp only [evalOp]
    split
    ·split <;> rfl
    ·rfl
   ·obtain ⟨d0, f0, s0⟩ := r
    exact (kT ht hr).1
  | _ => simp [MOp.target] at ht
 rw [h2] at h3
 obtain ⟨h3, h4⟩ := h3
 cases hc : evalOp cal q dst m fr2 σ2 with
 | none => rw [hc] at h3; cases h3
 | some r =>
  rw [hc] at h3
  have h5 := h4 r hc
  obtain ⟨d0, f0, s0⟩ := r
  simp only [Option.map_some, Option.some.injEq, Prod.mk.injEq] at h3
  obtain ⟨rfl, rfl⟩ := h3
  simp only at h5
  rw [h5]
theorem kL (hs : m.isLoadL = true) (h : Agree m fr fr2) (hb : fr2.boxes = fr.boxes) : evalOp cal q dst m fr2 σ2 = (evalOp cal q dst m fr σ).map (fun r => (r.1, fr2.strips m.takes, σ2)) := by
 cases m with
 | loadL agg s x =>
  have h1 := val_eq (fr := fr) (fr2 := fr2) (x := x) h.reads
  rw [loadL_eq, loadL_eq, h1, load_eq, load_eq, h1]
  cases hv : fr.val x with
  | lptr u off =>
   have hc : cellsAt fr2 σ2 (.lptr u off) = cellsAt fr σ (.lptr u off) := by simp only [cellsAt, Fr.boxAt, hb]
   rw [hc]
   simp only [okL, if_true, Option.map_map]
   rfl
  | ref cs =>
   simp only [okL, if_true, Option.map_map, cellsAt]
   rfl
  | _ => rfl
 | loadB t agg s x =>
  have h1 := val_eq (fr := fr) (fr2 := fr2) (x := x) h.reads
  rw [loadB_eq, loadB_eq, loadL_eq, loadL_eq, h1, load_eq, load_eq, h1]
  split
  ·rfl
  cases hv : fr.val x with
  | lptr u off =>
   have hc : cellsAt fr2 σ2 (.lptr u off) = cellsAt fr σ (.lptr u off) := by simp only [cellsAt, Fr.boxAt, hb]
   rw [hc]
   simp only [okL, if_true, Option.map_map]
   rfl
  | ref cs =>
   simp only [okL, if_true, Option.map_map, cellsAt]
   rfl
  | _ => rfl
 | _ => simp [MOp.isLoadL] at hs
theorem kLT (hs : m.isLoadT = true) {fr' : Fr} {σ' : St} (he : evalOp cal q dst m fr σ = some (d, fr', σ')) : σ' = σ ∧ ∀ (fr2 : Fr) (σ2 : St), Agree m fr fr2 → fr2.boxes = fr.boxes → evalOp cal q dst m fr2 σ2 = some (d, Fr.withBoxes (fr2.strips m.takes) fr'.boxes, σ2) := by
 cases m with
 | loadT agg s x =>
  rw [loadT_eq] at he
  split at he
  ·rename_i hok
   cases hv : fr.val x with
   | lptr u off =>
    simp only [evalOp, hv, cellsAt] at he
    cases hbx : fr.boxAt u with
    | none => rw [hbx] at he; cases he
    | some cs =>
     rw [hbx] at he
     simp only [Option.map_some] at he
     have key : ∀ (fr2 : Fr) (σ2 : St), Agree (.loadT agg s x) fr fr2 → fr2.boxes = fr.boxes → evalOp cal q dst (.loadT agg s x) fr2 σ2 = (if agg then (if s ≤ (cs.drop off).length then some (.agg (((cs.drop off).take s).map D.strip), fr2, σ2) else none) else match cs.drop off with | [] => none | d :: _ => (storeAt fr2 σ2 (.lptr u off) [d.strip]).map fun (fr, σ) => (d, fr, σ)) := fun fr2 σ2 ha hb => by
      have h1 := val_eq (fr := fr) (fr2 := fr2) (x := x) ha.reads
      have h2 : fr2.boxAt u = some cs := by simp only [Fr.boxAt, hb]; exact hbx
      rw [loadT_eq, h1, hok]
      simp only [if_true, evalOp, h1, hv, cellsAt, h2, Option.map_some]
      cases agg <;> cases cs.drop off <;> rfl
     cases agg with
     | true =>
      simp only [if_true] at he
      split at he
      ·rename_i hle
       cases he
       refine ⟨rfl, fun fr2 σ2 ha hb => ?_⟩
       rw [key fr2 σ2 ha hb]
       simp only [if_true, hle]
       simp [Fr.withBoxes, Fr.strips, stripsL, MOp.takes, ← hb]
      ·cases he
     | false =>
      simp only [Bool.false_eq_true, if_false, if_true] at he
      cases hd : cs.drop off with
      | nil => rw [hd] at he; cases he
      | cons d0 r =>
       rw [hd] at he
       simp only [storeAt, hbx] at he
       split at he
       ·rename_i hle
        cases he
        refine ⟨rfl, fun fr2 σ2 ha hb => ?_⟩
        have h2 : fr2.boxAt u = some cs := by simp only [Fr.boxAt, hb]; exact hbx
        rw [key fr2 σ2 ha hb]
        simp only [Bool.false_eq_true, if_false, hd, storeAt, h2, if_pos hle, Option.map_some, Option.some.injEq, Prod.mk.injEq, true_and, and_true]
        simp [Fr.withBoxes, Fr.strips, stripsL, MOp.takes, Fr.setBox, hb]
       ·cases he
   | _ => rw [hv] at hok; simp [okT] at hok
  ·cases he
 | _ => simp [MOp.isLoadT] at hs
theorem kS (hs : m.isCallS = true) (h : Agree m fr fr2) : evalOp cal q dst m fr2 σ = (evalOp cal q dst m fr σ).map (fun r => (r.1, fr2.strips m.takes, r.2.2)) := by
 cases m with
 | callS f xs =>
  have h1' : xs.map fr2.arg = xs.map fr.arg := args_eq h.reads
  simp only [evalOp, h1']
  split
  ·simp only [Option.map_map]
   rfl
  ·rfl
 | callvS f xs =>
  have h1' : xs.map fr2.arg = xs.map fr.arg := args_eq (fun t ht => h.reads t (by simp only [MOp.reads, List.mem_append]; exact .inr ht))
  have h2 := val_eq (fr := fr) (fr2 := fr2) (x := f) (fun t ht => h.reads t (by simp [MOp.reads, ht]))
  simp only [evalOp, h1', h2]
  cases fr.val f with
  | func id caps =>
   simp only []
   split
   ·simp only [Option.map_map]
    rfl
   ·rfl
  | _ => rfl
 | _ => simp [MOp.isCallS] at hs
theorem set_same {α : Type} {l : List α} {i : Nat} {x : α} (h : l[i]? = some x) : l.set i x = l := by
 obtain ⟨h1, rfl⟩ := List.getElem?_eq_some_iff.1 h
 exact List.set_getElem_self h1
theorem drop_head {α : Type} {l : List α} {n : Nat} {x : α} {r : List α} (h : l.drop n = x :: r) : l[n]? = some x := by
 have : (l.drop n)[0]? = some x := by rw [h]; rfl
 simpa using this
theorem steal_strip {cs : List D} {off : Nat} {d0 : D} {r : List D} (h : cs.drop off = d0 :: r) : (setAt cs off [d0.strip]).map D.strip = cs.map D.strip := by
 simp only [setAt, List.map_set, strip2]
 apply set_same
 rw [List.getElem?_map, drop_head h]
 rfl
theorem k4_load {agg : Bool} {s : Nat} {x : X} {fr' : Fr} {σ' : St} (h : evalOp cal q dst (.load agg s x true) fr σ = some (d, fr', σ')) : SameMem fr.boxes fr'.boxes σ σ' := by
 simp only [evalOp] at h
 split at h
 ·cases h
 ·rename_i cs hcs
  cases agg with
  | true =>
   simp only [if_true] at h
   split at h
   ·cases h; exact .refl _ _
   ·cases h
  | false =>
   simp only [Bool.false_eq_true, if_false, if_true] at h
   split at h
   ·cases h
   ·rename_i d0 rest
    rw [Option.map_eq_some_iff] at h
    obtain ⟨⟨fr1, σ1⟩, h1, h2⟩ := h
    cases h2
    cases had : fr.val x with
    | lptr t off =>
     rw [had] at hcs h1
     simp only [cellsAt, Option.map_eq_some_iff] at hcs
     obtain ⟨cs0, c1, c2⟩ := hcs
     simp only [storeAt, c1] at h1
     split at h1
     ·cases h1
      refine ⟨?_, rfl⟩
      simp only [Fr.setBox, List.map_set, Option.map_some]
      have hb : fr.boxes[t]? = some (some cs0) := by
       unfold Fr.boxAt at c1
       cases hq : fr.boxes[t]? with
       | none => rw [hq] at c1; simp at c1
       | some y => rw [hq] at c1; simp at c1; rw [c1]
      symm
      apply set_same
      rw [List.getElem?_map, hb, steal_strip c2]
      rfl
     ·cases h1
    | ptr o off =>
     rw [had] at hcs h1
     simp only [cellsAt] at hcs
     simp only [storeAt] at h1
     split at hcs
     ·rename_i cs0 hb
      rw [hb] at h1
      simp only [Option.some.injEq] at hcs
      simp only [] at h1
      split at h1
      ·cases h1
       refine ⟨rfl, ?_⟩
       simp only [List.map_set]
       symm
       apply set_same
       rw [List.getElem?_map, hb]
       simp only [Option.map_some, Obj.stripO]
       rw [steal_strip hcs]
      ·cases h1
     ·cases hcs
    | _ => rw [had] at h1; simp [storeAt] at h1
theorem k4 (hk : m.kind q = 4) {fr' : Fr} {σ' : St} (h : evalOp cal q dst m fr σ = some (d, fr', σ')) : SameMem fr.boxes fr'.boxes σ σ' := by
 cases m with
 | load agg s x st =>
  cases st with
  | false => simp [MOp.kind] at hk
  | true => exact k4_load h
 | loadT agg s x =>
  rw [loadT_eq] at h
  split at h
  ·exact k4_load h
  ·cases h
 | loadK t o s x =>
  rw [loadK_eq] at h
  split at h
  ·exact k4_load h
  ·cases h
 | append e s b mu x y => cases mu <;> simp [MOp.kind] at hk
 | call f xs => cases q <;> simp [MOp.kind] at hk
 | callv f xs => cases q <;> simp [MOp.kind] at hk
 | _ => simp [MOp.kind] at hk
theorem stripsL_len : ∀ (ts : List Nat) (s : List D), (stripsL s ts).length = s.length
 | [], s => rfl
 | t :: ts, s => by
  show (stripsL (s.set t _) ts).length = _
  rw [stripsL_len ts]
  simp
theorem stripsL_get : ∀ (ts : List Nat) (s : List D) (k : Nat), (stripsL s ts)[k]? = if k ∈ ts then (s[k]?).map D.strip else s[k]?
 | [], s, k => by simp [stripsL]
 | t :: ts, s, k => by
  show (stripsL (s.set t (s.getD t .junk).strip) ts)[k]? = _
  rw [stripsL_get ts, List.getElem?_set]
  by_cases htk : t = k
  ·subst htk
   cases hs : s[t]? with
   | none =>
    have : ¬ t < s.length := fun h => by rw [List.getElem?_eq_getElem h] at hs; cases hs
    simp [this]
   | some x =>
    have : t < s.length := (List.getElem?_eq_some_iff.1 hs).1
    simp only [List.mem_cons, true_or, if_true, this, List.getD_eq_getElem?_getD, hs, Option.getD_some, Option.map_some, strip2]
    split <;> rfl
  ·have hkt : k ≠ t := fun h => htk h.symm
   simp only [htk, if_false, List.mem_cons, hkt, false_or]
theorem put_get (fr : Fr) (dst : Option Nat) (d : D) (k : Nat) : (fr.put dst d).slots[k]? = if dst = some k ∧ k < fr.slots.length then some d else fr.slots[k]? := by
 cases dst with
 | none => simp [Fr.put]
 | some t =>
  simp only [Fr.put, Fr.set, List.getElem?_set, Option.some.injEq]
  by_cases h : t = k
  ·subst h
   by_cases hl : t < fr.slots.length
   ·simp [hl]
   ·simp [hl]
  ·simp [h]
theorem at_of_get {fr fr2 : Fr} {k : Nat} (h : fr2.slots[k]? = fr.slots[k]?) : fr2.at k = fr.at k := by
 simp only [Fr.at, List.getD_eq_getElem?_getD, h]
theorem at_put_ne (fr : Fr) {dst : Option Nat} (d : D) {k : Nat} (h : dst ≠ some k) : (fr.put dst d).at k = fr.at k :=
 at_of_get (by rw [put_get, if_neg (fun e => h e.1)])
theorem at_strips (fr : Fr) (ts : List Nat) (k : Nat) : ((fr.strips ts).at k).strip = (fr.at k).strip := by
 simp only [Fr.at, List.getD_eq_getElem?_getD, Fr.strips, stripsL_get]
 split
 ·cases fr.slots[k]? <;> simp [strip2]
 ·rfl
theorem at_strips_ne (fr : Fr) {ts : List Nat} {k : Nat} (h : k ∉ ts) : (fr.strips ts).at k = fr.at k :=
 at_of_get (by simp only [Fr.strips, stripsL_get, if_neg h])
theorem at_boxes (fr : Fr) (b : List (Option (List D))) (k : Nat) : ((Fr.withBoxes (fr) (b)) : Fr).at k = fr.at k := rfl
theorem takes_reads (m : MOp) : ∀ t ∈ m.takes, t ∈ m.reads := by
 intro t h
 cases m with
 | move x st => cases st <;> simp_all [MOp.takes, MOp.reads]
 | _ => simp_all [MOp.takes, MOp.reads]
theorem kind_le (m : MOp) (q : Bool) : m.kind q ≤ 4 := by
 cases m with
 | load agg s a st => cases st <;> simp [MOp.kind]
 | append e s b mu x y => cases mu <;> simp [MOp.kind]
 | call f xs => cases q <;> simp [MOp.kind]
 | callv f xs => cases q <;> simp [MOp.kind]
 | _ => simp [MOp.kind]
theorem wanted_eq {fr fr2 : Fr} {o : MOper} (h : ∀ t ∈ o.looks, (fr2.at t).strip = (fr.at t).strip) : wantedD fr2 o.guard = wantedD fr o.guard := by
 cases hg : o.guard with
 | none => rfl
 | some g =>
  obtain ⟨t, want⟩ := g
  have h1 := h t (by simp [MOper.looks, hg])
  simp only [wantedD]
  cases h2 : fr2.at t <;> cases h3 : fr.at t <;> rw [h2, h3] at h1 <;> simp [D.strip] at h1 ⊢
  rw [h1]
structure Looks (o : MOper) (fr fr2 : Fr) : Prop where
 looks : ∀ t ∈ o.looks, (fr2.at t).strip = (fr.at t).strip
 takes : ∀ t ∈ o.op.takes, fr2.at t = fr.at t
theorem Looks.agree {o : MOper} {fr fr2 : Fr} (h : Looks o fr fr2) : Agree o.op fr fr2 := ⟨fun t ht => h.looks t (by simp [MOper.looks, ht]), h.takes⟩
theorem run_form {o : MOper} {fr' : Fr} {σ' : St} (hk : o.op.kind q ≠ 3) (h : runOp cal q o fr σ = some (fr', σ')) :
  ∃ (T : List Nat) (d : D) (bx : List (Option (List D))), (T = [] ∨ T = o.op.takes) ∧ fr' = (Fr.withBoxes ((fr.strips T).put o.dst d) (bx)) ∧
   (o.op.kind q ≤ 1 → bx = fr.boxes ∧ σ' = σ) ∧ (o.op.kind q = 4 → SameMem fr.boxes bx σ σ') ∧
   (∀ fr2 σ2, Looks o fr fr2 → (o.op.kind q = 0 ∨ (o.op.kind q = 1 ∧ SameMem fr.boxes fr2.boxes σ σ2)) → runOp cal q o fr2 σ2 = some ((fr2.strips T).put o.dst d, σ2)) ∧
   (∀ fr2, Looks o fr fr2 → fr2.boxes = fr.boxes → runOp cal q o fr2 σ = some ((Fr.withBoxes ((fr2.strips T).put o.dst d) (bx)), σ')) ∧
   (∀ t fr2, o.op.offBox q t = true → Looks o fr fr2 → (∀ k, k ≠ t → fr2.boxAt k = fr.boxAt k) → runOp cal q o fr2 σ = some ((fr2.strips T).put o.dst d, σ)) ∧
   (∀ t, o.op.target o.dst = some t → σ' = σ ∧ ∀ k, k ≠ t → (bx[k]?).getD none = fr.boxAt k) ∧
   (∀ t, o.op.target o.dst = some t → ∀ fr2 σ2, Looks o fr fr2 → fr2.boxes = fr.boxes → runOp cal q o fr2 σ2 = some ((Fr.withBoxes ((fr2.strips T).put o.dst d) (bx)), σ2)) ∧
   (o.op.isCallS = true → bx = fr.boxes ∧ ∀ fr2, Looks o fr fr2 → runOp cal q o fr2 σ = some ((fr2.strips T).put o.dst d, σ')) ∧
   (o.op.isLoadL = true → ∀ fr2 σ2, Looks o fr fr2 → fr2.boxes = fr.boxes → runOp cal q o fr2 σ2 = some ((fr2.strips T).put o.dst d, σ2)) ∧
   (o.op.isLoadT = true → σ' = σ ∧ ∀ fr2 σ2, Looks o fr fr2 → fr2.boxes = fr.boxes → runOp cal q o fr2 σ2 = some ((Fr.withBoxes ((fr2.strips T).put o.dst d) (bx)), σ2)) := by
 unfold runOp at h
 have hput : ∀ (f : Fr) (b : List (Option (List D))) (d : D), ((Fr.withBoxes (f) (b)) : Fr).put o.dst d = (Fr.withBoxes (f.put o.dst d) (b)) := fun f b d => by cases o.dst <;> rfl
 have hbx : ∀ (f : Fr) (d : D), (f.put o.dst d).boxes = f.boxes := fun f d => by cases o.dst <;> rfl
 split at h
 ·cases h
 ·rename_i hw
  cases h
  refine ⟨[], .undef, fr.boxes, .inl rfl, ?_, fun _ => ⟨rfl, rfl⟩, fun _ => .refl _ _, fun fr2 σ2 hl _ => ?_, fun fr2 hl hb => ?_, fun t fr2 _ hl _ => ?_, fun t _ => ⟨rfl, fun _ _ => rfl⟩, fun t _ fr2 σ2 hl hb => ?_, fun _ => ⟨rfl, fun fr2 hl => ?_⟩, fun _ fr2 σ2 hl _ => ?_, fun _ => ⟨rfl, fun fr2 σ2 hl hb => ?_⟩⟩
  ·rw [← hput]; rfl
  ·unfold runOp
   rw [wanted_eq hl.looks, hw]
   rfl
  ·unfold runOp
   rw [wanted_eq hl.looks, hw, ← hput, ← hb]
   rfl
  ·unfold runOp
   rw [wanted_eq hl.looks, hw]
   rfl
  ·unfold runOp
   rw [wanted_eq hl.looks, hw, ← hput, ← hb]
   rfl
  ·unfold runOp
   rw [wanted_eq hl.looks, hw]
   rfl
  ·unfold runOp
   rw [wanted_eq hl.looks, hw]
   rfl
  ·unfold runOp
   rw [wanted_eq hl.looks, hw, ← hput, ← hb]
   rfl
 ·rename_i hw
  split at h
  ·rename_i d fr1 σ1 he
   cases h
   have hself : Agree o.op fr fr := ⟨fun _ _ => rfl, fun _ _ => rfl⟩
   have hall : o.op.kind q = 0 ∨ o.op.kind q = 1 ∨ o.op.kind q = 2 ∨ o.op.kind q = 4 := by
    have := kind_le o.op q
    omega
   have hquiet : o.op.kind q ≤ 1 → evalOp cal q o.dst o.op fr σ = (evalOp cal q o.dst o.op fr σ).map (fun r => (r.1, fr.strips o.op.takes, σ)) := fun hle => by
    rcases hall with h0 | h0 | h0 | h0
    ·exact k0 h0 hself
    ·exact k1 h0 hself (.refl _ _)
    ·omega
    ·omega
   have hform : fr1 = (Fr.withBoxes (fr.strips o.op.takes) (fr1.boxes)) := by
    rcases hall with h0 | h0 | h0 | h0
    ·have := hquiet om
     rw [he] at this
     simp only [Option.map_some, Option.some.injEq, Prod.mk.injEq, true_and] at this
     rw [this.1]
     rfl
    ·have := hquiet om
     rw [he] at this
     simp only [Option.map_some, Option.some.injEq, Prod.mk.injEq, true_and] at this
     rw [this.1]
     rfl
    ·have := k2 (cal := cal) (dst := o.dst) (σ := σ) (.inl h0) hself rfl
     rw [he] at this
     simp only [Option.map_some, Option.some.injEq, Prod.mk.injEq, true_and] at this
     exact this.1
    ·have := k2 (cal := cal) (dst := o.dst) (σ := σ) (.inr h0) hself rfl
     rw [he] at this
     simp only [Option.map_some, Option.some.injEq, Prod.mk.injEq, true_and] at this
     exact this.1
   refine ⟨o.op.takes, d, fr1.boxes, .inr rfl, ?_, fun hle => ?_, fun h4 => k4 h4 he, fun fr2 σ2 hl hmem => ?_, fun fr2 hl hb => ?_, fun t fr2 ho hl hb => ?_, fun t ht => kT ht he, fun t ht fr2 σ2 hl hb => ?_, fun hs => ⟨?_, fun fr2 hl => ?_⟩, fun hs fr2 σ2 hl hb => ?_, fun hs => ⟨(kLT hs he).1, fun fr2 σ2 hl hb => ?_⟩⟩
   ·rw [← hput, ← hform]
   ·have := hquiet hle
    rw [he] at this
    simp only [Option.map_some, Option.some.injEq, Prod.mk.injEq, true_and] at this
    exact ⟨by rw [this.1]; rfl, this.2⟩
   ·have : evalOp cal q o.dst o.op fr2 σ2 = (evalOp cal q o.dst o.op fr σ).map (fun r => (r.1, fr2.strips o.op.takes, σ2)) := by
     rcases hmem with h0 | ⟨h0, hm⟩
     ·exact k0 h0 hl.agree
     ·exact k1 h0 hl.agree hm
    unfold runOp
    rw [wanted_eq hl.looks, hw, this, he]
    rfl
   ·unfold runOp
    rw [wanted_eq hl.looks, hw]
    simp only []
    have : evalOp cal q o.dst o.op fr2 σ = some (d, (Fr.withBoxes (fr2.strips o.op.takes) (fr1.boxes)), σ') := by
     rcases hall with h0 | h0 | h0 | h0
     ·have h5 := hquiet om
      rw [he] at h5
      simp only [Option.map_some, Option.some.injEq, Prod.mk.injEq, true_and] at h5
      rw [k0 (fr := fr) (σ := σ) h0 hl.agree, he, h5.1, h5.2]
      simp only [Option.map_some, Option.some.injEq, Prod.mk.injEq, true_and, and_true]
      show _ = ((Fr.withBoxes (fr2.strips o.op.takes) (fr.boxes)) : Fr)
      rw [← hb]
      rfl
     ·have h5 := hquiet om
      rw [he] at h5
      simp only [Option.map_some, Option.some.injEq, Prod.mk.injEq, true_and] at h5
      rw [k1 (fr := fr) (σ := σ) h0 hl.agree (by rw [hb]; exact .refl _ _), he, h5.1, h5.2]
      simp only [Option.map_some, Option.some.injEq, Prod.mk.injEq, true_and, and_true]
      show _ = ((Fr.withBoxes (fr2.strips o.op.takes) (fr.boxes)) : Fr)
      rw [← hb]
      rfl
     ·rw [k2 (fr := fr) (.inl h0) hl.agree hb, he]
      rfl
     ·rw [k2 (fr := fr) (.inr h0) hl.agree hb, he]
      rfl
    rw [this]
    simp only []
    rw [hput]
   ·unfold runOp
    rw [wanted_eq hl.looks, hw]
    simp only []
    rw [kB (fr := fr) ho hl.agree hb, he]
    rfl
   ·unfold runOp
    rw [wanted_eq hl.looks, hw]
    simp only []
    rw [kT2 (fr := fr) ht hl.agree hb he]
    simp only []
    rw [hput]
   ·have := kS (cal := cal) (q := q) (dst := o.dst) (σ := σ) hs hself
    rw [he] at this
    simp only [Option.map_some, Option.some.injEq, Prod.mk.injEq, true_and, and_true] at this
    rw [this]
    rfl
   ·unfold runOp
    rw [wanted_eq hl.looks, hw]
    simp only []
    rw [kS (fr := fr) hs hl.agree, he]
    rfl
   ·unfold runOp
    rw [wanted_eq hl.looks, hw]
    simp only []
    rw [kL (fr := fr) (σ := σ) hs hl.agree hb, he]
    rfl
   ·unfold runOp
    rw [wanted_eq hl.looks, hw]
    simp only []
    rw [(kLT hs he).2 fr2 σ2 hl.agree hb]
    simp only []
    rw [hput]
  ·cases h
theorem isNew_eq {x : MOper} (h : x.isNew = true) : ∃ z, x = ⟨x.dst, .allocR z, none⟩ := by
 obtain ⟨dst, op, g⟩ := x
 unfold MOper.isNew at h
 split at h
 ·rename_i z h1 h2
  exact ⟨z, by simp only [] at h1 h2; rw [h1, h2]⟩
 ·cases h
theorem swap_new {x y : MOper} (hx : x.isNew = true) (hy : y.isNew = true) (hxl : ∀ t, x.dst = some t → y.dst ≠ some t) {fr1 fr2 : Fr} {σ1 σ2 : St} (h1 : runOp cal q x fr σ = some (fr1, σ1)) (h2 : runOp cal q y fr1 σ1 = some (fr2, σ2)) :
  ∃ fr3 σ3, runOp cal q y fr σ = some (fr3, σ3) ∧ runOp cal q x fr3 σ3 = some (fr2, σ2) := by
 obtain ⟨zx, ex⟩ := isNew_eq hx
 obtain ⟨zy, ey⟩ := isNew_eq hy
 generalize x.dst = dx at *
 generalize y.dst = dy at *
 subst ex ey
 simp only [runOp, wantedD, evalOp] at h1 h2 ⊢
 cases dx with
 | none => simp at h1
 | some t =>
  cases dy with
  | none => simp at h2
  | some u =>
   have hne : u ≠ t := fun e => hxl t rfl (by rw [e])
   simp only [] at h1 h2 ⊢
   by_cases ht : (fr.boxAt t).isNone = true
   ·rw [if_pos ht] at h1
    simp only [Option.some.injEq, Prod.mk.injEq] at h1
    obtain ⟨rfl, rfl⟩ := h1
    have hbu : (((fr.setBox t (some zx)).put (some t) (.lptr t 0)).boxAt u) = fr.boxAt u := by
     simp only [Fr.boxAt, Fr.setBox, Fr.put, Fr.set]
     rw [List.getElem?_set_ne (fun e => hne e.symm)]
    rw [hbu] at h2
    by_cases hu : (fr.boxAt u).isNone = true
    ·rw [if_pos hu] at h2
     simp only [Option.some.injEq, Prod.mk.injEq] at h2
     obtain ⟨rfl, rfl⟩ := h2
     rw [if_pos hu]
     refine ⟨_, _, rfl, ?_⟩
     have hbt : (((fr.setBox u (some zy)).put (some u) (.lptr u 0)).boxAt t) = fr.boxAt t := by
      simp only [Fr.boxAt, Fr.setBox, Fr.put, Fr.set]
      rw [List.getElem?_set_ne hne]
     rw [hbt, if_pos ht]
     simp only [Fr.setBox, Fr.put, Fr.set, Option.some.injEq, Prod.mk.injEq, Fr.mk.injEq, and_true]
     exact ⟨List.set_comm _ _ hne, List.set_comm _ _ hne⟩
    ·rw [if_neg hu] at h2
     cases h2
   ·rw [if_neg ht] at h1
    cases h1
theorem kK {t off s : Nat} {x : X} {fr' : Fr} {σ' : St} : evalOp cal q dst (.loadK t off s x) fr σ = some (d, fr', σ') ↔ ∃ cs, fr.val x = .lptr t off ∧ fr.boxAt t = some cs ∧ cs[off]? = some d ∧ fr' = fr.setBox t (some (cs.set off d.strip)) ∧ σ' = σ := by
 rw [loadK_eq]
 constructor
 ·intro h
  split at h
  ·rename_i hok
   cases hv : fr.val x with
   | lptr u o =>
    rw [hv] at hok
    simp only [okK, Bool.and_eq_true, beq_iff_eq] at hok
    obtain ⟨rfl, rfl⟩ := hok
    simp only [evalOp, hv, cellsAt] at h
    cases hb : fr.boxAt u with
    | none => rw [hb] at h; cases h
    | some cs =>
     rw [hb] at h
     simp only [Option.map_some, Bool.false_eq_true, if_false, if_true] at h
     cases hd : cs.drop o with
     | nil => rw [hd] at h; cases h
     | cons d0 r =>
      rw [hd] at h
      simp only [storeAt, hb] at h
      split at h
      ·cases h
       exact ⟨cs, rfl, rfl, drop_head hd, rfl, rfl⟩
      ·cases h
   | _ => rw [hv] at hok; simp [okK] at hok
  ·cases h
 ·rintro ⟨cs, h1, h2, h3, rfl, rfl⟩
  have hlt : off < cs.length := (List.getElem?_eq_some_iff.1 h3).1
  have hd : cs.drop off = d :: cs.drop (off + 1) := by
   rw [List.drop_eq_getElem_cons hlt]
   congr 1
   exact (List.getElem?_eq_some_iff.1 h3).2
  simp only [h1, okK, beq_self_eq_true, Bool.and_self, if_true, evalOp, cellsAt, h2, Option.map_some, Bool.false_eq_true, if_false, hd, storeAt, setAt, List.length_cons, List.length_nil]
  rw [if_pos om]
  rfl
theorem cellK_eq {x : MOper} {c : Nat × Nat} (h : x.cellK = some c) : ∃ s a, x = ⟨x.dst, .loadK c.1 c.2 s a, none⟩ := by
 obtain ⟨dst, op, g⟩ := x
 unfold MOper.cellK at h
 split at h
 ·rename_i t off s a h1 h2
  cases h
  simp only [] at h1 h2
  exact ⟨s, a, by rw [h1, h2]⟩
 ·cases h
theorem boxAt_set (fr : Fr) (t k : Nat) (b : List D) (h : fr.boxAt t ≠ none) : (fr.setBox t (some b)).boxAt k = if k = t then some b else fr.boxAt k := by
 simp only [Fr.boxAt, Fr.setBox, List.getElem?_set]
 have hlt : t < fr.boxes.length := by
  by_cases hl : t < fr.boxes.length
  ·exact hl
  ·exfalso
   apply h
   simp only [Fr.boxAt]
   rw [List.getElem?_eq_none_iff.2 om]
   rfl
 by_cases hk : t = k
 ·subst hk
  simp [hlt]
 ·rw [if_neg hk, if_neg (fun e => hk e.symm)]
theorem put_box (fr : Fr) (o : Option Nat) (d : D) (k : Nat) : (fr.put o d).boxAt k = fr.boxAt k := by cases o <;> rfl
theorem swap_cell {x y : MOper} {c1 c2 : Nat × Nat} (hx : x.cellK = some c1) (hy : y.cellK = some c2) (hne : c1 ≠ c2) (hxl : ∀ t, x.dst = some t → t ∉ y.looks ∧ y.dst ≠ some t) (hyl : ∀ t, y.dst = some t → t ∉ x.looks) {fr1 fr2 : Fr} {σ1 σ2 : St} (h1 : runOp cal q x fr σ = some (fr1, σ1)) (h2 : runOp cal q y fr1 σ1 = some (fr2, σ2)) :
  ∃ fr3 σ3, runOp cal q y fr σ = some (fr3, σ3) ∧ runOp cal q x fr3 σ3 = some (fr2, σ2) := by
 obtain ⟨sx, ax, ex⟩ := cellK_eq hx
 obtain ⟨sy, ay, ey⟩ := cellK_eq hy
 obtain ⟨t1, o1⟩ := c1
 obtain ⟨t2, o2⟩ := c2
 generalize x.dst = dx at *
 generalize y.dst = dy at *
 subst ex ey
 have run : ∀ (dst : Option Nat) (t o s : Nat) (a : X) (f f' : Fr) (τ τ' : St), runOp cal q ⟨dst, .loadK t o s a, none⟩ f τ = some (f', τ') ↔ ∃ d g, evalOp cal q dst (.loadK t o s a) f τ = some (d, g, τ') ∧ f' = g.put dst d := by
  intro dst t o s a f f' τ τ'
  simp only [runOp, wantedD]
  cases evalOp cal q dst (.loadK t o s a) f τ with
  | none => simp
  | some r =>
   obtain ⟨d, g, τ2⟩ := r
   simp only [Option.some.injEq, Prod.mk.injEq]
   constructor
   ·rintro ⟨rfl, rfl⟩
    exact ⟨d, g, ⟨rfl, rfl, rfl⟩, rfl⟩
   ·rintro ⟨d', g', ⟨rfl, rfl, rfl⟩, rfl⟩
    exact ⟨rfl, rfl⟩
 obtain ⟨d1, g1, e1, rfl⟩ := (run _ _ _ _ _ _ _ _ _).1 h1
 obtain ⟨d2, g2, e2, rfl⟩ := (run _ _ _ _ _ _ _ _ _).1 h2
 obtain ⟨cs, v1, b1, k1, rfl, rfl⟩ := kK.1 e1
 obtain ⟨cs2, v2, b2, k2, rfl, rfl⟩ := kK.1 e2
 have nb1 : fr.boxAt t1 ≠ none := by rw [b1]; simp
 rw [put_box, boxAt_set _ _ _ _ nb1] at b2
 have v2' : fr.val ay = .lptr t2 o2 := by
  rw [← v2]
  refine (val_eq fun t ht => ?_).symm
  rw [at_put_ne]
  ·rfl
  ·intro e
   exact (hxl t e).1 (by simp [MOper.looks, MOp.reads, ht])
 have hb0 : ∃ c0, fr.boxAt t2 = some c0 ∧ c0[o2]? = some d2 ∧ (t2 = t1 → c0 = cs) := by
  by_cases ht : t2 = t1
  ·subst ht
   rw [if_pos rfl] at b2
   cases b2
   have ho : o1 ≠ o2 := fun e => hne (by rw [e])
   rw [List.getElem?_set_ne ho] at k2
   exact ⟨cs, b1, k2, fun _ => rfl⟩
  ·rw [if_neg ht] at b2
   exact ⟨cs2, b2, k2, fun e => absurd e ht⟩
 obtain ⟨c0, hc0, hk0, hsame⟩ := hb0
 have nb2 : fr.boxAt t2 ≠ none := by rw [hc0]; simp
 refine ⟨_, _, (run _ _ _ _ _ _ _ _ _).2 ⟨d2, _, kK.2 ⟨c0, v2', hc0, hk0, rfl, rfl⟩, rfl⟩, (run _ _ _ _ _ _ _ _ _).2 ⟨d1, _, kK.2 ⟨if t1 = t2 then cs.set o2 d2.strip else cs, ?_, ?_, ?_, rfl, rfl⟩, ?_⟩⟩
 ·rw [← v1]
  refine val_eq fun t ht => ?_
  rw [at_put_ne]
  ·rfl
  ·intro e
   exact hyl t e (by simp [MOper.looks, MOp.reads, ht])
 ·rw [put_box, boxAt_set _ _ _ _ nb2]
  by_cases ht : t1 = t2
  ·rw [if_pos ht, if_pos ht, hsame ht.symm]
  ·rw [if_neg ht, if_neg ht, b1]
 ·by_cases ht : t1 = t2
  ·rw [if_pos ht]
   have ho : o2 ≠ o1 := fun e => hne (by rw [ht, e])
   rw [List.getElem?_set_ne ho]
   exact k1
  ·rw [if_neg ht]
   exact k1
 ·have hslots : ∀ (f : Fr) (o : Option Nat) (e : D) (t : Nat) (b : Option (List D)), ((f.put o e).setBox t b) = (f.setBox t b).put o e := fun f o e t b => by cases o <;> rfl
  have hputs : ∀ (f : Fr), ((f.put dx d1).put dy d2) = ((f.put dy d2).put dx d1) := fun f => by
   cases dx with
   | none => cases dy <;> rfl
   | some i =>
    cases dy with
    | none => rfl
    | some j =>
     have hij : j ≠ i := fun e => (hxl i rfl).2 (by rw [e])
     simp only [Fr.put, Fr.set, Fr.mk.injEq, and_true]
     exact List.set_comm _ _ (fun e => hij e.symm)
  rw [hslots, hslots, hputs]
  congr 2
  simp only [Fr.setBox, Fr.mk.injEq, true_and, and_true]
  by_cases ht : t1 = t2
  ·subst ht
   have hc2 : cs2 = cs.set o1 d1.strip := by
    rw [if_pos rfl] at b2
    exact (Option.some.inj b2).symm
   have ho : o1 ≠ o2 := fun e => hne (by rw [e])
   rw [if_pos rfl, hc2, List.set_set, List.set_set, List.set_comm _ _ ho]
  ·have hc2 : cs2 = c0 := by
    rw [if_neg (fun e => ht e.symm)] at b2
    rw [b2] at hc0
    exact Option.some.inj hc0
   rw [if_neg ht, hc2, List.set_comm _ _ ht]
theorem swap {x y : MOper} (hap : x.apart q y = true) {fr1 fr2 : Fr} {σ1 σ2 : St} (h1 : runOp cal q x fr σ = some (fr1, σ1)) (h2 : runOp cal q y fr1 σ1 = some (fr2, σ2)) :
  ∃ fr3 σ3, runOp cal q y fr σ = some (fr3, σ3) ∧ runOp cal q x fr3 σ3 = some (fr2, σ2) := by
 unfold MOper.apart at hap
 simp only [Bool.and_eq_true] at hap
 obtain ⟨⟨⟨a1, a2⟩, a3⟩, a4⟩ := hap
 have hxl : ∀ t, x.dst = some t → t ∉ y.looks ∧ y.dst ≠ some t := fun t ht => by
  rw [ht] at a1
  simpa using a1
 have hyl : ∀ t, y.dst = some t → t ∉ x.looks := fun t ht => by
  rw [ht] at a2
  simpa using a2
 have htk : ∀ t ∈ x.op.takes, t ∉ y.op.takes := fun t ht => by
  have := List.all_eq_true.1 a3 t ht
  simpa using this
 rw [Bool.or_eq_true] at a4
 rcases a4 with a4 | a4
 rotate_left
 ·simp only [Bool.and_eq_true, bne_iff_ne, ne_eq] at a4
  obtain ⟨⟨c1, c2⟩, c3⟩ := a4
  obtain ⟨k1, e1⟩ := Option.isSome_iff_exists.1 c1
  obtain ⟨k2, e2⟩ := Option.isSome_iff_exists.1 c2
  exact swap_cell e1 e2 (fun e => c3 (by rw [e1, e2, e])) hxl hyl h1 h2
 rw [Bool.or_eq_true] at a4
 rcases a4 with a4 | a4
 rotate_left
 ·rw [Bool.and_eq_true] at a4
  exact swap_new a4.1 a4.2 (fun t ht => (hxl t ht).2) h1 h2
 simp only [bne_iff_ne, ne_eq, Bool.or_eq_true, Bool.and_eq_true, beq_iff_eq] at a4
 obtain ⟨⟨k3x, k3y⟩, kk⟩ := a4
 obtain ⟨Tx, dx, bx, tx, fx, qx, sx, ux, vx, ox, _, _, cx, lx, ltx⟩ := run_form k3x h1
 obtain ⟨Ty, dy, by', ty, fy, qy, sy, uy, vy, _, oy, py, cy, ly, lty⟩ := run_form k3y h2
 have hTx : ∀ t ∈ Tx, t ∈ x.op.takes := fun t ht => by
  rcases tx with rfl | rfl
  ·cases ht
  ·exact ht
 have hTy : ∀ t ∈ Ty, t ∈ y.op.takes := fun t ht => by
  rcases ty with rfl | rfl
  ·cases ht
  ·exact ht
 have rx : ∀ t ∈ x.op.takes, t ∈ x.looks := fun t ht => by simp [MOper.looks, takes_reads x.op t ht]
 have ry : ∀ t ∈ y.op.takes, t ∈ y.looks := fun t ht => by simp [MOper.looks, takes_reads y.op t ht]
 -- y sees the same before x
 have lky : Looks y fr1 fr := by
  refine ⟨fun t ht => ?_, fun t ht => ?_⟩
  ·rw [fx, at_boxes, at_put_ne _ _ (fun e => (hxl t e).1 ht), at_strips]
  ·rw [fx, at_boxes, at_put_ne _ _ (fun e => (hxl t e).1 (ry t ht)), at_strips_ne]
   exact fun h => htk t (hTx t h) ht
 have lkx : ∀ b, Looks x fr (Fr.withBoxes ((fr.strips Ty).put y.dst dy) (b)) := fun b => by
  refine ⟨fun t ht => ?_, fun t ht => ?_⟩
  ·rw [at_boxes, at_put_ne _ _ (fun e => hyl t e ht), at_strips]
  ·rw [at_boxes, at_put_ne _ _ (fun e => hyl t e (rx t ht)), at_strips_ne]
   exact fun h => htk t ht (hTy t h)
 have hbx : ∀ (f : Fr) (o : Option Nat) (d : D), (f.put o d).boxes = f.boxes := fun f o d => by cases o <;> rfl
 have hdf : ∀ (f : Fr) (o : Option Nat) (d : D), (f.put o d).defers = f.defers := fun f o d => by cases o <;> rfl
 have hln : ∀ (f : Fr) (o : Option Nat) (d : D), (f.put o d).slots.length = f.slots.length := fun f o d => by cases o <;> simp [Fr.put, Fr.set]
 have hfr1b : fr1.boxes = bx := by rw [fx]; rfl
 -- the slots behind both
 have hslots : ∀ b, ((Fr.withBoxes ((((Fr.withBoxes ((fr.strips Ty).put y.dst dy) (b)) : Fr).strips Tx).put x.dst dx) (by')) : Fr) = fr2 := fun b => by
  rw [fy, fx]
  simp only [Fr.withBoxes, Fr.mk.injEq, true_and]
  refine ⟨?_, ?_⟩
  ·apply List.ext_getElem?
   intro k
   rw [put_get, put_get]
   simp only [Fr.strips, stripsL_get, stripsL_len, put_get]
   simp only [Fr.strips, hln, stripsL_get, stripsL_len]
   by_cases hxk : x.dst = some k
   ·have h1 := hxl k hxk
    have h3 : k ∉ Ty := fun h => h1.1 (ry k (hTy k h))
    simp only [hxk, h1.2, h3, true_and, false_and, if_false]
   ·by_cases hyk : y.dst = some k
    ·have h1 := hyl k hyk
     have h3 : k ∉ Tx := fun h => h1 (rx k (hTx k h))
     simp only [hxk, hyk, h3, true_and, false_and, if_false]
    ·simp only [hxk, hyk, false_and, if_false]
     by_cases h3 : k ∈ Tx
     ·have h4 : k ∉ Ty := fun h => htk k (hTx k h3) (hTy k h)
      simp only [h3, h4, if_true, if_false]
     ·simp only [h3, if_false]
  ·simp only [hdf, Fr.strips]
 have hself : ∀ f : Fr, ((Fr.withBoxes (f) (f.boxes)) : Fr) = f := fun f => rfl
 -- which of them looks at memory
 have loadK : ∀ {m : MOp}, m.isLoadL = true → m.kind q ≤ 1 := fun {m} h => by
  cases m <;> first | (simp [MOp.isLoadL] at h; done) | simp [MOp.kind]
 rcases kk with ((((((((hx0 | hy0) | h14a) | h14b) | hbox) | ⟨hcs, htt⟩) | ⟨hcs, hll⟩) | ⟨hll, hcs⟩) | ⟨hlt, hcs⟩) | ⟨hcs, hlt⟩
 rotate_left 8
 ·-- x takes out of the frame's own box, y is a call
  obtain ⟨e1, e2⟩ := ltx hlt
  subst e1
  obtain ⟨e3, e4⟩ := cy hcs
  refine ⟨_, _, e4 fr lky, ?_⟩
  have hb0 : ((fr.strips Ty).put y.dst dy).boxes = fr.boxes := hbx _ _ _
  have hl := lkx fr.boxes
  rw [show ((Fr.withBoxes ((fr.strips Ty).put y.dst dy) (fr.boxes)) : Fr) = (fr.strips Ty).put y.dst dy by rw [← hb0]; rfl] at hl
  rw [e2 _ σ2 hl hb0]
  congr 2
  have := hslots fr.boxes
  rw [show ((Fr.withBoxes ((fr.strips Ty).put y.dst dy) (fr.boxes)) : Fr) = (fr.strips Ty).put y.dst dy by rw [← hb0]; rfl] at this
  rw [← this, e3, hfr1b]
 ·-- x is a call, y takes out of the frame's own box
  obtain ⟨e1, e2⟩ := cx hcs
  have hyb : fr.boxes = fr1.boxes := by rw [hfr1b, e1]
  obtain ⟨e3, e4⟩ := lty hlt
  subst e3
  refine ⟨_, _, e4 fr σ lky hyb, ?_⟩
  rw [e2 _ (lkx by')]
  congr 2
  rw [← hslots by']
  simp only [Fr.withBoxes, Fr.mk.injEq, true_and]
  cases x.dst <;> rfl
 rotate_left 6
 ·-- x is a call, y loads what is the frame's own
  obtain ⟨e1, e2⟩ := cx hcs
  have hyb : fr.boxes = fr1.boxes := by rw [hfr1b, e1]
  obtain ⟨e3, e4⟩ := qy (loadK hll)
  subst e4
  refine ⟨_, _, ly hll fr σ lky hyb, ?_⟩
  have hb0 : ((fr.strips Ty).put y.dst dy).boxes = fr.boxes := hbx _ _ _
  have hl := lkx fr.boxes
  rw [show ((Fr.withBoxes ((fr.strips Ty).put y.dst dy) (fr.boxes)) : Fr) = (fr.strips Ty).put y.dst dy by rw [← hb0]; rfl] at hl
  rw [e2 _ hl]
  congr 2
  have := hslots fr.boxes
  rw [show ((Fr.withBoxes ((fr.strips Ty).put y.dst dy) (fr.boxes)) : Fr) = (fr.strips Ty).put y.dst dy by rw [← hb0]; rfl] at this
  rw [← this, e3, ← hyb]
  have hb1 : ((((fr.strips Ty).put y.dst dy).strips Tx).put x.dst dx).boxes = fr.boxes := (hbx _ _ _).trans hb0
  rw [← hb1]
  rfl
 ·-- x loads what is the frame's own, y is a call
  obtain ⟨e1, e2⟩ := qx (loadK hll)
  subst e2
  have hyb : fr.boxes = fr1.boxes := by rw [hfr1b, e1]
  obtain ⟨e3, e4⟩ := cy hcs
  refine ⟨_, _, e4 fr lky, ?_⟩
  have hb0 : ((fr.strips Ty).put y.dst dy).boxes = fr.boxes := hbx _ _ _
  have hl := lkx fr.boxes
  rw [show ((Fr.withBoxes ((fr.strips Ty).put y.dst dy) (fr.boxes)) : Fr) = (fr.strips Ty).put y.dst dy by rw [← hb0]; rfl] at hl
  rw [lx hll _ σ2 hl hb0]
  congr 2
  have := hslots fr.boxes
  rw [show ((Fr.withBoxes ((fr.strips Ty).put y.dst dy) (fr.boxes)) : Fr) = (fr.strips Ty).put y.dst dy by rw [← hb0]; rfl] at this
  rw [← this, e3, ← hyb]
  have hb1 : ((((fr.strips Ty).put y.dst dy).strips Tx).put x.dst dx).boxes = fr.boxes := (hbx _ _ _).trans hb0
  rw [← hb1]
  rfl
 rotate_left 5
 ·-- x is a call that knows nothing of y's box
  obtain ⟨t, htg⟩ := Option.isSome_iff_exists.1 htt
  obtain ⟨e1, e2⟩ := cx hcs
  have hyb : fr.boxes = fr1.boxes := by rw [hfr1b, e1]
  obtain ⟨e3, _⟩ := oy t htg
  subst e3
  refine ⟨_, _, py t htg fr σ lky hyb, ?_⟩
  rw [e2 _ (lkx by')]
  congr 2
  rw [← hslots by']
  simp only [Fr.withBoxes, Fr.mk.injEq, true_and]
  cases x.dst <;> rfl
 rotate_left 4
 ·-- x looks at another box
  cases htg : y.op.target y.dst with
  | none =>
   rw [htg] at hbox
   cases hbox
  | some t =>
   rw [htg] at hbox
   have hoff : x.op.offBox q t = true := hbox
   have hle : x.op.kind q ≤ 1 := by
    cases hm : x.op with
    | loadA s a n z => simp [MOp.kind]
    | loadB s a n z => simp [MOp.kind]
    | loadP a n z => simp [MOp.kind]
    | len k z => simp [MOp.kind]
    | call f xs =>
     rw [hm] at hoff
     cases q <;> simp [MOp.offBox, MOp.kind, MOp.isCall] at hoff ⊢
    | callv f xs =>
     rw [hm] at hoff
     cases q <;> simp [MOp.offBox, MOp.kind, MOp.isCall] at hoff ⊢
    | _ =>
     rw [hm] at hoff
     have : MOp.kind q x.op = 0 := by
      rw [hm]
      simpa [MOp.offBox, MOp.isCall] using hoff
     rw [hm] at this
     omega
   obtain ⟨e1, e2⟩ := qx hle
   subst e2
   have hyb : fr.boxes = fr1.boxes := by rw [hfr1b, e1]
   obtain ⟨e3, e4⟩ := oy t htg
   subst e3
   refine ⟨_, _, vy fr lky hyb, ?_⟩
   rw [ox t _ hoff (lkx by') (fun k hk => by
    have := e4 k hk
    simp only [Fr.boxAt, ← hyb] at this
    exact this)]
   congr 2
   rw [← hslots by']
   simp only [Fr.withBoxes, Fr.mk.injEq, true_and]
   cases x.dst <;> rfl
 ·-- x looks at none
  obtain ⟨e1, e2⟩ := qx om
  subst e2
  have hyb : fr.boxes = fr1.boxes := by rw [hfr1b, e1]
  refine ⟨_, _, vy fr lky hyb, ?_⟩
  rw [ux _ σ2 (lkx by') (.inl hx0)]
  congr 2
  rw [← hslots by']
  simp only [Fr.withBoxes, Fr.mk.injEq, true_and]
  cases x.dst <;> rfl
 ·-- y looks at none
  obtain ⟨e1, e2⟩ := qy om
  subst e2
  refine ⟨_, _, uy fr σ lky (.inl hy0), ?_⟩
  have hb0 : ((fr.strips Ty).put y.dst dy).boxes = fr.boxes := hbx _ _ _
  have hl := lkx fr.boxes
  rw [show ((Fr.withBoxes ((fr.strips Ty).put y.dst dy) (fr.boxes)) : Fr) = (fr.strips Ty).put y.dst dy by rw [← hb0]; rfl] at hl
  rw [vx _ hl hb0]
  congr 2
  have := hslots fr.boxes
  rw [show ((Fr.withBoxes ((fr.strips Ty).put y.dst dy) (fr.boxes)) : Fr) = (fr.strips Ty).put y.dst dy by rw [← hb0]; rfl] at this
  rw [← this, e1, hfr1b]
 all_goals
  have hcase : (x.op.kind q = 1 ∧ (y.op.kind q = 1 ∨ y.op.kind q = 4)) ∨ (x.op.kind q = 4 ∧ y.op.kind q = 1) := by
   first
    | exact .inl h14a
    | exact .inr h14b
  rcases hcase with ⟨hx1, hy14⟩ | ⟨hx4, hy1⟩
  ·obtain ⟨e1, e2⟩ := qx om
   subst e2
   have hyb : fr.boxes = fr1.boxes := by rw [hfr1b, e1]
   have hsm : SameMem fr.boxes by' σ1 σ2 := by
    rcases hy14 with hy | hy
    ·obtain ⟨e3, e4⟩ := qy om
     rw [e3, e4, ← hyb]
     exact .refl _ _
    ·have := sy hy
     rw [← hyb] at this
     exact this
   refine ⟨_, _, vy fr lky hyb, ?_⟩
   rw [ux _ σ2 (lkx by') (.inr ⟨hx1, hsm⟩)]
   congr 2
   rw [← hslots by']
   simp only [Fr.withBoxes, Fr.mk.injEq, true_and]
   cases x.dst <;> rfl
  ·obtain ⟨e1, e2⟩ := qy om
   subst e2
   have hsm : SameMem fr1.boxes fr.boxes σ2 σ := by
    rw [hfr1b]
    exact (sx hx4).symm
   refine ⟨_, _, uy fr σ lky (.inr ⟨hy1, hsm⟩), ?_⟩
   have hb0 : ((fr.strips Ty).put y.dst dy).boxes = fr.boxes := hbx _ _ _
   have hl := lkx fr.boxes
   rw [show ((Fr.withBoxes ((fr.strips Ty).put y.dst dy) (fr.boxes)) : Fr) = (fr.strips Ty).put y.dst dy by rw [← hb0]; rfl] at hl
   rw [vx _ hl hb0]
   congr 2
   have := hslots fr.boxes
   rw [show ((Fr.withBoxes ((fr.strips Ty).put y.dst dy) (fr.boxes)) : Fr) = (fr.strips Ty).put y.dst dy by rw [← hb0]; rfl] at this
   rw [← this, e1, hfr1b]
theorem bubble {y : MOper} : ∀ (xs : List MOper) {fr : Fr} {σ : St} {r : Fr × St} (ys : List MOper), (∀ x ∈ xs, x.apart q y = true) → runOps cal q (xs ++ y :: ys) fr σ = some r → runOps cal q (y :: (xs ++ ys)) fr σ = some r
 | [], _, _, _, _, _, h => h
 | x :: xs, fr, σ, r, ys, hap, h => by
  simp only [List.cons_append, runOps] at h
  split at h
  ·rename_i fr1 σ1 h1
   have ih := bubble xs ys (fun z hz => hap z (List.mem_cons_of_mem _ hz)) h
   simp only [runOps] at ih
   split at ih
   ·rename_i fr2 σ2 h2
    obtain ⟨fr3, σ3, k1, k2⟩ := swap (hap x (List.mem_cons_self ..)) h1 h2
    simp only [List.cons_append, runOps, k1, k2]
    exact ih
   ·cases ih
  ·cases h
end
end Go.Abs

namespace Go.Abs
open Go
def u16s (l : List Int) : List (List D) := l.map fun n => [.int .u16 n]
def u8s (l : List Int) : List (List D) := l.map fun n => [.int .u8 n]
structure ActR where
 kind : Int
 a : List UInt8
 b : List UInt8
 n : Int
def ActR.cells (x : ActR) : List D := [.int .i64 x.kind, .str x.a, .str x.b, .int .i64 x.n]
def acts (l : List ActR) : List (List D) := l.map ActR.cells
section
variable {cal : Cal} {fuel : Nat} {fr : Fr} {σ : St} {R : AE → Fr → St → Prop}
def promFr (o : Option (List D × Fr × St)) : Fr :=
 match o with
 | some r => r.2.1
 | none => ⟨[], [], []⟩
theorem runs_prom {dst : Option Nat} {f : Nat} {args : List X} {g : Option (Nat × Bool)} {ops : List MOper} (ds : List D) (σ' : St) (hw : wantedD fr g = some true) (hp : (fr.promoteAll σ args).map (fun r => (r.1, r.2.2)) = some (ds, σ'))
  (hq : (promFr (fr.promoteAll σ args)).promoteAll σ' args = some (ds, promFr (fr.promoteAll σ args), σ')) (hw' : wantedD (promFr (fr.promoteAll σ args)) g = some true)
  (h : Runs (runC cal fuel (.region false (⟨dst, .call f args, g⟩ :: ops)) (promFr (fr.promoteAll σ args)) σ') R) : Runs (runC cal fuel (.region false (⟨dst, .call f args, g⟩ :: ops)) fr σ) R := by
 cases hr : fr.promoteAll σ args with
 | none => rw [hr] at hp; cases hp
 | some r =>
  obtain ⟨ds1, fr1, σ1⟩ := r
  rw [hr] at hp hq hw' h
  simp only [Option.map_some, Option.some.injEq, Prod.mk.injEq] at hp
  obtain ⟨rfl, rfl⟩ := hp
  have e : runOp cal false ⟨dst, .call f args, g⟩ fr σ = runOp cal false ⟨dst, .call f args, g⟩ (promFr (some (ds1, fr1, σ1))) σ1 := by
   show (match wantedD fr g with | none => none | some false => some (fr.put dst .undef, σ) | some true => match evalOp cal false dst (.call f args) fr σ with | some (d, fr, σ) => some (fr.put dst d, σ) | none => none) = (match wantedD fr1 g with | none => none | some false => some (fr1.put dst .undef, σ1) | some true => match evalOp cal false dst (.call f args) fr1 σ1 with | some (d, fr, σ) => some (fr.put dst d, σ) | none => none)
   have hw1 : wantedD fr1 g = some true := hw'
   have hq1 : fr1.promoteAll σ1 args = some (ds1, fr1, σ1) := hq
   rw [hw, hw1]
   simp only [evalOp, Bool.false_eq_true, if_false, hr, hq1]
  obtain ⟨ae, fr2, σ2, h1, h2⟩ := h
  refine ⟨ae, fr2, σ2, ?_, h2⟩
  simp only [runC, runOps] at h1 ⊢
  rw [e]
  exact h1
theorem runs_make {dst : Option Nat} {esz bytes : Nat} {zero : List D} {len cap : X} {q : Bool} {g : Option (Nat × Bool)} {ops : List MOper} (n : Nat) (cs : List D) (hw : wantedD fr g = some true) (hl : fr.val len = .int .i64 n) (hc : fr.val cap = .int .i64 n)
  (hb : n * bytes ≤ 140737488355328 ∧ n < 4611686018427387904) (hcs : (List.replicate n zero).flatten = cs)
  (h : Runs (runC cal fuel (.region q ops) (fr.put dst (.msl σ.length 0 n esz)) (σ ++ [.cells cs])) R) : Runs (runC cal fuel (.region q (⟨dst, .mkslice esz bytes zero len cap, g⟩ :: ops)) fr σ) R := by
 subst hcs
 refine runs_op hw ?_ h
 have hnb : (n : Int) * (bytes : Int) ≤ 140737488355328 := by
  have := hb.1
  rw [← Int.natCast_mul]
  omega
 simp only [evalOp, hl, hc]
 refine (if_pos ⟨om, trivial, hnb, om⟩).trans ?_
 simp
theorem runs_indexM {q : Bool} {dst : Option Nat} {esz : Nat} {x i : X} {g : Option (Nat × Bool)} {ops : List MOper} {kd : IntKind} (o off n j : Nat) (hw : wantedD fr g = some true) (hx : fr.val x = .msl o off n esz) (hi : fr.val i = .int kd j) (hj : j < n)
  (h : Runs (runC cal fuel (.region q ops) (fr.put dst (.ptr o (off + j * esz))) σ) R) : Runs (runC cal fuel (.region q (⟨dst, .indexAddr esz x i, g⟩ :: ops)) fr σ) R := by
 refine runs_op hw ?_ h
 simp only [evalOp, hi, intOf?, hx]
 rw [if_pos om]
 refine (if_pos ⟨om, trivial⟩).trans ?_
 simp
theorem runs_indexMI {q : Bool} {dst : Option Nat} {esz : Nat} {x i : X} {g : Option (Nat × Bool)} {ops : List MOper} {kd : IntKind} (o off n : Nat) (j : Int) (hw : wantedD fr g = some true) (hx : fr.val x = .msl o off n esz) (hi : fr.val i = .int kd j) (h0 : 0 ≤ j) (hj : j.toNat < n)
  (h : Runs (runC cal fuel (.region q ops) (fr.put dst (.ptr o (off + j.toNat * esz))) σ) R) : Runs (runC cal fuel (.region q (⟨dst, .indexAddr esz x i, g⟩ :: ops)) fr σ) R := by
 refine runs_op hw ?_ h
 simp only [evalOp, hi, intOf?, hx]
 rw [if_pos h0]
 exact if_pos ⟨om, trivial⟩
theorem runs_storeP {q : Bool} {dst : Option Nat} {a x : X} {g : Option (Nat × Bool)} {ops : List MOper} (o off : Nat) (cs cs' : List D) (d : D) (σ' : St) (hw : wantedD fr g = some true) (ha : fr.val a = .ptr o off) (hx : fr.take x = (d, fr)) (h1 : d.cells = [d]) (h2 : d.raw = [d]) (h3 : d.plain = true)
  (ho : σ[o]? = some (.cells cs)) (hlt : off < cs.length) (hcs : cs.set off d = cs') (hs : σ.set o (.cells cs') = σ')
  (h : Runs (runC cal fuel (.region q ops) (fr.put dst .junk) σ') R) : Runs (runC cal fuel (.region q (⟨dst, .store 1 a x, g⟩ :: ops)) fr σ) R := by
 subst hcs hs
 refine runs_op hw ?_ h
 simp only [evalOp, hx, h1, h2, ha, storeAt, ho, List.length_cons, List.length_nil, List.all_cons, List.all_nil, h3, Bool.and_true, setAt]
 rw [if_pos (by trivial), if_pos om]
 rfl
theorem rlp {q : Bool} {dst : Option Nat} {a : X} {size : Nat} {g : Option (Nat × Bool)} {ops : List MOper} (o off : Nat) (cs : List D) (d : D) (hw : wantedD fr g = some true) (ha : fr.val a = .ptr o off)
  (ho : σ[o]? = some (.cells cs)) (hd : cs[off]? = some d)
  (h : Runs (runC cal fuel (.region q ops) (fr.put dst d.strip) σ) R) : Runs (runC cal fuel (.region q (⟨dst, .load false size a false, g⟩ :: ops)) fr σ) R := by
 refine runs_op hw ?_ h
 have hlt : off < cs.length := (List.getElem?_eq_some_iff.1 hd).1
 have he : cs.drop off = d :: cs.drop (off + 1) := by
  rw [List.drop_eq_getElem_cons hlt]
  congr 1
  exact (List.getElem?_eq_some_iff.1 hd).2
 simp only [evalOp, ha, cellsAt, ho, he, Bool.false_eq_true, if_false]
theorem runs_loadPA {q : Bool} {dst : Option Nat} {a : X} {size : Nat} {g : Option (Nat × Bool)} {ops : List MOper} (o off : Nat) (cs es es' : List D) (hw : wantedD fr g = some true) (ha : fr.val a = .ptr o off)
  (ho : σ[o]? = some (.cells cs)) (hd : (cs.drop off).take size = es) (hl : es.length = size) (he : es.map D.strip = es')
  (h : Runs (runC cal fuel (.region q ops) (fr.put dst (.agg es')) σ) R) : Runs (runC cal fuel (.region q (⟨dst, .load true size a false, g⟩ :: ops)) fr σ) R := by
 subst he
 refine runs_op hw ?_ h
 have h1 : size ≤ (cs.drop off).length := by rw [← hl, ← hd, List.length_take]; omega
 simp only [evalOp, ha, cellsAt, ho, if_true, hd]
 rw [if_pos h1]
theorem runs_appendM {q : Bool} {dst : Option Nat} {t e esz bytes : Nat} {y : X} {g : Option (Nat × Bool)} {ops : List MOper} (o n o' : Nat) (cs : List D) (ys : List (List D)) (σ' : St) (hw : wantedD fr g = some true) (hd : fr.val (.tmp t) = .msl o 0 n esz) (hy : elems σ (fr.val y) = some ys)
  (hz : (ys.all fun y => y.length == esz) = true) (h0 : 0 < ys.length) (hs : ys.flatten.all calm1 = true) (ho : σ[o]? = some (.cells cs)) (hr : σ[o + 1]? = some (.row e)) (hc : n * esz ≤ cs.length) (hcs : (cs.take (n * esz)).all calm1 = true)
  (hb : (n + ys.length) * bytes ≤ room ∧ n + ys.length < 4611686018427387904) (hl : σ.length = o') (hσ : σ.set o .dead ++ [.cells (cs.take (n * esz) ++ ys.flatten), .row e] = σ')
  (h : Runs (runC cal fuel (.region q ops) (fr.put dst (.msl o' 0 (n + ys.length) esz)) σ') R) : Runs (runC cal fuel (.region q (⟨dst, .append e esz bytes true (.tmp t) y, g⟩ :: ops)) fr σ) R := by
 subst hσ hl
 refine runs_op hw ?_ h
 simp only [evalOp, hy, hz, if_true, hd, ho, hr]
 exact if_pos ⟨trivial, trivial, trivial, h0, hc, hcs, hs, hb.1, hb.2⟩
theorem runs_appendN {q : Bool} {dst : Option Nat} {t e esz bytes : Nat} {y : X} {g : Option (Nat × Bool)} {ops : List MOper} (o' : Nat) (ys : List (List D)) (σ' : St) (hw : wantedD fr g = some true) (hd : fr.at t = .sl [] (some e)) (hy : elems σ (fr.val y) = some ys)
  (hz : (ys.all fun y => y.length == esz) = true) (h0 : 0 < ys.length) (hs : ys.flatten.all calm1 = true)
  (hb : ys.length * bytes ≤ room ∧ ys.length < 4611686018427387904) (hl : σ.length = o') (hσ : σ ++ [.cells ys.flatten, .row e] = σ')
  (h : Runs (runC cal fuel (.region q ops) ((fr.set t (.sl [] none)).put dst (.msl o' 0 ys.length esz)) σ') R) : Runs (runC cal fuel (.region q (⟨dst, .append e esz bytes true (.tmp t) y, g⟩ :: ops)) fr σ) R := by
 subst hσ hl
 refine runs_op hw ?_ h
 have hv : fr.val (.tmp t) = .sl [] none := by simp only [Fr.val, hd, D.strip]
 simp only [evalOp, hy, hz, if_true, hv, Fr.take, hd, D.strip]
 exact if_pos ⟨trivial, h0, hs, hb.1, hb.2⟩
theorem runs_sliceM {q : Bool} {dst : Option Nat} {esz : Nat} {x : X} {lo hi : Option X} {g : Option (Nat × Bool)} {ops : List MOper} (o off n l k : Nat) (hw : wantedD fr g = some true) (hx : fr.val x = .msl o off n esz) (hlo : loD (fr.optVal lo) = some l) (hhi : hiD n (fr.optVal hi) = some k)
  (hc : l ≤ k ∧ k ≤ n) (hn : ¬ (l = n ∧ 0 < l))
  (h : Runs (runC cal fuel (.region q ops) (fr.put dst (.msl o (off + l * esz) (k - l) esz)) σ) R) : Runs (runC cal fuel (.region q (⟨dst, .slice esz x lo hi, g⟩ :: ops)) fr σ) R := by
 refine runs_op hw ?_ h
 simp only [evalOp, hx, hlo, hhi]
 rw [if_pos ⟨hc.1, hc.2, trivial⟩, if_neg hn]
theorem runs_sliceE {q : Bool} {dst : Option Nat} {esz : Nat} {x : X} {lo hi : Option X} {g : Option (Nat × Bool)} {ops : List MOper} (o off n l k : Nat) (hw : wantedD fr g = some true) (hx : fr.val x = .msl o off n esz) (hlo : loD (fr.optVal lo) = some l) (hhi : hiD n (fr.optVal hi) = some k)
  (hc : l ≤ k ∧ k ≤ n) (hn : l = n ∧ 0 < l)
  (h : Runs (runC cal fuel (.region q ops) (fr.put dst (.sl [] none)) σ) R) : Runs (runC cal fuel (.region q (⟨dst, .slice esz x lo hi, g⟩ :: ops)) fr σ) R := by
 refine runs_op hw ?_ h
 simp only [evalOp, hx, hlo, hhi]
 rw [if_pos ⟨hc.1, hc.2, trivial⟩, if_pos hn]
theorem runs_loadT {q : Bool} {dst : Option Nat} {a : X} {size : Nat} {g : Option (Nat × Bool)} {ops : List MOper} (o off : Nat) (cs cs' : List D) (d : D) (σ' : St) (hw : wantedD fr g = some true) (ha : fr.val a = .ptr o off)
  (ho : σ[o]? = some (.cells cs)) (hd : cs[off]? = some d) (hcs : cs.set off d.strip = cs') (hs : σ.set o (.cells cs') = σ')
  (h : Runs (runC cal fuel (.region q ops) (fr.put dst d) σ') R) : Runs (runC cal fuel (.region q (⟨dst, .load false size a true, g⟩ :: ops)) fr σ) R := by
 subst hs hcs
 refine runs_op hw ?_ h
 have hlt : off < cs.length := (List.getElem?_eq_some_iff.1 hd).1
 have he : cs.drop off = d :: cs.drop (off + 1) := by
  rw [List.drop_eq_getElem_cons hlt]
  congr 1
  exact (List.getElem?_eq_some_iff.1 hd).2
 simp only [evalOp, ha, cellsAt, ho, he, Bool.false_eq_true, if_false, if_true, storeAt, List.length_cons, List.length_nil, setAt]
 rw [if_pos om]
 rfl
theorem runs_storeT {q : Bool} {dst : Option Nat} {a : X} {t : Nat} {g : Option (Nat × Bool)} {ops : List MOper} (o off : Nat) (cs cs' : List D) (d : D) (σ' : St) (hw : wantedD fr g = some true) (ha : fr.val a = .ptr o off) (hx : fr.at t = d) (h1 : d.cells = [d]) (h2 : d.raw = [d]) (h3 : d.plain = true)
  (ho : σ[o]? = some (.cells cs)) (hlt : off < cs.length) (hcs : cs.set off d = cs') (hs : σ.set o (.cells cs') = σ')
  (h : Runs (runC cal fuel (.region q ops) ((fr.set t d.strip).put dst .junk) σ') R) : Runs (runC cal fuel (.region q (⟨dst, .store 1 a (.tmp t), g⟩ :: ops)) fr σ) R := by
 subst hcs hs
 refine runs_op hw ?_ h
 simp only [evalOp, Fr.take, hx, h1, h2, ha, storeAt, ho, List.length_cons, List.length_nil, List.all_cons, List.all_nil, h3, Bool.and_true, setAt]
 rw [if_pos (by trivial), if_pos om]
 rfl
theorem runs_len {q : Bool} {dst : Option Nat} {x : X} {g : Option (Nat × Bool)} {ops : List MOper} (d : D) (n : Nat) (hw : wantedD fr g = some true) (hx : fr.val x = d) (hl : (∃ o, d = .sl [] o ∧ n = 0) ∨ ∃ o off e, d = .msl o off n e)
  (h : Runs (runC cal fuel (.region q ops) (fr.put dst (.int .i64 n)) σ) R) : Runs (runC cal fuel (.region q (⟨dst, .len 0 x, g⟩ :: ops)) fr σ) R := by
 refine runs_op hw ?_ h
 rcases hl with ⟨o, h1, h2⟩ | ⟨o, off, e, h1⟩
 ·subst h2
  rw [h1] at hx
  simp only [evalOp, hx]
  rfl
 ·rw [h1] at hx
  simp only [evalOp, hx]
theorem runs_sliceS {q : Bool} {dst : Option Nat} {esz : Nat} {x : X} {lo hi : Option X} {g : Option (Nat × Bool)} {ops : List MOper} (es r : List (List D)) {o : Option Nat} (l k : Nat) (hw : wantedD fr g = some true) (hx : fr.val x = .sl es o) (hlo : loD (fr.optVal lo) = some l) (hhi : hiD es.length (fr.optVal hi) = some k)
  (hc : l ≤ k ∧ k ≤ es.length) (ha : (es.all fun e => e.length == esz) = true) (hr : (es.drop l).take (k - l) = r)
  (h : Runs (runC cal fuel (.region q ops) (fr.put dst (.sl r none)) σ) R) : Runs (runC cal fuel (.region q (⟨dst, .slice esz x lo hi, g⟩ :: ops)) fr σ) R := by
 subst hr
 refine runs_op hw ?_ h
 simp only [evalOp, hx, hlo, hhi]
 rw [if_pos ⟨hc.1, hc.2, ha⟩]
theorem loD_nat {d : D} {k : IntKind} {n : Nat} (h : d = .int k n) : loD (some d) = some n := by
 subst h
 simp [loD, intOf?]
theorem hiD_nat {d : D} {k : IntKind} {n m : Nat} (h : d = .int k n) : hiD m (some d) = some n := by
 subst h
 simp [hiD, intOf?]
theorem rcS {dst : Option Nat} {f : Nat} {args : List X} {g : Option (Nat × Bool)} {ops : List MOper} (ds ds' : List D) (os : List Nat) (hw : wantedD fr g = some true) (hp : fr.promoteAll σ args = some (ds, fr, σ)) (hq : ds.all pureArg = true) (hs : snap σ ds = some (ds', os)) {σc : St} {r : D}
  (hc : cal f ds' [] = some (r, σc)) (hf : freeze σc r = some r) (hr : scalar r = true)
  (h : Runs (runC cal fuel (.region false ops) (fr.put dst r) σ) R) : Runs (runC cal fuel (.region false (⟨dst, .call f args, g⟩ :: ops)) fr σ) R := by
 refine runs_op hw ?_ h
 simp only [evalOp, Bool.false_eq_true, if_false, hp, doCall, hq, if_true, hs, hc, hf, hr, Bool.or_true, Option.map_some]
end
theorem call_ofE {σ : St} {T : Table} {n f : Nat} {m : MFunc} {args : List D} {d : D} (hm : T f = some m) (hp : args.length = m.nparams) (hp2 : m.nparams ≤ m.ntmps)
  (h : Runs (runC (callN T n) n m.body (enterFr m args) σ) (fun ae fr σ1 => (ae = .normal ∨ ae = .ret) ∧ fr.defers = [] ∧ ∃ σ', resultOf fr σ1 m.results = some (d, σ'))) : ∃ σ', callN T (n + 1) f args σ = some (d, σ') := by
 obtain ⟨ae, fr, σ1, h1, h2, h3, σ', h4⟩ := h
 exact ⟨σ', call_of hm hp hp2 ⟨ae, fr, σ1, h1, h2, h3, h4⟩⟩
theorem call_ofX {σ : St} {T : Table} {n f : Nat} {m : MFunc} {args : List D} {Φ : D → St → Prop} (hm : T f = some m) (hp : args.length = m.nparams) (hp2 : m.nparams ≤ m.ntmps)
  (h : Runs (runC (callN T n) n m.body (enterFr m args) σ) (fun ae fr σ1 => (ae = .normal ∨ ae = .ret) ∧ fr.defers = [] ∧ ∃ d σ', resultOf fr σ1 m.results = some (d, σ') ∧ Φ d σ')) : ∃ d σ', callN T (n + 1) f args σ = some (d, σ') ∧ Φ d σ' := by
 obtain ⟨ae, fr, σ1, h1, h2, h3, d, σ', h4, h5⟩ := h
 exact ⟨d, σ', call_of hm hp hp2 ⟨ae, fr, σ1, h1, h2, h3, h4⟩, h5⟩
theorem set_get {σ : St} {k : Nat} {X : Obj} (h : k < σ.length) : (σ.set k X)[k]? = some X := by simp [h]
theorem get_last2 (A S : Obj) (ρ : St) (X : Obj) : (A :: S :: (ρ ++ [X]))[ρ.length + 2]? = some X := by simp
theorem set_last2 (A S : Obj) (ρ : St) (X Y : Obj) : (A :: S :: (ρ ++ [X])).set (ρ.length + 2) Y = A :: S :: (ρ ++ [Y]) := by simp
theorem plain_of {σ : St} {T : Table} {n f : Nat} {m : MFunc} {args : List D} {d : D} {σ' : St} (hm : T f = some m) (hp : args.length = m.nparams) (hp2 : m.nparams ≤ m.ntmps)
  (h : Runs (runC (callN T n) n m.body (enterFr m args) σ) (fun ae fr σ1 => (ae = .normal ∨ ae = .ret) ∧ fr.defers = [] ∧ resultOf fr σ1 m.results = some (d, σ'))) (hnt : m.body.told = false := by rfl) : plainN T (callN T n) n f args σ = some (d, σ') := by
 obtain ⟨ae, fr, σ1, h1, h2, h3, h4⟩ := h
 have hb : runBody (callN T n) n m args σ = some (fr, σ1) := by
  unfold runBody
  rw [if_pos ⟨hp, hp2⟩, h1]
  rcases h2 with rfl | rfl <;> rfl
 simp only [plainN, hm, hb, h3, hnt, List.isEmpty_nil, if_true, Bool.false_eq_true, if_false]
 exact h4
theorem call_ofXD {σ : St} {T : Table} {n f : Nat} {m : MFunc} {args : List D} {Φ : D → St → Prop} (hm : T f = some m) (hp : args.length = m.nparams) (hp2 : m.nparams ≤ m.ntmps)
  (h : Runs (runC (callN T n) n m.body (enterFr m args) σ) (fun ae fr σ1 => (ae = .normal ∨ ae = .ret) ∧ ((fr.defers = [] ∧ ∃ d σ', resultOf fr σ1 m.results = some (d, σ') ∧ Φ d σ') ∨
   (∃ g caps σ2 d0, fr.defers = [(.func g caps, [])] ∧ caps.all D.notL = true ∧ plainN T (callN T n) n g caps σ1 = some (d0, σ2) ∧ ∃ d σ', resultOf fr σ2 m.results = some (d, σ') ∧ Φ d σ')))) (hnt : m.body.told = false := by rfl) : ∃ d σ', callN T (n + 1) f args σ = some (d, σ') ∧ Φ d σ' := by
 obtain ⟨ae, fr, σ1, h1, h2, h3⟩ := h
 have hb : runBody (callN T n) n m args σ = some (fr, σ1) := by
  unfold runBody
  rw [if_pos ⟨hp, hp2⟩, h1]
  rcases h2 with rfl | rfl <;> rfl
 rcases h3 with ⟨h3, d, σ', h4, h5⟩ | ⟨g, caps, σ2, d0, h3, h6, h7, d, σ', h4, h5⟩
 ·refine ⟨d, σ', ?_, h5⟩
  simp only [callN, hm, hb, h3, List.isEmpty_nil, if_true]
  exact h4
 ·refine ⟨d, σ', ?_, h5⟩
  simp only [callN, hm, hb, h3, List.isEmpty_cons, hnt, Bool.false_eq_true, if_false, runDefers, List.nil_append, h6, if_true, h7]
  exact h4
def ils (l : List Int) : List D := l.map (.int .i64)
theorem ils_len (l : List Int) : (ils l).length = l.length := by simp [ils]
theorem ils_set (l : List Int) (i : Nat) (b : Int) : (ils l).set i (.int .i64 b) = ils (l.set i b) := by simp [ils, List.map_set]
theorem ils_new (n : Nat) : (List.replicate n [D.int .i64 0]).flatten = ils (List.replicate n 0) := by simp [ils]
theorem ils_get {l : List Int} {i : Nat} (h : i < l.length) : (ils l)[i]? = some (.int .i64 l[i]) := by simp [ils, h]
theorem chunk_ils : ∀ l : List Int, chunk 1 ((ils l).map D.strip) l.length = ints l
 | [] => rfl
 | b :: l => by
  show chunk 1 (.int .i64 b :: (ils l).map D.strip) (l.length + 1) = [.int .i64 b] :: ints l
  rw [← chunk_ils l]
  rfl
theorem elems_ils1 {σ : St} {o : Nat} {l : List Int} (h0 : 0 < l.length) (h : σ[o]? = some (.cells (ils l))) : elems σ (.msl o (0 + 1 * 1) (l.length - 1) 1) = some (ints (l.drop 1)) := by
 have h1 : (ils l).all D.pure1 = true := by simp [ils, D.pure1]
 simp only [elems, h]
 rw [if_pos ⟨by rw [ils_len]; omega, om, h1⟩]
 cases l with
 | nil => simp at h0
 | cons x l =>
  have : (ils (x :: l)).drop (0 + 1 * 1) = ils l := rfl
  rw [this]
  exact congrArg some (chunk_ils l)
section
variable {cal : Cal} {fuel : Nat} {fr : Fr} {σ : St} {R : AE → Fr → St → Prop}
theorem runs_same {q : Bool} {o o' : MOper} {ops : List MOper} (he : runOp cal q o fr σ = runOp cal q o' fr σ) (h : Runs (runC cal fuel (.region q (o' :: ops)) fr σ) R) : Runs (runC cal fuel (.region q (o :: ops)) fr σ) R := by
 simp only [runC, runOps, he] at h ⊢
 exact h
theorem runs_loadL {q : Bool} {dst : Option Nat} {s : Nat} {agg : Bool} {a : X} {g : Option (Nat × Bool)} {ops : List MOper} (hi : okL (fr.val a) = true)
  (h : Runs (runC cal fuel (.region q (⟨dst, .load agg s a false, g⟩ :: ops)) fr σ) R) : Runs (runC cal fuel (.region q (⟨dst, .loadL agg s a, g⟩ :: ops)) fr σ) R := by
 refine runs_same ?_ h
 unfold runOp
 rw [loadL_eq, hi]
 rfl
theorem runs_callT {dst : Option Nat} {f : Nat} {args : List X} {g : Option (Nat × Bool)} {ops : List MOper} (hi : (args.map fr.arg).all D.notL = true)
  (h : Runs (runC cal fuel (.region false (⟨dst, .call f args, g⟩ :: ops)) fr σ) R) : Runs (runC cal fuel (.region false (⟨dst, .callS f args, g⟩ :: ops)) fr σ) R := by
 refine runs_same ?_ h
 unfold runOp
 simp only []
 split
 ·rfl
 ·rfl
 ·simp only [evalOp, if_pos hi, Bool.false_eq_true, if_false, promA_ok args hi]
theorem runs_loadOB {q : Bool} {dst : Option Nat} {t s : Nat} {agg : Bool} {a : X} {g : Option (Nat × Bool)} {ops : List MOper} (hb : (fr.val a).inBox t = false) (hi : okL (fr.val a) = true)
  (h : Runs (runC cal fuel (.region q (⟨dst, .load agg s a false, g⟩ :: ops)) fr σ) R) : Runs (runC cal fuel (.region q (⟨dst, .loadB t agg s a, g⟩ :: ops)) fr σ) R := by
 refine runs_same ?_ h
 unfold runOp
 rw [loadB_eq, hb, loadL_eq, hi]
 rfl
theorem runs_loadPT {q : Bool} {dst : Option Nat} {s : Nat} {agg : Bool} {a : X} {g : Option (Nat × Bool)} {ops : List MOper} (hi : okP (fr.val a) = true)
  (h : Runs (runC cal fuel (.region q (⟨dst, .load agg s a false, g⟩ :: ops)) fr σ) R) : Runs (runC cal fuel (.region q (⟨dst, .loadP agg s a, g⟩ :: ops)) fr σ) R := by
 refine runs_same ?_ h
 unfold runOp
 rw [loadP_eq, hi]
 rfl
theorem runs_loadTT {q : Bool} {dst : Option Nat} {s : Nat} {agg : Bool} {a : X} {g : Option (Nat × Bool)} {ops : List MOper} (hi : okT (fr.val a) = true)
  (h : Runs (runC cal fuel (.region q (⟨dst, .load agg s a true, g⟩ :: ops)) fr σ) R) : Runs (runC cal fuel (.region q (⟨dst, .loadT agg s a, g⟩ :: ops)) fr σ) R := by
 refine runs_same ?_ h
 unfold runOp
 rw [loadT_eq, hi]
 rfl
theorem runs_callvT {dst : Option Nat} {f : X} {args : List X} {g : Option (Nat × Bool)} {ops : List MOper} (hi : (args.map fr.arg).all D.notL = true)
  (h : Runs (runC cal fuel (.region false (⟨dst, .callv f args, g⟩ :: ops)) fr σ) R) : Runs (runC cal fuel (.region false (⟨dst, .callvS f args, g⟩ :: ops)) fr σ) R := by
 refine runs_same ?_ h
 unfold runOp
 simp only []
 split
 ·rfl
 ·rfl
 ·simp only [evalOp, if_pos hi, Bool.false_eq_true, if_false, promA_ok args hi]
theorem runs_storeR {q : Bool} {dst : Option Nat} {t s : Nat} {x : X} {g : Option (Nat × Bool)} {ops : List MOper} (hi : (fr.val (.tmp t)).inBox t = true)
  (h : Runs (runC cal fuel (.region q (⟨dst, .store s (.tmp t) x, g⟩ :: ops)) fr σ) R) : Runs (runC cal fuel (.region q (⟨dst, .storeR s t x, g⟩ :: ops)) fr σ) R := by
 refine runs_same ?_ h
 unfold runOp
 rw [storeR_eq, hi]
 rfl
theorem runs_allocR {q : Bool} {t : Nat} {z : List D} {g : Option (Nat × Bool)} {ops : List MOper} (hi : (fr.boxAt t).isNone = true)
  (h : Runs (runC cal fuel (.region q (⟨some t, .alloc z, g⟩ :: ops)) fr σ) R) : Runs (runC cal fuel (.region q (⟨some t, .allocR z, g⟩ :: ops)) fr σ) R := by
 refine runs_same ?_ h
 have hn : fr.newBox t z = fr.setBox t (some z) := by
  unfold Fr.newBox
  cases hb : fr.boxAt t with
  | none => rfl
  | some b =>
   rw [hb] at hi
   cases hi
 unfold runOp
 simp only [evalOp, hi, hn, if_true]
theorem wrap_equ {v w : Int} (h : v = w) (lo : 0 ≤ w) (hi : w < 18446744073709551616) : IntKind.u64.wrap v = w := by
 subst h
 simp only [IntKind.wrap, IntKind.bits, IntKind.signed]
 simp
 omega
theorem runs_callF {dst : Option Nat} {f : Nat} {args : List X} {g : Option (Nat × Bool)} {ops : List MOper} (ds : List D) (hw : wantedD fr g = some true) (hp : fr.promoteAll σ args = some (ds, fr, σ)) (hq : ds.all pureArg = true) (hs : snap σ ds = some (ds, [])) {r r' : D} {σc : St} (hc : cal f ds [] = some (r, σc)) (hf : freeze σc r = some r')
  (h : Runs (runC cal fuel (.region false ops) (fr.put dst r') σ) R) : Runs (runC cal fuel (.region false (⟨dst, .call f args, g⟩ :: ops)) fr σ) R := by
 refine runs_op hw ?_ h
 simp only [evalOp, Bool.false_eq_true, if_false, hp, doCall, hq, if_true, hs, hc, hf, List.isEmpty_nil, Bool.true_or, Option.map_some, killAll]
end
end Go.Abs

namespace Go.Abs
open Go Go.RowKit
inductive Tag where
 | free | other | hand
 | obj (o : Nat)
 | box (t : Nat)
 | sbuf (t : Nat)
 | bbuf (t j : Nat)
 | obuf (o j : Nat)
 /-- a map that is ranged over -/
 | ro (o : Nat)
 deriving DecidableEq
def Tag.mine : Tag → Bool
 | .free | .other | .ro _ => false
 | _ => true
structure Gh where
 I : Nat → Nat → Option Value
 n : Nat
 μ : Nat → Nat
 sz : Nat → Nat
 β : Nat → Nat
 ω : Nat → Tag
 /-- the deferred calls that lie below this frame's own -/
 base : List Deferred := []
def AllRep (R : Value → D → Prop) (vs : List Value) (ds : List D) : Prop :=
 vs.length = ds.length ∧ ∀ (i : Nat) (v : Value) (d : D), vs[i]? = some v → ds[i]? = some d → R v d
inductive Rep (g : Gh) : Value → D → Prop
 | junk (v : Value) : Rep g v .junk
 | undef : Rep g _root_.Go.undef .undef
 | nils (e : Nat) : Rep g (.slice none 0 0) (.nils e)
 | bool (b : Bool) : Rep g (.bool b) (.bool b)
 | int (k : IntKind) (n : Int) : Rep g (.int k n) (.int k n)
 | str (s : ByteArray) : Rep g (.string s) (.str s.data.toList)
 | nilp : Rep g (.pointer none) .nilp
 | nilm : Rep g (.map none) .nilm
 | nilf : Rep g .nilFunc .nilf
 | val (v : Value) : Rep g v (.val v)
 | ptr (o off : Nat) (h : o < g.n) : Rep g (.pointer (some ⟨g.μ o, off, none⟩)) (.ptr o off)
 | lptr (t off : Nat) : Rep g (.pointer (some ⟨g.β t, off, none⟩)) (.lptr t off)
 | ref (b off : Nat) (cs : List D) (V : Nat → Value) (hI : ∀ (i : Nat) (d : D), cs[i]? = some d → g.I b (off + i) = some (V i))
   (hR : ∀ (i : Nat) (d : D), cs[i]? = some d → Rep g (V i) d) (hp : cs.all D.pure1 = true) : Rep g (.pointer (some ⟨b, off, none⟩)) (.ref cs)
 | sl (a : Option Addr) (len cap b off esz : Nat) (es : List (List D)) (own : Option Nat) (V : Nat → Nat → Value) (hl : len = es.length)
   (hc : len ≤ cap) (hn : a = none → cap = 0) (ha : es ≠ [] → a = some ⟨b, off, none⟩) (he : ∀ e ∈ es, e.length = esz ∧ e.all D.pure1 = true)
   (hI : ∀ (i : Nat) (e : List D) (j : Nat) (d : D), es[i]? = some e → e[j]? = some d → g.I b (off + i * esz + j) = some (V i j))
   (hR : ∀ (i : Nat) (e : List D) (j : Nat) (d : D), es[i]? = some e → e[j]? = some d → Rep g (V i j) d) : Rep g (.slice a len cap) (.sl es own)
 | msl (o off n esz cap : Nat) (h : o < g.n) (hc : n ≤ cap) (hs : off + cap * esz ≤ g.sz o) : Rep g (.slice (some ⟨g.μ o, off, none⟩) n cap) (.msl o off n esz)
 | map (o : Nat) (h : o < g.n) : Rep g (.map (some (g.μ o))) (.map o)
 | func (f : Nat) (vs : Array Value) (ds : List D) (hl : vs.toList.length = ds.length)
   (hR : ∀ (i : Nat) (v : Value) (d : D), vs.toList[i]? = some v → ds[i]? = some d → Rep g v d) (hp : ds.all D.notL = true) : Rep g (.func (.func f) #[] vs) (.func f ds)
 | agg (vs : Array Value) (ds : List D) (hl : vs.toList.length = ds.length)
   (hR : ∀ (i : Nat) (v : Value) (d : D), vs.toList[i]? = some v → ds[i]? = some d → Rep g v d) (hp : ds.all D.plain = true) : Rep g (.agg vs) (.agg ds)
 | tup (vs : Array Value) (ds : List D) (hl : vs.toList.length = ds.length)
   (hR : ∀ (i : Nat) (v : Value) (d : D), vs.toList[i]? = some v → ds[i]? = some d → Rep g v d) (hp : ds.all D.notL = true) : Rep g (.tuple vs) (.tup ds)
theorem notL_of_pure1 {d : D} (h : d.pure1 = true) : d.notL = true := by cases d <;> simp_all [D.pure1, D.notL]
theorem notL_of_plain {d : D} (h : d.plain = true) : d.notL = true := by cases d <;> simp_all [D.plain, D.notL]
theorem plain_of_pure1 {d : D} (h : d.pure1 = true) : d.plain = true := by cases d <;> simp_all [D.pure1, D.plain]
theorem all_get {p : D → Bool} {ds : List D} (h : ds.all p = true) {i : Nat} {d : D} (hd : ds[i]? = some d) : p d = true :=
 List.all_eq_true.1 h d (List.mem_of_getElem? hd)
structure Gh.Le (g g' : Gh) : Prop where
 I : ∀ (b off : Nat) (v : Value), g.I b off = some v → g'.I b off = some v
 n : g.n ≤ g'.n
 μ : ∀ o, o < g.n → g'.μ o = g.μ o
 sz : ∀ o, o < g.n → g'.sz o = g.sz o
theorem Gh.Le.refl (g : Gh) : g.Le g := ⟨fun _ _ _ h => h, Nat.le_refl _, fun _ _ => rfl, fun _ _ => rfl⟩
theorem Gh.Le.trans {a b c : Gh} (h : a.Le b) (k : b.Le c) : a.Le c :=
 ⟨fun _ _ _ x => k.I _ _ _ (h.I _ _ _ x), Nat.le_trans h.n k.n, fun o ho => (k.μ o (Nat.lt_of_lt_of_le ho h.n)).trans (h.μ o ho), fun o ho => (k.sz o (Nat.lt_of_lt_of_le ho h.n)).trans (h.sz o ho)⟩
theorem Rep.mono {g g' : Gh} (hg : g.Le g') {v : Value} {d : D} (h : Rep g v d) : (∀ t off, d = .lptr t off → g'.β t = g.β t) → Rep g' v d := by
 induction h with
 | junk v => exact fun _ => .junk v
 | undef => exact fun _ => .undef
 | nils e => exact fun _ => .nils e
 | bool b => exact fun _ => .bool b
 | int k n => exact fun _ => .int k n
 | str s => exact fun _ => .str s
 | nilp => exact fun _ => .nilp
 | nilm => exact fun _ => .nilm
 | nilf => exact fun _ => .nilf
 | val v => exact fun _ => .val v
 | ptr o off h => intro _; rw [← hg.μ o h]; exact .ptr o off (Nat.lt_of_lt_of_le h hg.n)
 | lptr t off => intro hb; rw [← hb t off rfl]; exact .lptr t off
 | ref b off cs V hI hR hp ih =>
  exact fun _ => .ref b off cs V (fun i d hd => hg.I _ _ _ (hI i d hd)) (fun i d hd => ih i d hd (fun t off e => by subst e; exact absurd (notL_of_pure1 (all_get hp hd)) (by simp [D.notL]))) hp
 | sl a len cap b off esz es own V hl hc hn ha he hI hR ih =>
  exact fun _ => .sl a len cap b off esz es own V hl hc hn ha he (fun i e j d h1 h2 => hg.I _ _ _ (hI i e j d h1 h2))
   (fun i e j d h1 h2 => ih i e j d h1 h2 (fun t off x => by subst x; exact absurd (notL_of_pure1 (all_get (he e (List.mem_of_getElem? h1)).2 h2)) (by simp [D.notL])))
 | msl o off n esz cap h hc hs => intro _; rw [← hg.μ o h]; exact .msl o off n esz cap (Nat.lt_of_lt_of_le h hg.n) hc (by rw [hg.sz o h]; exact hs)
 | map o h => intro _; rw [← hg.μ o h]; exact .map o (Nat.lt_of_lt_of_le h hg.n)
 | func f vs ds hl hR hp ih =>
  exact fun _ => .func f vs ds hl (fun i v d h1 h2 => ih i v d h1 h2 (fun t off e => by subst e; exact absurd (all_get hp h2) (by simp [D.notL]))) hp
 | agg vs ds hl hR hp ih =>
  exact fun _ => .agg vs ds hl (fun i v d h1 h2 => ih i v d h1 h2 (fun t off e => by subst e; exact absurd (all_get hp h2) (by simp [D.plain]))) hp
 | tup vs ds hl hR hp ih =>
  exact fun _ => .tup vs ds hl (fun i v d h1 h2 => ih i v d h1 h2 (fun t off e => by subst e; exact absurd (all_get hp h2) (by simp [D.notL]))) hp
theorem Rep.out1 {g g' : Gh} (hI : ∀ (b off : Nat) (v : Value), g.I b off = some v → g'.I b off = some v) {v : Value} {d : D} (h : Rep g v d) : d.pure1 = true → Rep g' v d := by
 induction h with
 | junk v => exact fun _ => .junk v
 | undef => exact fun _ => .undef
 | nils e => exact fun _ => .nils e
 | bool b => exact fun _ => .bool b
 | int k n => exact fun _ => .int k n
 | str s => exact fun _ => .str s
 | nilp => exact fun _ => .nilp
 | nilm => exact fun _ => .nilm
 | nilf => exact fun _ => .nilf
 | val v => exact fun _ => .val v
 | ptr o off h => intro hp; simp [D.pure1] at hp
 | lptr t off => intro hp; simp [D.pure1] at hp
 | ref b off cs V hI' hR hp ih => exact fun _ => .ref b off cs V (fun i d hd => hI _ _ _ (hI' i d hd)) (fun i d hd => ih i d hd (all_get hp hd)) hp
 | sl a len cap b off esz es own V hl hc hn ha he hI' hR ih =>
  exact fun _ => .sl a len cap b off esz es own V hl hc hn ha he (fun i e j d h1 h2 => hI _ _ _ (hI' i e j d h1 h2))
   (fun i e j d h1 h2 => ih i e j d h1 h2 (all_get (he e (List.mem_of_getElem? h1)).2 h2))
 | msl o off n esz cap h hc hs => intro hp; simp [D.pure1] at hp
 | map o h => intro hp; simp [D.pure1] at hp
 | func f vs ds hl hR hp ih =>
  intro hq
  cases ds with
  | nil => exact .func f vs [] hl (fun i v d _ h2 => by simp at h2) rfl
  | cons a b => simp [D.pure1] at hq
 | agg vs ds hl hR hp ih => intro hq; simp [D.pure1] at hq
 | tup vs ds hl hR hp ih => intro hq; simp [D.pure1] at hq
theorem Rep.outA {g g' : Gh} (hI : ∀ (b off : Nat) (v : Value), g.I b off = some v → g'.I b off = some v) {v : Value} {cs : List D} (h : Rep g v (.agg cs)) (hp : cs.all D.pure1 = true) : Rep g' v (.agg cs) := by
 cases h with
 | agg vs _ hl hR hq => exact .agg vs cs hl (fun i v d h1 h2 => (hR i v d h1 h2).out1 hI (all_get hp h2)) hq
theorem Rep.out {g g' : Gh} (hI : ∀ (b off : Nat) (v : Value), g.I b off = some v → g'.I b off = some v) {v : Value} {d : D} (h : Rep g v d) (hp : pureD d = true) : Rep g' v d := by
 cases d with
 | agg cs => exact h.outA hI hp
 | tup ds =>
  cases h with
  | tup vs _ hl hR hq =>
   refine .tup vs ds hl (fun i v d h1 h2 => ?_) hq
   have hd := List.all_eq_true.1 hp d (List.mem_of_getElem? h2)
   cases d with
   | agg cs => exact (hR i v _ h1 h2).outA hI hd
   | _ => exact (hR i v _ h1 h2).out1 hI hd
 | _ => exact h.out1 hI hp
theorem Rep.strip {g : Gh} {v : Value} {d : D} (h : Rep g v d) : Rep g v d.strip := by
 cases h with
 | sl a len cap b off esz es own V hl hc hn ha he hI hR => exact .sl a len cap b off esz es none V hl hc hn ha he hI hR
 | nils e => exact .sl none 0 0 0 0 0 [] _ (fun _ _ => _root_.Go.undef) rfl (Nat.le_refl _) (fun _ => rfl) (fun h => absurd rfl h) (by simp) (by simp) (by simp)
 | _ => constructor <;> assumption
theorem strip_strip (d : D) : d.strip.strip = d.strip := by cases d <;> rfl
theorem Rep.nil {g : Gh} (own : Option Nat) : Rep g (.slice none 0 0) (.sl [] own) :=
 .sl none 0 0 0 0 0 [] _ (fun _ _ => _root_.Go.undef) rfl (Nat.le_refl _) (fun _ => rfl) (fun h => absurd rfl h) (by simp) (by simp) (by simp)
theorem Rep.bare {g : Gh} {v : Value} {d : D} (h : Rep g v d) : Rep g v d.bare := by
 cases h with
 | agg vs ds hl hR hp =>
  refine .agg vs _ (by simpa using hl) (fun i v d h1 h2 => ?_) ?_
  ·simp only [List.getElem?_map, Option.map_eq_some_iff] at h2
   obtain ⟨d0, h2, rfl⟩ := h2
   exact (hR i v d0 h1 h2).strip
  ·rw [List.all_map]
   refine List.all_eq_true.2 fun x hx => ?_
   have := List.all_eq_true.1 hp x hx
   cases x <;> simp_all [D.strip, D.plain]
 | sl a len cap b off esz es own V hl hc hn ha he hI hR => exact .sl a len cap b off esz es own V hl hc hn ha he hI hR
 | _ => constructor <;> assumption
theorem Rep.deep {g : Gh} {v : Value} {d : D} (h : Rep g v d) : Rep g v d.deep := h.bare.strip
theorem Rep.deep_of_strip {g : Gh} {v : Value} {d : D} (h : Rep g v d.strip) : Rep g v d.deep := by
 cases d with
 | agg cs => exact h.deep
 | _ => exact h
theorem deep_strip (d : D) : d.deep.strip = d.deep := by cases d <;> rfl
theorem pure1_strip (d : D) : d.strip.pure1 = d.pure1 := by cases d <;> rfl
theorem plain_strip (d : D) : d.strip.plain = d.plain := by cases d <;> rfl
theorem notL_strip (d : D) : d.strip.notL = d.notL := by cases d <;> rfl
theorem Rep.one {g : Gh} {v : Value} {d : D} (h : Rep g v d) (hp : d.plain = true) : v.oneCell' = true := by
 cases h <;> first | rfl | simp [D.plain] at hp
theorem Rep.cells_one {g : Gh} {v : Value} {d : D} (h : Rep g v d) (hp : d.plain = true) : v.cells = #[v] := by
 cases h <;> first | rfl | simp [D.plain] at hp
theorem Rep.cells {g : Gh} {v : Value} {d : D} (h : Rep g v d) (hp : d.cells.all D.plain = true) : AllRep (Rep g) v.cells.toList d.cells := by
 cases d with
 | agg ds =>
  cases h with
  | agg vs _ hl hR hq =>
   refine ⟨by simpa [D.cells, Value.cells] using hl, fun i v d h1 h2 => ?_⟩
   simp only [D.cells, List.getElem?_map, Option.map_eq_some_iff] at h2
   obtain ⟨d0, h2, rfl⟩ := h2
   exact (hR i v d0 h1 h2).strip
 | _ =>
  have hp' := List.all_eq_true.1 hp _ (List.mem_singleton.2 rfl)
  rw [h.cells_one hp']
  refine ⟨rfl, fun i v' d' h1 h2 => ?_⟩
  cases i with
  | zero => simp [D.cells] at h1 h2; subst h1 h2; exact h
  | succ i => simp [D.cells] at h2
end Go.Abs

namespace Go.Abs
def KeysOK (es : List (D × D)) : Prop := (es.map (·.1)).Pairwise fun a b => ∃ kk, eqKey kk a b = some false
theorem leaf_same {k : LK} {a b : D} (ha : k.fits a = true) (hb : k.fits b = true) (h : leafEq a b = true) : a = b := by
 cases k <;> cases a <;> simp only [LK.fits, Bool.false_eq_true] at ha <;> cases b <;> simp only [LK.fits, Bool.false_eq_true] at hb <;> simp_all [leafEq]
theorem leaf_symm (a b : D) : leafEq a b = leafEq b a := by
 cases a <;> cases b <;> simp only [leafEq] <;> rw [Bool.beq_comm]
theorem leaves_same : ∀ {ls : List LK} {xs ys : List D}, fitL ls xs = true → fitL ls ys = true → eqLs xs ys = true → xs = ys
 | [], [], [], _, _, _ => rfl
 | [], [], _ :: _, _, h, _ => by simp [fitL] at h
 | [], _ :: _, _, h, _, _ => by simp [fitL] at h
 | _ :: _, [], _, h, _, _ => by simp [fitL] at h
 | _ :: _, _ :: _, [], _, h, _ => by simp [fitL] at h
 | k :: ls, x :: xs, y :: ys, h1, h2, h3 => by
  simp only [fitL, eqLs, Bool.and_eq_true] at h1 h2 h3
  rw [leaf_same h1.1 h2.1 h3.1, leaves_same h1.2 h2.2 h3.2]
theorem leaves_symm : ∀ (xs ys : List D), eqLs xs ys = eqLs ys xs
 | [], [] => rfl
 | [], _ :: _ => rfl
 | _ :: _, [] => rfl
 | x :: xs, y :: ys => by simp only [eqLs, leaf_symm x y, leaves_symm xs ys]
theorem eqKey_true {kk : Nat} {a b : D} (h : eqKey kk a b = some true) : a = b := by
 unfold eqKey at h
 split at h
 ·split at h
  ·simp only [Option.some.injEq, beq_iff_eq] at h
   simp_all
  ·cases h
 ·simp only [Option.some.injEq, beq_iff_eq] at h
  simp_all
 ·simp only [Option.some.injEq, beq_iff_eq] at h
  simp_all
 ·split at h
  ·rename_i hf
   simp only [Option.some.injEq] at h
   rw [leaves_same hf.1 hf.2 h]
  ·cases h
 ·cases h
theorem eqKey_symm {kk : Nat} {a b : D} {r : Bool} (h : eqKey kk a b = some r) : eqKey kk b a = some r := by
 unfold eqKey at h
 split at h
 ·split at h
  ·rename_i e
   subst e
   simp only [Option.some.injEq] at h
   subst h
   simp only [eqKey, if_true]
   rw [Bool.beq_comm]
  ·cases h
 ·simp only [Option.some.injEq] at h
  subst h
  simp only [eqKey]
  rw [Bool.beq_comm]
 ·simp only [Option.some.injEq] at h
  subst h
  simp only [eqKey]
  rw [Bool.beq_comm]
 ·split at h
  ·rename_i hf
   simp only [Option.some.injEq] at h
   subst h
   simp only [eqKey, if_pos (And.intro hf.2 hf.1), leaves_symm]
  ·cases h
 ·cases h
def kindD : Nat → D → Bool
 | 0, .int _ _ | 1, .str _ | 2, .bool _ => true
 | n + 3, .agg xs => fitL (keyLs n) xs
 | _, _ => false
theorem eqKey_kind {kk : Nat} {a b : D} {r : Bool} (h : eqKey kk a b = some r) : kindD kk a = true ∧ kindD kk b = true := by
 unfold eqKey at h
 split at h
 ·exact ⟨rfl, rfl⟩
 ·exact ⟨rfl, rfl⟩
 ·exact ⟨rfl, rfl⟩
 ·split at h
  ·assumption
  ·cases h
 ·cases h
theorem fits_unique {k l : LK} {d : D} (h1 : k.fits d = true) (h2 : l.fits d = true) : k = l := by
 cases d <;> cases k <;> simp only [LK.fits, Bool.false_eq_true] at h1 <;> cases l <;> simp only [LK.fits, Bool.false_eq_true] at h2 <;> simp_all
theorem fit_unique : ∀ {l1 l2 : List LK} {xs : List D}, fitL l1 xs = true → fitL l2 xs = true → l1 = l2
 | [], [], _, _, _ => rfl
 | [], _ :: _, [], _, h => by simp [fitL] at h
 | [], _ :: _, _ :: _, h, _ => by simp [fitL] at h
 | _ :: _, _, [], h, _ => by simp [fitL] at h
 | _ :: _, [], _ :: _, _, h => by simp [fitL] at h
 | k :: l1, l :: l2, x :: xs, h1, h2 => by
  simp only [fitL, Bool.and_eq_true] at h1 h2
  rw [fits_unique h1.1 h2.1, fit_unique h1.2 h2.2]
theorem eqKey_one {kk kk' : Nat} {a b : D} (h : eqKey kk a a = some true) (k : eqKey kk' a b = some false) : eqKey kk a b = some false := by
 have h1 := (eqKey_kind h).1
 have h2 := (eqKey_kind k).1
 unfold kindD at h1 h2
 split at h1 <;> first | (cases h1; done) | skip
 ·split at h2 <;> simp_all
 ·split at h2 <;> simp_all
 ·split at h2 <;> simp_all
 ·rename_i n xs
  split at h2 <;> first | (cases h2; done) | (simp_all; done) | skip
  rename_i m ys he
  cases he
  have e : keyLs n = keyLs m := fit_unique h1 h2
  unfold eqKey at k ⊢
  cases b <;> first | (cases k; done) | skip
  simp only at k ⊢
  rw [e]
  exact k
theorem keys_symm {a b : D} (h : ∃ kk, eqKey kk a b = some false) : ∃ kk, eqKey kk b a = some false := by
 obtain ⟨kk, h⟩ := h
 exact ⟨kk, eqKey_symm h⟩
theorem KeysOK.perm {a b : List (D × D)} (h : a.Perm b) (k : KeysOK a) : KeysOK b := by
 unfold KeysOK at k ⊢
 exact ((h.map (·.1)).pairwise_iff (fun h => keys_symm h)).1 k
theorem KeysOK.tail {e : D × D} {es : List (D × D)} (h : KeysOK (e :: es)) : KeysOK es := by
 unfold KeysOK at h ⊢
 rw [List.map_cons, List.pairwise_cons] at h
 exact h.2
theorem KeysOK.two {a b : D × D} {es : List (D × D)} (h : KeysOK (a :: b :: es)) : ∃ kk, eqKey kk a.1 b.1 = some false := by
 unfold KeysOK at h
 rw [List.map_cons, List.pairwise_cons] at h
 exact h.1 _ (by simp)
theorem hit_miss {kk : Nat} {x : D} {a b : D} (h : eqKey kk x a = some true) (k : ∃ kk, eqKey kk a b = some false) : eqKey kk x b = some false := by
 have e := eqKey_true h
 subst e
 obtain ⟨kk', k⟩ := k
 exact eqKey_one h k
theorem findKey_perm {kk : Nat} {x : D} {a b : List (D × D)} (hp : a.Perm b) : ∀ {r : Option D}, KeysOK a → findKey kk x a = some r → findKey kk x b = some r := by
 induction hp with
 | nil => exact fun _ h => h
 | cons e _ ih =>
  intro r hk h
  obtain ⟨ke, ve⟩ := e
  simp only [findKey] at h ⊢
  split at h
  ·rename_i h1; (try rw [h1]); exact h
  ·rename_i h1; (try rw [h1]); exact ih hk.tail h
  ·cases h
 | swap a b l =>
  intro r hk h
  obtain ⟨ka, va⟩ := a
  obtain ⟨kb, vb⟩ := b
  have h2 := hk.two
  simp only [findKey] at h ⊢
  split at h
  ·rename_i h1
   rw [hit_miss h1 h2]; try rw [h1]
   exact h
  ·rename_i h1
   split at h
   ·rename_i h3; (try rw [h3]); exact h
   ·rename_i h3; (try rw [h3]); (try rw [h1]); exact h
   ·cases h
  ·cases h
 | trans p q ih1 ih2 =>
  intro r hk h
  exact ih2 (hk.perm p) (ih1 hk h)
theorem putKey_perm {kk : Nat} {x y : D} {a b : List (D × D)} (hp : a.Perm b) : ∀ {r : List (D × D)}, KeysOK a → putKey kk x y a = some r → ∃ r', putKey kk x y b = some r' ∧ r.Perm r' := by
 induction hp with
 | nil => exact fun _ h => ⟨_, h, .refl _⟩
 | @cons e l l' p ih =>
  intro r hk h
  obtain ⟨ke, ve⟩ := e
  simp only [putKey] at h ⊢
  split at h
  ·rename_i h1
   cases h
   try rw [h1]
   exact ⟨_, rfl, p.cons _⟩
  ·rename_i h1
   try rw [h1]
   cases h0 : putKey kk x y l with
   | none => rw [h0] at h; cases h
   | some r0 =>
    rw [h0] at h
    cases h
    obtain ⟨r', h3, h4⟩ := ih hk.tail h0
    try rw [h3]
    exact ⟨_, rfl, h4.cons _⟩
  ·cases h
 | swap a b l =>
  intro r hk h
  obtain ⟨ka, va⟩ := a
  obtain ⟨kb, vb⟩ := b
  have h2 := hk.two
  simp only [putKey] at h ⊢
  split at h
  ·rename_i h1
   cases h
   rw [hit_miss h1 h2]; try rw [h1]
   exact ⟨_, rfl, List.Perm.swap _ _ _⟩
  ·rename_i h1
   split at h
   ·rename_i h3
    cases h
    try rw [h3]
    exact ⟨_, rfl, List.Perm.swap _ _ _⟩
   ·rename_i h3
    (try rw [h3]); try rw [h1]
    cases h0 : putKey kk x y l with
    | none => rw [h0] at h; cases h
    | some r0 =>
     rw [h0] at h
     cases h
     exact ⟨_, rfl, List.Perm.swap _ _ _⟩
   ·cases h
  ·cases h
 | trans p q ih1 ih2 =>
  intro r hk h
  obtain ⟨r', h1, h2⟩ := ih1 hk h
  obtain ⟨r2, h3, h4⟩ := ih2 (hk.perm p) h1
  exact ⟨r2, h3, h2.trans h4⟩
theorem delKey_perm {kk : Nat} {x : D} {a b : List (D × D)} (hp : a.Perm b) : ∀ {r : List (D × D)}, KeysOK a → delKey kk x a = some r → ∃ r', delKey kk x b = some r' ∧ r.Perm r' := by
 induction hp with
 | nil => exact fun _ h => ⟨_, h, .refl _⟩
 | @cons e l l' p ih =>
  intro r hk h
  obtain ⟨ke, ve⟩ := e
  simp only [delKey] at h ⊢
  split at h
  ·rename_i h1
   cases h
   try rw [h1]
   exact ⟨_, rfl, p⟩
  ·rename_i h1
   try rw [h1]
   cases h0 : delKey kk x l with
   | none => rw [h0] at h; cases h
   | some r0 =>
    rw [h0] at h
    cases h
    obtain ⟨r', h3, h4⟩ := ih hk.tail h0
    try rw [h3]
    exact ⟨_, rfl, h4.cons _⟩
  ·cases h
 | swap a b l =>
  intro r hk h
  obtain ⟨ka, va⟩ := a
  obtain ⟨kb, vb⟩ := b
  have h2 := hk.two
  simp only [delKey] at h ⊢
  split at h
  ·rename_i h1
   cases h
   rw [hit_miss h1 h2]; try rw [h1]
   exact ⟨_, rfl, .refl _⟩
  ·rename_i h1
   split at h
   ·rename_i h3
    cases h
    try rw [h3]
    exact ⟨_, rfl, .refl _⟩
   ·rename_i h3
    (try rw [h3]); try rw [h1]
    cases h0 : delKey kk x l with
    | none => rw [h0] at h; cases h
    | some r0 =>
     rw [h0] at h
     cases h
     exact ⟨_, rfl, List.Perm.swap _ _ _⟩
   ·cases h
  ·cases h
 | trans p q ih1 ih2 =>
  intro r hk h
  obtain ⟨r', h1, h2⟩ := ih1 hk h
  obtain ⟨r2, h3, h4⟩ := ih2 (hk.perm p) h1
  exact ⟨r2, h3, h2.trans h4⟩
theorem findKey_at {kk : Nat} {x : D} : ∀ {es : List (D × D)} {r : Option D}, findKey kk x es = some r →
  (r = none ∧ ∀ kd ∈ es, eqKey kk x kd.1 = some false) ∨ ∃ (j : Nat) (kd : D × D), es[j]? = some kd ∧ r = some kd.2 ∧ eqKey kk x kd.1 = some true ∧ ∀ (i : Nat) (kd' : D × D), i < j → es[i]? = some kd' → eqKey kk x kd'.1 = some false
 | [], r, h => by
  simp only [findKey, Option.some.injEq] at h
  exact .inl ⟨h.symm, fun kd hk => by simp at hk⟩
 | (k', v') :: es, r, h => by
  simp only [findKey] at h
  split at h
  ·rename_i hq
   cases h
   exact .inr ⟨0, (k', v'), rfl, rfl, hq, fun i kd' hi => by omega⟩
  ·rename_i hq
   rcases findKey_at h with ⟨h1, h2⟩ | ⟨j, kd, h1, h2, h3, h4⟩
   ·refine .inl ⟨h1, fun kd hk => ?_⟩
    rcases List.mem_cons.1 hk with rfl | hk
    ·exact hq
    ·exact h2 kd hk
   ·refine .inr ⟨j + 1, kd, h1, h2, h3, fun i kd' hi he => ?_⟩
    cases i with
    | zero => simp at he; subst he; exact hq
    | succ i => exact h4 i kd' om (by simpa using he)
  ·cases h
theorem putKey_hit {kk : Nat} {x y : D} : ∀ {es : List (D × D)} {j : Nat} {kd : D × D}, es[j]? = some kd → eqKey kk x kd.1 = some true → (∀ (i : Nat) (kd' : D × D), i < j → es[i]? = some kd' → eqKey kk x kd'.1 = some false) → putKey kk x y es = some (es.set j (x, y))
 | [], j, kd, h, _, _ => by simp at h
 | (k', v') :: es, 0, kd, h, h1, _ => by
  simp at h
  subst h
  simp only [putKey, h1]
  rfl
 | (k', v') :: es, j + 1, kd, h, h1, h2 => by
  have h0 := h2 0 (k', v') om rfl
  have := putKey_hit (y := y) (es := es) (j := j) (by simpa using h) h1 (fun i kd' hi he => h2 (i + 1) kd' om (by simpa using he))
  simp only at h0
  simp only [putKey, h0, this]
  rfl
theorem delKey_hit {kk : Nat} {x : D} : ∀ {es : List (D × D)} {j : Nat} {kd : D × D}, es[j]? = some kd → eqKey kk x kd.1 = some true → (∀ (i : Nat) (kd' : D × D), i < j → es[i]? = some kd' → eqKey kk x kd'.1 = some false) → delKey kk x es = some (es.eraseIdx j)
 | [], j, kd, h, _, _ => by simp at h
 | (k', v') :: es, 0, kd, h, h1, _ => by
  simp at h
  subst h
  simp only [delKey, h1]
  rfl
 | (k', v') :: es, j + 1, kd, h, h1, h2 => by
  have h0 := h2 0 (k', v') om rfl
  have := delKey_hit (es := es) (j := j) (by simpa using h) h1 (fun i kd' hi he => h2 (i + 1) kd' om (by simpa using he))
  simp only at h0
  simp only [delKey, h0, this]
  rfl
theorem delKey_miss {kk : Nat} {x : D} : ∀ {es : List (D × D)}, (∀ kd ∈ es, eqKey kk x kd.1 = some false) → delKey kk x es = some es
 | [], _ => rfl
 | (k', v') :: es, h => by
  have h0 := h (k', v') (by simp)
  have := delKey_miss (es := es) (fun kd hk => h kd (by simp [hk]))
  simp only at h0
  simp only [delKey, h0, this]
  rfl
theorem delKey_find {kk : Nat} {x : D} : ∀ {es r : List (D × D)}, delKey kk x es = some r → ∃ s, findKey kk x es = some s
 | [], r, _ => ⟨none, rfl⟩
 | (k', v') :: es, r, h => by
  simp only [delKey] at h
  split at h
  ·rename_i hq; exact ⟨some v', by simp only [findKey, hq]⟩
  ·rename_i hq
   simp only [Option.map_eq_some_iff] at h
   obtain ⟨r', h1, rfl⟩ := h
   obtain ⟨s, hs⟩ := delKey_find h1
   exact ⟨s, by simp only [findKey, hq, hs]⟩
  ·cases h
theorem put_keys {kk : Nat} {x y : D} : ∀ {es r : List (D × D)}, putKey kk x y es = some r → (r.map (·.1) = es.map (·.1)) ∨ (r = es ++ [(x, y)] ∧ ∀ e ∈ es, eqKey kk x e.1 = some false)
 | [], r, h => by
  simp only [putKey, Option.some.injEq] at h
  subst h
  exact .inr ⟨rfl, fun e he => by simp at he⟩
 | (k', v) :: es, r, h => by
  simp only [putKey] at h
  split at h
  ·rename_i h1
   cases h
   left
   simp [eqKey_true h1]
  ·rename_i h1
   cases h0 : putKey kk x y es with
   | none => rw [h0] at h; cases h
   | some r0 =>
    rw [h0] at h
    cases h
    rcases put_keys h0 with h3 | ⟨h3, h4⟩
    ·left
     simp [h3]
    ·right
     refine ⟨by simp [h3], fun e he => ?_⟩
     rcases List.mem_cons.1 he with rfl | he
     ·exact h1
     ·exact h4 e he
  ·cases h
theorem KeysOK.put {kk : Nat} {x y : D} {es r : List (D × D)} (h : putKey kk x y es = some r) (k : KeysOK es) : KeysOK r := by
 rcases put_keys h with h1 | ⟨rfl, h1⟩
 ·unfold KeysOK at k ⊢
  rw [h1]
  exact k
 ·unfold KeysOK at k ⊢
  rw [List.map_append, List.pairwise_append]
  refine ⟨k, by simp, fun a ha b hb => ?_⟩
  simp only [List.map_cons, List.map_nil, List.mem_singleton] at hb
  subst hb
  obtain ⟨e, he, rfl⟩ := List.mem_map.1 ha
  exact ⟨kk, eqKey_symm (h1 e he)⟩
theorem del_sub {kk : Nat} {x : D} : ∀ {es r : List (D × D)}, delKey kk x es = some r → r.Sublist es
 | [], r, h => by
  simp only [delKey, Option.some.injEq] at h
  subst h
  exact .slnil
 | (k', v) :: es, r, h => by
  simp only [delKey] at h
  split at h
  ·cases h
   exact .cons _ (.refl _)
  ·cases h0 : delKey kk x es with
   | none => rw [h0] at h; cases h
   | some r0 =>
    rw [h0] at h
    cases h
    exact (del_sub h0).cons_cons _
  ·cases h
theorem KeysOK.del {kk : Nat} {x : D} {es r : List (D × D)} (h : delKey kk x es = some r) (k : KeysOK es) : KeysOK r :=
 List.Pairwise.sublist ((del_sub h).map (·.1)) k
end Go.Abs
