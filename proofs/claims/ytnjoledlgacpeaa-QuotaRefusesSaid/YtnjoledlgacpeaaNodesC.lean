import Derived.Test.YtnjoledlgacpeaaLineC
import Derived.Test.YtnjoledlgacpeaaCmpC
import Derived.Test.YtnjoledlgacpeaaMapIt
set_option linter.unusedVariables false
set_option linter.unusedSimpArgs false
/-
  The nodes of a tree, by their names: the code's parts, and the walk up to the sort.
-/
namespace Go.Abs.C
open Go Go.Abs Go.RowKit Go.Proofs Go.Proofs.Ytnjoledlgacpeaa

structure NodeR where
  name : List UInt8
  parent : List UInt8
  limit : Int
  used : Int
def strV (s : List UInt8) : Value := .string ⟨⟨s⟩⟩
theorem rep_strV {g : Gh} (s : List UInt8) : Rep g (strV s) (.str s) := .str ⟨⟨s⟩⟩
theorem strV_of {g : Gh} {v : Value} {s : List UInt8} (h : Rep g v (.str s)) : v = strV s := by
  cases h with
  | str b => rfl
def NodeR.cells (n : NodeR) : List D := [.str n.name, .str n.parent, .int .i64 n.limit, .int .i64 n.used]
def NodeR.vals (n : NodeR) : List Value := [strV n.name, strV n.parent, .int .i64 n.limit, .int .i64 n.used]
def nodeAt (σ : St) : D → Option NodeR
  | .ptr nd 0 =>
    match σ[nd]? with
    | some (.cells [.str a, .str b, .int .i64 l, .int .i64 u]) => some ⟨a, b, l, u⟩
    | _ => none
  | _ => none
def nodesOf (σ : St) : List (D × D) → Option (List NodeR)
  | [] => some []
  | e :: es =>
    match nodeAt σ e.2, nodesOf σ es with
    | some n, some ns => some (n :: ns)
    | _, _ => none

noncomputable def b16 : Code := (Try.f16.body).getD .skip
noncomputable def L16 : Code := inB (inB (sqB (sqA (sqB (sqB (sqB b16))))))
noncomputable def K16 : Code := inB (sqB (sqB L16))
noncomputable def T16 : Code := sqB (sqB (sqB (sqB b16)))
noncomputable def R16 : Code := sqA (sqA (sqB (sqB (sqB b16))))
def idB : Code → Nat
  | .region id _ _ => id
  | _ => 0
set_option maxRecDepth 100000 in
theorem body16 : Try.f16.body = some (.seq (sqA b16) (.seq (sqA (sqB b16)) (.seq (.region (idB (sqA (sqB (sqB b16)))) (opsB (sqA (sqB (sqB b16)))) false) (.seq (.seq (.region 4 (opsB R16) false) (.block 0 (.loop (.seq (.region 5 (opsB (sqA L16)) false) (.seq (sqA (sqB L16)) (.block 1 (.seq (.region 6 (opsB (sqA K16)) false) (sqB K16)))))))) (.seq (.region (idB (sqA T16)) (opsB (sqA T16)) false) (sqB T16)))))) := by kernel_rfl
def p16_a : MCode :=
   (.region false [⟨some 2, .assign (.const (.sl [] (some 46))), none⟩])
set_option maxRecDepth 100000 in
theorem comp16_a : compC Try.prog false [] (sqA b16) = some p16_a := by kernel_rfl

def p16_ba : MCode :=
   (.seq (.region false [⟨some 6, .move (.tmp 0) false, none⟩,
    ⟨some 7, .eqn false (.tmp 6), none⟩])
   (.cond (.tmp 7) (.seq (.region false [⟨some 2, .assign (.const (.sl [] (some 46))), none⟩])
   .ret) .skip))
set_option maxRecDepth 100000 in
theorem comp16_ba : compC Try.prog false [] (sqA (sqB b16)) = some p16_ba := by kernel_rfl

def p16_bbbabklba : MCode :=
   (.cond (.tmp 14) .skip (.exit 0))
set_option maxRecDepth 100000 in
theorem comp16_bbbabklba : compC Try.prog false [] (sqA (sqB L16)) = some p16_bbbabklba := by kernel_rfl

def p16_bbbabklbbkb : MCode :=
   (.region false [⟨some 17, .move (.tmp 3) true, none⟩,
    ⟨some 18, .move (.tmp 5) false, none⟩,
    ⟨some 19, .nilCheck (.tmp 18), none⟩,
    ⟨some 20, .load true 4 (.tmp 19) false, none⟩,
    ⟨some 21, .buildSlice 46 4 1 [(.str []), (.str []), (.int .i64 (0)), (.int .i64 (0))] [(0, (.tmp 20))], none⟩,
    ⟨some 22, .append 46 4 48 false (.tmp 17) (.tmp 21), none⟩,
    ⟨some 3, .assign (.tmp 22), none⟩])
set_option maxRecDepth 100000 in
theorem comp16_bbbabklbbkb : compC Try.prog false [] (sqB K16) = some p16_bbbabklbbkb := by kernel_rfl

def p16_tail : MCode := (.seq (.region false [⟨some 25, .move (.tmp 3) false, none⟩,
    ⟨some 2, .assign (.tmp 25), none⟩])
   .ret)
set_option maxRecDepth 100000 in
theorem comp16_tail : compC Try.prog false [] (sqB T16) = some p16_tail := by kernel_rfl
def c16_4 : List MOper := [⟨some 8, .move (.tmp 0) false, none⟩, ⟨some 9, .nilCheck (.tmp 8), none⟩, ⟨some 10, .fieldAddr 0 (.tmp 9), none⟩, ⟨some 11, .load false 1 (.tmp 10) false, none⟩]
noncomputable def opAt (c : Code) (i : Nat) : Oper := ((opsB c).toList[i]?).getD { dst := none, op := .move (.tmp 0), type := 0, pos := "", after := #[], guard := none }
theorem ops16_b : (opsB (sqA (sqB (sqB b16)))).toList = [opAt (sqA (sqB (sqB b16))) 0] := by kernel_rfl
theorem op16_b : (opAt (sqA (sqB (sqB b16))) 0).op = .assign (.const (.slice none 0 0)) ∧ (opAt (sqA (sqB (sqB b16))) 0).guard = none ∧ (opAt (sqA (sqB (sqB b16))) 0).dst = some 3 := ⟨by kernel_rfl, by kernel_rfl, by kernel_rfl⟩
theorem ops16_4 : (opsB R16).toList = [opAt R16 0, opAt R16 1, opAt R16 2, opAt R16 3] ++ [opAt R16 4] := by kernel_rfl
set_option maxRecDepth 100000 in
theorem comp16_4 : compOpers Try.prog false (opsB R16).toList [opAt R16 0, opAt R16 1, opAt R16 2, opAt R16 3] = some c16_4 := by kernel_rfl
theorem op16_4 : (opAt R16 4).op = .range 62 (.tmp 11) ∧ (opAt R16 4).guard = none ∧ (opAt R16 4).dst = some 12 := ⟨by kernel_rfl, by kernel_rfl, by kernel_rfl⟩
theorem ops16_5 : (opsB (sqA L16)).toList = opAt (sqA L16) 0 :: ([opAt (sqA L16) 1] ++ []) := by kernel_rfl
theorem op16_5 : (opAt (sqA L16) 0).op = .next (.tmp 12) false ∧ (opAt (sqA L16) 0).guard = none ∧ (opAt (sqA L16) 0).dst = some 13 := ⟨by kernel_rfl, by kernel_rfl, by kernel_rfl⟩
theorem comp16_5 : compOpers Try.prog false (opsB (sqA L16)).toList [opAt (sqA L16) 1] = some [⟨some 14, .extract (.tmp 13) 0, none⟩] := by kernel_rfl
theorem ops16_6 : (opsB (sqA K16)).toList = opAt (sqA K16) 0 :: ([opAt (sqA K16) 1, opAt (sqA K16) 2] ++ []) := by kernel_rfl
theorem op16_6 : (opAt (sqA K16) 0).op = .entry (.tmp 12) ∧ (opAt (sqA K16) 0).guard = none ∧ (opAt (sqA K16) 0).dst = some 15 := ⟨by kernel_rfl, by kernel_rfl, by kernel_rfl⟩
theorem comp16_6 : compOpers Try.prog false (opsB (sqA K16)).toList [opAt (sqA K16) 1, opAt (sqA K16) 2] = some [⟨some 16, .extract (.tmp 15) 1, none⟩, ⟨some 5, .assign (.tmp 16), none⟩] := by kernel_rfl
theorem ops16_7 : (opsB (sqA T16)).toList = [opAt (sqA T16) 0, opAt (sqA T16) 1] := by kernel_rfl
theorem op16_7 : (opAt (sqA T16) 0).op = .move (.tmp 3) ∧ (opAt (sqA T16) 0).guard = none ∧ (opAt (sqA T16) 0).dst = some 23 := ⟨by kernel_rfl, by kernel_rfl, by kernel_rfl⟩
theorem op16_8 : (opAt (sqA T16) 1).op = .call { callee := .value (.func 25), args := #[.tmp 23, .func 26], argTypes := #[39, 73] } ∧ (opAt (sqA T16) 1).guard = none ∧ (opAt (sqA T16) 1).dst = some 24 := ⟨by kernel_rfl, by kernel_rfl, by kernel_rfl⟩
theorem und62 : Try.prog.underlying 62 = some (.map 9 66) := by kernel_rfl
end Go.Abs.C

/-
  The nodes of a tree: the loop over the map.
-/
namespace Go.Abs.C
open Go Go.Abs Go.RowKit Go.Proofs Go.Proofs.Ytnjoledlgacpeaa

/-- A node in memory. -/
def NodeW (w : World) (v : Value) (n : NodeR) : Prop := ∃ nb, v = .pointer (some ⟨nb, 0, none⟩) ∧ ∀ (j : Nat) (u : Value), n.vals[j]? = some u → w.cell? ⟨nb, j, none⟩ = some u
def fr16 (d3 d12 : D) : Fr := ⟨[.junk, .junk, .junk, d3, .junk, .junk, .junk, .junk, .junk, .junk, .junk, .junk, d12, .junk, .junk, .junk, .junk, .junk, .junk, .junk, .junk, .junk, .junk, .junk, .junk, .junk], [none, none, none, none, none, none, none, none, none, none, none, none, none, none, none, none, none, none, none, none, none, none, none, none, none, none], []⟩
theorem clr16 (d3 : D) (v : Value) (h : keptD [3, 12] d3 = d3) (s : Fr) (hs : s.boxes = (fr16 d3 (.val v)).boxes) (hd : s.defers = []) (h1 : s.slots.length = 26) (h3 : s.slots[3]? = some d3) (h12 : s.slots[12]? = some (.val v)) : s.clear [3, 12] = fr16 d3 (.val v) := by
  obtain ⟨sl, bx, df⟩ := s
  simp only at hs hd h1 h3 h12
  subst hs hd
  match sl, h1 with
  | [a0, a1, a2, a3, a4, a5, a6, a7, a8, a9, a10, a11, a12, a13, a14, a15, a16, a17, a18, a19, a20, a21, a22, a23, a24, a25], _ =>
    simp only [List.getElem?_cons_zero, List.getElem?_cons_succ, Option.some.injEq] at h3 h12
    subst h3 h12
    simp only [Fr.clear, fr16, clearS, clearB, List.contains_cons, List.contains_nil]
    simp [keptD] at h ⊢
    exact h

theorem rep_node {g : Gh} {w : World} {r : Nat} {v : Value} {n : NodeR} (h : NodeW w v n) (hI : ∀ (b off : Nat) (u : Value), w.cell? ⟨b, off, none⟩ = some u → b ≠ r → g.I b off = some u) (hr : ∀ off, w.cell? ⟨r, off, none⟩ = none) : Rep g v (.ref n.cells) := by
  obtain ⟨nb, rfl, h⟩ := h
  have hne : nb ≠ r := by
    rintro rfl
    have := h 0 (strV n.name) rfl
    rw [hr] at this
    cases this
  refine .ref nb 0 n.cells (fun i => (n.vals[i]?).getD .nilFunc) (fun i d hd => ?_) (fun i d hd => ?_) rfl
  · rw [Nat.zero_add]
    match i, hd with
    | 0, _ => exact hI _ _ _ (h 0 _ rfl) hne
    | 1, _ => exact hI _ _ _ (h 1 _ rfl) hne
    | 2, _ => exact hI _ _ _ (h 2 _ rfl) hne
    | 3, _ => exact hI _ _ _ (h 3 _ rfl) hne
    | k + 4, hd => simp [NodeR.cells] at hd
  · match i, hd with
    | 0, hd => simp [NodeR.cells] at hd; subst hd; exact rep_strV _
    | 1, hd => simp [NodeR.cells] at hd; subst hd; exact rep_strV _
    | 2, hd => simp [NodeR.cells] at hd; subst hd; exact .int _ _
    | 3, hd => simp [NodeR.cells] at hd; subst hd; exact .int _ _
    | k + 4, hd => simp [NodeR.cells] at hd

theorem rep_tup1 {g : Gh} {v : Value} {d : D} (h : Rep g v d) (hd : d.notL = true) : Rep g (.tuple #[v]) (.tup [d]) := by
  refine .tup _ _ rfl (fun i u e h1 h2 => ?_) (by simp [hd])
  match i, h1, h2 with
  | 0, h1, h2 => simp at h1 h2; subst h1 h2; exact h
  | k + 1, h1, h2 => simp at h2
theorem rep_tup2 {g : Gh} {v u : Value} {d e : D} (h : Rep g v d) (hd : d.notL = true) (k : Rep g u e) (he : e.notL = true) : Rep g (.tuple #[v, u]) (.tup [d, e]) := by
  refine .tup _ _ rfl (fun i x y h1 h2 => ?_) (by simp [hd, he])
  match i, h1, h2 with
  | 0, h1, h2 => simp at h1 h2; subst h1 h2; exact h
  | 1, h1, h2 => simp at h1 h2; subst h1 h2; exact k
  | n + 2, h1, h2 => simp at h2
theorem rep_tup3 {g : Gh} {v u x : Value} {d e f : D} (h : Rep g v d) (hd : d.notL = true) (k : Rep g u e) (he : e.notL = true) (l : Rep g x f) (hf : f.notL = true) : Rep g (.tuple #[v, u, x]) (.tup [d, e, f]) := by
  refine .tup _ _ rfl (fun i x y h1 h2 => ?_) (by simp [hd, he, hf])
  match i, h1, h2 with
  | 0, h1, h2 => simp at h1 h2; subst h1 h2; exact h
  | 1, h1, h2 => simp at h1 h2; subst h1 h2; exact k
  | 2, h1, h2 => simp at h1 h2; subst h1 h2; exact l
  | n + 3, h1, h2 => simp at h2

/-- One element more. -/
theorem app16 (cal : Cal) (fuel : Nat) (es : List (List D)) (n : NodeR) (v13 v15 : D) (v : Value) (hb : (es.length + 1) * 48 ≤ room ∧ es.length + 1 < 4611686018427387904) :
    ∃ fr, runC cal fuel p16_bbbabklbbkb ((((((fr16 (.sl es (some 46)) (.val v)).put (some 13) v13).put (some 14) (.bool true)).put (some 15) v15).put (some 16) (.ref n.cells)).put (some 5) (.ref n.cells)) [] = some (.normal, fr, []) ∧ fr.clear [3, 12] = fr16 (.sl (es ++ [n.cells]) (some 46)) (.val v) := by
  refine ⟨_, by simp [runC, p16_bbbabklbbkb, fr16, runOps, runOp, wantedD, evalOp, Fr.val, Fr.at, Fr.put, Fr.set, Fr.take, cellsAt, D.strip, NodeR.cells, D.cells, fillE, D.pure1, elems, hb]; rfl, ?_⟩
  rfl

/-- A map's block and its iterator's, between two rounds. -/
structure RangeAt (W : World) (gk : Gh) (r bm since : Nat) (seen : Array Nat) : Prop where
  at_ : ∃ c0, since ≤ c0 ∧ W.heap[r]? = some (.mapIter (some bm) since seen c0)
  ω : gk.ω r = .other
theorem cell_iter {W : World} {r : Nat} {a : Option Nat} {b c : Nat} {s : Array Nat} (h : W.heap[r]? = some (.mapIter a b s c)) (off : Nat) : W.cell? ⟨r, off, none⟩ = none := by
  unfold World.cell?
  simp only
  rw [h]
theorem rec_put {gk : Gh} {W W1 : World} {r bm since c1 : Nat} {seen seen' : Array Nat} (h : RangeAt W gk r bm since seen) (hs : W1.heap.size = W.heap.size) (hc : since ≤ c1) : RangeAt (W1.putObj r (.mapIter (some bm) since seen' c1)) gk r bm since seen' := by
  obtain ⟨c0, h1, h2⟩ := h.at_
  exact ⟨⟨c1, hc, World.putObj_heap_same (by rw [hs]; exact lt_of_heap h2)⟩, h.ω⟩
/-- Others' work leaves it. -/
theorem RangeAt.keep {gk g' : Gh} {W W' : World} {r bm since : Nat} {seen : Array Nat} (h : RangeAt W gk r bm since seen) (e : Ext gk W g' W') : RangeAt W' g' r bm since seen := by
  obtain ⟨c0, k1, k2⟩ := h.at_
  obtain ⟨e1, e2⟩ := e.blk r (lt_of_heap k2) (by rw [h.ω]; rfl)
  exact ⟨⟨c0, k1, e1.trans k2⟩, e2.trans h.ω⟩

noncomputable def body16L : Code := .seq (.region 5 (opsB (sqA L16)) false) (.seq (sqA (sqB L16)) (.block 1 (.seq (.region 6 (opsB (sqA K16)) false) (sqB K16))))
def tupB (b : Bool) (e : MapEntry) : D := .tup [.bool b, .val e.key, .val e.val]
theorem loop16 {g0 : Gh} {wz : World} {r bm : Nat} {ents : Array MapEntry} {clock : Nat} {zs : List (MapEntry × NodeR)} {Q : Exit → Act → World → Prop} (hz : zs.map (·.1) = ents.toList) (hborn : Born ents clock) (hW : ∀ p ∈ zs, NodeW wz p.1.val p.2) (hlen : zs.length < 1000000)
    (hbm : wz.heap[bm]? = some (.map ents clock)) (hbr : bm ≠ r) (hr0 : ∀ off, wz.cell? ⟨r, off, none⟩ = none)
    (hQ : ∀ A' W' gk' vz', zs.Perm vz' → ExtBut (fun b => b = r) (g0.calm wz r) wz gk' W' → Inv Try.prog gk' W' (fr16 (.sl (vz'.map (·.2.cells)) (some 46)) (.val (.pointer (some ⟨r, 0, none⟩)))) [] A' → (∃ a b s c, W'.heap[r]? = some (.mapIter a b s c)) → Q (.exit 0) A' W') :
    ∀ (n : Nat) {vz lz : List (MapEntry × NodeR)} {seen : Array Nat} {gk : Gh} {W : World} {A : Act}, lz.length < n → zs.Perm (vz ++ lz) → seen.toList = vz.map (·.1.born) → ExtBut (fun b => b = r) (g0.calm wz r) wz gk W →
      Inv Try.prog gk W (fr16 (.sl (vz.map (·.2.cells)) (some 46)) (.val (.pointer (some ⟨r, 0, none⟩)))) [] A → RangeAt W gk r bm clock seen → Code.roundsIn Fence.wide 0 Try.prog body16L Q n A W
  | 0, vz, lz, seen, gk, W, A, h, _, _, _, _, _ => by omega
  | n + 1, vz, lz, seen, gk, W, A, hn, hp, hs, e0, i, hR => by
    rw [roundsIn_succ]
    obtain ⟨c0, hc0, hit⟩ := hR.at_
    have hbmW : W.heap[bm]? = some (.map ents clock) := ((e0.blk bm (lt_of_heap hbm) rfl).1 hbr).trans hbm
    have hv12 : A.eval (.tmp 12) = .pointer (some ⟨r, 0, none⟩) := by
      have := (val_ok i.s (x := .tmp 12) (X := .tmp 12) rfl).1
      generalize A.eval (.tmp 12) = v at this
      cases this
      rfl
    refine wpIn_seq (wpIn_region_list ?_)
    rw [ops16_5]
    rcases run_next_at (P := Try.prog) W (opAt (sqA L16) 0).type r bm clock c0 seen ents clock hit hbmW hborn.1 hc0 with ⟨h0, hrun⟩ | ⟨e, he, w1, hw1, hrun⟩
    · -- the end
      refine wide_value (w' := W) (v := .tuple #[.bool false]) op16_5.2.1 (by simp only [execOp, op16_5.1, hv12, Sem.run_bind, hrun, Result.andThen]; rfl) ?_
      rw [op16_5.2.2]
      have i1 := i.put (some 13) (rep_tup1 (.bool false) rfl) (fun _ _ => .of_ne rfl) (fun s off e => by cases e)
      refine wide_pre (q := false) noCal_ok noCal_in _ _ (noDefer_of (by kernel_rfl : noDefer #[opAt (sqA L16) 1] = true)) comp16_5 (fr' := ((fr16 (.sl (vz.map (·.2.cells)) (some 46)) (.val (.pointer (some ⟨r, 0, none⟩)))).put (some 13) (.tup [.bool false])).put (some 14) (.bool false)) (σ' := []) rfl i1 (fun a2 w2 g2 e2 i2 => ?_)
      unfold wpListIn
      refine wpIn_seq (wide_code hmix noCal_ok noCal_in comp16_bbbabklba 0 (ae := .exit 0) (fr' := ((fr16 (.sl (vz.map (·.2.cells)) (some 46)) (.val (.pointer (some ⟨r, 0, none⟩)))).put (some 13) (.tup [.bool false])).put (some 14) (.bool false)) (σ' := []) rfl i2 (fun a3 w3 g3 e3 i3 => ?_))
      have hR3 := (hR.keep e2).keep e3
      have i4 := i3.clear [3, 12]
      refine hQ a3 w3 g3 vz (visit_end hz hborn.2 hp hs h0) ((e0.trans e2.but).trans e3.but) i4 ?_
      obtain ⟨c, _, h⟩ := hR3.at_
      exact ⟨_, _, _, _, h⟩
    · -- one entry
      obtain ⟨b, l1, l2, hmem, rfl, hp', hs'⟩ := visit_step hz hp hs he
      have hw1s : w1.heap = W.heap := by rcases hw1 with rfl | rfl <;> rfl
      let W' : World := w1.putObj r (.mapIter (some bm) clock (seen.push e.born) clock)
      have eW : ExtBut (fun b => b = r) gk W gk W' := by
        rcases hw1 with h | h
        · rw [show W' = W.putObj r (.mapIter (some bm) clock (seen.push e.born) clock) from by simp only [W', h]]
          exact ExtBut.put (X := fun b => b = r) (b := r) rfl _
        · rw [show W' = W.drew.putObj r (.mapIter (some bm) clock (seen.push e.born) clock) from by simp only [W', h]]
          exact (Ext.drew gk W).but.trans (ExtBut.put (X := fun b => b = r) (b := r) rfl _)
      have iW : Inv Try.prog gk W' (fr16 (.sl (vz.map (·.2.cells)) (some 46)) (.val (.pointer (some ⟨r, 0, none⟩)))) [] A := by
        rcases hw1 with h | h
        · rw [show W' = W.putObj r (.mapIter (some bm) clock (seen.push e.born) clock) from by simp only [W', h]]
          exact i.putOther hit (fun _ _ _ h => by cases h) hR.ω _
        · rw [show W' = W.drew.putObj r (.mapIter (some bm) clock (seen.push e.born) clock) from by simp only [W', h]]
          exact i.drew.putOther (w := W.drew) hit (fun _ _ _ h => by cases h) hR.ω _
      have hRW : RangeAt W' gk r bm clock (seen.push e.born) := rec_put hR (by rw [hw1s]) (Nat.le_refl _)
      have hitW : W'.heap[r]? = some (.mapIter (some bm) clock (seen.push e.born) clock) := World.putObj_heap_same (by rw [hw1s]; exact lt_of_heap hit)
      refine wide_value (w' := W') (v := .tuple #[.bool true, e.key, e.val]) op16_5.2.1 (by simp only [execOp, op16_5.1, hv12, Sem.run_bind, hrun, Result.andThen]; rfl) ?_
      rw [op16_5.2.2]
      have i1 := iW.put (some 13) (rep_tup3 (.bool true) rfl (.val e.key) rfl (.val e.val) rfl) (fun _ _ => .of_ne rfl) (fun s off e => by cases e)
      refine wide_pre (q := false) noCal_ok noCal_in _ _ (noDefer_of (by kernel_rfl : noDefer #[opAt (sqA L16) 1] = true)) comp16_5 (fr' := ((fr16 (.sl (vz.map (·.2.cells)) (some 46)) (.val (.pointer (some ⟨r, 0, none⟩)))).put (some 13) (tupB true e)).put (some 14) (.bool true)) (σ' := []) rfl i1 (fun a2 w2 g2 e2 i2 => ?_)
      unfold wpListIn
      refine wpIn_seq (wide_code hmix noCal_ok noCal_in comp16_bbbabklba 0 (ae := .normal) (fr' := ((fr16 (.sl (vz.map (·.2.cells)) (some 46)) (.val (.pointer (some ⟨r, 0, none⟩)))).put (some 13) (tupB true e)).put (some 14) (.bool true)) (σ' := []) rfl i2 (fun a3 w3 g3 e3 i3 => ?_))
      have hR3 := (hRW.keep e2).keep e3
      have e03 := ((e0.trans eW).trans (e2.but (X := fun b => b = r))).trans (e3.but (X := fun b => b = r))
      have hbm3 : w3.heap[bm]? = some (.map ents clock) := ((e03.blk bm (lt_of_heap hbm) rfl).1 hbr).trans hbm
      have hit3 : w3.heap[r]? = some (.mapIter (some bm) clock (seen.push e.born) clock) := by
        obtain ⟨k1, k2⟩ := e2.blk r (lt_of_heap hitW) (by rw [hRW.ω]; rfl)
        obtain ⟨k3, _⟩ := e3.blk r (Nat.lt_of_lt_of_le (lt_of_heap hitW) e2.size) (by rw [k2, hRW.ω]; rfl)
        exact k3.trans (k1.trans hitW)
      have hv12' : a3.eval (.tmp 12) = .pointer (some ⟨r, 0, none⟩) := by
        have := (val_ok i3.s (x := .tmp 12) (X := .tmp 12) rfl).1
        generalize a3.eval (.tmp 12) = v at this
        cases this
        rfl
      refine wpIn_block (wpIn_seq (wpIn_region_list ?_))
      rw [ops16_6]
      have hme := (mem_left he).1
      refine wide_value (w' := w3) (v := .tuple #[e.key, e.val]) op16_6.2.1 (by simp only [execOp, op16_6.1, hv12', Sem.run_bind, run_entry_at w3 r bm clock seen ents clock e hit3 hbm3 hme hborn.2, Result.andThen]; rfl) ?_
      rw [op16_6.2.2]
      have hrep : Rep g3 e.val (.ref b.cells) := rep_node (r := r) (hW _ hmem) (fun b' off u hu hne => e03.le.I b' off u (by simp only [Gh.calm, if_neg hne]; exact hu)) hr0
      have i4 := i3.put (some 15) (rep_tup2 (.val e.key) rfl hrep rfl) (fun _ _ => .of_ne rfl) (fun s off e => by cases e)
      refine wide_pre (q := false) noCal_ok noCal_in _ _ (noDefer_of (by kernel_rfl : noDefer #[opAt (sqA K16) 1, opAt (sqA K16) 2] = true)) comp16_6 (fr' := ((((((fr16 (.sl (vz.map (·.2.cells)) (some 46)) (.val (.pointer (some ⟨r, 0, none⟩)))).put (some 13) (tupB true e)).put (some 14) (.bool true)).put (some 15) (.tup [.val e.key, .ref b.cells])).put (some 16) (.ref b.cells)).put (some 5) (.ref b.cells))) (σ' := []) rfl i4 (fun a5 w5 g5 e5 i5 => ?_)
      unfold wpListIn
      have hvl : vz.length < zs.length := by
        have := hp.length_eq
        simp at this
        omega
      obtain ⟨fr6, hr6, hc6⟩ := app16 noCal 0 (vz.map (·.2.cells)) b (tupB true e) (.tup [.val e.key, .ref b.cells]) (.pointer (some ⟨r, 0, none⟩)) (by simp only [List.length_map, room]; omega)
      refine wide_code hmix noCal_ok noCal_in comp16_bbbabklbbkb 0 hr6 i5 (fun a6 w6 g6 e6 i6 => ?_)
      have i7 := i6.clear [3, 12]
      rw [hc6] at i7
      refine loop16 hz hborn hW hlen hbm hbr hr0 hQ n (vz := vz ++ [(e, b)]) (lz := l1 ++ l2) (seen := seen.push e.born) ?_ hp' hs' ((e03.trans (e5.but (X := fun b => b = r))).trans (e6.but (X := fun b => b = r))) ?_ ((hR3.keep e5).keep e6)
      · simp only [List.length_append, List.length_cons] at hn ⊢
        omega
      · rw [List.map_append]
        exact i7
end Go.Abs.C
