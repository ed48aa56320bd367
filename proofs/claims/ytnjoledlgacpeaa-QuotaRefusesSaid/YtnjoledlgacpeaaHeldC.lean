import Derived.Test.YtnjoledlgacpeaaNodesE
set_option linter.unusedVariables false
set_option linter.unusedSimpArgs false
/-
  What is held, by its ids: the code's parts.
-/
namespace Go.Abs.C
open Go Go.Abs Go.RowKit Go.Sort Go.Proofs Go.Proofs.Ytnjoledlgacpeaa

structure HeldR where
  id : List UInt8
  node : List UInt8
  amount : Int
instance : Inhabited HeldR := ⟨⟨[], [], 0⟩⟩
def HeldR.cells (n : HeldR) : List D := [.str n.id, .str n.node, .int .i64 n.amount]
def HeldR.vals (n : HeldR) : List Value := [strV n.id, strV n.node, .int .i64 n.amount]
def heldK : RecK HeldR where
  k := 3
  vals := HeldR.vals
  cells := HeldR.cells
  pos := by decide
  vlen := fun _ => rfl
  clen := fun _ => rfl
  one := fun x v hv => by
    simp [HeldR.vals, strV] at hv
    rcases hv with rfl | rfl | rfl <;> rfl
  pure_ := fun _ => rfl
  rep := fun g x i v d h1 h2 => by
    match i, h1, h2 with
    | 0, h1, h2 => simp [HeldR.cells, HeldR.vals] at h1 h2; subst h1 h2; exact rep_strV _
    | 1, h1, h2 => simp [HeldR.cells, HeldR.vals] at h1 h2; subst h1 h2; exact rep_strV _
    | 2, h1, h2 => simp [HeldR.cells, HeldR.vals] at h1 h2; subst h1 h2; exact .int _ _
    | k + 3, h1, h2 => simp [HeldR.cells] at h2
  inv := fun g x i v d h h2 => by
    match i, h2 with
    | 0, h2 => simp [HeldR.cells] at h2; subst h2; rw [strV_of h]; rfl
    | 1, h2 => simp [HeldR.cells] at h2; subst h2; rw [strV_of h]; rfl
    | 2, h2 => simp [HeldR.cells] at h2; subst h2; cases h; rfl
    | k + 3, h2 => simp [HeldR.cells] at h2
def heldAt : D → Option HeldR
  | .agg [.str a, .str b, .int .i64 n] => some ⟨a, b, n⟩
  | _ => none
def heldOf : List (D × D) → Option (List HeldR)
  | [] => some []
  | e :: es =>
    match heldAt e.2, heldOf es with
    | some n, some ns => some (n :: ns)
    | _, _ => none
theorem rep_held (g : Gh) (n : HeldR) : Rep g (.agg n.vals.toArray) (.agg n.cells) := by
  refine .agg _ _ (by simp [HeldR.vals, HeldR.cells]) (fun i v d h1 h2 => ?_) rfl
  have h1' : n.vals[i]? = some v := by simpa using h1
  exact heldK.rep g n i v d h1' h2
theorem held_v {g : Gh} {v : Value} {d : D} {n : HeldR} (h : heldAt d = some n) (hv : Rep g v d) : v = .agg n.vals.toArray := by
  unfold heldAt at h
  split at h <;> first | (cases h; done) | skip
  rename_i a b k
  cases h
  cases hv with
  | agg vs ds hl hR hp =>
    congr 1
    apply Array.toList_inj.1
    obtain ⟨vs⟩ := vs
    match vs, hl with
    | [x, y, z], _ =>
      have h0 := strV_of (hR 0 x (.str a) rfl rfl)
      have h1 := strV_of (hR 1 y (.str b) rfl rfl)
      have h2 : z = .int .i64 k := by
        have := hR 2 z (.int .i64 k) rfl rfl
        cases this
        rfl
      subst h0 h1 h2
      rfl
theorem heldOf_perm {a b : List (D × D)} (hp : a.Perm b) : ∀ {rs : List HeldR}, heldOf a = some rs → ∃ rs', heldOf b = some rs' ∧ rs.Perm rs' := by
  induction hp with
  | nil => exact fun h => ⟨_, h, .refl _⟩
  | @cons e l l' p ih =>
    intro rs h
    simp only [heldOf] at h
    split at h <;> first | (cases h; done) | skip
    rename_i n ns h1 h2
    cases h
    obtain ⟨rs', h3, h4⟩ := ih h2
    exact ⟨n :: rs', by simp only [heldOf, h1, h3], h4.cons _⟩
  | swap x y l =>
    intro rs h
    simp only [heldOf] at h
    split at h <;> first | (cases h; done) | skip
    rename_i n ns h1 h2
    cases h
    split at h2 <;> first | (cases h2; done) | skip
    rename_i m ms h3 h4
    cases h2
    exact ⟨m :: n :: ms, by simp only [heldOf, h1, h3, h4], List.Perm.swap _ _ _⟩
  | trans p q ih1 ih2 =>
    intro rs h
    obtain ⟨r1, h1, h2⟩ := ih1 h
    obtain ⟨r2, h3, h4⟩ := ih2 h1
    exact ⟨r2, h3, h2.trans h4⟩
theorem hpairs {g : Gh} : ∀ {es : List (D × D)} {ents : List MapEntry} {rs : List HeldR}, MapRow g ents es → heldOf es = some rs → ∃ zs : List (MapEntry × HeldR), zs.map (·.1) = ents ∧ zs.map (·.2) = rs ∧ ∀ p ∈ zs, p.1.val = .agg p.2.vals.toArray
  | [], ents, rs, hm, h => by
    have := hm.1
    simp at this
    subst this
    simp only [heldOf, Option.some.injEq] at h
    subst h
    exact ⟨[], rfl, rfl, fun p hp => by simp at hp⟩
  | e :: es, ents, rs, hm, h => by
    obtain ⟨hl, hm⟩ := hm
    match ents, hl with
    | x :: ents, hl =>
      simp only [heldOf] at h
      split at h <;> first | (cases h; done) | skip
      rename_i n ns h1 h2
      cases h
      obtain ⟨zs, q1, q2, q3⟩ := hpairs (g := g) (ents := ents) (es := es) ⟨by simpa using hl, fun i y kd a b => hm (i + 1) y kd (by simpa using a) (by simpa using b)⟩ h2
      refine ⟨(x, n) :: zs, by simp [q1], by simp [q2], fun p hp => ?_⟩
      rcases List.mem_cons.1 hp with rfl | hp
      · exact held_v h1 (hm 0 x e rfl rfl).2.1
      · exact q3 p hp

/-! the iterator over a map's values -/
noncomputable def b44 : Code := (Try.f44.body).getD .skip
noncomputable def L44 : Code := inB (inB (sqB b44))
noncomputable def K44 : Code := inB (sqB (sqB L44))
noncomputable def Y44 : Code := sqA (sqB K44)
set_option maxRecDepth 100000 in
theorem body44 : Try.f44.body = some (.seq (.region 0 (opsB (sqA b44)) false) (.block 0 (.loop (.seq (.region 1 (opsB (sqA L44)) false) (.seq (sqA (sqB L44)) (.block 1 (.seq (.region 2 (opsB (sqA K44)) false) (.seq (.region (idB Y44) (opsB Y44) false) (sqB (sqB K44)))))))))) := by kernel_rfl
theorem ops44_0 : (opsB (sqA b44)).toList = [opAt (sqA b44) 0] ++ [opAt (sqA b44) 1] := by kernel_rfl
theorem comp44_0 : compOpers Try.prog false (opsB (sqA b44)).toList [opAt (sqA b44) 0] = some [⟨some 5, .load false 1 (.tmp 1) false, none⟩] := by kernel_rfl
theorem op44_00 : (opAt (sqA b44) 0).op = .load 63 (.tmp 1) ∧ (opAt (sqA b44) 0).guard = none ∧ (opAt (sqA b44) 0).dst = some 5 := ⟨by kernel_rfl, by kernel_rfl, by kernel_rfl⟩
theorem op44_0 : (opAt (sqA b44) 1).op = .range 63 (.tmp 5) ∧ (opAt (sqA b44) 1).guard = none ∧ (opAt (sqA b44) 1).dst = some 6 := ⟨by kernel_rfl, by kernel_rfl, by kernel_rfl⟩
theorem und63 : Try.prog.underlying 63 = some (.map 9 44) := by kernel_rfl
theorem ops44_1 : (opsB (sqA L44)).toList = opAt (sqA L44) 0 :: ([opAt (sqA L44) 1] ++ []) := by kernel_rfl
theorem op44_1 : (opAt (sqA L44) 0).op = .next (.tmp 6) false ∧ (opAt (sqA L44) 0).guard = none ∧ (opAt (sqA L44) 0).dst = some 7 := ⟨by kernel_rfl, by kernel_rfl, by kernel_rfl⟩
theorem comp44_1 : compOpers Try.prog false (opsB (sqA L44)).toList [opAt (sqA L44) 1] = some [⟨some 8, .extract (.tmp 7) 0, none⟩] := by kernel_rfl
theorem comp44_c : compC Try.prog false [] (sqA (sqB L44)) = some (.cond (.tmp 8) .skip (.exit 0)) := by kernel_rfl
theorem ops44_2 : (opsB (sqA K44)).toList = opAt (sqA K44) 0 :: ([opAt (sqA K44) 1, opAt (sqA K44) 2, opAt (sqA K44) 3] ++ []) := by kernel_rfl
theorem op44_2 : (opAt (sqA K44) 0).op = .entry (.tmp 6) ∧ (opAt (sqA K44) 0).guard = none ∧ (opAt (sqA K44) 0).dst = some 9 := ⟨by kernel_rfl, by kernel_rfl, by kernel_rfl⟩
def c44_2 : List MOper := [⟨some 10, .extract (.tmp 9) 1, none⟩, ⟨some 4, .alloc [(.str []), (.str []), (.int .i64 (0))], none⟩, ⟨none, .store 3 (.tmp 4) (.tmp 10), none⟩]
theorem comp44_2 : compOpers Try.prog false (opsB (sqA K44)).toList [opAt (sqA K44) 1, opAt (sqA K44) 2, opAt (sqA K44) 3] = some c44_2 := by kernel_rfl
theorem ops44_3 : (opsB Y44).toList = [opAt Y44 0, opAt Y44 1] ++ (opAt Y44 2 :: ([opAt Y44 3] ++ [])) := by kernel_rfl
def c44_3 : List MOper := [⟨some 11, .move (.tmp 0) false, none⟩, ⟨some 12, .load true 3 (.tmp 4) false, none⟩]
theorem comp44_3 : compOpers Try.prog false (opsB Y44).toList [opAt Y44 0, opAt Y44 1] = some c44_3 := by kernel_rfl
theorem op44_3 : (opAt Y44 2).op = .call { callee := .value (.tmp 11), args := #[.tmp 12], argTypes := #[44] } ∧ (opAt Y44 2).guard = none ∧ (opAt Y44 2).dst = some 13 := ⟨by kernel_rfl, by kernel_rfl, by kernel_rfl⟩
theorem comp44_4 : compOpers Try.prog false (opsB Y44).toList [opAt Y44 3] = some [⟨some 14, .un .not (.tmp 13), none⟩] := by kernel_rfl
theorem comp44_5 : compC Try.prog false [] (sqB (sqB K44)) = some (.cond (.tmp 14) .ret .skip) := by kernel_rfl
noncomputable def body44L : Code := .seq (.region 1 (opsB (sqA L44)) false) (.seq (sqA (sqB L44)) (.block 1 (.seq (.region 2 (opsB (sqA K44)) false) (.seq (.region (idB Y44) (opsB Y44) false) (sqB (sqB K44))))))

/-! what appends them -/
noncomputable def b60 : Code := (Try.f60.body).getD .skip
noncomputable def I60 : Code := rfA (inB (sqB (sqA (sqB b60))))
noncomputable def J60 : Code := rfB (inB (sqB (sqA (sqB b60))))
noncomputable def T60 : Code := sqB (sqB b60)
set_option maxRecDepth 100000 in
theorem body60 : Try.f60.body = some (.seq (.region (idB (sqA b60)) (opsB (sqA b60)) false) (.seq (.seq (sqA (sqA (sqB b60))) (.block 0 (.rangeFunc (.tmp 6) #[7] I60 J60))) (.seq (.region (idB (sqA T60)) (opsB (sqA T60)) false) .ret))) := by kernel_rfl
theorem ops60_0 : (opsB (sqA b60)).toList = [opAt (sqA b60) 0, opAt (sqA b60) 1] := by kernel_rfl
theorem op60_0 : (opAt (sqA b60) 0).op = .box 41 (.tmp 0) ∧ (opAt (sqA b60) 0).guard = none ∧ (opAt (sqA b60) 0).dst = some 2 := ⟨by kernel_rfl, by kernel_rfl, by kernel_rfl⟩
theorem op60_1 : (opAt (sqA b60) 1).op = .assign (.const (.slice none 0 0)) ∧ (opAt (sqA b60) 1).guard = none ∧ (opAt (sqA b60) 1).dst = some 4 := ⟨by kernel_rfl, by kernel_rfl, by kernel_rfl⟩
def p60_baa : MCode :=
   (.region false [⟨some 6, .move (.tmp 1) false, none⟩])
set_option maxRecDepth 100000 in
theorem comp60_baa : compC Try.prog false [] (sqA (sqA (sqB b60))) = some p60_baa := by kernel_rfl
def p60_babki : MCode :=
   (.region false [⟨some 5, .alloc [(.str []), (.str []), (.int .i64 (0))], none⟩,
    ⟨none, .store 3 (.tmp 5) (.tmp 7), none⟩])
set_option maxRecDepth 100000 in
theorem comp60_babki : compC Try.prog false [] I60 = some p60_babki := by kernel_rfl
def p60_babkj : MCode :=
   (.block 1 (.region false [⟨some 8, .load false 1 (.tmp 2) true, none⟩,
    ⟨some 9, .load true 3 (.tmp 5) false, none⟩,
    ⟨some 10, .buildSlice 44 3 1 [(.str []), (.str []), (.int .i64 (0))] [(0, (.tmp 9))], none⟩,
    ⟨some 11, .append 44 3 40 false (.tmp 8) (.tmp 10), none⟩,
    ⟨none, .store 1 (.tmp 2) (.tmp 11), none⟩]))
set_option maxRecDepth 100000 in
theorem comp60_babkj : compC Try.prog false [] J60 = some p60_babkj := by kernel_rfl
theorem okR60i : okR I60 = true := by kernel_rfl
theorem okR60j : okR J60 = true := by kernel_rfl
theorem ops60_2 : (opsB (sqA T60)).toList = [opAt (sqA T60) 0, opAt (sqA T60) 1] := by kernel_rfl
theorem op60_2 : (opAt (sqA T60) 0).op = .load 41 (.tmp 2) ∧ (opAt (sqA T60) 0).guard = none ∧ (opAt (sqA T60) 0).dst = some 12 := ⟨by kernel_rfl, by kernel_rfl, by kernel_rfl⟩
theorem op60_3 : (opAt (sqA T60) 1).op = .assign (.tmp 12) ∧ (opAt (sqA T60) 1).guard = none ∧ (opAt (sqA T60) 1).dst = some 4 := ⟨by kernel_rfl, by kernel_rfl, by kernel_rfl⟩
end Go.Abs.C

/-
  What is held: the loop over the map that hands each one out.
-/
namespace Go.Abs.C
open Go Go.Abs Go.RowKit Go.Sort Go.Proofs Go.Proofs.Ytnjoledlgacpeaa

def fr44 (y pm it : Value) : Fr := ⟨[.val y, .val pm, .junk, .junk, .junk, .junk, .val it, .junk, .junk, .junk, .junk, .junk, .junk, .junk, .junk], [none, none, none, none, none, none, none, none, none, none, none, none, none, none, none], []⟩
def fr60 (fc : Value) : Fr := ⟨[.junk, .val fc, .ptr 0 0, .junk, .junk, .junk, .val fc, .junk, .junk, .junk, .junk, .junk, .junk], [none, none, none, none, none, none, none, none, none, none, none, none, none], []⟩
def rowS (es : List (List D)) : St := [.cells [.sl es (some 44)]]
def fr60b (fc : Value) (cs : List D) : Fr := ⟨[.junk, .val fc, .ptr 0 0, .junk, .junk, .lptr 5 0, .val fc, .agg cs, .junk, .junk, .junk, .junk, .junk], [none, none, none, none, none, some cs, none, none, none, none, none, none, none], []⟩
theorem round60a (fc : Value) (es : List (List D)) (n : HeldR) : runC noCal 100 p60_babki ((fr60 fc).set 7 (.agg n.cells)) (rowS es) = some (.normal, fr60b fc n.cells, rowS es) := rfl
theorem round60b (fc : Value) (es : List (List D)) (n : HeldR) (hb : (es.length + 1) * 40 ≤ room ∧ es.length + 1 < 4611686018427387904) : ∃ frB, runC noCal 100 p60_babkj (fr60b fc n.cells) (rowS es) = some (.normal, frB, rowS (es ++ [n.cells])) := by
  refine ⟨_, by simp [runC, p60_babkj, fr60b, rowS, runOps, runOp, wantedD, evalOp, Fr.val, Fr.at, Fr.put, Fr.set, Fr.take, Fr.newBox, Fr.boxAt, Fr.setBox, cellsAt, storeAt, setAt, D.strip, D.raw, D.plain, D.pure1, HeldR.cells, D.cells, fillE, elems, hb]; rfl⟩
/-- A round. -/
theorem round60 (fc : Value) (es : List (List D)) (n : HeldR) (hb : (es.length + 1) * 40 ≤ room ∧ es.length + 1 < 4611686018427387904) :
    ∃ frA frB, runC noCal 100 p60_babki ((fr60 fc).set 7 (.agg n.cells)) (rowS es) = some (.normal, frA, rowS es) ∧ runC noCal 100 p60_babkj frA (rowS es) = some (.normal, frB, rowS (es ++ [n.cells])) := by
  obtain ⟨frB, h⟩ := round60b fc es n hb
  exact ⟨_, frB, round60a fc es n, h⟩
theorem rec_but {g g' : Gh} {w w' : World} {l : Nat} {r : Loop} {fr : Fr} {X : Nat → Prop} (hs : fr.isStill = true) (h : Rec Try.prog g w l r fr) (e : ExtBut X g w g' w') (hX : ¬ X l) : Rec Try.prog g' w' l r fr := by
  obtain ⟨k1, k2⟩ := e.blk l (Array.getElem?_eq_some_iff.1 h.at_).1 (by rw [h.ω]; rfl)
  exact ⟨(k1 hX).trans h.at_, k2.trans h.ω, e.base.trans h.base, h.s.later hs e.le⟩
theorem range_but {gk g' : Gh} {W W' : World} {r bm since : Nat} {seen : Array Nat} {X : Nat → Prop} (h : RangeAt W gk r bm since seen) (e : ExtBut X gk W g' W') (hX : ¬ X r) : RangeAt W' g' r bm since seen := by
  obtain ⟨c0, k1, k2⟩ := h.at_
  obtain ⟨e1, e2⟩ := e.blk r (lt_of_heap k2) (by rw [h.ω]; rfl)
  exact ⟨⟨c0, k1, (e1 hX).trans k2⟩, e2.trans h.ω⟩

theorem loop44 {fc : Value} {l : Nat} {r : Loop} (hst : r.state = .ready) (hpe : r.pending = none) (hpp : r.params = #[7]) (ha : CodeR Try.prog r.assign p60_babki) (hb : CodeR Try.prog r.body p60_babkj)
    {g0 : Gh} {wz : World} {pm : Value} {it bm : Nat} {ents : Array MapEntry} {clock : Nat} {zs : List (MapEntry × HeldR)} {Q : Exit → Act → World → Prop} (hz : zs.map (·.1) = ents.toList) (hborn : Born ents clock) (hW : ∀ p ∈ zs, p.1.val = .agg p.2.vals.toArray) (hlen : zs.length < 1000000)
    (hbm : wz.heap[bm]? = some (.map ents clock)) (hω0 : g0.ω bm = .other) (hbi : bm ≠ it) (hbl : bm ≠ l) (hli : l ≠ it)
    (hQ : ∀ A' W' gk' vz', zs.Perm vz' → ExtBut (fun b => b = l ∨ b = it) g0 wz gk' W' → HInv Try.prog gk' W' (rowS (vz'.map (·.2.cells))) → W'.heap[l]? = some (.loop r) → A'.defers = [] → Q (.exit 0) A' W') :
    ∀ (n : Nat) {vz lz : List (MapEntry × HeldR)} {seen : Array Nat} {gk : Gh} {W : World} {A : Act}, lz.length < n → zs.Perm (vz ++ lz) → seen.toList = vz.map (·.1.born) → ExtBut (fun b => b = l ∨ b = it) g0 wz gk W →
      Inv Try.prog gk W (fr44 (.func (.yield l) #[] #[]) pm (.pointer (some ⟨it, 0, none⟩))) (rowS (vz.map (·.2.cells))) A → RangeAt W gk it bm clock seen → Rec Try.prog gk W l r (fr60 fc) → Code.roundsIn Fence.wide 0 Try.prog body44L Q n A W
  | 0, vz, lz, seen, gk, W, A, h, _, _, _, _, _, _ => by omega
  | n + 1, vz, lz, seen, gk, W, A, hn, hp, hs, e0, i, hR, hC => by
    rw [roundsIn_succ]
    have hsO : (fr60 fc).isStill = true := rfl
    obtain ⟨c0, hc0, hit⟩ := hR.at_
    have hbmW : W.heap[bm]? = some (.map ents clock) := ((e0.blk bm (lt_of_heap hbm) (by rw [hω0]; rfl)).1 (by rintro (h | h); exact hbl h; exact hbi h)).trans hbm
    have hvit : A.eval (.tmp 6) = .pointer (some ⟨it, 0, none⟩) := (eval_slot i (t := 6) rfl).2
    refine wpIn_seq (wpIn_region_list ?_)
    rw [ops44_1]
    rcases run_next_at (P := Try.prog) W (opAt (sqA L44) 0).type it bm clock c0 seen ents clock hit hbmW hborn.1 hc0 with ⟨h0, hrun⟩ | ⟨e, he, w1, hw1, hrun⟩
    · refine wide_value (w' := W) (v := .tuple #[.bool false]) op44_1.2.1 (by simp only [execOp, op44_1.1, hvit, Sem.run_bind, hrun, Result.andThen]; rfl) ?_
      rw [op44_1.2.2]
      have i1 := i.put (some 7) (rep_tup1 (.bool false) rfl) (fun _ _ => .of_ne rfl) (fun s off e => by cases e)
      refine wide_pre (q := false) noCal_ok noCal_in _ _ (noDefer_of (by kernel_rfl : noDefer #[opAt (sqA L44) 1] = true)) comp44_1 (fr' := ((fr44 (.func (.yield l) #[] #[]) pm (.pointer (some ⟨it, 0, none⟩))).put (some 7) (.tup [.bool false])).put (some 8) (.bool false)) (σ' := rowS (vz.map (·.2.cells))) rfl i1 (fun a2 w2 g2 e2 i2 => ?_)
      unfold wpListIn
      refine wpIn_seq (wide_code hmix noCal_ok noCal_in comp44_c 0 (ae := .exit 0) (fr' := ((fr44 (.func (.yield l) #[] #[]) pm (.pointer (some ⟨it, 0, none⟩))).put (some 7) (.tup [.bool false])).put (some 8) (.bool false)) (σ' := rowS (vz.map (·.2.cells))) rfl i2 (fun a3 w3 g3 e3 i3 => ?_))
      have hC3 := (hC.later hsO e2).later hsO e3
      exact hQ a3 w3 g3 vz (visit_end hz hborn.2 hp hs h0) ((e0.trans e2.but).trans e3.but) i3.h hC3.at_ (defers_nil i3 hC3.base rfl)
    · obtain ⟨b, l1, l2, hmem, rfl, hp', hs'⟩ := visit_step hz hp hs he
      have hw1s : w1.heap = W.heap := by rcases hw1 with rfl | rfl <;> rfl
      let W' : World := w1.putObj it (.mapIter (some bm) clock (seen.push e.born) clock)
      have eW : ExtBut (fun b => b = it) gk W gk W' := by
        rcases hw1 with h | h
        · rw [show W' = W.putObj it (.mapIter (some bm) clock (seen.push e.born) clock) from by simp only [W', h]]
          exact ExtBut.put (X := fun b => b = it) (b := it) rfl _
        · rw [show W' = W.drew.putObj it (.mapIter (some bm) clock (seen.push e.born) clock) from by simp only [W', h]]
          exact (Ext.drew gk W).but.trans (ExtBut.put (X := fun b => b = it) (b := it) rfl _)
      have iW : Inv Try.prog gk W' (fr44 (.func (.yield l) #[] #[]) pm (.pointer (some ⟨it, 0, none⟩))) (rowS (vz.map (·.2.cells))) A := by
        rcases hw1 with h | h
        · rw [show W' = W.putObj it (.mapIter (some bm) clock (seen.push e.born) clock) from by simp only [W', h]]
          exact i.putOther hit (fun _ _ _ h => by cases h) hR.ω _
        · rw [show W' = W.drew.putObj it (.mapIter (some bm) clock (seen.push e.born) clock) from by simp only [W', h]]
          exact i.drew.putOther (w := W.drew) hit (fun _ _ _ h => by cases h) hR.ω _
      have hRW : RangeAt W' gk it bm clock (seen.push e.born) := rec_put hR (by rw [hw1s]) (Nat.le_refl _)
      have hCW : Rec Try.prog gk W' l r (fr60 fc) := rec_but hsO hC eW hli
      have hitW : W'.heap[it]? = some (.mapIter (some bm) clock (seen.push e.born) clock) := World.putObj_heap_same (by rw [hw1s]; exact lt_of_heap hit)
      refine wide_value (w' := W') (v := .tuple #[.bool true, e.key, e.val]) op44_1.2.1 (by simp only [execOp, op44_1.1, hvit, Sem.run_bind, hrun, Result.andThen]; rfl) ?_
      rw [op44_1.2.2]
      have i1 := iW.put (some 7) (rep_tup3 (.bool true) rfl (.val e.key) rfl (.val e.val) rfl) (fun _ _ => .of_ne rfl) (fun s off e => by cases e)
      refine wide_pre (q := false) noCal_ok noCal_in _ _ (noDefer_of (by kernel_rfl : noDefer #[opAt (sqA L44) 1] = true)) comp44_1 (fr' := ((fr44 (.func (.yield l) #[] #[]) pm (.pointer (some ⟨it, 0, none⟩))).put (some 7) (tupB true e)).put (some 8) (.bool true)) (σ' := rowS (vz.map (·.2.cells))) rfl i1 (fun a2 w2 g2 e2 i2 => ?_)
      unfold wpListIn
      refine wpIn_seq (wide_code hmix noCal_ok noCal_in comp44_c 0 (ae := .normal) (fr' := ((fr44 (.func (.yield l) #[] #[]) pm (.pointer (some ⟨it, 0, none⟩))).put (some 7) (tupB true e)).put (some 8) (.bool true)) (σ' := rowS (vz.map (·.2.cells))) rfl i2 (fun a3 w3 g3 e3 i3 => ?_))
      have hR3 := (hRW.keep e2).keep e3
      have hC3 := (hCW.later hsO e2).later hsO e3
      have e03 : ExtBut (fun b => b = l ∨ b = it) g0 wz g3 w3 := ((e0.trans (eW.wider (fun b h => .inr h))).trans (e2.but (X := fun b => b = l ∨ b = it))).trans (e3.but (X := fun b => b = l ∨ b = it))
      have hbm3 : w3.heap[bm]? = some (.map ents clock) := ((e03.blk bm (lt_of_heap hbm) (by rw [hω0]; rfl)).1 (by rintro (h | h); exact hbl h; exact hbi h)).trans hbm
      have hit3 : w3.heap[it]? = some (.mapIter (some bm) clock (seen.push e.born) clock) := by
        obtain ⟨k1, k2⟩ := e2.blk it (lt_of_heap hitW) (by rw [hRW.ω]; rfl)
        obtain ⟨k3, _⟩ := e3.blk it (Nat.lt_of_lt_of_le (lt_of_heap hitW) e2.size) (by rw [k2, hRW.ω]; rfl)
        exact k3.trans (k1.trans hitW)
      have hvit' : a3.eval (.tmp 6) = .pointer (some ⟨it, 0, none⟩) := (eval_slot i3 (t := 6) rfl).2
      refine wpIn_block (wpIn_seq (wpIn_region_list ?_))
      rw [ops44_2]
      have hme := (mem_left he).1
      refine wide_value (w' := w3) (v := .tuple #[e.key, e.val]) op44_2.2.1 (by simp only [execOp, op44_2.1, hvit', Sem.run_bind, run_entry_at w3 it bm clock seen ents clock e hit3 hbm3 hme hborn.2, Result.andThen]; rfl) ?_
      rw [op44_2.2.2]
      have hrep : Rep g3 e.val (.agg b.cells) := by
        have := hW _ hmem
        simp only at this
        rw [this]
        exact rep_held g3 b
      have i4 := i3.put (some 9) (rep_tup2 (.val e.key) rfl hrep rfl) (fun _ _ => .of_ne rfl) (fun s off e => by cases e)
      refine wide_pre (q := false) noCal_ok noCal_in _ _ (noDefer_of (by kernel_rfl : noDefer #[opAt (sqA K44) 1, opAt (sqA K44) 2, opAt (sqA K44) 3] = true)) comp44_2 (fr' := _) (σ' := rowS (vz.map (·.2.cells))) rfl i4 (fun a5 w5 g5 e5 i5 => ?_)
      unfold wpListIn
      refine wpIn_seq (wpIn_region_list ?_)
      rw [ops44_3]
      refine wide_pre (q := false) noCal_ok noCal_in _ _ (noDefer_of (by kernel_rfl : noDefer #[opAt Y44 0, opAt Y44 1] = true)) comp44_3 (fr' := _) (σ' := rowS (vz.map (·.2.cells))) rfl i5 (fun a6 w6 g6 e6 i6 => ?_)
      have v11 : a6.eval (.tmp 11) = .func (.yield l) #[] #[] := (eval_slot i6 (t := 11) rfl).2
      have v12 : Rep g6 (a6.eval (.tmp 12)) (.agg b.cells) := (slot_eval i6 (t := 12) (d := .agg b.cells) rfl).1
      have hR6 := (hR3.keep e5).keep e6
      have hC6 := (hC3.later hsO e5).later hsO e6
      have i7 := i6.clear [0, 1, 6]
      change Inv Try.prog g6 w6 (fr44 (.func (.yield l) #[] #[]) pm (.pointer (some ⟨it, 0, none⟩))) (rowS (vz.map (·.2.cells))) a6 at i7
      have hvl : vz.length < zs.length := by
        have := hp.length_eq
        simp at this
        omega
      obtain ⟨frA, frB, hA, hB⟩ := round60 fc (vz.map (·.2.cells)) b (by simp only [List.length_map, room]; omega)
      have hrnd := round_ok (n := 0 - 1) noCal_ok noCal_in hC6.at_ hst hC6.ω hpp hC6.s hsO i7.h hC6.base v12 (d := .agg b.cells) rfl ha hb hA hB
      refine wide_yield op44_3.1 rfl rfl op44_3.2.1 v11 hC6.at_ (by rw [hpp]; rfl) hrnd (fun ee w8 ⟨hee, g8, e8, h8, hl8⟩ => ⟨_, hee, ?_⟩)
      rw [op44_3.2.2]
      have i8 := inv_still (by rfl) i7 e8.le h8 e8.base
      have hR8 := range_but hR6 e8 (fun h => hli h.symm)
      have hC8 : Rec Try.prog g8 w8 l r (fr60 fc) := by
        obtain ⟨k1, k2⟩ := e8.blk l (Array.getElem?_eq_some_iff.1 hC6.at_).1 (by rw [hC6.ω]; rfl)
        exact ⟨by rw [leftL_normal hst hpe] at hl8; exact hl8, k2.trans hC6.ω, e8.base.trans hC6.base, hC6.s.later hsO e8.le⟩
      have i9 := i8.put (some 13) (v := .bool true) (d := .bool true) (.bool _) (fun _ _ => .of_ne rfl) (fun s off e => by cases e)
      refine wide_pre (q := false) noCal_ok noCal_in _ _ (noDefer_of (by kernel_rfl : noDefer #[opAt Y44 3] = true)) comp44_4 (fr' := ((fr44 (.func (.yield l) #[] #[]) pm (.pointer (some ⟨it, 0, none⟩))).put (some 13) (.bool true)).put (some 14) (.bool false)) (σ' := rowS (vz.map (·.2.cells) ++ [b.cells])) rfl i9 (fun a10 w10 g10 e10 i10 => ?_)
      unfold wpListIn
      refine wide_code hmix noCal_ok noCal_in comp44_5 0 (ae := .normal) (fr' := _) (σ' := rowS (vz.map (·.2.cells) ++ [b.cells])) rfl i10 (fun a11 w11 g11 e11 i11 => ?_)
      have i12 := i11.clear [0, 1, 6]
      change Inv Try.prog g11 w11 (fr44 (.func (.yield l) #[] #[]) pm (.pointer (some ⟨it, 0, none⟩))) (rowS (vz.map (·.2.cells) ++ [b.cells])) a11 at i12
      have e011 : ExtBut (fun b => b = l ∨ b = it) g0 wz g11 w11 := ((((e03.trans (e5.but (X := fun b => b = l ∨ b = it))).trans (e6.but (X := fun b => b = l ∨ b = it))).trans (e8.wider (fun b h => .inl h))).trans (e10.but (X := fun b => b = l ∨ b = it))).trans (e11.but (X := fun b => b = l ∨ b = it))
      refine loop44 (pm := pm) hst hpe hpp ha hb hz hborn hW hlen hbm hω0 hbi hbl hli hQ n (vz := vz ++ [(e, b)]) (lz := l1 ++ l2) (seen := seen.push e.born) ?_ hp' hs' e011 ?_ ((hR8.keep e10).keep e11) ((hC8.later hsO e10).later hsO e11)
      · simp only [List.length_append, List.length_cons] at hn ⊢
        omega
      · rw [List.map_append]
        exact i12
end Go.Abs.C
