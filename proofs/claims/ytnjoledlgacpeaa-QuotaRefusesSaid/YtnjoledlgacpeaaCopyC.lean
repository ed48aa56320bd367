import Derived.Test.YtnjoledlgacpeaaCopyA
import Derived.Test.YtnjoledlgacpeaaHeldE
set_option linter.unusedVariables false
set_option linter.unusedSimpArgs false
/-
  A copy of a tree: the code's parts, one round of the loop over the map.
-/
namespace Go.Abs.C
open Go Go.Abs Go.RowKit Go.Sort Go.Proofs Go.Proofs.Ytnjoledlgacpeaa
noncomputable def b18 : Code := (Try.f18.body).getD .skip
noncomputable def L18 : Code := inB (inB (sqB (sqA (sqB (sqB (sqB b18))))))
noncomputable def K18 : Code := inB (sqB (sqB L18))
noncomputable def T18 : Code := sqB (sqB (sqB (sqB b18)))
noncomputable def R18 : Code := sqA (sqA (sqB (sqB (sqB b18))))
set_option maxRecDepth 100000 in
theorem body18 : Try.f18.body = some (.seq (sqA b18) (.seq (sqA (sqB b18)) (.seq (sqA (sqB (sqB b18))) (.seq (.seq (.region 4 (opsB R18) false) (.block 0 (.loop (.seq (.region 5 (opsB (sqA L18)) false) (.seq (sqA (sqB L18)) (.block 1 (.seq (.region 6 (opsB (sqA K18)) false) (sqB K18)))))))) T18)))) := by kernel_rfl
def p18_a : MCode :=
   (.region false [⟨some 2, .assign (.const .nilp), none⟩])
set_option maxRecDepth 100000 in
theorem comp18_a : compC Try.prog false [] (sqA b18) = some p18_a := by kernel_rfl
def p18_ba : MCode :=
   (.seq (.region false [⟨some 7, .move (.tmp 0) false, none⟩,
    ⟨some 8, .eqn false (.tmp 7), none⟩])
   (.cond (.tmp 8) (.seq (.region false [⟨some 2, .assign (.const .nilp), none⟩])
   .ret) .skip))
set_option maxRecDepth 100000 in
theorem comp18_ba : compC Try.prog false [] (sqA (sqB b18)) = some p18_ba := by kernel_rfl
def p18_bba : MCode :=
   (.region false [⟨some 9, .mkmap, none⟩,
    ⟨some 10, .move (.tmp 0) false, none⟩,
    ⟨some 11, .nilCheck (.tmp 10), none⟩,
    ⟨some 12, .fieldAddr 1 (.tmp 11), none⟩,
    ⟨some 13, .load false 1 (.tmp 12) false, none⟩,
    ⟨some 14, .call 31 [(.tmp 13)], none⟩,
    ⟨some 15, .build [.nilm, .nilm] [(0, 1, (.tmp 9)), (1, 1, (.tmp 14))], none⟩,
    ⟨some 16, .box (.tmp 15), none⟩,
    ⟨some 3, .assign (.tmp 16), none⟩])
set_option maxRecDepth 100000 in
theorem comp18_bba : compC Try.prog false [] (sqA (sqB (sqB b18))) = some p18_bba := by kernel_rfl
def p18_bbbabklba : MCode :=
   (.cond (.tmp 23) .skip (.exit 0))
set_option maxRecDepth 100000 in
theorem comp18_bbbabklba : compC Try.prog false [] (sqA (sqB L18)) = some p18_bbbabklba := by kernel_rfl
def p18_bbbabklbbkb : MCode :=
   (.seq (.region false [⟨some 27, .move (.tmp 5) false, none⟩,
    ⟨some 28, .nilCheck (.tmp 27), none⟩,
    ⟨some 29, .load true 4 (.tmp 28) false, none⟩,
    ⟨some 6, .alloc [(.str []), (.str []), (.int .i64 (0)), (.int .i64 (0))], none⟩,
    ⟨none, .store 4 (.tmp 6) (.tmp 29), none⟩])
   (.region false [⟨some 30, .move (.tmp 3) false, none⟩,
    ⟨some 31, .nilCheck (.tmp 30), none⟩,
    ⟨some 32, .fieldAddr 0 (.tmp 31), none⟩,
    ⟨some 33, .load false 1 (.tmp 32) false, none⟩,
    ⟨some 34, .move (.tmp 4) false, none⟩,
    ⟨none, .mapUpdateP 1 (.tmp 33) (.tmp 34) (.tmp 6), none⟩]))
set_option maxRecDepth 100000 in
theorem comp18_bbbabklbbkb : compC Try.prog false [] (sqB K18) = some p18_bbbabklbbkb := by kernel_rfl
def p18_tail : MCode := (.seq (.region false [⟨some 35, .move (.tmp 3) false, none⟩,
    ⟨some 2, .assign (.tmp 35), none⟩])
   .ret)
set_option maxRecDepth 100000 in
theorem comp18_tail : compC Try.prog false [] T18 = some p18_tail := by kernel_rfl
def c18_4 : List MOper := [⟨some 17, .move (.tmp 0) false, none⟩, ⟨some 18, .nilCheck (.tmp 17), none⟩, ⟨some 19, .fieldAddr 0 (.tmp 18), none⟩, ⟨some 20, .load false 1 (.tmp 19) false, none⟩]
theorem ops18_4 : (opsB R18).toList = [opAt R18 0, opAt R18 1, opAt R18 2, opAt R18 3] ++ [opAt R18 4] := by kernel_rfl
set_option maxRecDepth 100000 in
theorem comp18_4 : compOpers Try.prog false (opsB R18).toList [opAt R18 0, opAt R18 1, opAt R18 2, opAt R18 3] = some c18_4 := by kernel_rfl
theorem op18_4 : (opAt R18 4).op = .range 62 (.tmp 20) ∧ (opAt R18 4).guard = none ∧ (opAt R18 4).dst = some 21 := ⟨by kernel_rfl, by kernel_rfl, by kernel_rfl⟩
theorem ops18_5 : (opsB (sqA L18)).toList = opAt (sqA L18) 0 :: ([opAt (sqA L18) 1] ++ []) := by kernel_rfl
theorem op18_5 : (opAt (sqA L18) 0).op = .next (.tmp 21) false ∧ (opAt (sqA L18) 0).guard = none ∧ (opAt (sqA L18) 0).dst = some 22 := ⟨by kernel_rfl, by kernel_rfl, by kernel_rfl⟩
theorem comp18_5 : compOpers Try.prog false (opsB (sqA L18)).toList [opAt (sqA L18) 1] = some [⟨some 23, .extract (.tmp 22) 0, none⟩] := by kernel_rfl
theorem ops18_6 : (opsB (sqA K18)).toList = opAt (sqA K18) 0 :: ([opAt (sqA K18) 1, opAt (sqA K18) 2, opAt (sqA K18) 3, opAt (sqA K18) 4] ++ []) := by kernel_rfl
theorem op18_6 : (opAt (sqA K18) 0).op = .entry (.tmp 21) ∧ (opAt (sqA K18) 0).guard = none ∧ (opAt (sqA K18) 0).dst = some 24 := ⟨by kernel_rfl, by kernel_rfl, by kernel_rfl⟩
theorem comp18_6 : compOpers Try.prog false (opsB (sqA K18)).toList [opAt (sqA K18) 1, opAt (sqA K18) 2, opAt (sqA K18) 3, opAt (sqA K18) 4] = some [⟨some 25, .extract (.tmp 24) 0, none⟩, ⟨some 26, .extract (.tmp 24) 1, none⟩, ⟨some 4, .assign (.tmp 25), none⟩, ⟨some 5, .assign (.tmp 26), none⟩] := by kernel_rfl
theorem nt18 : Try.f18.ntmps = 36 := by kernel_rfl
theorem rs18 : resTmps Try.prog Try.f18.results.toList = some [.tmp 2] := by kernel_rfl

def frC (d0 d3 d21 : D) (b16 : Option (List D)) : Fr := ⟨[d0, .junk, .junk, d3, .junk, .junk, .junk, .junk, .junk, .junk, .junk, .junk, .junk, .junk, .junk, .junk, d3, .junk, .junk, .junk, .junk, d21, .junk, .junk, .junk, .junk, .junk, .junk, .junk, .junk, .junk, .junk, .junk, .junk, .junk, .junk], [none, none, none, none, none, none, none, none, none, none, none, none, none, none, none, none, b16, none, none, none, none, none, none, none, none, none, none, none, none, none, none, none, none, none, none, none], []⟩
end Go.Abs.C

/-
  A copy of a tree: one round of the loop over the map.
-/
namespace Go.Abs.C
open Go Go.Abs Go.RowKit Go.Sort Go.Proofs Go.Proofs.Ytnjoledlgacpeaa
/-- What the loop has made so far: the new map, and the new nodes. -/
def newL (n : Nat) (l : List (List UInt8 × NodeR)) : List (D × D) := l.mapIdx fun j p => (.str p.1, .ptr (n + j) 0)
theorem newL_snoc (n : Nat) (l : List (List UInt8 × NodeR)) (p : List UInt8 × NodeR) : newL n (l ++ [p]) = newL n l ++ [(.str p.1, .ptr (n + l.length) 0)] := by
  unfold newL
  rw [List.mapIdx_concat]
theorem putKey_new (k : List UInt8) (y : D) : ∀ (es : List (D × D)), (∀ e ∈ es, ∃ s, e.1 = .str s ∧ s ≠ k) → putKey 1 (.str k) y es = some (es ++ [(.str k, y)])
  | [], _ => rfl
  | (a, v) :: es, h => by
    obtain ⟨s, hs, hne⟩ := h _ (List.mem_cons_self ..)
    simp only at hs
    subst hs
    have := putKey_new k y es (fun e he => h e (List.mem_cons_of_mem _ he))
    have hq : (k == s) = false := by simpa using fun e => hne e.symm
    simp only [putKey, eqKey, hq, this]
    rfl
theorem newL_keys {n : Nat} {l : List (List UInt8 × NodeR)} {k : List UInt8} (h : ∀ p ∈ l, p.1 ≠ k) : ∀ e ∈ newL n l, ∃ s, e.1 = .str s ∧ s ≠ k := by
  intro e he
  unfold newL at he
  rw [List.mem_mapIdx] at he
  obtain ⟨i, hi, rfl⟩ := he
  exact ⟨_, rfl, h _ (List.getElem_mem hi)⟩
def stL (l : List (List UInt8 × NodeR)) : St := [Go.Abs.Obj.map (newL 2 l), Go.Abs.Obj.dead] ++ l.map fun p => Go.Abs.Obj.cells p.2.cells
theorem stL_len (l : List (List UInt8 × NodeR)) : (stL l).length = 2 + l.length := by simp [stL]; omega
theorem stL_snoc (l : List (List UInt8 × NodeR)) (p : List UInt8 × NodeR) : (stL l ++ [Go.Abs.Obj.cells p.2.cells]).set 0 (Go.Abs.Obj.map (newL 2 l ++ [(.str p.1, .ptr (stL l).length 0)])) = stL (l ++ [p]) := by
  rw [stL_len, ← newL_snoc]
  simp [stL]
def bxC : Option (List D) := some [.map 0, .map 1]
/-- One node more. -/
theorem more18 (l : List (List UInt8 × NodeR)) (k : List UInt8) (n : NodeR) (v22 v24 : D) (v : Value) (h : ∀ p ∈ l, p.1 ≠ k) :
    ∃ fr, runC noCal 0 p18_bbbabklbbkb ((((((((frC .junk (.lptr 16 0) (.val v) bxC).put (some 22) v22).put (some 23) (.bool true)).put (some 24) v24).put (some 25) (.str k)).put (some 26) (.ref n.cells)).put (some 4) (.str k)).put (some 5) (.ref n.cells)) (stL l) = some (.normal, fr, stL (l ++ [(k, n)])) ∧ fr.clear [3, 16, 21] = frC .junk (.lptr 16 0) (.val v) bxC := by
  have hp := putKey_new k (.ptr (stL l).length 0) (newL 2 l) (newL_keys h)
  have hs := stL_snoc l (k, n)
  obtain ⟨rest, hr⟩ : ∃ rest, stL l = .map (newL 2 l) :: rest := ⟨_, rfl⟩
  rw [hr] at hp hs ⊢
  simp only [List.length_cons] at hp hs
  simp only [List.cons_append, List.set_cons_zero] at hs
  simp only [NodeR.cells] at hs
  rw [← hs]
  refine ⟨_, by simp [runC, p18_bbbabklbbkb, frC, bxC, runOps, runOp, wantedD, evalOp, Fr.val, Fr.at, Fr.put, Fr.set, Fr.take, cellsAt, D.strip, NodeR.cells, D.cells, fillE, D.pure1, elems, setAt, D.raw, D.ripe, Fr.ownP, Fr.newBox, Fr.boxAt, Fr.setBox, Fr.promote, relinkL, killL, storeAt, D.notL, D.plain, keyD, hp]; rfl, ?_⟩
  rfl
end Go.Abs.C

/-
  A copy of a tree: the loop over the map.
-/
namespace Go.Abs.C
open Go Go.Abs Go.RowKit Go.Sort Go.Proofs Go.Proofs.Ytnjoledlgacpeaa
noncomputable def body18L : Code := .seq (.region 5 (opsB (sqA L18)) false) (.seq (sqA (sqB L18)) (.block 1 (.seq (.region 6 (opsB (sqA K18)) false) (sqB K18))))
theorem loop18 {gL : Gh} {wz : World} {r bm : Nat} {ents : Array MapEntry} {clock : Nat} {zs : List (MapEntry × (List UInt8 × NodeR))} {Q : Exit → Act → World → Prop} (hz : zs.map (·.1) = ents.toList) (hborn : Born ents clock) (hK : ∀ p ∈ zs, p.1.key = strV p.2.1) (hnd : (zs.map (·.2.1)).Nodup) (hR0 : ∀ p ∈ zs, Rep gL p.1.val (.ref p.2.2.cells))
    (hbm : wz.heap[bm]? = some (.map ents clock)) (hbr : bm ≠ r) (hbo : gL.ω bm = .other)
    (hQ : ∀ A' W' gk' vz', zs.Perm vz' → ExtBut (fun b => b = r) gL wz gk' W' → Inv Try.prog gk' W' (frC .junk (.lptr 16 0) (.val (.pointer (some ⟨r, 0, none⟩))) bxC) (stL (vz'.map (·.2))) A' → Q (.exit 0) A' W') :
    ∀ (n : Nat) {vz lz : List (MapEntry × (List UInt8 × NodeR))} {seen : Array Nat} {gk : Gh} {W : World} {A : Act}, lz.length < n → zs.Perm (vz ++ lz) → seen.toList = vz.map (·.1.born) → ExtBut (fun b => b = r) gL wz gk W →
      Inv Try.prog gk W (frC .junk (.lptr 16 0) (.val (.pointer (some ⟨r, 0, none⟩))) bxC) (stL (vz.map (·.2))) A → RangeAt W gk r bm clock seen → Code.roundsIn Fence.wide 0 Try.prog body18L Q n A W
  | 0, vz, lz, seen, gk, W, A, h, _, _, _, _, _ => by omega
  | n + 1, vz, lz, seen, gk, W, A, hn, hp, hs, e0, i, hR => by
    rw [roundsIn_succ]
    obtain ⟨c0, hc0, hit⟩ := hR.at_
    have hbmW : W.heap[bm]? = some (.map ents clock) := ((e0.blk bm (lt_of_heap hbm) (by rw [hbo]; rfl)).1 hbr).trans hbm
    have hv12 : A.eval (.tmp 21) = .pointer (some ⟨r, 0, none⟩) := by
      have := (val_ok i.s (x := .tmp 21) (X := .tmp 21) rfl).1
      generalize A.eval (.tmp 21) = v at this
      cases this
      rfl
    refine wpIn_seq (wpIn_region_list ?_)
    rw [ops18_5]
    rcases run_next_at (P := Try.prog) W (opAt (sqA L18) 0).type r bm clock c0 seen ents clock hit hbmW hborn.1 hc0 with ⟨h0, hrun⟩ | ⟨e, he, w1, hw1, hrun⟩
    · -- the end
      refine wide_value (w' := W) (v := .tuple #[.bool false]) op18_5.2.1 (by simp only [execOp, op18_5.1, hv12, Sem.run_bind, hrun, Result.andThen]; rfl) ?_
      rw [op18_5.2.2]
      have i1 := i.put (some 22) (rep_tup1 (.bool false) rfl) (fun _ _ => .of_ne rfl) (fun s off e => by cases e)
      refine wide_pre (q := false) noCal_ok noCal_in _ _ (noDefer_of (by kernel_rfl : noDefer #[opAt (sqA L18) 1] = true)) comp18_5 (fr' := ((frC .junk (.lptr 16 0) (.val (.pointer (some ⟨r, 0, none⟩))) bxC).put (some 22) (.tup [.bool false])).put (some 23) (.bool false)) (σ' := stL (vz.map (·.2))) rfl i1 (fun a2 w2 g2 e2 i2 => ?_)
      unfold wpListIn
      refine wpIn_seq (wide_code hmix noCal_ok noCal_in comp18_bbbabklba 0 (ae := .exit 0) (fr' := ((frC .junk (.lptr 16 0) (.val (.pointer (some ⟨r, 0, none⟩))) bxC).put (some 22) (.tup [.bool false])).put (some 23) (.bool false)) (σ' := stL (vz.map (·.2))) rfl i2 (fun a3 w3 g3 e3 i3 => ?_))
      have hR3 := (hR.keep e2).keep e3
      have i4 := i3.clear [3, 16, 21]
      exact hQ a3 w3 g3 vz (visit_end hz hborn.2 hp hs h0) ((e0.trans e2.but).trans e3.but) i4
    · -- one entry
      obtain ⟨b, l1, l2, hmem, rfl, hp', hs'⟩ := visit_step hz hp hs he
      have hw1s : w1.heap = W.heap := by rcases hw1 with rfl | rfl <;> rfl
      let W' : World := w1.putObj r (.mapIter (some bm) clock (seen.push e.born) clock)
      have eW : ExtBut (fun b => b = r) gk W gk W' := by
        rcases hw1 with h | h
        · rw [show W' = W.putObj r (.mapIter (some bm) clock (seen.push e.born) clock) from by simp only [W', h]]
          exact ExtBut.put (X := fun b => b = r) (b := r) rfl _
        · rw [show W' = W.drew.putObj r (.mapIter (some bm) clock (seen.push e.born) clock) from by simp only [W', h]]
          exact (Ext.drew gk W).but.trans (ExtBut.put (X := fun b => b = r) (b := r) rfl _)
      have iW : Inv Try.prog gk W' (frC .junk (.lptr 16 0) (.val (.pointer (some ⟨r, 0, none⟩))) bxC) (stL (vz.map (·.2))) A := by
        rcases hw1 with h | h
        · rw [show W' = W.putObj r (.mapIter (some bm) clock (seen.push e.born) clock) from by simp only [W', h]]
          exact i.putOther hit (fun _ _ _ h => by cases h) hR.ω _
        · rw [show W' = W.drew.putObj r (.mapIter (some bm) clock (seen.push e.born) clock) from by simp only [W', h]]
          exact i.drew.putOther (w := W.drew) hit (fun _ _ _ h => by cases h) hR.ω _
      have hRW : RangeAt W' gk r bm clock (seen.push e.born) := rec_put hR (by rw [hw1s]) (Nat.le_refl _)
      have hitW : W'.heap[r]? = some (.mapIter (some bm) clock (seen.push e.born) clock) := World.putObj_heap_same (by rw [hw1s]; exact lt_of_heap hit)
      refine wide_value (w' := W') (v := .tuple #[.bool true, e.key, e.val]) op18_5.2.1 (by simp only [execOp, op18_5.1, hv12, Sem.run_bind, hrun, Result.andThen]; rfl) ?_
      rw [op18_5.2.2]
      have i1 := iW.put (some 22) (rep_tup3 (.bool true) rfl (.val e.key) rfl (.val e.val) rfl) (fun _ _ => .of_ne rfl) (fun s off e => by cases e)
      refine wide_pre (q := false) noCal_ok noCal_in _ _ (noDefer_of (by kernel_rfl : noDefer #[opAt (sqA L18) 1] = true)) comp18_5 (fr' := ((frC .junk (.lptr 16 0) (.val (.pointer (some ⟨r, 0, none⟩))) bxC).put (some 22) (tupB true e)).put (some 23) (.bool true)) (σ' := stL (vz.map (·.2))) rfl i1 (fun a2 w2 g2 e2 i2 => ?_)
      unfold wpListIn
      refine wpIn_seq (wide_code hmix noCal_ok noCal_in comp18_bbbabklba 0 (ae := .normal) (fr' := ((frC .junk (.lptr 16 0) (.val (.pointer (some ⟨r, 0, none⟩))) bxC).put (some 22) (tupB true e)).put (some 23) (.bool true)) (σ' := stL (vz.map (·.2))) rfl i2 (fun a3 w3 g3 e3 i3 => ?_))
      have hR3 := (hRW.keep e2).keep e3
      have e03 := ((e0.trans eW).trans (e2.but (X := fun b => b = r))).trans (e3.but (X := fun b => b = r))
      have hbm3 : w3.heap[bm]? = some (.map ents clock) := ((e03.blk bm (lt_of_heap hbm) (by rw [hbo]; rfl)).1 hbr).trans hbm
      have hit3 : w3.heap[r]? = some (.mapIter (some bm) clock (seen.push e.born) clock) := by
        obtain ⟨k1, k2⟩ := e2.blk r (lt_of_heap hitW) (by rw [hRW.ω]; rfl)
        obtain ⟨k3, _⟩ := e3.blk r (Nat.lt_of_lt_of_le (lt_of_heap hitW) e2.size) (by rw [k2, hRW.ω]; rfl)
        exact k3.trans (k1.trans hitW)
      have hv12' : a3.eval (.tmp 21) = .pointer (some ⟨r, 0, none⟩) := by
        have := (val_ok i3.s (x := .tmp 21) (X := .tmp 21) rfl).1
        generalize a3.eval (.tmp 21) = v at this
        cases this
        rfl
      refine wpIn_block (wpIn_seq (wpIn_region_list ?_))
      rw [ops18_6]
      have hme := (mem_left he).1
      refine wide_value (w' := w3) (v := .tuple #[e.key, e.val]) op18_6.2.1 (by simp only [execOp, op18_6.1, hv12', Sem.run_bind, run_entry_at w3 r bm clock seen ents clock e hit3 hbm3 hme hborn.2, Result.andThen]; rfl) ?_
      rw [op18_6.2.2]
      have hrep : Rep g3 e.val (.ref b.2.cells) := (hR0 _ hmem).mono e03.le (fun _ _ h => by cases h)
      have hkey : Rep g3 e.key (.str b.1) := by
        rw [show e.key = strV b.1 from hK _ hmem]
        exact rep_strV _
      have i4 := i3.put (some 24) (rep_tup2 hkey rfl hrep rfl) (fun _ _ => .of_ne rfl) (fun s off e => by cases e)
      refine wide_pre (q := false) noCal_ok noCal_in _ _ (noDefer_of (by kernel_rfl : noDefer #[opAt (sqA K18) 1, opAt (sqA K18) 2, opAt (sqA K18) 3, opAt (sqA K18) 4] = true)) comp18_6 (fr' := (((((((frC .junk (.lptr 16 0) (.val (.pointer (some ⟨r, 0, none⟩))) bxC).put (some 22) (tupB true e)).put (some 23) (.bool true)).put (some 24) (.tup [.str b.1, .ref b.2.cells])).put (some 25) (.str b.1)).put (some 26) (.ref b.2.cells)).put (some 4) (.str b.1)).put (some 5) (.ref b.2.cells)) (σ' := stL (vz.map (·.2))) rfl i4 (fun a5 w5 g5 e5 i5 => ?_)
      unfold wpListIn
      have hfresh : ∀ p ∈ vz.map (·.2), p.1 ≠ b.1 := by
        intro p hpm
        have h1 := (hp.map (·.2.1)).nodup_iff.1 hnd
        rw [List.map_append, List.nodup_append] at h1
        obtain ⟨q, hq, rfl⟩ := List.mem_map.1 hpm
        exact h1.2.2 _ (List.mem_map.2 ⟨q, hq, rfl⟩) _ (List.mem_map.2 ⟨(e, b), by simp, rfl⟩)
      obtain ⟨fr6, hr6, hc6⟩ := more18 (vz.map (·.2)) b.1 b.2 (tupB true e) (.tup [.str b.1, .ref b.2.cells]) (.pointer (some ⟨r, 0, none⟩)) hfresh
      refine wide_code hmix noCal_ok noCal_in comp18_bbbabklbbkb 0 hr6 i5 (fun a6 w6 g6 e6 i6 => ?_)
      have i7 := i6.clear [3, 16, 21]
      rw [hc6] at i7
      refine loop18 hz hborn hK hnd hR0 hbm hbr hbo hQ n (vz := vz ++ [(e, b)]) (lz := l1 ++ l2) (seen := seen.push e.born) ?_ hp' hs' ((e03.trans (e5.but (X := fun b => b = r))).trans (e6.but (X := fun b => b = r))) ?_ ((hR3.keep e5).keep e6)
      · simp only [List.length_append, List.length_cons] at hn ⊢
        omega
      · rw [List.map_append]
        exact i7
end Go.Abs.C
