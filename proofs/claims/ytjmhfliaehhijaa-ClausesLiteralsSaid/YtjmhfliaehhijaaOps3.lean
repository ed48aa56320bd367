/-
  Operations that only read: places in slices and arrays, cuts, lengths, loads.
-/
import Derived.Test.YtjmhfliaehhijaaOps2
set_option linter.unusedVariables false
set_option linter.unusedSimpArgs false
namespace Go.Abs
open Go Go.RowKit

section
variable {P : Program} {g : Gh} {w : World} {fr fr' : Fr} {σ σ' : St} {a : Act} {o : Oper} {d : D} {cal : Cal} {q mu : Bool} {ops : List Oper}

theorem run_pb {α β : Type} {x : α} {f : α → Sem β} : ((pure x : Sem α) >>= f).run P w = (f x).run P w := rfl

theorem intOf_some {d : D} {n : Int} (h : intOf? d = some n) : ∃ k, d = .int k n := by
  unfold intOf? at h
  split at h
  · cases h; exact ⟨_, rfl⟩
  · cases h

theorem asIntOf_run {v : Value} {d : D} {n : Int} (hr : Rep g v d) (h : intOf? d = some n) : ∃ k, v = .int k n ∧ (asIntOf v).run P w = .ok (k, n) w := by
  obtain ⟨k, rfl⟩ := intOf_some h
  rw [rep_int hr]
  exact ⟨k, rfl, rfl⟩

theorem indexAt_slice {t e : TypeId} {esz : Nat} (ht : P.underlying t = some (.slice e)) (hs : sizeT P e = some esz) (b off len cap : Nat) (k : IntKind) (i : Int) (h0 : 0 ≤ i) (h1 : i < len) :
    (Instr.indexAt t (.slice (some ⟨b, off, none⟩) len cap) (.int k i)).run P w = .ok (.pointer (some ⟨b, off + i.toNat * esz, none⟩)) w := by
  unfold Instr.indexAt
  rw [run_bo (show (asIntOf (Value.int k i)).run P w = .ok (k, i) w from rfl)]
  simp only
  rw [run_bo (run_und ht)]
  simp only
  rw [run_pb, run_bo (run_und ht)]
  simp only [h0, h1, and_self, if_true]
  rw [run_bo (size_run hs), Addr.add_lit]
  rfl

theorem snd_indexAddr {t e : TypeId} {x y : Operand} (hop : o.op = .indexAddr t x y) (ht : P.underlying t = some (.slice e)) {esz : Nat} (hs : sizeT P e = some esz)
    {x' y' : X} (hX : compX x = some x') (hY : compX y = some y') (he : evalOp cal q o.dst (.indexAddr esz x' y') fr σ = some (d, fr', σ')) (i : Inv P g w fr σ a) : Snd P g w a o fr' σ' d := by
  have hv := (val_ok i.s hX).1
  have hy := (val_ok i.s hY).1
  simp only [evalOp] at he
  split at he
  · cases he
  · rename_i n hn
    obtain ⟨k, hyv, _⟩ := asIntOf_run (P := P) (w := w) hy hn
    have hrun : ∀ b off len cap, a.eval x = .slice (some ⟨b, off, none⟩) len cap → 0 ≤ n → n < len → (execOp a.eval o).run P w = .ok (.value (.pointer (some ⟨b, off + n.toNat * esz, none⟩))) w := fun b off len cap hb h0 h1 => by
      simp only [execOp, hop, hb, hyv]
      exact run_vmap (indexAt_slice ht hs b off len cap k n h0 h1)
    generalize hvx : a.eval x = vx at *
    split at he
    · rename_i h0
      split at he
      · rename_i es own hx
        rw [hx] at hv
        split at he
        · rename_i el hel
          split at he
          · rename_i hlen
            cases he
            cases hv with
            | sl av len cap b off esz' _ _ V hl hc hnn ha hes hI hR =>
              have hlt : n.toNat < es.length := (List.getElem?_eq_some_iff.1 hel).1
              have hne : es ≠ [] := by intro h; rw [h] at hlt; simp at hlt
              have hav := ha hne
              subst hav
              have hmem : el ∈ es := List.mem_of_getElem? hel
              have e1 : esz' = esz := (hes el hmem).1.symm.trans hlen
              subst e1
              refine snd_plain i (hrun b off len cap rfl h0 (by omega)) ?_ rfl rfl
              exact .ref b (off + n.toNat * esz') el (fun j => V n.toNat j) (fun j dd hd => hI _ el j dd hel hd) (fun j dd hd => hR _ el j dd hel hd) (hes el hmem).2
          · cases he
        · cases he
      · rename_i ob off m esz' hx
        rw [hx] at hv
        split at he
        · rename_i hh
          cases he
          obtain ⟨h1, rfl⟩ := hh
          cases hv with
          | msl _ _ _ _ cap ho hc hs' => exact snd_plain i (hrun _ _ _ _ rfl h0 h1) (.ptr _ _ ho) rfl rfl
        · cases he
      · cases he
    · cases he

theorem snd_indexArrA {t e : TypeId} {n : Nat} {x y : Operand} (hop : o.op = .indexAddr t x y) (ht : P.underlying t = some (.array n e)) {esz : Nat} (hs : sizeT P e = some esz)
    {x' y' : X} (hX : compX x = some x') (hY : compX y = some y') (he : evalOp cal q o.dst (.indexArr true false n esz x' y') fr σ = some (d, fr', σ')) (i : Inv P g w fr σ a) : Snd P g w a o fr' σ' d := by
  obtain ⟨hv, _, hlp⟩ := val_ok i.s hX
  have hy := (val_ok i.s hY).1
  simp only [evalOp] at he
  split at he
  · cases he
  · rename_i m hn
    obtain ⟨k, hyv, _⟩ := asIntOf_run (P := P) (w := w) hy hn
    split at he
    · rename_i hb
      simp only [if_true] at he
      have hrun : ∀ b off, a.eval x = .pointer (some ⟨b, off, none⟩) → (execOp a.eval o).run P w = .ok (.value (.pointer (some ⟨b, off + m.toNat * esz, none⟩))) w := fun b off hbv => by
        simp only [execOp, hop, hbv, hyv]
        refine run_vmap ?_
        unfold Instr.indexAt
        rw [run_bo (show (asIntOf (Value.int k m)).run P w = .ok (k, m) w from rfl)]
        simp only
        rw [run_bo (run_und ht)]
        simp only
        rw [run_bo (show (Instr.sureAddr (Value.pointer (some ⟨b, off, none⟩))).run P w = .ok ⟨b, off, none⟩ w from rfl), run_pb, run_bo (run_und ht)]
        simp only [hb, and_self, if_true]
        rw [run_bo (size_run hs), Addr.add_lit]
        rfl
      generalize hvx : a.eval x = vx at *
      split at he <;> first | (cases he; done) | skip
      · rename_i t' off hx
        cases he
        rw [hx] at hv hlp
        cases hv
        exact snd_same i (hrun _ _ rfl) ⟨.lptr _ _, rfl, fun s off e => by cases e; exact hlp _ _ rfl⟩
      · rename_i t' off hx
        cases he
        rw [hx] at hv
        cases hv with
        | ptr _ _ h => exact snd_plain i (hrun _ _ rfl) (.ptr _ _ h) rfl rfl
    · cases he

theorem snd_indexArrV {t e : TypeId} {n : Nat} {x y : Operand} (hop : o.op = .index t x y) (ht : P.underlying t = some (.array n e)) {esz : Nat} (hs : sizeT P e = some esz) {agg : Bool} (hagg : isAggT P e = some agg)
    {x' y' : X} (hX : compX x = some x') (hY : compX y = some y') (he : evalOp cal q o.dst (.indexArr false agg n esz x' y') fr σ = some (d, fr', σ')) (i : Inv P g w fr σ a) : Snd P g w a o fr' σ' d := by
  have hv := (val_ok i.s hX).1
  have hy := (val_ok i.s hY).1
  simp only [evalOp] at he
  split at he
  · cases he
  · rename_i m hn
    obtain ⟨k, hyv, _⟩ := asIntOf_run (P := P) (w := w) hy hn
    split at he
    · rename_i hb
      simp only [Bool.false_eq_true, if_false] at he
      split at he
      · rename_i cs hx
        rw [hx] at hv
        obtain ⟨vs, h1, h2, h3⟩ := rep_agg hv
        have hrun : ∀ v, (part e vs (m.toNat * esz)).run P w = .ok v w → (execOp a.eval o).run P w = .ok (.value v) w := fun v hv => by
          simp only [execOp, hop, h1, hyv]
          refine run_vmap ?_
          unfold Instr.index
          rw [run_bo (show (asIntOf (Value.int k m)).run P w = .ok (k, m) w from rfl)]
          simp only
          rw [run_bo (run_und ht)]
          simp only [hb, and_self, if_true]
          rw [run_bo (size_run hs)]
          exact hv
        split at he
        · rename_i ha
          subst ha
          split at he
          · cases he
            refine snd_plain i (hrun _ (by unfold part; rw [run_bo (isAgg_run hagg)]; simp only [if_true]; rw [run_bo (size_run hs)]; rfl)) ?_ rfl rfl
            exact agg_of (by rw [toList_extract_sub]; exact h2.sub _ _) (all_sub h3 _ _)
          · cases he
        · rename_i ha
          have ha' : agg = false := by simpa using ha
          subst ha'
          split at he
          · rename_i h1e
            subst h1e
            simp only [Option.map_eq_some_iff] at he
            obtain ⟨el, h4, h5⟩ := he
            cases h5
            obtain ⟨v, h6, h7⟩ := h2.get h4
            refine snd_plain i (hrun v ?_) h7.strip (strip_strip _) (by rw [notL_strip]; exact notL_of_plain (all_get h3 h4))
            unfold part
            rw [run_bo (isAgg_run hagg)]
            simp only [Bool.false_eq_true, if_false, Nat.mul_one]
            rw [show vs[m.toNat]? = some v by simpa using h6]
            rfl
          · cases he
      · cases he
    · cases he

/-! cuts -/
theorem optVal_ok (s : SInv P g w fr a.tmps) {x : Option Operand} {x' : Option X} (h : compO x = some x') :
    (x = none ∧ x' = none) ∨ ∃ y y', x = some y ∧ x' = some y' ∧ Rep g (a.eval y) (fr.val y') := by
  cases x with
  | none => simp [compO] at h; exact .inl ⟨rfl, h.symm⟩
  | some y =>
    simp only [compO, Option.map_eq_some_iff] at h
    obtain ⟨y', h1, rfl⟩ := h
    exact .inr ⟨y, y', rfl, rfl, (val_ok s h1).1⟩

theorem sliceBound_run {v : Value} {d : D} {n y : Nat} (code : BoundsCode) (hr : Rep g v d) (h : ((intOf? d).bind fun n => if 0 ≤ n then some n.toNat else none) = some n) (hle : n ≤ y) : (Instr.sliceBound v y code).run P w = .ok n w := by
  simp only [Option.bind_eq_some_iff] at h
  obtain ⟨m, h1, h2⟩ := h
  split at h2
  · rename_i h0
    cases h2
    obtain ⟨k, rfl, h3⟩ := asIntOf_run (P := P) (w := w) hr h1
    unfold Instr.sliceBound
    rw [run_bo h3]
    have : m ≤ (y : Int) := by omega
    simp only [h0, this, and_self, if_true]
    rfl
  · cases h2

theorem bounds_run (s : SInv P g w fr a.tmps) {lo hi : Option Operand} {lo' hi' : Option X} (hlo : compO lo = some lo') (hhi : compO hi = some hi') (isSlice : Bool) {len cap l h : Nat} (hlc : len ≤ cap)
    (h1 : loD (fr.optVal lo') = some l) (h2 : hiD len (fr.optVal hi') = some h) (hlh : l ≤ h) (hhl : h ≤ len) :
    (Instr.sliceBounds isSlice len cap (lo.map a.eval) (hi.map a.eval) none).run P w = .ok (l, h, cap) w := by
  unfold Instr.sliceBounds
  simp only
  rw [run_pb]
  rcases optVal_ok s hhi with ⟨rfl, rfl⟩ | ⟨y, y', rfl, rfl, hy⟩
  · simp only [Fr.optVal, hiD, Option.some.injEq] at h2
    subst h2
    simp only [Option.map_none]
    rw [run_pb]
    rcases optVal_ok s hlo with ⟨rfl, rfl⟩ | ⟨z, z', rfl, rfl, hz⟩
    · simp only [Fr.optVal, loD, Option.some.injEq] at h1
      subst h1
      simp only [Option.map_none]
      rw [run_pb]
      rfl
    · simp only [Option.map_some]
      rw [run_bo (sliceBound_run _ hz h1 hlh)]
      rfl
  · simp only [Option.map_some]
    rw [run_bo (sliceBound_run _ hy h2 (by omega))]
    rcases optVal_ok s hlo with ⟨rfl, rfl⟩ | ⟨z, z', rfl, rfl, hz⟩
    · simp only [Fr.optVal, loD, Option.some.injEq] at h1
      subst h1
      simp only [Option.map_none]
      rw [run_pb]
      rfl
    · simp only [Option.map_some]
      rw [run_bo (sliceBound_run _ hz h1 hlh)]
      rfl

theorem snd_slice {t e : TypeId} {x : Operand} {lo hi : Option Operand} (hop : o.op = .slice t x lo hi none) (ht : P.underlying t = some (.slice e)) {esz : Nat} (hs : sizeT P e = some esz)
    {x' : X} {lo' hi' : Option X} (hX : compX x = some x') (hlo : compO lo = some lo') (hhi : compO hi = some hi')
    (he : evalOp cal q o.dst (.slice esz x' lo' hi') fr σ = some (d, fr', σ')) (i : Inv P g w fr σ a) : Snd P g w a o fr' σ' d := by
  have hv := (val_ok i.s hX).1
  have hrun : ∀ av len cap l h, a.eval x = .slice av len cap → len ≤ cap → loD (fr.optVal lo') = some l → hiD len (fr.optVal hi') = some h → l ≤ h → h ≤ len →
      (execOp a.eval o).run P w = .ok (.value (.slice (if cap = l then av else av.map (·.add (l * esz))) (h - l) (cap - l))) w := fun av len cap l h hb hlc h1 h2 hlh hhl => by
    simp only [execOp, hop, hb]
    refine run_vmap ?_
    unfold Instr.sliceAt
    rw [run_bo (run_und ht)]
    simp only [Option.map_none]
    unfold Instr.slice
    rw [run_bo (run_und ht)]
    simp only
    rw [run_bo (bounds_run i.s hlo hhi true hlc h1 h2 hlh hhl)]
    simp only
    rw [run_bo (size_run hs)]
    rfl
  simp only [evalOp] at he
  generalize hvx : a.eval x = vx at *
  split at he
  · rename_i es own hx
    rw [hx] at hv
    split at he
    · rename_i l h hl hh
      split at he
      · rename_i hc
        cases he
        obtain ⟨c1, c2, c3⟩ := hc
        cases hv with
        | sl av len cap b off esz' _ _ V hlen hcap hn ha hes hI hR =>
          subst hlen
          refine snd_plain i (hrun _ _ _ _ _ rfl hcap hl hh c1 c2) ?_ rfl rfl
          have hz : ∀ e ∈ es, esz' = esz := fun e he => by
            have h1 := (hes e he).1
            have h2 := List.all_eq_true.1 c3 e he
            simp at h2
            omega
          have sub : ∀ (k : Nat) (e : List D), ((es.drop l).take (h - l))[k]? = some e → es[l + k]? = some e := fun k e hk => by
            rw [List.getElem?_take] at hk
            split at hk
            · rwa [List.getElem?_drop] at hk
            · cases hk
          refine .sl _ _ _ b (off + l * esz) esz _ none (fun k j => V (l + k) j) (by simp; omega) (by omega) ?_ ?_ ?_ ?_ ?_
          · intro hnone
            split at hnone
            · have := hn hnone; omega
            · have h0 : av = none := by simpa using hnone
              have := hn h0; omega
          · intro hne
            have hlt : l < h := by
              rcases Nat.lt_or_ge l h with q | q
              · exact q
              · exact absurd (by simp [show h - l = 0 by omega]) hne
            rw [if_neg (by omega), ha (by intro h0; subst h0; simp at c2; omega)]
            simp [Addr.add_lit]
          · intro e hm
            have hm' : e ∈ es := List.mem_of_mem_drop (List.mem_of_mem_take hm)
            exact ⟨(hes e hm').1.trans (hz e hm'), (hes e hm').2⟩
          · intro k e j dd hk hd
            have h1 := sub k e hk
            have := hI (l + k) e j dd h1 hd
            have hz' := hz e (List.mem_of_getElem? h1)
            subst hz'
            rw [show off + l * esz' + k * esz' + j = off + (l + k) * esz' + j by rw [Nat.add_mul]; omega]
            exact this
          · intro k e j dd hk hd
            exact hR (l + k) e j dd (sub k e hk) hd
      · cases he
    · cases he
  · rename_i ob off m esz' hx
    rw [hx] at hv
    split at he
    · rename_i l h hl hh
      split at he
      · rename_i hc
        obtain ⟨c1, c2, rfl⟩ := hc
        cases hv with
        | msl _ _ _ _ cap ho hcp hsz =>
          have hr := hrun _ _ _ _ _ rfl hcp hl hh c1 c2
          split at he
          · rename_i hln
            cases he
            refine snd_plain i hr ?_ rfl rfl
            refine .sl _ _ _ 0 0 0 [] none (fun _ _ => undef) (by simp; omega) (by omega) ?_ (fun h => absurd rfl h) (by simp) (by simp) (by simp)
            intro hnone
            split at hnone <;> simp at hnone
          · rename_i hln
            cases he
            refine snd_plain i hr ?_ rfl rfl
            by_cases hcl : cap = l
            · have hl0 : l = 0 := by omega
              subst hl0
              subst hcl
              rw [if_pos rfl]
              simp only [Nat.zero_mul, Nat.add_zero, Nat.sub_zero] at hsz ⊢
              exact .msl _ _ _ _ _ ho (by omega) (by simpa using hsz)
            · rw [if_neg hcl]
              simp only [Option.map_some, Addr.add_lit]
              exact .msl _ _ _ _ _ ho (by omega) (by
                have : off + l * esz' + (cap - l) * esz' = off + cap * esz' := by
                  rw [Nat.add_assoc, ← Nat.add_mul]; congr 2; omega
                rw [this]; exact hsz)
      · cases he
    · cases he
  · cases he

end
end Go.Abs
