/-
  append on a slice that is the call's own.
-/
import Derived.Test.YtjmhfliaehhijaaOps9
set_option linter.unusedVariables false
set_option linter.unusedSimpArgs false
namespace Go.Abs
open Go Go.RowKit

section
variable {P : Program} {g g' : Gh} {w w' : World} {fr fr' : Fr} {σ σ' : St} {a : Act} {o : Oper} {d : D} {cal : Cal} {q mu : Bool} {ops : List Oper}

/-- What append does, case by case. -/
theorem append_cases {t e : TypeId} {inf : TypeInfo} {zv : Value} (ty : TypeId) (ht : P.underlying t = some (.slice e)) (hi : P.info? e = some inf) (hz : inf.zero = some zv) (hzs : zv.cells.size = inf.size) (_h0 : 0 < inf.size)
    {v : Value} {n : Nat} {xs : List Value} (hown : w.ownsRow 0 e inf.size v n xs) {vy : Value} {ys : List (List D)} (hy : Shows g w vy ys inf.size)
    (hbytes : (n + ys.length) * inf.bytes ≤ 140737488355328) (h62 : n + ys.length < 4611686018427387904) :
    (ys = [] ∧ (Builtin.append_ #[t, t] ty #[v, vy]).run P w = .ok v w) ∨
    (∃ vs, Elts g vs ys inf.size ∧
      ((∃ b cap cur, v = .slice (some ⟨b, 0, none⟩) n cap ∧ w.heap[b]? = some (.cells cur e (0, 0)) ∧ n + ys.length ≤ cap ∧ cap ≤ maxLen ∧ cur.size = cap * inf.size ∧ cur.toList.take (n * inf.size) = xs ∧
        (Builtin.append_ #[t, t] ty #[v, vy]).run P w = .ok (.slice (some ⟨b, 0, none⟩) (n + ys.length) cap) (w.setRow b (setAt cur.toList (n * inf.size) vs).toArray)) ∨
      (∃ cap arr w', n + ys.length ≤ cap ∧ cap ≤ maxLen ∧ arr.size = cap * inf.size ∧ arr.toList.take (xs ++ vs).length = xs ++ vs ∧ w'.heap = w.heap.push (.cells arr e) ∧ w'.os = w.os ∧ w'.tape = w.tape ∧ w'.output = w.output ∧
        (Builtin.append_ #[t, t] ty #[v, vy]).run P w = .ok (.slice (some ⟨w.heap.size, 0, none⟩) (n + ys.length) cap) w'))) := by
  obtain ⟨av, c, rfl, hcase⟩ := hy
  rcases hcase with ⟨rfl, rfl, rfl⟩ | ⟨ad, vs, rfl, hel, hmem⟩
  · exact .inl ⟨rfl, by simpa using run_append_owned_none (P := P) w 0 t ty e inf inf.size ht hi v n xs hown⟩
  · have grown : ∀ old, old < n + ys.length → n + ys.length ≤ grownCap w (n + ys.length) old e ∧ grownCap w (n + ys.length) old e ≤ maxLen ∧
        (xs.toArray ++ vs.toArray ++ Builtin.zeroCells zv.cells (grownCap w (n + ys.length) old e - (n + ys.length))).size = grownCap w (n + ys.length) old e * inf.size ∧
        (xs.toArray ++ vs.toArray ++ Builtin.zeroCells zv.cells (grownCap w (n + ys.length) old e - (n + ys.length))).toList.take (xs ++ vs).length = xs ++ vs := fun old ho => by
      have hge := grownCap_ge w (n + ys.length) old e
      refine ⟨hge, grownCap_le_maxLen w _ old e (by unfold maxLen; omega), ?_, ?_⟩
      · simp only [Array.size_append, List.size_toArray, size_zeroCells, hzs, hown.1, hel.len, ← Nat.add_mul]
        congr 1
        omega
      · simp only [Array.toList_append, List.append_assoc]
        rw [← List.append_assoc]
        exact List.take_left
    by_cases hsl : v = .slice none 0 0 ∧ n = 0
    · obtain ⟨rfl, rfl⟩ := hsl
      have hx : xs = [] := List.eq_nil_of_length_eq_zero (by simpa using hown.1)
      subst hx
      by_cases hm : ys.length = 0
      · left
        have hys : ys = [] := List.eq_nil_of_length_eq_zero hm
        subst hys
        have hvs : vs = [] := List.eq_nil_of_length_eq_zero (by simpa using hel.len)
        subst hvs
        refine ⟨rfl, ?_⟩
        simp [Builtin.append_, run_underlying ht, sizeOf, typeInfo, hi, Builtin.lenOf, Builtin.firstCells, loadCells, loadCellsFrom]
      · right
        have hr := run_append_nil (P := P) w t ty e inf zv ht hi hz ad ys.length c vs hel.len hmem (by omega) (by omega) (by simp only [Nat.zero_add] at hbytes; omega)
        obtain ⟨g1, g2, g3, g4⟩ := grown 0 (by omega)
        simp only [Nat.zero_add] at g1 g2 g3 g4
        refine ⟨vs, hel, .inr ⟨_, _, w.drew.alloc _, by simpa using g1, g2, g3, g4, rfl, rfl, rfl, rfl, ?_⟩⟩
        simp only [Nat.zero_add]
        simpa using hr
    · right
      rcases hown.2 with h | ⟨b, cap, cur, rfl, _, hg, hnc, hcm, hcs, htake⟩
      · exact absurd h hsl
      · refine ⟨vs, hel, ?_⟩
        by_cases hroom : n + ys.length ≤ cap
        · left
          have hfit : n * inf.size + vs.length ≤ cur.size := by rw [hel.len, hcs, ← Nat.add_mul]; exact Nat.mul_le_mul_right _ hroom
          have hr := run_append_room (P := P) w t ty e inf ht hi b n cap cur hg ad ys.length c vs hel.len hmem (hel.one _h0) hroom hfit
          rw [seg_setAt _ _ _ (by simpa using hfit)] at hr
          exact ⟨b, cap, cur, rfl, hg, hroom, hcm, hcs, htake, hr⟩
        · right
          have holds : ∀ j u, xs[j]? = some u → w.cell? ((⟨b, 0, none⟩ : Addr).add j) = some u := hown.cells (g := b) rfl
          have hr := run_append_grow (P := P) w t ty e inf zv ht hi hz ⟨b, 0, none⟩ n cap xs hown.1 holds ad ys.length c vs hel.len hmem (by omega) (by omega) (growslice_fits (by omega) hbytes)
          obtain ⟨g1, g2, g3, g4⟩ := grown cap (by omega)
          exact ⟨_, _, w.drew.alloc _, g1, g2, g3, g4, rfl, rfl, rfl, rfl, hr⟩

/-- The cells of an own slice stand for its elements. -/
theorem own_elts (i : HInv P g w σ) {v : Value} {es : List (List D)} {own : Option Nat} (hr : Rep g v (.sl es own)) {e : Nat} {n : Nat} {xs : List Value} {esz : Nat} (hown : w.ownsRow 0 e esz v n xs) (hn : n = es.length)
    (hall : ∀ x ∈ es, x.length = esz) : Elts g xs es esz ∧ ∀ b, v.ownBlock = some b → ∀ (k : Nat) (u : Value), xs[k]? = some u → es ≠ [] → g.I b k = some u := by
  subst hn
  cases hr with
  | sl av len cap b off esz' _ _ V hl hc hn ha hes hI hR =>
    by_cases h0 : es = []
    · subst h0
      have hx : xs = [] := List.eq_nil_of_length_eq_zero (by simpa using hown.1)
      subst hx
      exact ⟨⟨by simp, by simp, by simp⟩, fun b _ k u hu => by simp at hu⟩
    · have hav := ha h0
      subst hav
      rcases hown.2 with ⟨h1, _⟩ | ⟨b', cap', cur, h1, _, hg, hnc, hcm, hcs, htake⟩
      · cases h1
      · cases h1
        obtain ⟨e0, he0⟩ := List.exists_mem_of_ne_nil es h0
        have hz : esz' = esz := (hes e0 he0).1.symm.trans (hall e0 he0)
        subst hz
        have hcellx : ∀ (i : Nat) (x : List D) (j : Nat) (d : D), es[i]? = some x → x[j]? = some d → xs[i * esz' + j]? = some (V i j) := fun k x j d h1 h2 => by
          have hj : j < esz' := by rw [← (hes x (List.mem_of_getElem? h1)).1]; exact get_lt h2
          have := i.imm _ _ _ (hI k x j d h1 h2)
          simp only [World.cell?, hg, Option.isSome_none, Bool.false_eq_true, if_false, Nat.zero_add] at this
          rw [← htake, List.getElem?_take, if_pos (idx_lt (get_lt h1) hj)]
          simpa using this
        refine ⟨⟨hown.1, hes, fun k x j d h1 h2 => ⟨V k j, hcellx k x j d h1 h2, hR k x j d h1 h2⟩⟩, fun b'' hb k u hu _ => ?_⟩
        simp only [Value.ownBlock, Option.some.injEq] at hb
        subst hb
        have hk : k < es.length * esz' := by rw [← hown.1]; exact get_lt hu
        have hz0 : 0 < esz' := by
          rcases Nat.eq_zero_or_pos esz' with h | h
          · subst h; simp at hk
          · exact h
        have h1 : k / esz' < es.length := Nat.div_lt_of_lt_mul (by rw [Nat.mul_comm]; exact hk)
        have he := List.getElem?_eq_getElem h1
        have h2 : k % esz' < (es[k / esz']).length := by rw [(hes _ (List.mem_of_getElem? he)).1]; exact Nat.mod_lt _ hz0
        have hd := List.getElem?_eq_getElem h2
        have hx := hcellx _ _ _ _ he hd
        have hkk : k / esz' * esz' + k % esz' = k := by rw [Nat.mul_comm]; exact Nat.div_add_mod k esz'
        rw [hkk, hu] at hx
        cases hx
        have := hI _ _ _ _ he hd
        rw [Nat.zero_add, hkk] at this
        exact this

/-- A ghost in which some cells more stay. -/
def Gh.grow (g : Gh) (b from_ : Nat) (vs : List Value) : Gh := { g with I := fun x off => if x = b ∧ from_ ≤ off ∧ off < from_ + vs.length then vs[off - from_]? else g.I x off }

/-- What is in hand gets its place. -/
theorem retag (i : Inv P g w fr σ a) {v : Value} {d : D} (hr : Rep g v d) (ho : Own P g w .hand v d) (tag : Tag) :
    ∃ g', Ext g w g' w ∧ Inv P g' w fr σ a ∧ Rep g' v d ∧ Own P g' w tag v d := by
  by_cases hq : ∃ es e b, d = .sl es (some e) ∧ v.ownBlock = some b
  · obtain ⟨es, e, b, rfl, hb⟩ := hq
    rcases ho es e rfl with ⟨_, h0⟩ | ⟨inf, xs, h1, h2, h3, h4, h5⟩
    · rw [h0] at hb
      simp [Value.ownBlock] at hb
    obtain ⟨h6, h7⟩ := h5 b hb
    have hle : g.Le (g.tagAt b tag) := ⟨fun _ _ _ h => h, Nat.le_refl _, fun _ _ => rfl, fun _ _ => rfl⟩
    have hk : Keep g w (g.tagAt b tag) w (fun x => x = b) := ⟨hle, Nat.le_refl _, fun c _ hc => ⟨rfl, by simp [Gh.tagAt, hc], fun _ => rfl⟩⟩
    refine ⟨g.tagAt b tag, Ext.of_keep hk (fun c hc _ => by rw [hc, h6]; rfl) rfl rfl rfl, i.keep hk (fun c hc h => by rw [hc, h6] at h; exact h) (fun _ _ _ => rfl) i.h.imm rfl, hr.mono hle (fun _ _ _ => rfl), ?_⟩
    intro es' e' hd
    cases hd
    refine .inr ⟨inf, xs, h1, h2, h3, h4, fun b' hb' => ?_⟩
    rw [hb] at hb'
    cases hb'
    exact ⟨by simp [Gh.tagAt], h7⟩
  · refine ⟨g, .refl g w, i, hr, ?_⟩
    intro es e hd
    rcases ho es e hd with h0 | ⟨inf, xs, h1, h2, h3, h4, h5⟩
    · exact .inl h0
    exact .inr ⟨inf, xs, h1, h2, h3, h4, fun b hb => absurd ⟨es, e, b, hd, hb⟩ hq⟩

theorem own_strict {tag : Tag} {v : Value} {es : List (List D)} {e : Nat} {inf : TypeInfo} (hi : P.info? e = some inf) (h0 : 0 < inf.size) (h : Own P g w tag v (.sl es (some e))) :
    ∃ i xs, P.info? e = some i ∧ 0 < i.size ∧ (∀ x ∈ es, x.length = i.size) ∧ w.ownsRow 0 e i.size v es.length xs ∧ ∀ b, v.ownBlock = some b → g.ω b = tag ∧ ∀ off, es.length * i.size ≤ off → g.I b off = none := by
  rcases h es e rfl with ⟨rfl, rfl⟩ | h
  · exact ⟨inf, [], hi, h0, by simp, World.ownsRow_nil w 0 e inf.size, fun b hb => by simp [Value.ownBlock] at hb⟩
  · exact h

theorem snd_append {c : Call} (hop : o.op = .call c) (hb : c.callee = .builtin .append) {x y : Operand} {t e : TypeId} (hargs : c.args.toList = [x, y]) (hty : c.argTypes.toList = [t, t]) (ht : P.underlying t = some (.slice e))
    {esz bytes : Nat} (hs : sizeT P e = some esz) (hby : bytesT P e = some bytes) {z : List D} (hz : zeroOf P e = some z) (hzl : z.length = esz) (h0 : 0 < esz) {x' y' : X} (hX : compX x = some x') (hY : compX y = some y')
    (he : evalOp cal q o.dst (.append e esz bytes false x' y') fr σ = some (d, fr', σ')) (i : Inv P g w fr σ a) : Snd P g w a o fr' σ' d := by
  have hvy := (val_ok i.s hY).1
  obtain ⟨zv, z1, z2, z3, z4⟩ := zeroOf_ok (g := g) hz
  have hs' := hs
  unfold sizeT at hs
  unfold bytesT at hby
  simp only [Option.map_eq_some_iff] at hs hby
  obtain ⟨inf, hi, rfl⟩ := hs
  obtain ⟨inf', hi', rfl⟩ := hby
  rw [hi] at hi'
  cases hi'
  have hzv : inf.zero = some zv := by simpa [hi] using z1
  have hzs : zv.cells.size = inf.size := by rw [← hzl, ← z2.1]; simp
  simp only [evalOp] at he
  split at he
  · cases he
  · rename_i ys hys
    split at he
    · rename_i hall
      simp only [Bool.false_eq_true, if_false] at he
      split at he
      · rename_i xs0 e' hd
        split at he
        · rename_i hc
          obtain ⟨rfl, c2, c3⟩ := hc
          cases he
          have hallp : ∀ y ∈ ys, y.length = inf.size := fun y hy => by simpa using List.all_eq_true.1 hall y hy
          have hsh : Shows g w (a.eval y) ys inf.size := by
            have hcases : (∃ own, fr.val y' = .sl ys own) ∨ ∃ ob off n esz', fr.val y' = .msl ob off n esz' := by
              cases hq : fr.val y' <;> rw [hq] at hys <;> simp [elems] at hys
              · subst hys; exact .inl ⟨_, rfl⟩
              · exact .inr ⟨_, _, _, _, rfl⟩
            rcases hcases with ⟨own, hq⟩ | ⟨ob, off, n, esz', hq⟩
            · rw [hq] at hvy
              exact shows_sl i.h hvy hallp
            · rw [hq] at hvy hys
              obtain ⟨h1, h2⟩ := shows_msl i.h hvy hys
              by_cases hy0 : ys = []
              · subst hy0
                obtain ⟨av, cc, r1, r2⟩ := h1
                refine ⟨av, cc, r1, ?_⟩
                rcases r2 with r2 | ⟨ad, vs, r2, r3, r4⟩
                · exact .inl r2
                · have : vs = [] := List.eq_nil_of_length_eq_zero (by simpa using r3.len)
                  subst this
                  exact .inr ⟨ad, [], r2, ⟨by simp, by simp, by simp⟩, by simp⟩
              · obtain ⟨av, cc, r1, r2⟩ := h1
                rcases r2 with r2 | ⟨ad, vs, r2, r3, r4⟩
                · exact absurd r2.2.2 hy0
                · obtain ⟨y0, hy0m⟩ := List.exists_mem_of_ne_nil ys hy0
                  have : esz' = inf.size := (r3.each y0 hy0m).1.symm.trans (hallp y0 hy0m)
                  subst this
                  exact ⟨av, cc, r1, .inr ⟨ad, vs, r2, r3, r4⟩⟩
          intro next Q hn
          obtain ⟨g1, k1, k2, k3, k4, k5, k6, k7, k8, k9, k10⟩ := take_ok i hX .hand
          rw [hd] at k3 k4
          obtain ⟨inf2, xs, o1, o2, o3, o4, o5⟩ := own_strict hi (by omega) k4
          rw [hi] at o1
          cases o1
          have hsh1 : Shows g1 w (a.eval y) ys inf.size := by
            obtain ⟨av, cc, r1, r2⟩ := hsh
            refine ⟨av, cc, r1, ?_⟩
            rcases r2 with r2 | ⟨ad, vs, r2, r3, r4⟩
            · exact .inl r2
            · exact .inr ⟨ad, vs, r2, r3.mono k1.le, r4⟩
          obtain ⟨helx, hIx⟩ := own_elts k2.h k3 o4 rfl o3
          have hrun : ∀ v' w', (Builtin.append_ #[t, t] o.type #[a.eval x, a.eval y]).run P w = .ok v' w' → (execOp a.eval o).run P w = .ok (.value v') w' := fun v' w' hr => by
            refine call_builtin hop hb fun consts => ?_
            simp only [builtin]
            refine run_vmap' ?_
            have e1 : c.argTypes = #[t, t] := by
              have := congrArg List.toArray hty
              simpa using this
            have e2 : c.args.map a.eval = #[a.eval x, a.eval y] := by
              apply Array.ext'
              rw [Array.toList_map, hargs]
              rfl
            rw [e1, e2]
            exact hr
          unfold room at c2
          rcases append_cases o.type ht hi hzv hzs h0 o4 hsh1 c2 c3 with ⟨rfl, hr⟩ | ⟨vs, hel, hcase⟩
          · have r := retag k2 k3 k4 (match o.dst with | some t => .sbuf t | none => .sbuf 0)
            obtain ⟨g2, r1, r2, r3, r4⟩ := r
            refine wp_value (hrun _ _ hr) (hn _ _ g2 (k1.trans r1) ?_)
            rw [List.append_nil]
            exact r2.put o.dst r3 (fun t ht => by rw [ht] at r4; exact r4) (fun s off e => by cases e)
          · rcases hcase with ⟨b, cap, cur, hv, hg, hroom, hcm, hcs, htake, hr⟩ | ⟨cap, arr, w', hroom, hcm, hasz, htake, q1, q2, q3, q4, hr⟩
            · -- there is room
              refine wp_value (hrun _ _ hr) ?_
              rw [hv] at k3 k4 o4 o5 hIx
              obtain ⟨hω, hfree⟩ := o5 b rfl
              let g2 := g1.grow b (xs0.length * inf.size) vs
              have hle : g1.Le g2 := ⟨fun x off u hu => by
                simp only [g2, Gh.grow]
                rw [if_neg]
                · exact hu
                · rintro ⟨rfl, h1, h2⟩
                  rw [hfree off h1] at hu
                  exact absurd hu (by simp), Nat.le_refl _, fun _ _ => rfl, fun _ _ => rfl⟩
              have hlen : xs0.length * inf.size + vs.length ≤ cur.size := by rw [hel.len, hcs, ← Nat.add_mul]; exact Nat.mul_le_mul_right _ hroom
              have hk : Keep g1 w g2 (w.setRow b (setAt cur.toList (xs0.length * inf.size) vs).toArray) (fun x => x = b) :=
                ⟨hle, by rw [setRow_size]; exact Nat.le_refl _, fun c hc hne => ⟨by rw [setRow_heap w b c cur _ e' hg, if_neg hne], rfl, fun off => by simp only [g2, Gh.grow]; rw [if_neg (fun h => hne h.1)]⟩⟩
              have hnc : ∀ b', b' = b → ¬ claims (fr.take x').2 σ (g1.ω b') := by
                rintro b' rfl
                rw [hω]
                exact fun h => h
              have hnewcells : ∀ (k : Nat) (u : Value), (xs ++ vs)[k]? = some u → (setAt cur.toList (xs0.length * inf.size) vs)[k]? = some u := fun k u hu => by
                rw [setAt_get vs _ _ (by simpa using hlen)]
                have hxl : xs.length = xs0.length * inf.size := o4.1
                by_cases hk1 : k < xs.length
                · rw [List.getElem?_append_left hk1] at hu
                  rw [if_neg (by omega)]
                  rw [← htake, List.getElem?_take, if_pos (by omega)] at hu
                  exact hu
                · rw [List.getElem?_append_right (by omega)] at hu
                  have := get_lt hu
                  rw [if_pos (by omega), ← hxl]
                  exact hu
              have himm : ∀ (c off : Nat) (u : Value), g2.I c off = some u → (w.setRow b (setAt cur.toList (xs0.length * inf.size) vs).toArray).cell? ⟨c, off, none⟩ = some u := fun c off u hu => by
                simp only [World.cell?]
                rw [setRow_heap w b c cur _ e' hg]
                by_cases hcb : c = b
                · subst hcb
                  simp only [if_true, Option.isSome_none, Bool.false_eq_true, if_false, List.getElem?_toArray]
                  rw [setAt_get vs _ _ (by simpa using hlen)]
                  simp only [g2, Gh.grow, true_and] at hu
                  split at hu
                  · rename_i hc
                    rw [if_pos hc]
                    exact hu
                  · rename_i hc
                    rw [if_neg hc]
                    have := k2.h.imm _ _ _ hu
                    simpa [World.cell?, hg] using this
                · rw [if_neg hcb]
                  simp only [g2, Gh.grow] at hu
                  rw [if_neg (fun h => hcb h.1)] at hu
                  exact k2.h.imm _ _ _ hu
              have inv := k2.keep hk hnc (fun _ _ _ => rfl) himm rfl
              have hels : Elts g2 (xs ++ vs) (xs0 ++ ys) inf.size := (helx.append hel).mono hle
              have hrep : Rep g2 (.slice (some ⟨b, 0, none⟩) (xs0.length + ys.length) cap) (.sl (xs0 ++ ys) (some e')) := by
                have := hels.rep_sl (b := b) (off := 0) (cap := cap) (own := some e') (by simpa using hroom) (fun k u hu => by
                  rw [Nat.zero_add]
                  simp only [g2, Gh.grow, true_and]
                  have hxl : xs.length = xs0.length * inf.size := o4.1
                  by_cases hk1 : k < xs.length
                  · rw [List.getElem?_append_left hk1] at hu
                    rw [if_neg (by omega)]
                    refine hIx b rfl k u hu ?_
                    rintro rfl
                    simp at hxl
                    subst hxl
                    simp at hk1
                  · rw [List.getElem?_append_right (by omega)] at hu
                    have := get_lt hu
                    rw [if_pos (by omega), ← hxl]
                    exact hu)
                rwa [List.length_append] at this
              have hown : Own P g2 (w.setRow b (setAt cur.toList (xs0.length * inf.size) vs).toArray) .hand (.slice (some ⟨b, 0, none⟩) (xs0.length + ys.length) cap) (.sl (xs0 ++ ys) (some e')) := by
                intro es2 e2 hd2
                cases hd2
                refine .inr ⟨inf, xs ++ vs, hi, h0, fun y hy => (hels.each y hy).1, ⟨by rw [hels.len], .inr ⟨b, cap, _, by rw [List.length_append], Nat.zero_le _, by rw [setRow_heap w b b cur _ e' hg, if_pos rfl], by simpa using hroom, hcm, by simp [setAt_length, hcs], ?_⟩⟩, fun b2 hb2 => ?_⟩
                · apply List.ext_getElem?
                  intro k
                  rw [List.getElem?_take]
                  simp only []
                  by_cases hk1 : k < (xs ++ vs).length
                  · rw [if_pos (by rw [hels.len] at hk1; exact hk1), List.getElem?_eq_getElem hk1]
                    exact hnewcells k _ (List.getElem?_eq_getElem hk1)
                  · rw [if_neg (by rw [hels.len] at hk1; exact hk1), List.getElem?_eq_none (by omega)]
                · simp only [Value.ownBlock, Option.some.injEq] at hb2
                  subst hb2
                  refine ⟨hω, fun off ho => ?_⟩
                  simp only [g2, Gh.grow, true_and]
                  rw [List.length_append, Nat.add_mul] at ho
                  rw [if_neg (by rw [hel.len]; omega)]
                  exact hfree off (by omega)
              obtain ⟨g3, r1, r2, r3, r4⟩ := retag inv hrep hown (match o.dst with | some t => .sbuf t | none => .sbuf 0)
              refine hn _ _ g3 ((k1.trans (Ext.of_keep hk (fun c hc _ => by rw [hc, hω]; rfl) rfl rfl rfl)).trans r1) (r2.put o.dst r3 (fun t ht => by rw [ht] at r4; exact r4) (fun s off e => by cases e))
            · -- a new row
              obtain ⟨g3, r1, r2, r3, r4, _⟩ := newRow_ok (w' := w') k2 (match o.dst with | some t => .sbuf t | none => .sbuf 0) q1 q2 q3 q4 hi h0 (helx.append hel) hasz (by simpa using hroom) hcm htake
              rw [List.length_append] at r3 r4
              refine wp_value (hrun _ _ hr) (hn _ _ g3 (k1.trans r1) (r2.put o.dst r3 (fun t ht => by rw [ht] at r4; exact r4) (fun s off e => by cases e)))
        · cases he
      · cases he
    · cases he

end
end Go.Abs
