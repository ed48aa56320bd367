import Derived.Test.YtnjoledlgacpeaaOps11
set_option linter.unusedVariables false
set_option linter.unusedSimpArgs false
/-
  append on a row that is cut off and appended to again.
-/
namespace Go.Abs
open Go Go.RowKit

section
variable {P : Program} {g g' : Gh} {w w' : World} {fr fr' : Fr} {σ σ' : St} {a : Act} {o : Oper} {d : D} {cal : Cal} {q mu : Bool} {ops : List Oper}

theorem Inv.toHand (i : Inv P g w fr σ a) {ob : Nat} {cs : List D} (ho : σ[ob]? = some (.cells cs)) :
    Inv P (g.tagAt (g.μ ob) .hand) w fr (σ.set ob .dead) a ∧ Ext g w (g.tagAt (g.μ ob) .hand) w := by
  obtain ⟨h1, h2⟩ := i.h.cells ob cs ho
  have hle : g.Le (g.tagAt (g.μ ob) .hand) := ⟨fun _ _ _ h => h, Nat.le_refl _, fun _ _ => rfl, fun _ _ => rfl⟩
  have hk : Keep g w (g.tagAt (g.μ ob) .hand) w (fun x => x = g.μ ob) := ⟨hle, Nat.le_refl _, fun c _ hc => ⟨rfl, by simp [Gh.tagAt, hc], fun _ => rfl⟩⟩
  have hlt : ob < σ.length := (List.getElem?_eq_some_iff.1 ho).1
  refine ⟨(i.kill ob).keep hk (fun c hc h => ?_) (fun _ _ _ => rfl) i.h.imm rfl, Ext.of_keep hk (fun c hc _ => by rw [hc, h1]; rfl) rfl rfl rfl⟩
  rw [hc, h1] at h
  rcases h with ⟨cs, h⟩ | ⟨es, h⟩ <;> simp [hlt] at h

theorem flat_at {sz : Nat} : ∀ (ys : List (List D)), (∀ y ∈ ys, y.length = sz) → ∀ (k : Nat) (d : D), ys.flatten[k]? = some d → ∃ (i : Nat) (e : List D) (j : Nat), k = i * sz + j ∧ ys[i]? = some e ∧ e[j]? = some d
  | [], _, k, d, h => by simp at h
  | y :: ys, hy, k, d, h => by
    rw [List.flatten_cons] at h
    have hl := hy y (by simp)
    by_cases hk : k < y.length
    · rw [List.getElem?_append_left hk] at h
      exact ⟨0, y, k, by simp, rfl, h⟩
    · rw [List.getElem?_append_right (by omega)] at h
      obtain ⟨i, e, j, h1, h2, h3⟩ := flat_at ys (fun z hz => hy z (by simp [hz])) _ d h
      exact ⟨i + 1, e, j, by rw [Nat.add_mul]; omega, by simpa using h2, h3⟩

theorem scalar_facts {d : D} (h : scalar1 d = true) : d.strip = d ∧ d.plain = true ∧ ∀ t off, d ≠ .lptr t off := by
  cases d <;> simp_all [scalar1, D.strip, D.plain]

/-- The mark behind an object: of what type its row is. -/
theorem Inv.mark (i : Inv P g w fr σ a) {e : Nat} (hlast : ∀ (ob : Nat) (cs : List D), ob + 1 = σ.length → σ[ob]? = some (.cells cs) → ∃ arr, w.heap[g.μ ob]? = some (.cells arr e (0, 0))) :
    Inv P { g with n := g.n + 1 } w fr (σ ++ [.row e]) a ∧ Ext g w { g with n := g.n + 1 } w := by
  have hle : g.Le { g with n := g.n + 1 } := ⟨fun _ _ _ h => h, Nat.le_succ _, fun _ _ => rfl, fun _ _ => rfl⟩
  have hk : Keep g w { g with n := g.n + 1 } w (fun _ => False) := ⟨hle, Nat.le_refl _, fun _ _ _ => ⟨rfl, rfl, fun _ => rfl⟩⟩
  have hC : ∀ b, (fun _ : Nat => False) b → ¬ claims fr σ (g.ω b) := fun _ h => h.elim
  have hone : ∀ (k : Nat) (ob : Obj), (σ ++ [.row e])[k]? = some ob → σ[k]? = some ob ∨ (k = σ.length ∧ ob = .row e) := by
    intro k ob h
    by_cases hlt : k < σ.length
    · rw [List.getElem?_append_left hlt] at h
      exact .inl h
    · rw [List.getElem?_append_right (by omega)] at h
      have hl := (List.getElem?_eq_some_iff.1 h).1
      simp only [List.length_cons, List.length_nil] at hl
      have h0 : k - σ.length = 0 := by omega
      rw [h0] at h
      simp at h
      exact .inr ⟨by omega, h.symm⟩
  refine ⟨⟨⟨i.h.imm, by simp [i.h.n], fun o1 cs h1 => ?_, fun o1 es h1 => ?_, fun o1 e1 cs h1 h2 => ?_⟩, i.s.keep hk hC (fun _ _ _ => rfl), i.d.mono hle⟩, Ext.of_keep hk (fun _ h => h.elim) rfl rfl rfl⟩
  · rcases hone _ _ h1 with h | ⟨_, h⟩
    · exact i.h.cells_keep hk hC o1 cs h
    · cases h
  · rcases hone _ _ h1 with h | ⟨_, h⟩
    · exact i.h.maps_keep hk hC o1 es h
    · cases h
  · rcases hone _ _ h1 with h | ⟨_, h⟩
    · rcases hone _ _ h2 with h' | ⟨h', h''⟩
      · exact i.h.rows_keep hk hC o1 e1 cs h h'
      · cases h''
        exact hlast o1 cs h' h
    · cases h

theorem Inv.newRowObj (i : Inv P g w fr σ a) {b e : Nat} {arr : Array Value} {cs : List D} (hω : g.ω b = .hand) (hb : w.heap[b]? = some (.cells arr e (0, 0))) (hI : ∀ off, g.I b off = none)
    (hcs : ∀ (j : Nat) (d : D), cs[j]? = some d → scalar1 d = true ∧ ∃ u, arr.toList[j]? = some u ∧ Rep g u d) :
    ∃ g', Ext g w g' w ∧ Inv P g' w fr (σ ++ [.cells cs, .row e]) a ∧ g.n < g'.n ∧ g'.μ g.n = b ∧ g'.sz g.n = arr.size := by
  obtain ⟨i1, e1⟩ := i.push (b := b) (sz := arr.size) hω (.cells cs) (fun cs' h => by
    cases h
    refine ⟨arr, e, hb, rfl, hI, fun j d hd => ?_⟩
    obtain ⟨h1, u, h2, h3⟩ := hcs j d hd
    obtain ⟨s1, s2, s3⟩ := scalar_facts h1
    exact ⟨s2, u, by simpa using h2, h3.mono (push_le g b arr.size) (fun t off q => absurd q (s3 t off)), .of_ne s1⟩) (fun es h => by cases h)
  have hn : σ.length = g.n := i.h.n.symm
  obtain ⟨i2, e2⟩ := i1.mark (e := e) (fun ob cs' h1 h2 => by
    simp only [List.length_append, List.length_cons, List.length_nil] at h1
    have : ob = g.n := by omega
    subst this
    exact ⟨arr, by simpa [Gh.push] using hb⟩)
  refine ⟨_, e1.trans e2, ?_, ?_, ?_, ?_⟩
  · rw [List.append_assoc] at i2
    exact i2
  · show g.n < g.n + 1 + 1
    omega
  · simp [Gh.push]
  · simp [Gh.push]

theorem Inv.pushed (i : Inv P g w fr σ a) {ob : Go.Obj} (hh : w'.heap = w.heap.push ob) (h1 : w'.os = w.os) (h2 : w'.tape = w.tape) (h3 : w'.output = w.output) :
    Inv P (g.tagAt w.heap.size .hand) w' fr σ a ∧ Ext g w (g.tagAt w.heap.size .hand) w' := by
  have hle : g.Le (g.tagAt w.heap.size .hand) := ⟨fun _ _ _ h => h, Nat.le_refl _, fun _ _ => rfl, fun _ _ => rfl⟩
  have hsame : ∀ b, b < w.heap.size → w'.heap[b]? = w.heap[b]? := fun b hb => by rw [hh, Array.getElem?_push_lt hb, Array.getElem?_eq_getElem hb]
  have hk : Keep g w (g.tagAt w.heap.size .hand) w' (fun _ => False) := ⟨hle, by rw [hh]; simp, fun b hb _ => ⟨hsame b hb, by simp [Gh.tagAt, Nat.ne_of_lt hb], fun _ => rfl⟩⟩
  exact ⟨i.keep hk (fun _ h => h.elim) (fun _ _ _ => rfl) (fun b off v hv => by
    have := i.h.imm b off v hv
    rw [cell_same (hsame b (imm_lt i.h hv))]
    exact this) rfl, Ext.of_keep hk (fun _ h => h.elim) h1 h2 h3⟩

theorem rep_msl {v : Value} {ob off n esz : Nat} (h : Rep g v (.msl ob off n esz)) : ∃ cap, v = .slice (some ⟨g.μ ob, off, none⟩) n cap ∧ ob < g.n ∧ n ≤ cap ∧ off + cap * esz ≤ g.sz ob := by
  cases h with
  | msl _ _ _ _ cap h1 h2 h3 => exact ⟨cap, rfl, h1, h2, h3⟩

theorem finRoom (i : Inv P g w fr σ a) {b e : Nat} {cur new : Array Value} {cs : List D} (hω : g.ω b = .hand) (hg : w.heap[b]? = some (.cells cur e (0, 0))) (hI : ∀ off, g.I b off = none)
    (hcs : ∀ (j : Nat) (d : D), cs[j]? = some d → scalar1 d = true ∧ ∃ u, new.toList[j]? = some u ∧ Rep g u d) :
    ∃ g', Ext g w g' (w.setRow b new) ∧ Inv P g' (w.setRow b new) fr (σ ++ [.cells cs, .row e]) a ∧ g.n < g'.n ∧ g'.μ g.n = b ∧ g'.sz g.n = new.size := by
  have hk : Keep g w g (w.setRow b new) (fun x => x = b) := Keep.setRow hg
  have i2 := i.keep hk (fun x hx h => by rw [hx, hω] at h; exact h) (fun _ _ _ => rfl) (imm_setRow i.h hg hI) rfl
  have e2 : Ext g w g (w.setRow b new) := Ext.of_keep hk (fun x hx _ => by rw [hx, hω]; rfl) rfl rfl rfl
  obtain ⟨g', e3, i3, q1, q2, q3⟩ := i2.newRowObj hω (by rw [setRow_heap w b b cur new e hg, if_pos rfl]) hI hcs
  exact ⟨g', e2.trans e3, i3, q1, q2, q3⟩

theorem finGrow (i : Inv P g w fr σ a) {e : Nat} {arr : Array Value} {cs : List D} (hh : w'.heap = w.heap.push (.cells arr e)) (h1 : w'.os = w.os) (h2 : w'.tape = w.tape) (h3 : w'.output = w.output)
    (hcs : ∀ (j : Nat) (d : D), cs[j]? = some d → scalar1 d = true ∧ ∃ u, arr.toList[j]? = some u ∧ Rep g u d) :
    ∃ g', Ext g w g' w' ∧ Inv P g' w' fr (σ ++ [.cells cs, .row e]) a ∧ g.n < g'.n ∧ g'.μ g.n = w.heap.size ∧ g'.sz g.n = arr.size := by
  obtain ⟨i2, e2⟩ := i.pushed hh h1 h2 h3
  have hb : w'.heap[w.heap.size]? = some (.cells arr e (0, 0)) := by rw [hh]; simp
  obtain ⟨g', e3, i3, q1, q2, q3⟩ := i2.newRowObj (b := w.heap.size) (by simp [Gh.tagAt]) hb (fun off => imm_none i.h (Nat.le_refl _) off) (fun j d hd => by
    obtain ⟨h1, u, h2, h3⟩ := hcs j d hd
    have hle : g.Le (g.tagAt w.heap.size .hand) := ⟨fun _ _ _ h => h, Nat.le_refl _, fun _ _ => rfl, fun _ _ => rfl⟩
    exact ⟨h1, u, h2, h3.mono hle (fun _ _ _ => rfl)⟩)
  exact ⟨g', e2.trans e3, i3, q1, q2, q3⟩
theorem scal_all {ds : List D} (h : ds.all scalar1 = true) {j : Nat} {d : D} (hd : ds[j]? = some d) : scalar1 d = true := all_get h hd

/-- The cells of the row that is longer. -/
theorem rows_cells {g1 : Gh} {cs : List D} {n : Nat} {ys : List (List D)} {sz : Nat} {xs vs : List Value} {new : List Value} (hn : n * sz ≤ cs.length) (hxl : xs.length = n * sz) (hs1 : (cs.take (n * sz)).all scalar1 = true) (hs2 : ys.flatten.all scalar1 = true)
    (hx : ∀ (j : Nat) (d : D), j < n * sz → cs[j]? = some d → ∃ u, xs[j]? = some u ∧ Rep g1 u d) (hel : Elts g1 vs ys sz) (hnew : ∀ (j : Nat) (u : Value), (xs ++ vs)[j]? = some u → new[j]? = some u)
    (j : Nat) (d : D) (hd : (cs.take (n * sz) ++ ys.flatten)[j]? = some d) : scalar1 d = true ∧ ∃ u, new[j]? = some u ∧ Rep g1 u d := by
  have hl : (cs.take (n * sz)).length = n * sz := by rw [List.length_take]; omega
  by_cases hj : j < n * sz
  · rw [List.getElem?_append_left (by omega)] at hd
    refine ⟨all_get hs1 hd, ?_⟩
    rw [List.getElem?_take, if_pos hj] at hd
    obtain ⟨u, h1, h2⟩ := hx j d hj hd
    exact ⟨u, hnew j u (by rw [List.getElem?_append_left (by omega)]; exact h1), h2⟩
  · rw [List.getElem?_append_right (by omega), hl] at hd
    refine ⟨all_get hs2 hd, ?_⟩
    obtain ⟨i, e, k, h1, h2, h3⟩ := flat_at ys (fun y hy => (hel.each y hy).1) _ d hd
    obtain ⟨u, h4, h5⟩ := hel.rep i e k d h2 h3
    rw [← h1] at h4
    exact ⟨u, hnew j u (by rw [List.getElem?_append_right (by omega), hxl]; exact h4), h5⟩

theorem setAt_new {cur vs : List Value} {n : Nat} (h : n + vs.length ≤ cur.length) (j : Nat) (u : Value) (hu : (cur.take n ++ vs)[j]? = some u) : (setAt cur n vs)[j]? = some u := by
  have hl : (cur.take n).length = n := by rw [List.length_take]; omega
  rw [setAt_get vs _ _ h]
  by_cases hj : j < n
  · rw [List.getElem?_append_left (by omega), List.getElem?_take, if_pos hj] at hu
    rw [if_neg (by omega)]
    exact hu
  · rw [List.getElem?_append_right (by omega), hl] at hu
    have := get_lt hu
    rw [if_pos (by omega)]
    exact hu

theorem take_new {arr : Array Value} {l : List Value} (h : arr.toList.take l.length = l) (j : Nat) (u : Value) (hu : l[j]? = some u) : arr.toList[j]? = some u := by
  have hj := get_lt hu
  rw [← h, List.getElem?_take, if_pos hj] at hu
  exact hu

theorem snd_appendM {c : Call} (hop : o.op = .call c) (hb : c.callee = .builtin .append) {x y : Operand} {t e : TypeId} (hargs : c.args.toList = [x, y]) (hty : c.argTypes.toList = [t, t]) (ht : P.underlying t = some (.slice e))
    {esz bytes : Nat} (hs : sizeT P e = some esz) (hby : bytesT P e = some bytes) {z : List D} (hz : zeroOf P e = some z) (hzl : z.length = esz) (h0 : 0 < esz) {x' y' : X} (hX : compX x = some x') (hY : compX y = some y')
    (he : evalOp cal q o.dst (.append e esz bytes true x' y') fr σ = some (d, fr', σ')) (i : Inv P g w fr σ a) : Snd P g w a o fr' σ' d := by
  have hvy := (val_ok i.s hY).1
  have hvx := (val_ok i.s hX).1
  obtain ⟨zv, z1, z2, z3, z4⟩ := zeroOf_ok (g := g) hz
  have hs' := hs
  unfold sizeT at hs
  unfold bytesT at hby
  simp only [Option.map_eq_some_iff] at hs hby
  obtain ⟨inf, hi, rfl⟩ := hs
  obtain ⟨inf', hi', rfl⟩ := hby
  rw [hi] at hi'
  cases hi'
  have hzv : inf.zero = some zv := by simpa [hi] using z1
  have hzs : zv.cells.size = inf.size := by rw [← hzl, ← z2.1]; simp
  have hσn : σ.length = g.n := i.h.n.symm
  simp only [evalOp] at he
  split at he
  · cases he
  rename_i ys hys
  split at he
  rotate_left
  · cases he
  rename_i hall
  simp only [if_true] at he
  have hallp : ∀ y ∈ ys, y.length = inf.size := fun y hy => by simpa using List.all_eq_true.1 hall y hy
  have hshow : ∀ {g1 : Gh}, g.Le g1 → 0 < ys.length → ∃ ad c vs, a.eval y = .slice (some ad) ys.length c ∧ Elts g1 vs ys inf.size ∧ ∀ (j : Nat) (u : Value), vs[j]? = some u → w.cell? (ad.add j) = some u := by
    intro g1 hle hy0
    have hne : ys ≠ [] := fun h => by rw [h] at hy0; simp at hy0
    have hsh : Shows g w (a.eval y) ys inf.size := by
      have hcases : (∃ own, fr.val y' = .sl ys own) ∨ ∃ ob off n esz', fr.val y' = .msl ob off n esz' := by
        cases hq : fr.val y' <;> rw [hq] at hys <;> simp [elems] at hys
        · subst hys; exact .inl ⟨_, rfl⟩
        · exact .inr ⟨_, _, _, _, rfl⟩
      rcases hcases with ⟨own, hq⟩ | ⟨ob, off, n, esz', hq⟩
      · rw [hq] at hvy
        exact shows_sl i.h hvy hallp
      · rw [hq] at hvy hys
        obtain ⟨h1, h2⟩ := shows_msl i.h hvy hys
        obtain ⟨av, cc, r1, r2⟩ := h1
        rcases r2 with r2 | ⟨ad, vs, r2, r3, r4⟩
        · exact absurd r2.2.2 hne
        · obtain ⟨y0, hy0m⟩ := List.exists_mem_of_ne_nil ys hne
          have : esz' = inf.size := (r3.each y0 hy0m).1.symm.trans (hallp y0 hy0m)
          subst this
          exact ⟨av, cc, r1, .inr ⟨ad, vs, r2, r3, r4⟩⟩
    obtain ⟨av, cc, r1, r2⟩ := hsh
    rcases r2 with r2 | ⟨ad, vs, r2, r3, r4⟩
    · exact absurd r2.2.2 hne
    · rw [r2] at r1
      exact ⟨ad, cc, vs, r1, r3.mono hle, r4⟩
  have hrun : ∀ v' w', (Builtin.append_ #[t, t] o.type #[a.eval x, a.eval y]).run P w = .ok v' w' → (execOp a.eval o).run P w = .ok (.value v') w' := fun v' w' hr => by
    refine call_builtin hop hb fun consts => ?_
    simp only [builtin]
    refine run_vmap' ?_
    have e1 : c.argTypes = #[t, t] := by
      have := congrArg List.toArray hty
      simpa using this
    have e2 : c.args.map a.eval = #[a.eval x, a.eval y] := by
      apply Array.ext'
      rw [Array.toList_map, hargs]
      rfl
    rw [e1, e2]
    exact hr
  split at he
  · -- a row in memory
    rename_i ob off n esz' hx
    split at he
    rotate_left
    · cases he
    rename_i cs e' hcs hrow
    split at he
    rotate_left
    · cases he
    rename_i hc
    obtain ⟨rfl, rfl, rfl, hy0, hncs, hs1, hs2, c2, c3⟩ := hc
    cases he
    unfold room at c2
    rw [hx] at hvx
    obtain ⟨cap, hv, hob, hnc, hcz⟩ := rep_msl hvx
    rw [Nat.zero_add] at hcz
    obtain ⟨hω, cur, ty, hg, hsz, hI, hcell⟩ := i.h.cells ob cs hcs
    obtain ⟨cur', hg'⟩ := i.h.rows ob e' cs hcs hrow
    rw [hg] at hg'
    cases hg'
    intro next Q hn
    obtain ⟨i1, e1⟩ := i.toHand hcs
    obtain ⟨ad, cc, vs, hyv, hel, hmem⟩ := hshow e1.le hy0
    have hnsz : n * inf.size ≤ cur.size := by rw [hsz]; exact Nat.le_trans (Nat.mul_le_mul_right _ hnc) hcz
    have hxl : (cur.toList.take (n * inf.size)).length = n * inf.size := by rw [List.length_take]; simp; omega
    have hω1 : (g.tagAt (g.μ ob) .hand).ω (g.μ ob) = .hand := by simp [Gh.tagAt]
    have hxc : ∀ (j : Nat) (d : D), j < n * inf.size → cs[j]? = some d → ∃ u, (cur.toList.take (n * inf.size))[j]? = some u ∧ Rep (g.tagAt (g.μ ob) .hand) u d := fun j d hj hd => by
      obtain ⟨p1, u, p2, p3, _⟩ := hcell j d hd
      refine ⟨u, by rw [List.getElem?_take, if_pos hj]; simpa using p2, p3.mono e1.le (fun t off q => by subst q; simp [D.plain] at p1)⟩
    have hh62 : ¬ 4611686018427387904 ≤ n + ys.length := by omega
    by_cases hroom : n + ys.length ≤ cap
    · have hfit : n * inf.size + vs.length ≤ cur.size := by
        rw [hel.len, ← Nat.add_mul, hsz]
        exact Nat.le_trans (Nat.mul_le_mul_right _ hroom) hcz
      have hr := run_append_room (P := P) w t o.type e' inf ht hi (g.μ ob) n cap cur hg ad ys.length cc vs hel.len hmem (hel.one h0) hroom hfit
      rw [seg_setAt _ _ _ (by simpa using hfit)] at hr
      obtain ⟨g3, e3, i3, q1, q2, q3⟩ := finRoom (new := (setAt cur.toList (n * inf.size) vs).toArray) i1 hω1 hg hI (rows_cells hncs hxl hs1 hs2 hxc hel (fun j u hu => by
        simpa using setAt_new (by simpa using hfit) j u hu))
      rw [← hv, ← hyv] at hr
      refine wp_value (hrun _ _ hr) (hn _ _ g3 (e1.trans e3) (i3.put o.dst ?_ (fun _ _ => .of_ne rfl) (fun s off e => by cases e)))
      have := Rep.msl (g := g3) g.n 0 (n + ys.length) inf.size cap q1 hroom (by
        have : g3.sz g.n = (setAt cur.toList (n * inf.size) vs).toArray.size := q3
        rw [this]
        simp [setAt_length]
        omega)
      have hμ : g3.μ g.n = g.μ ob := q2
      rw [hμ] at this
      rw [hσn]
      exact this
    · have holds : ∀ j u, (cur.toList.take (n * inf.size))[j]? = some u → w.cell? ((⟨g.μ ob, 0, none⟩ : Addr).add j) = some u := fun j u hu => by
        rw [List.getElem?_take] at hu
        split at hu
        · simp only [Addr.add_lit, World.cell?, hg, Option.isSome_none, Bool.false_eq_true, if_false, Nat.zero_add]
          simpa using hu
        · cases hu
      have hr := run_append_grow (P := P) w t o.type e' inf zv ht hi hzv ⟨g.μ ob, 0, none⟩ n cap (cur.toList.take (n * inf.size)) hxl holds ad ys.length cc vs hel.len hmem (by omega) (by omega) (growslice_fits (by omega) c2)
      have hge := grownCap_ge w (n + ys.length) cap e'
      obtain ⟨g3, e3, i3, q1, q2, q3⟩ := finGrow (w' := w.drew.alloc _) (arr := (cur.toList.take (n * inf.size)).toArray ++ vs.toArray ++ Builtin.zeroCells zv.cells (grownCap w (n + ys.length) cap e' - (n + ys.length))) i1 rfl rfl rfl rfl (rows_cells (new := ((cur.toList.take (n * inf.size)).toArray ++ vs.toArray ++ Builtin.zeroCells zv.cells (grownCap w (n + ys.length) cap e' - (n + ys.length))).toList) hncs hxl hs1 hs2 hxc hel (fun j u hu => by
        simp only [Array.toList_append, List.append_assoc]
        rw [← List.append_assoc, List.getElem?_append_left (by simpa using get_lt hu)]
        simpa using hu))
      rw [← hv, ← hyv] at hr
      refine wp_value (hrun _ _ hr) (hn _ _ g3 (e1.trans e3) (i3.put o.dst ?_ (fun _ _ => .of_ne rfl) (fun s off e => by cases e)))
      have := Rep.msl (g := g3) g.n 0 (n + ys.length) inf.size (grownCap w (n + ys.length) cap e') q1 hge (by
        have hq : g3.sz g.n = _ := q3
        rw [hq]
        simp only [Array.size_append, List.size_toArray, size_zeroCells, hzs, hxl, hel.len, ← Nat.add_mul]
        rw [Nat.zero_add]
        exact Nat.mul_le_mul_right _ (by omega))
      have hμ : g3.μ g.n = w.heap.size := q2
      rw [hμ] at this
      rw [hσn]
      exact this
  · -- nothing yet
    rename_i own hx
    split at he
    rotate_left
    · cases he
    rename_i e' fr1 hd
    split at he
    rotate_left
    · cases he
    rename_i hc
    obtain ⟨rfl, hy0, hs2, c2, c3⟩ := hc
    cases he
    unfold room at c2
    intro next Q hn
    obtain ⟨g1, k1, k2, k3, k4, k5, k6, k7, k8, k9, k10⟩ := take_ok i hX .hand
    rw [hd] at k2 k3 k4
    simp only [] at k2 k3 k4
    obtain ⟨inf2, xs, o1, o2, o3, o4, o5⟩ := own_strict hi h0 k4
    rw [hi] at o1
    cases o1
    have hxs : xs = [] := List.eq_nil_of_length_eq_zero (by simpa using o4.1)
    subst hxs
    obtain ⟨ad, cc, vs0, hyv, hel0, hmem0⟩ := hshow k1.le hy0
    have hsh1 : Shows g1 w (a.eval y) ys inf.size := ⟨some ad, cc, hyv, .inr ⟨ad, vs0, rfl, hel0, hmem0⟩⟩
    rcases append_cases o.type ht hi hzv hzs h0 o4 hsh1 (by simpa using c2) (by simpa using c3) with ⟨rfl, _⟩ | ⟨vs, hel, hcase⟩
    · simp at hy0
    have hrc : ∀ {new : List Value}, (∀ (j : Nat) (u : Value), vs[j]? = some u → new[j]? = some u) → ∀ (j : Nat) (d : D), ys.flatten[j]? = some d → scalar1 d = true ∧ ∃ u, new[j]? = some u ∧ Rep g1 u d := fun {new} hnew j d hd => by
      have := rows_cells (g1 := g1) (cs := []) (n := 0) (sz := inf.size) (xs := []) (vs := vs) (ys := ys) (new := new) (by simp) (by simp) (by simp) hs2 (fun j d hj => by simp at hj) hel (fun j u hu => hnew j u (by simpa using hu)) j d (by simpa using hd)
      exact this
    rcases hcase with ⟨b, cap, cur, hv, hg, hroom, hcm, hcs, htake, hr⟩ | ⟨cap, arr, w', hroom, hcm, hasz, htake, q1, q2, q3, q4, hr⟩
    · obtain ⟨hω, hfree⟩ := o5 b (by rw [hv]; rfl)
      simp only [List.length_nil, Nat.zero_mul, Nat.zero_add] at hr hroom hfree
      have hfit : vs.length ≤ cur.size := by rw [hel.len, hcs]; exact Nat.mul_le_mul_right _ hroom
      obtain ⟨g3, e3, i3, q1, q2, q3⟩ := finRoom (new := (setAt cur.toList 0 vs).toArray) k2 hω hg (fun off => hfree off (Nat.zero_le _)) (hrc (fun j u hu => by
        simpa using setAt_new (n := 0) (by simpa using hfit) j u (by simpa using hu)))
      refine wp_value (hrun _ _ hr) (hn _ _ g3 (k1.trans e3) (i3.put o.dst ?_ (fun _ _ => .of_ne rfl) (fun s off e => by cases e)))
      have := Rep.msl (g := g3) g1.n 0 ys.length inf.size cap q1 hroom (by
        have hq : g3.sz g1.n = _ := q3
        rw [hq]
        simp [setAt_length]
        omega)
      have hμ : g3.μ g1.n = b := q2
      rw [hμ] at this
      rw [hσn, ← k8]
      exact this
    · simp only [List.length_nil, Nat.zero_add, List.nil_append] at hr hroom htake
      obtain ⟨g3, e3, i3, r1, r2, r3⟩ := finGrow k2 q1 q2 q3 q4 (hrc (new := arr.toList) (fun j u hu => take_new htake j u hu))
      refine wp_value (hrun _ _ hr) (hn _ _ g3 (k1.trans e3) (i3.put o.dst ?_ (fun _ _ => .of_ne rfl) (fun s off e => by cases e)))
      have := Rep.msl (g := g3) g1.n 0 ys.length inf.size cap r1 hroom (by
        have hq : g3.sz g1.n = _ := r3
        rw [hq]
        omega)
      have hμ : g3.μ g1.n = w.heap.size := r2
      rw [hμ] at this
      rw [hσn, ← k8]
      exact this
  · cases he
end
end Go.Abs
