import Derived.Test.YtnjoledlgacpeaaTreeA
set_option linter.unusedVariables false
set_option linter.unusedSimpArgs false
/-
  Using something at a node, in the interpreter.
-/
namespace Go.Abs.C
open Go Go.Abs
set_option maxRecDepth 10000

theorem go_seq {cal : Cal} {fuel : Nat} {a b : MCode} {fr fr1 : Fr} {σ σ1 : St} {r : RunR} (h : runC cal fuel a fr σ = some (.normal, fr1, σ1)) (h2 : runC cal fuel b fr1 σ1 = r) : runC cal fuel (.seq a b) fr σ = r := by
  simp only [runC, h]
  exact h2
theorem stop_seq {cal : Cal} {fuel : Nat} {a b : MCode} {fr fr1 : Fr} {σ σ1 : St} {ae : AE} (h : runC cal fuel a fr σ = some (ae, fr1, σ1)) (hne : ae ≠ .normal) : runC cal fuel (.seq a b) fr σ = some (ae, fr1, σ1) := by
  simp only [runC, h]
  cases ae <;> first | exact absurd rfl hne | rfl
theorem go_nat {cal : Cal} {fuel id : Nat} {N : Fr → List Go.Abs.Obj → Option (AE × Fr × List Go.Abs.Obj)} {fr fr1 : Fr} {σ σ1 : St} {ae : AE} (h : N fr σ = some (ae, fr1, σ1)) (hne : ∀ i, ae ≠ .exit i) : runC cal fuel (.block id (.nat N)) fr σ = some (ae, fr1, σ1) := by
  simp only [runC, h]
  cases ae with
  | exit i => exact absurd rfl (hne i)
  | normal => rfl
  | ret => rfl
theorem lineN_go {fr fr1 : Fr} {σ σ1 σ' : St} {ts : List Nat} {t p pt pn : Nat} {ma mb : MCode} {d : D} {ae : AE} (hp : fr.promoteL σ ts = some (fr1, σ1)) (hs : fr1.still.isStill = true) (hat : fr1.still.at t = .func 38 [.ptr pt 0, .ptr pn 0]) (hst : startL σ1 pt pn = some d) (hl : lineIt (roundR ma mb fr1.still p) pt 1000 d σ1 = some (ae, σ')) :
    lineN 38 ts t p ma mb fr σ = some (ae, fr1.still, σ') := by
  unfold lineN
  rw [hp]
  simp only [hs, if_true, hat, hst, hl, Option.map_some]
theorem line24_ok (n : Nat) (ot : Nat) (node : Nm) (σ : St) : callN T (n + 1) 24 [.ptr ot 0, .str node] σ = some (.func 38 [.ptr σ.length 0, .ptr (σ.length + 1) 0], σ ++ [Go.Abs.Obj.cells [.ptr ot 0], Go.Abs.Obj.cells [.str node]]) := by
  refine call_ret (m := m24) (σ1 := σ ++ [Go.Abs.Obj.cells [.ptr ot 0], Go.Abs.Obj.cells [.str node]]) rfl rfl (by decide) (fr := _) (ae := .ret) (by simp [m24, enterFr, runC, runOps, runOp, wantedD, evalOp, Fr.val, Fr.at, Fr.put, Fr.set, Fr.take, cellsAt, D.strip, Fr.promoteAll, Fr.promoteX, Fr.newBox, Fr.boxAt, Fr.setBox, Fr.promote, relinkL, D.cells, D.plain, D.raw, D.deep, D.bare]; rfl) (.inr rfl) rfl rfl
def findH (hs : List HeldR) (id : Nm) : Option HeldR := hs.find? fun h => h.id == id
theorem findKey_held (id : Nm) : ∀ hs : List HeldR, findKey 1 (.str id) (heldD hs) = some ((findH hs id).map fun h => .agg h.cells)
  | [] => rfl
  | x :: hs => by
    have ih := findKey_held id hs
    simp only [heldD, List.map_cons, findKey, eqKey, findH, List.find?_cons] at ih ⊢
    by_cases h : id = x.id
    · subst h
      simp
    · have h1 : (id == x.id) = false := by simpa using h
      have h2 : (x.id == id) = false := by simpa using fun e => h e.symm
      rw [h1, h2]
      exact ih
theorem putKey_held (x : HeldR) : ∀ hs : List HeldR, findH hs x.id = none → putKey 1 (.str x.id) (.agg x.cells) (heldD hs) = some (heldD (hs ++ [x]))
  | [], _ => rfl
  | y :: hs, h => by
    simp only [findH, List.find?_cons] at h
    split at h
    · cases h
    · rename_i hx
      have ih := putKey_held x hs h
      have h1 : (x.id == y.id) = false := by
        have : ¬ y.id = x.id := by simpa using hx
        simpa using fun e => this e.symm
      simp only [heldD, List.map_cons, putKey, eqKey, h1, List.cons_append] at ih ⊢
      rw [ih]
      rfl
theorem res_arg {σ : St} {ot : Nat} (n : Nat) (node id : Nm) (amount : Int) (h : id = [] ∨ amount < 1) :
    callN T (n + 1) 13 [.ptr ot 0, .str node, .str id, .int .i64 amount] σ = some (.int .i64 1, σ) := by
  by_cases c1 : id = []
  · subst c1
    refine call_ret (m := m13) (σ1 := σ) rfl rfl (by decide) (fr := _) (ae := .ret) (by simp [m13, p13_a, p13_ba, enterFr, runC, runOps, runOp, wantedD, evalOp, Fr.val, Fr.at, Fr.put, Fr.set, Fr.take, cellsAt, D.strip, eqnD, binD, strD, intD, D.plain, keyD, Fr.newBox, Fr.boxAt, Fr.setBox, D.cells, D.raw, D.ripe, storeAt, setAt]; rfl) (.inr rfl) rfl (by simp [m13, resultOf, resD, cellsAt, Fr.at, Fr.boxAt, D.strip])
  · have c2 : amount < 1 := by rcases h with h | h; exact absurd h c1; exact h
    have c1' : id.isEmpty = false := by simpa using c1
    refine call_ret (m := m13) (σ1 := σ) rfl rfl (by decide) (fr := _) (ae := .ret) (by simp [c1', c2, m13, p13_a, p13_ba, enterFr, runC, runOps, runOp, wantedD, evalOp, Fr.val, Fr.at, Fr.put, Fr.set, Fr.take, cellsAt, D.strip, eqnD, binD, strD, intD, D.plain, keyD, Fr.newBox, Fr.boxAt, Fr.setBox, D.cells, D.raw, D.ripe, storeAt, setAt]; rfl) (.inr rfl) rfl (by simp [m13, resultOf, resD, cellsAt, Fr.at, Fr.boxAt, D.strip])
theorem res_arg_nil {σ : St} (n : Nat) (node id : Nm) (amount : Int) : callN T (n + 1) 13 [.nilp, .str node, .str id, .int .i64 amount] σ = some (.int .i64 1, σ) := by
  refine call_ret (m := m13) (σ1 := σ) rfl rfl (by decide) (fr := _) (ae := .ret) (by simp [m13, p13_a, p13_ba, p13_bba, p13_bbba, enterFr, runC, runOps, runOp, wantedD, evalOp, Fr.val, Fr.at, Fr.put, Fr.set, Fr.take, cellsAt, D.strip, eqnD, binD, strD, intD, D.plain, keyD, Fr.newBox, Fr.boxAt, Fr.setBox, D.cells, D.raw, D.ripe, storeAt, setAt]; rfl) (.inr rfl) rfl (by simp [m13, resultOf, resD, cellsAt, Fr.at, Fr.boxAt, D.strip])
theorem res_node {σ : St} {ot om oh : Nat} {ns : List NodeX} {hs : List HeldR} (L : Lay σ ot om oh ns hs) (n : Nat) (node id : Nm) (amount : Int) (h1 : id ≠ []) (h2 : 1 ≤ amount) (h : findN ns node = none) :
    callN T (n + 1) 13 [.ptr ot 0, .str node, .str id, .int .i64 amount] σ = some (.int .i64 60, σ) := by
  have ht := L.tree
  have hn := L.nodes
  have f1 := findKey_nodes node ns
  rw [h] at f1
  have c1' : id.isEmpty = false := by simpa using h1
  have c2 : ¬ amount < 1 := by omega
  refine call_ret (m := m13) (σ1 := σ) rfl rfl (by decide) (fr := _) (ae := .ret) (by simp [c1', c2, ht, hn, f1, m13, p13_a, p13_ba, p13_bba, p13_bbba, enterFr, runC, runOps, runOp, wantedD, evalOp, Fr.val, Fr.at, Fr.put, Fr.set, Fr.take, cellsAt, D.strip, eqnD, binD, strD, intD, D.plain, keyD, Fr.newBox, Fr.boxAt, Fr.setBox, D.cells, D.raw, D.ripe, storeAt, setAt]; rfl) (.inr rfl) rfl (by simp [m13, resultOf, resD, cellsAt, Fr.at, Fr.boxAt, D.strip])
theorem res_twice {σ : St} {ot om oh : Nat} {ns : List NodeX} {hs : List HeldR} (L : Lay σ ot om oh ns hs) (n : Nat) (node id : Nm) (amount : Int) (h1 : id ≠ []) (h2 : 1 ≤ amount) {x : NodeX} (h : findN ns node = some x) {y : HeldR} (h3 : findH hs id = some y) :
    callN T (n + 1) 13 [.ptr ot 0, .str node, .str id, .int .i64 amount] σ = some (.int .i64 13, σ) := by
  have ht := L.tree
  have hn := L.nodes
  have hh := L.held
  have f1 := findKey_nodes node ns
  have f2 := findKey_held id hs
  rw [h] at f1
  rw [h3] at f2
  simp only [HeldR.cells, Option.map_some] at f2
  have c1' : id.isEmpty = false := by simpa using h1
  have c2 : ¬ amount < 1 := by omega
  refine call_ret (m := m13) (σ1 := σ) rfl rfl (by decide) (fr := _) (ae := .ret) (by simp [c1', c2, ht, hn, hh, f1, f2, m13, p13_a, p13_ba, p13_bba, p13_bbba, enterFr, runC, runOps, runOp, wantedD, evalOp, Fr.val, Fr.at, Fr.put, Fr.set, Fr.take, cellsAt, D.strip, eqnD, binD, strD, intD, D.plain, keyD, Fr.newBox, Fr.boxAt, Fr.setBox, D.cells, D.raw, D.ripe, storeAt, setAt]; rfl) (.inr rfl) rfl (by simp [m13, resultOf, resD, cellsAt, Fr.at, Fr.boxAt, D.strip])
def badR (amount : Int) (r : NodeR) : Bool := decide (amount > IntKind.i64.wrap (r.limit - r.used))
def moreR (amount : Int) (r : NodeR) : NodeR := { r with used := IntKind.i64.wrap (r.used + amount) }
theorem Lay.append {σ : St} {ot om oh : Nat} {ns : List NodeX} {hs : List HeldR} (L : Lay σ ot om oh ns hs) (l : St) : Lay (σ ++ l) ot om oh ns hs := by
  obtain ⟨l1, l2, l3, l4⟩ := L.lt
  exact ⟨by rw [List.getElem?_append_left l1]; exact L.tree, by rw [List.getElem?_append_left l2]; exact L.nodes, by rw [List.getElem?_append_left l3]; exact L.held, fun x hx => by rw [List.getElem?_append_left (l4 x hx)]; exact L.cells x hx, L.neh, L.net, L.nod, L.names, L.ids⟩
/-- The store while the line is looked at. -/
def resS (σ : St) (ot : Nat) (node : Nm) (amount : Int) : St := σ ++ [Go.Abs.Obj.cells [.ptr ot 0], Go.Abs.Obj.cells [.str node], Go.Abs.Obj.cells [.int .i64 amount], Go.Abs.Obj.cells [.int .i64 0], Go.Abs.Obj.cells [.str [], .str [], .int .i64 0]]
theorem resS_get (σ : St) (ot : Nat) (node : Nm) (amount : Int) : (resS σ ot node amount)[σ.length]? = some (.cells [.ptr ot 0]) ∧ (resS σ ot node amount)[σ.length + 1]? = some (.cells [.str node]) ∧ (resS σ ot node amount)[σ.length + 2]? = some (.cells [.int .i64 amount]) ∧ (resS σ ot node amount)[σ.length + 3]? = some (.cells [.int .i64 0]) := by
  unfold resS
  refine ⟨?_, ?_, ?_, ?_⟩ <;> rw [List.getElem?_append_right (by omega)] <;> simp
def fr13 (ot : Nat) (node id : Nm) (pt pa : Nat) (amount : Int) (x : NodeX) (om oh : Nat) : Fr :=
  ⟨[.ptr ot 0, .str node, .str id, .int .i64 amount, .junk, .junk, .junk, .ptr pa 0, .ptr (pa + 1) 0, .ptr (pa + 2) 0, .bool false, .junk, .junk, .ptr ot 0, .bool false, .bool false, .str id, .bool (id == []), .bool false, .bool false, .int .i64 amount, .bool false, .bool false, .ptr ot 0, .ptr ot 0, .ptr ot 0, .map om, .str node, .ptr x.o 0, .bool false,
    .tup [.agg [.str [], .str [], .int .i64 0], .bool false], .ptr ot 0, .ptr ot 0, .ptr ot 1, .map oh, .str id, .tup [.agg [.str [], .str [], .int .i64 0], .bool false], .agg [.str [], .str [], .int .i64 0], .bool false, .bool false, .ptr ot 0, .str node, .func 38 [.ptr pt 0, .ptr (pt + 1) 0]] ++ List.replicate 33 .junk, List.replicate 76 none, []⟩
theorem round13 {σ : St} {ot om oh : Nat} {ns : List NodeX} {hs : List HeldR} (L : Lay σ ot om oh ns hs) {node id : Nm} {pt pa : Nat} {amount : Int} {x0 : NodeX} {om' oh' : Nat} (ha : σ[pa]? = some (.cells [.int .i64 amount])) (hb : σ[pa + 1]? = some (.cells [.int .i64 0])) {x : NodeX} (hx : x ∈ ns) :
    roundR p13_bbbbabki p13_bbbbabkj (fr13 ot node id pt pa amount x0 om' oh') 43 (.ptr x.o 0) σ = if badR amount x.r then some (.ret, σ.set (pa + 1) (.cells [.int .i64 61])) else some (.normal, σ) := by
  have hc := L.cells x hx
  simp only [NodeR.cells] at hc
  by_cases h : amount > IntKind.i64.wrap (x.r.limit - x.r.used)
  · have hb' : badR amount x.r = true := by simpa [badR] using h
    rw [if_pos hb']
    simp [roundR, fr13, p13_bbbbabki, p13_bbbbabkj, ha, hb, hc, h, m13, p13_a, p13_ba, p13_bba, p13_bbba, enterFr, runC, runOps, runOp, wantedD, evalOp, Fr.val, Fr.at, Fr.put, Fr.set, Fr.take, cellsAt, D.strip, eqnD, binD, strD, intD, D.plain, keyD, Fr.newBox, Fr.boxAt, Fr.setBox, D.cells, D.raw, D.ripe, storeAt, setAt]
  · have hb' : badR amount x.r = false := by simpa [badR] using h
    rw [hb']
    simp [roundR, fr13, p13_bbbbabki, p13_bbbbabkj, ha, hb, hc, h, m13, p13_a, p13_ba, p13_bba, p13_bbba, enterFr, runC, runOps, runOp, wantedD, evalOp, Fr.val, Fr.at, Fr.put, Fr.set, Fr.take, cellsAt, D.strip, eqnD, binD, strD, intD, D.plain, keyD, Fr.newBox, Fr.boxAt, Fr.setBox, D.cells, D.raw, D.ripe, storeAt, setAt]
theorem seq_assoc {cal : Cal} {fuel : Nat} {a b c : MCode} {fr : Fr} {σ : St} : runC cal fuel (.seq (.seq a b) c) fr σ = runC cal fuel (.seq a (.seq b c)) fr σ := by
  simp only [runC]
  generalize runC cal fuel a fr σ = r
  cases r with
  | none => rfl
  | some p =>
    obtain ⟨ae, fr, σ⟩ := p
    cases ae <;> rfl
theorem res_head {σ : St} {ot om oh : Nat} {ns : List NodeX} {hs : List HeldR} (L : Lay σ ot om oh ns hs) (n : Nat) (node id : Nm) (amount : Int) (h1 : id ≠ []) (h2 : 1 ≤ amount) {x : NodeX} (h : findN ns node = some x) (h3 : findH hs id = none) (b0 rest : MCode) (r : RunR)
    (hr : ∀ fr, fr.promoteL (σ ++ [Go.Abs.Obj.cells [.ptr ot 0], Go.Abs.Obj.cells [.str node]]) [7, 8, 9] = some (fr13 ot node id σ.length (σ.length + 2) amount x om oh, resS σ ot node amount) → runC (callN T (n + 1)) (n + 1) (.seq b0 rest) fr (σ ++ [Go.Abs.Obj.cells [.ptr ot 0], Go.Abs.Obj.cells [.str node]]) = r) :
    runC (callN T (n + 1)) (n + 1) (.seq p13_a (.seq p13_ba (.seq p13_bba (.seq p13_bbba (.seq (.seq p13_bbbbaa b0) rest))))) (enterFr m13 [.ptr ot 0, .str node, .str id, .int .i64 amount]) σ = r := by
  have ht := L.tree
  have hn := L.nodes
  have hh := L.held
  have f1 := findKey_nodes node ns
  have f2 := findKey_held id hs
  rw [h] at f1
  rw [h3] at f2
  have c1' : id.isEmpty = false := by simpa using h1
  have c1'' : (id == []) = false := by simpa using h1
  have c2 : ¬ amount < 1 := by omega
  have h24 := line24_ok n ot node σ
  refine go_seq (σ1 := σ) (by simp [m13, p13_a, p13_ba, p13_bba, p13_bbba, enterFr, runC, runOps, runOp, wantedD, evalOp, Fr.val, Fr.at, Fr.put, Fr.set, Fr.take, cellsAt, D.strip, eqnD, binD, strD, intD, D.plain, keyD, Fr.newBox, Fr.boxAt, Fr.setBox, D.cells, D.raw, D.ripe, storeAt, setAt]; rfl) (go_seq (σ1 := σ) (by simp [c1', c2, m13, p13_a, p13_ba, p13_bba, p13_bbba, enterFr, runC, runOps, runOp, wantedD, evalOp, Fr.val, Fr.at, Fr.put, Fr.set, Fr.take, cellsAt, D.strip, eqnD, binD, strD, intD, D.plain, keyD, Fr.newBox, Fr.boxAt, Fr.setBox, D.cells, D.raw, D.ripe, storeAt, setAt]; rfl) (go_seq (σ1 := σ) (by simp [c1', c2, ht, hn, f1, m13, p13_a, p13_ba, p13_bba, p13_bbba, enterFr, runC, runOps, runOp, wantedD, evalOp, Fr.val, Fr.at, Fr.put, Fr.set, Fr.take, cellsAt, D.strip, eqnD, binD, strD, intD, D.plain, keyD, Fr.newBox, Fr.boxAt, Fr.setBox, D.cells, D.raw, D.ripe, storeAt, setAt]; rfl) (go_seq (σ1 := σ) (by simp [c1', c2, ht, hn, hh, f1, f2, m13, p13_a, p13_ba, p13_bba, p13_bbba, enterFr, runC, runOps, runOp, wantedD, evalOp, Fr.val, Fr.at, Fr.put, Fr.set, Fr.take, cellsAt, D.strip, eqnD, binD, strD, intD, D.plain, keyD, Fr.newBox, Fr.boxAt, Fr.setBox, D.cells, D.raw, D.ripe, storeAt, setAt]; rfl) (seq_assoc.trans (go_seq (σ1 := σ ++ [Go.Abs.Obj.cells [.ptr ot 0], Go.Abs.Obj.cells [.str node]]) (by simp [p13_bbbbaa, doCall, D.deep, D.bare, pureArg, D.pure1, D.notL, Fr.promoteAll, Fr.promoteX, h24, m13, p13_a, p13_ba, p13_bba, p13_bbba, enterFr, runC, runOps, runOp, wantedD, evalOp, Fr.val, Fr.at, Fr.put, Fr.set, Fr.take, cellsAt, D.strip, eqnD, binD, strD, intD, D.plain, keyD, Fr.newBox, Fr.boxAt, Fr.setBox, D.cells, D.raw, D.ripe, storeAt, setAt]; rfl) (hr _ ?_))))))
  simp [Fr.promoteL, Fr.promote, relinkL, Fr.boxAt, fr13, resS, c1'']
theorem resS_lay {σ : St} {ot om oh : Nat} {ns : List NodeX} {hs : List HeldR} (L : Lay σ ot om oh ns hs) (node : Nm) (amount : Int) : Lay (resS σ ot node amount) ot om oh ns hs := L.append _
theorem line13 {σ : St} {ot om oh : Nat} {ns : List NodeX} {hs : List HeldR} (L : Lay σ ot om oh ns hs) (hg : Grown (npOf ns)) (hl : ns.length < 900) (node id : Nm) (amount : Int) (x : NodeX) :
    lineIt (roundR p13_bbbbabki p13_bbbbabkj (fr13 ot node id σ.length (σ.length + 2) amount x om oh) 43) σ.length 1000 (nodeD (findN ns node)) (resS σ ot node amount) =
      if anyN ns (badR amount) (lineP (npOf ns) node) then some (.ret, (resS σ ot node amount).set (σ.length + 3) (.cells [.int .i64 61])) else some (.normal, resS σ ot node amount) := by
  obtain ⟨g1, g2, g3, g4⟩ := resS_get σ ot node amount
  have hlen : (npOf ns).length + 1 ≤ 1000 := by simp [npOf]; omega
  obtain ⟨p1, p2⟩ := lineP_eq hg hlen node
  have := line_check (resS_lay L node amount) g1 (badR amount) (σb := (resS σ ot node amount).set (σ.length + 3) (.cells [.int .i64 61])) (fun y hy => round13 (resS_lay L node amount) (node := node) (id := id) (pt := σ.length) (x0 := x) (om' := om) (oh' := oh) g3 g4 hy) 1000 node p2
  rw [p1] at this
  exact this
theorem resS_start {σ : St} {ot om oh : Nat} {ns : List NodeX} {hs : List HeldR} (L : Lay σ ot om oh ns hs) (node : Nm) (amount : Int) : startL (resS σ ot node amount) σ.length (σ.length + 1) = some (nodeD (findN ns node)) := by
  obtain ⟨g1, g2, _, _⟩ := resS_get σ ot node amount
  exact startL_lay (resS_lay L node amount) g1 g2
theorem mine_lt {σ : St} {ot om oh : Nat} {ns : List NodeX} {hs : List HeldR} (L : Lay σ ot om oh ns hs) {o : Nat} (h : Mine ot om oh ns o) : o < σ.length := by
  obtain ⟨l1, l2, l3, l4⟩ := L.lt
  rcases h with h | h | h | ⟨x, hx, h⟩
  · omega
  · omega
  · omega
  · have := l4 x hx; omega
/-- A place beyond the tree's is written. -/
theorem Lay.setOut {σ : St} {ot om oh : Nat} {ns : List NodeX} {hs : List HeldR} (L : Lay σ ot om oh ns hs) {o : Nat} (h : ¬ Mine ot om oh ns o) (ob : Go.Abs.Obj) : Lay (σ.set o ob) ot om oh ns hs := by
  have hne : ∀ p, Mine ot om oh ns p → o ≠ p := fun p hp e => h (e ▸ hp)
  exact ⟨by rw [List.getElem?_set_ne (hne _ (.inl rfl))]; exact L.tree, by rw [List.getElem?_set_ne (hne _ (.inr (.inl rfl)))]; exact L.nodes, by rw [List.getElem?_set_ne (hne _ (.inr (.inr (.inl rfl))))]; exact L.held,
    fun x hx => by rw [List.getElem?_set_ne (hne _ (.inr (.inr (.inr ⟨x, hx, rfl⟩))))]; exact L.cells x hx, L.neh, L.net, L.nod, L.names, L.ids⟩
theorem res_full {σ : St} {ot om oh : Nat} {ns : List NodeX} {hs : List HeldR} (L : Lay σ ot om oh ns hs) (hg : Grown (npOf ns)) (hl : ns.length < 900) (n : Nat) (node id : Nm) (amount : Int) (h1 : id ≠ []) (h2 : 1 ≤ amount) {x : NodeX} (h : findN ns node = some x) (h3 : findH hs id = none)
    (h4 : anyN ns (badR amount) (lineP (npOf ns) node) = true) :
    ∃ σ', callN T (n + 2) 13 [.ptr ot 0, .str node, .str id, .int .i64 amount] σ = some (.int .i64 61, σ') ∧ Lay σ' ot om oh ns hs ∧ KeptS (Mine ot om oh ns) σ σ' := by
  have hline := line13 L hg hl node id amount x
  rw [if_pos h4] at hline
  have hout : ¬ Mine ot om oh ns (σ.length + 3) := fun hm => by have := mine_lt L hm; omega
  refine ⟨(resS σ ot node amount).set (σ.length + 3) (.cells [.int .i64 61]), call_ret (m := m13) (fr := (fr13 ot node id σ.length (σ.length + 2) amount x om oh).still) (ae := .ret) (σ1 := (resS σ ot node amount).set (σ.length + 3) (.cells [.int .i64 61])) rfl rfl (by decide) ?_ (.inr rfl) rfl ?_, (resS_lay L node amount).setOut hout _, ?_⟩
  · refine res_head L n node id amount h1 h2 h h3 _ _ _ (fun fr hp => ?_)
    exact stop_seq (go_nat (lineN_go hp rfl rfl (resS_start L node amount) hline) (fun i e => by cases e)) (fun e => by cases e)
  · have : ((resS σ ot node amount).set (σ.length + 3) (.cells [.int .i64 61]))[σ.length + 3]? = some (.cells [.int .i64 61]) := by
      rw [List.getElem?_set_self (by simp [resS])]
    simp [m13, resultOf, resD, cellsAt, Fr.at, fr13, Fr.still, D.strip, this]
  · refine ⟨by simp [resS], fun o ho hM => ?_⟩
    rw [List.getElem?_set_ne (by omega)]
    unfold resS
    rw [List.getElem?_append_left ho]
end Go.Abs.C

/-
  Something is used at a node: every node of its line bears it.
-/
namespace Go.Abs.C
open Go Go.Abs
set_option maxRecDepth 10000

/-- .. when the line is gone along once more. -/
def resS2 (σ : St) (ot : Nat) (node : Nm) (amount : Int) : St := resS σ ot node amount ++ [Go.Abs.Obj.cells [.ptr ot 0], Go.Abs.Obj.cells [.str node]]
theorem resS2_get (σ : St) (ot : Nat) (node : Nm) (amount : Int) : (resS2 σ ot node amount)[σ.length + 5]? = some (.cells [.ptr ot 0]) ∧ (resS2 σ ot node amount)[σ.length + 6]? = some (.cells [.str node]) ∧ (resS2 σ ot node amount)[σ.length + 2]? = some (.cells [.int .i64 amount]) ∧ (resS2 σ ot node amount)[σ.length + 3]? = some (.cells [.int .i64 0]) ∧ (resS2 σ ot node amount).length = σ.length + 7 := by
  unfold resS2 resS
  refine ⟨?_, ?_, ?_, ?_, by simp⟩ <;> rw [List.append_assoc, List.getElem?_append_right (by omega)] <;> simp
def fr13c (ot : Nat) (node id : Nm) (pt pa : Nat) (amount : Int) (x : NodeX) (om oh : Nat) : Fr :=
  ⟨[.ptr ot 0, .str node, .str id, .int .i64 amount, .junk, .junk, .junk, .ptr pa 0, .ptr (pa + 1) 0, .ptr (pa + 2) 0, .bool false, .junk, .junk, .ptr ot 0, .bool false, .bool false, .str id, .bool (id == []), .bool false, .bool false, .int .i64 amount, .bool false, .bool false, .ptr ot 0, .ptr ot 0, .ptr ot 0, .map om, .str node, .ptr x.o 0, .bool false,
    .tup [.agg [.str [], .str [], .int .i64 0], .bool false], .ptr ot 0, .ptr ot 0, .ptr ot 1, .map oh, .str id, .tup [.agg [.str [], .str [], .int .i64 0], .bool false], .agg [.str [], .str [], .int .i64 0], .bool false, .bool false, .ptr ot 0, .str node, .func 38 [.ptr pt 0, .ptr (pt + 1) 0]] ++ List.replicate 12 .junk ++ [.ptr ot 0, .str node, .func 38 [.ptr (pt + 5) 0, .ptr (pt + 6) 0]] ++ List.replicate 18 .junk, List.replicate 76 none, []⟩
theorem round13b {σ : St} {ot om oh : Nat} {ns : List NodeX} {hs : List HeldR} (L : Lay σ ot om oh ns hs) {node id : Nm} {pt pa : Nat} {amount : Int} {x0 : NodeX} {om' oh' : Nat} (ha : σ[pa]? = some (.cells [.int .i64 amount])) {x : NodeX} (hx : x ∈ ns) :
    roundR p13_bbbbbabki p13_bbbbbabkj (fr13c ot node id pt pa amount x0 om' oh') 58 (.ptr x.o 0) σ = some (.normal, σ.set x.o (.cells (moreR amount x.r).cells)) := by
  have hc := L.cells x hx
  simp only [NodeR.cells] at hc
  simp [roundR, fr13c, p13_bbbbbabki, p13_bbbbbabkj, ha, hc, moreR, NodeR.cells, runC, runOps, runOp, wantedD, evalOp, Fr.val, Fr.at, Fr.put, Fr.set, Fr.take, cellsAt, D.strip, binD, intD, D.plain, D.cells, D.raw, D.ripe, storeAt, setAt]
def usedAt (ns : List NodeX) (node : Nm) (amount : Int) : List NodeX := bumpN ns (lineP (npOf ns) node) (moreR amount)
theorem Lay.hold {σ : St} {ot om oh : Nat} {ns : List NodeX} {hs : List HeldR} (L : Lay σ ot om oh ns hs) {x : HeldR} (h : findH hs x.id = none) : Lay (σ.set oh (.map (heldD (hs ++ [x])))) ot om oh ns (hs ++ [x]) := by
  obtain ⟨l1, l2, l3, l4⟩ := L.lt
  have hto : oh ≠ ot := by
    intro e
    have := L.tree
    rw [← e, L.held] at this
    cases this
  refine ⟨by rw [List.getElem?_set_ne hto]; exact L.tree, by rw [List.getElem?_set_ne (Ne.symm L.neh)]; exact L.nodes, by rw [List.getElem?_set_self l3], fun y hy => ?_, L.neh, L.net, L.nod, L.names, ?_⟩
  · have hne : oh ≠ y.o := by
      intro e
      have := L.cells y hy
      rw [← e, L.held] at this
      cases this
    rw [List.getElem?_set_ne hne]
    exact L.cells y hy
  · rw [List.map_append, List.nodup_append]
    refine ⟨L.ids, by simp, fun a ha b hb => ?_⟩
    obtain ⟨z, hz, rfl⟩ := List.mem_map.1 ha
    simp only [List.map_cons, List.map_nil, List.mem_singleton] at hb
    subst hb
    have := List.find?_eq_none.1 h z hz
    simpa using this
theorem mine_bump {ot om oh : Nat} {ns : List NodeX} {names : List Nm} {f : NodeR → NodeR} {o : Nat} (h : Mine ot om oh (bumpN ns names f) o) : Mine ot om oh ns o := by
  rcases h with h | h | h | ⟨x, hx, h⟩
  · exact .inl h
  · exact .inr (.inl h)
  · exact .inr (.inr (.inl h))
  · obtain ⟨z, hz, rfl⟩ := List.mem_map.1 hx
    refine .inr (.inr (.inr ⟨z, hz, ?_⟩))
    split at h <;> exact h
theorem res_good {σ : St} {ot om oh : Nat} {ns : List NodeX} {hs : List HeldR} (L : Lay σ ot om oh ns hs) (hg : Grown (npOf ns)) (hl : ns.length < 900) (n : Nat) (node id : Nm) (amount : Int) (h1 : id ≠ []) (h2 : 1 ≤ amount) {x : NodeX} (h : findN ns node = some x) (h3 : findH hs id = none)
    (h4 : anyN ns (badR amount) (lineP (npOf ns) node) = false) :
    ∃ σ', callN T (n + 2) 13 [.ptr ot 0, .str node, .str id, .int .i64 amount] σ = some (.int .i64 0, σ') ∧ Lay σ' ot om oh (usedAt ns node amount) (hs ++ [⟨id, node, amount⟩]) ∧ KeptS (Mine ot om oh ns) σ σ' := by
  have hline := line13 L hg hl node id amount x
  rw [h4] at hline
  simp only [Bool.false_eq_true, if_false] at hline
  have hlen : (npOf ns).length + 1 ≤ 1000 := by simp [npOf]; omega
  obtain ⟨p1, p2⟩ := lineP_eq hg hlen node
  obtain ⟨g5, g6, g2, g3, gl⟩ := resS2_get σ ot node amount
  have L2 : Lay (resS2 σ ot node amount) ot om oh ns hs := (resS_lay L node amount).append _
  have hout : ∀ k, σ.length ≤ k → ¬ Mine ot om oh ns k := fun k hk hm => by have := mine_lt L hm; omega
  have hstart : startL (resS2 σ ot node amount) (σ.length + 5) (σ.length + 6) = some (nodeD (findN ns node)) := startL_lay L2 g5 g6
  obtain ⟨σ3, q1, q2, q3⟩ := line_upd (round := roundR p13_bbbbbabki p13_bbbbbabkj (fr13c ot node id σ.length (σ.length + 2) amount x om oh) 58) (f := moreR amount) (σ0 := resS2 σ ot node amount) (M := Mine ot om oh ns) (pt := σ.length + 5) (fun _ => rfl) (fun _ => rfl) (hout _ (by omega)) (by omega)
    (fun σ' ns' L' hk y hy => round13b L' ((hk.2 _ (by omega) (hout _ (by omega))).trans g2) hy) g5 1000 node (resS2 σ ot node amount) ns L2 (KeptS.refl _ _) (fun _ h => h) hg p2
  rw [p1] at q2
  change Lay σ3 ot om oh (usedAt ns node amount) hs at q2
  have k2 : σ3[σ.length + 2]? = some (.cells [.int .i64 amount]) := (q3.2 _ (by omega) (hout _ (by omega))).trans g2
  have k3 : σ3[σ.length + 3]? = some (.cells [.int .i64 0]) := (q3.2 _ (by omega) (hout _ (by omega))).trans g3
  have hl3 : σ.length + 7 ≤ σ3.length := by rw [← gl]; exact q3.1
  have f3 := putKey_held ⟨id, node, amount⟩ hs h3
  have ht := q2.tree
  have hh := q2.held
  have L5 : Lay ((σ3.set oh (.map (heldD (hs ++ [⟨id, node, amount⟩])))).set (σ.length + 3) (.cells [.int .i64 0])) ot om oh (usedAt ns node amount) (hs ++ [⟨id, node, amount⟩]) :=
    (q2.hold h3).setOut (fun hm => hout _ (by omega) (mine_bump hm)) _
  have hne : oh ≠ σ.length + 3 := by have := (L.lt).2.2.1; omega
  have k3' : (σ3.set oh (.map (heldD (hs ++ [⟨id, node, amount⟩]))))[σ.length + 3]? = some (.cells [.int .i64 0]) := by rw [List.getElem?_set_ne hne]; exact k3
  have k3'' : ((σ3.set oh (.map (heldD (hs ++ [⟨id, node, amount⟩])))).set (σ.length + 3) (.cells [.int .i64 0]))[σ.length + 3]? = some (.cells [.int .i64 0]) := by rw [List.getElem?_set_self (by simp; omega)]
  simp only [HeldR.cells] at f3
  obtain ⟨fr', t1, t2, t3⟩ : ∃ fr', runC (callN T (n + 1)) (n + 1) p13_bbbbbb (fr13c ot node id σ.length (σ.length + 2) amount x om oh).still σ3 = some (.ret, fr', (σ3.set oh (.map (heldD (hs ++ [⟨id, node, amount⟩])))).set (σ.length + 3) (.cells [.int .i64 0])) ∧ fr'.at 8 = .ptr (σ.length + 3) 0 ∧ fr'.defers = [] := by
    refine ⟨_, by simp [p13_bbbbbb, fr13c, Fr.still, runC, runOps, runOp, wantedD, evalOp, Fr.val, Fr.at, Fr.put, Fr.set, Fr.take, cellsAt, D.strip, ht, hh, k2, k3, k3', f3, fillD, setAt, D.cells, D.plain, D.raw, D.ripe, storeAt, keyD, D.notL, HeldR.cells]; rfl, rfl, rfl⟩
  refine ⟨_, call_ret (m := m13) (fr := fr') (ae := .ret) (σ1 := (σ3.set oh (.map (heldD (hs ++ [⟨id, node, amount⟩])))).set (σ.length + 3) (.cells [.int .i64 0])) rfl rfl (by decide) (res_head L n node id amount h1 h2 h h3 _ _ _ (fun fr hp => ?_)) (.inr rfl) ?_ ?_, L5, ?_⟩
  · have h24 := line24_ok n ot node (resS σ ot node amount)
    have hlen5 : (resS σ ot node amount).length = σ.length + 5 := by simp [resS]
    rw [hlen5] at h24
    refine go_seq (go_nat (lineN_go hp rfl rfl (resS_start L node amount) hline) (fun i e => by cases e)) ?_
    refine seq_assoc.trans (go_seq (σ1 := resS2 σ ot node amount) (by simp [p13_bbbbbaa, fr13, Fr.still, doCall, D.deep, D.bare, pureArg, D.pure1, D.notL, Fr.promoteAll, Fr.promoteX, h24, resS2, runC, runOps, runOp, wantedD, evalOp, Fr.val, Fr.at, Fr.put, Fr.set, Fr.take, D.strip]; rfl) ?_)
    refine go_seq (go_nat (lineN_go (fr1 := fr13c ot node id σ.length (σ.length + 2) amount x om oh) (σ1 := resS2 σ ot node amount) (by simp [Fr.promoteL, fr13c]) rfl rfl hstart q1) (fun i e => by cases e)) ?_
    exact t1
  · exact t3
  · simp only [m13, resultOf, resD, t2, cellsAt, k3'']
    simp [D.strip]
  · refine ⟨by simp; omega, fun o ho hM => ?_⟩
    have h0 : oh ≠ o := fun e => hM (.inr (.inr (.inl e.symm)))
    rw [List.getElem?_set_ne (by omega), List.getElem?_set_ne h0]
    refine (q3.2 o (by omega) hM).trans ?_
    unfold resS2 resS
    rw [List.append_assoc, List.getElem?_append_left ho]
end Go.Abs.C

/-
  Letting go of something, in the interpreter; what a new tree is; what is told of it.
-/
namespace Go.Abs.C
open Go Go.Abs
set_option maxRecDepth 10000

def delH (hs : List HeldR) (id : Nm) : List HeldR := hs.filter fun h => !(h.id == id)
theorem delKey_held (id : Nm) : ∀ hs : List HeldR, (hs.map (·.id)).Nodup → delKey 1 (.str id) (heldD hs) = some (heldD (delH hs id))
  | [], _ => rfl
  | x :: hs, hn => by
    rw [List.map_cons, List.nodup_cons] at hn
    have ih := delKey_held id hs hn.2
    simp only [heldD, List.map_cons, delKey, eqKey, delH, List.filter_cons] at ih ⊢
    by_cases h : id = x.id
    · subst h
      have hall : hs.filter (fun h => !(h.id == x.id)) = hs := by
        refine List.filter_eq_self.2 fun y hy => ?_
        have : ¬ y.id = x.id := fun e => hn.1 (List.mem_map.2 ⟨y, hy, e⟩)
        simpa using this
      simp [hall]
    · have h1 : (id == x.id) = false := by simpa using h
      have h2 : (x.id == id) = false := by simpa using fun e => h e.symm
      rw [h1, h2]
      simp only [ih]
      rfl
def lessR (amount : Int) (r : NodeR) : NodeR := { r with used := IntKind.i64.wrap (r.used - amount) }
def freedAt (ns : List NodeX) (node : Nm) (amount : Int) : List NodeX := bumpN ns (lineP (npOf ns) node) (lessR amount)
theorem rel_nil {σ : St} (n : Nat) (id : Nm) : callN T (n + 1) 14 [.nilp, .str id] σ = some (.int .i64 1, σ) := by
  refine call_ret (m := m14) (σ1 := σ) rfl rfl (by decide) (fr := _) (ae := .ret) (by simp [m14, p14_a, p14_ba, enterFr, runC, runOps, runOp, wantedD, evalOp, Fr.val, Fr.at, Fr.put, Fr.set, Fr.take, D.strip, eqnD]; rfl) (.inr rfl) rfl rfl
theorem rel_node {σ : St} {ot om oh : Nat} {ns : List NodeX} {hs : List HeldR} (L : Lay σ ot om oh ns hs) (n : Nat) (id : Nm) (h : findH hs id = none) : callN T (n + 1) 14 [.ptr ot 0, .str id] σ = some (.int .i64 60, σ) := by
  have ht := L.tree
  have hh := L.held
  have f2 := findKey_held id hs
  rw [h] at f2
  refine call_ret (m := m14) (σ1 := σ) rfl rfl (by decide) (fr := _) (ae := .ret) (by simp [m14, p14_a, p14_ba, p14_bba, p14_bbba, ht, hh, f2, enterFr, runC, runOps, runOp, wantedD, evalOp, Fr.val, Fr.at, Fr.put, Fr.set, Fr.take, cellsAt, D.strip, eqnD, unD, keyD, D.plain, Fr.newBox, Fr.boxAt, Fr.setBox, D.cells, D.raw, D.ripe, storeAt, setAt]; rfl) (.inr rfl) rfl rfl
def relS (σ : St) (ot : Nat) (y : HeldR) : St := σ ++ [Go.Abs.Obj.cells [.ptr ot 0], Go.Abs.Obj.cells [.str y.node], Go.Abs.Obj.cells y.cells]
theorem relS_get (σ : St) (ot : Nat) (y : HeldR) : (relS σ ot y)[σ.length]? = some (.cells [.ptr ot 0]) ∧ (relS σ ot y)[σ.length + 1]? = some (.cells [.str y.node]) ∧ (relS σ ot y)[σ.length + 2]? = some (.cells y.cells) ∧ (relS σ ot y).length = σ.length + 3 := by
  unfold relS
  refine ⟨?_, ?_, ?_, by simp⟩ <;> rw [List.getElem?_append_right (by omega)] <;> simp
def fr14 (ot : Nat) (id : Nm) (pt pa oh : Nat) (y : HeldR) : Fr :=
  ⟨[.ptr ot 0, .str id, .junk, .junk, .int .i64 0, .ptr pa 0, .bool true, .junk, .ptr ot 0, .bool false, .tup [.agg y.cells, .bool true], .ptr ot 0, .ptr ot 0, .ptr ot 1, .map oh, .str id, .tup [.agg y.cells, .bool true], .agg y.cells, .bool true, .bool true, .bool false, .ptr ot 0, .ptr pa 1, .str y.node, .func 38 [.ptr pt 0, .ptr (pt + 1) 0]] ++ List.replicate 15 .junk, List.replicate 40 none, []⟩
theorem round14 {σ : St} {ot om oh : Nat} {ns : List NodeX} {hs : List HeldR} (L : Lay σ ot om oh ns hs) {id : Nm} {pt pa : Nat} {y : HeldR} {oh' : Nat} (ha : σ[pa]? = some (.cells y.cells)) {x : NodeX} (hx : x ∈ ns) :
    roundR p14_bbbbabki p14_bbbbabkj (fr14 ot id pt pa oh' y) 25 (.ptr x.o 0) σ = some (.normal, σ.set x.o (.cells (lessR y.amount x.r).cells)) := by
  have hc := L.cells x hx
  simp only [NodeR.cells] at hc
  simp only [HeldR.cells] at ha
  simp [roundR, fr14, p14_bbbbabki, p14_bbbbabkj, ha, hc, lessR, NodeR.cells, runC, runOps, runOp, wantedD, evalOp, Fr.val, Fr.at, Fr.put, Fr.set, Fr.take, cellsAt, D.strip, binD, intD, D.plain, D.cells, D.raw, D.ripe, storeAt, setAt]
theorem Lay.free {σ : St} {ot om oh : Nat} {ns : List NodeX} {hs : List HeldR} (L : Lay σ ot om oh ns hs) (id : Nm) : Lay (σ.set oh (.map (heldD (delH hs id)))) ot om oh ns (delH hs id) := by
  obtain ⟨l1, l2, l3, l4⟩ := L.lt
  have hto : oh ≠ ot := by
    intro e
    have := L.tree
    rw [← e, L.held] at this
    cases this
  refine ⟨by rw [List.getElem?_set_ne hto]; exact L.tree, by rw [List.getElem?_set_ne (Ne.symm L.neh)]; exact L.nodes, by rw [List.getElem?_set_self l3], fun y hy => ?_, L.neh, L.net, L.nod, L.names, L.ids.sublist ((List.filter_sublist).map _)⟩
  have hne : oh ≠ y.o := by
    intro e
    have := L.cells y hy
    rw [← e, L.held] at this
    cases this
  rw [List.getElem?_set_ne hne]
  exact L.cells y hy
theorem rel_good {σ : St} {ot om oh : Nat} {ns : List NodeX} {hs : List HeldR} (L : Lay σ ot om oh ns hs) (hg : Grown (npOf ns)) (hl : ns.length < 900) (n : Nat) (id : Nm) {y : HeldR} (h : findH hs id = some y) :
    ∃ σ', callN T (n + 2) 14 [.ptr ot 0, .str id] σ = some (.int .i64 0, σ') ∧ Lay σ' ot om oh (freedAt ns y.node y.amount) (delH hs id) ∧ KeptS (Mine ot om oh ns) σ σ' := by
  have ht := L.tree
  have hh := L.held
  have f2 := findKey_held id hs
  rw [h] at f2
  have hlen : (npOf ns).length + 1 ≤ 1000 := by simp [npOf]; omega
  obtain ⟨p1, p2⟩ := lineP_eq hg hlen y.node
  obtain ⟨g0, g1, g2, gl⟩ := relS_get σ ot y
  have L2 : Lay (relS σ ot y) ot om oh ns hs := L.append _
  have hout : ∀ k, σ.length ≤ k → ¬ Mine ot om oh ns k := fun k hk hm => by have := mine_lt L hm; omega
  have hstart : startL (relS σ ot y) σ.length (σ.length + 1) = some (nodeD (findN ns y.node)) := startL_lay L2 g0 g1
  obtain ⟨σ3, q1, q2, q3⟩ := line_upd (round := roundR p14_bbbbabki p14_bbbbabkj (fr14 ot id σ.length (σ.length + 2) oh y) 25) (f := lessR y.amount) (σ0 := relS σ ot y) (M := Mine ot om oh ns) (pt := σ.length) (fun _ => rfl) (fun _ => rfl) (hout _ (by omega)) (by omega)
    (fun σ' ns' L' hk z hz => round14 L' ((hk.2 _ (by omega) (hout _ (by omega))).trans g2) hz) g0 1000 y.node (relS σ ot y) ns L2 (KeptS.refl _ _) (fun _ h => h) hg p2
  rw [p1] at q2
  change Lay σ3 ot om oh (freedAt ns y.node y.amount) hs at q2
  have ht3 := q2.tree
  have hh3 := q2.held
  have f3 := delKey_held id hs L.ids
  have h24 := line24_ok n ot y.node σ
  simp only [HeldR.cells, Option.map_some] at f2
  obtain ⟨fr', t1, t2, t3⟩ : ∃ fr', runC (callN T (n + 1)) (n + 1) p14_bbbbb (fr14 ot id σ.length (σ.length + 2) oh y).still σ3 = some (.ret, fr', σ3.set oh (.map (heldD (delH hs id)))) ∧ fr'.at 4 = .int .i64 0 ∧ fr'.defers = [] := by
    refine ⟨_, by simp [p14_bbbbb, fr14, Fr.still, runC, runOps, runOp, wantedD, evalOp, Fr.val, Fr.at, Fr.put, Fr.set, Fr.take, cellsAt, D.strip, ht3, hh3, f3, keyD]; rfl, rfl, rfl⟩
  refine ⟨_, call_ret (m := m14) (fr := fr') (ae := .ret) (σ1 := σ3.set oh (.map (heldD (delH hs id)))) rfl rfl (by decide) ?_ (.inr rfl) t3 (by simp only [m14, resultOf, resD, t2]; rfl), q2.free id, ?_⟩
  · refine go_seq (σ1 := σ) (by simp [m14, p14_a, enterFr, runC, runOps, runOp, wantedD, evalOp, Fr.val, Fr.at, Fr.put, Fr.set, Fr.take, D.strip]; rfl) (go_seq (σ1 := σ) (by simp [p14_ba, runC, runOps, runOp, wantedD, evalOp, Fr.val, Fr.at, Fr.put, Fr.set, Fr.take, D.strip, eqnD]; rfl)
      (go_seq (σ1 := σ) (by simp [p14_bba, ht, hh, f2, runC, runOps, runOp, wantedD, evalOp, Fr.val, Fr.at, Fr.put, Fr.set, Fr.take, cellsAt, D.strip, keyD, D.plain, Fr.newBox, Fr.boxAt, Fr.setBox, D.cells, D.raw, D.ripe, storeAt, setAt]; rfl)
      (go_seq (σ1 := σ) (by simp [p14_bbba, runC, runOps, runOp, wantedD, evalOp, Fr.val, Fr.at, Fr.put, Fr.set, Fr.take, D.strip, unD]; rfl)
      (seq_assoc.trans (go_seq (σ1 := σ ++ [Go.Abs.Obj.cells [.ptr ot 0], Go.Abs.Obj.cells [.str y.node]]) (by simp [p14_bbbbaa, doCall, D.deep, D.bare, pureArg, D.pure1, D.notL, Fr.promoteAll, Fr.promoteX, h24, runC, runOps, runOp, wantedD, evalOp, Fr.val, Fr.at, Fr.put, Fr.set, Fr.take, cellsAt, D.strip, Fr.boxAt]; rfl)
      (go_seq (go_nat (lineN_go (fr1 := fr14 ot id σ.length (σ.length + 2) oh y) (σ1 := relS σ ot y) (by simp [Fr.promoteL, Fr.promote, relinkL, Fr.boxAt, fr14, relS, HeldR.cells]) rfl rfl hstart q1) (fun i e => by cases e)) t1))))))
  · refine ⟨by have := q3.1; simp; omega, fun o ho hM => ?_⟩
    have h0 : oh ≠ o := fun e => hM (.inr (.inr (.inl e.symm)))
    rw [List.getElem?_set_ne h0]
    refine (q3.2 o (by omega) hM).trans ?_
    unfold relS
    rw [List.getElem?_append_left ho]

/-! a new tree; what is told -/
theorem new_ok (n : Nat) (σ : St) : callN T (n + 1) 11 [] σ = some (.ptr (σ.length + 2) 0, σ ++ [Go.Abs.Obj.map [], Go.Abs.Obj.map [], Go.Abs.Obj.cells [.map σ.length, .map (σ.length + 1)]]) := by
  refine call_ret (m := m11) (σ1 := _) rfl rfl (by decide) (fr := _) (ae := .ret) (by simp [m11, enterFr, runC, runOps, runOp, wantedD, evalOp, Fr.val, Fr.at, Fr.put, Fr.set, Fr.take, D.strip, fillD, setAt, D.cells, D.plain, D.raw, D.ripe, Fr.newBox, Fr.boxAt, Fr.setBox]; exact ⟨rfl, rfl⟩) (.inr rfl) rfl (by simp [m11, resultOf, resD, Fr.at, D.bare, Fr.promote, Fr.boxAt])
theorem new_lay (σ : St) : Lay (σ ++ [Go.Abs.Obj.map [], Go.Abs.Obj.map [], Go.Abs.Obj.cells [.map σ.length, .map (σ.length + 1)]]) (σ.length + 2) σ.length (σ.length + 1) [] [] := by
  refine ⟨?_, ?_, ?_, fun x hx => by simp at hx, by omega, fun x hx => by simp at hx, List.nodup_nil, List.nodup_nil, List.nodup_nil⟩ <;> rw [List.getElem?_append_right (by omega)] <;> simp [nodesD, heldD]
theorem nodesOf_lay {σ : St} : ∀ {ns : List NodeX}, (∀ x ∈ ns, σ[x.o]? = some (.cells x.r.cells)) → nodesOf σ (nodesD ns) = some (ns.map (·.r))
  | [], _ => rfl
  | x :: ns, h => by
    have ih := nodesOf_lay (σ := σ) (ns := ns) (fun y hy => h y (by simp [hy]))
    have h0 := h x (by simp)
    simp only [NodeR.cells] at h0
    simp only [nodesD, List.map_cons, nodesOf] at ih ⊢
    simp only [nodeAt, h0]
    rw [show nodesOf σ (ns.map fun x => (D.str x.r.name, D.ptr x.o 0)) = some (ns.map (·.r)) from ih]
def nodesV (ns : List NodeX) : List NodeR := sortK NodeR.name (ns.map (·.r))
theorem nodes_ok {σ : St} {ot om oh : Nat} {ns : List NodeX} {hs : List HeldR} (L : Lay σ ot om oh ns hs) (hl : ns.length < 900) (n : Nat) : callN T (n + 1) 16 [.ptr ot 0] σ = some (.sl ((nodesV ns).map NodeR.cells) none, σ) := by
  have h1 : nodesF [.ptr ot 0] σ = some (.sl ((nodesV ns).map NodeR.cells) none) := by
    simp only [nodesF, mapAt_lay L, nodesOf_lay L.cells]
    rw [if_pos ⟨by rw [List.map_map]; exact L.names, by simp; omega⟩]
    rfl
  refine call_ret (m := m16) (σ1 := σ) rfl rfl (by decide) (fr := (enterFr m16 [.ptr ot 0]).set 1 (.sl ((nodesV ns).map NodeR.cells) none)) (ae := .ret) ?_ (.inr rfl) rfl rfl
  show ((nodesF ((enterFr m16 [.ptr ot 0]).slots.take 1) σ).map fun d => (AE.ret, (enterFr m16 [.ptr ot 0]).set 1 d, σ)) = _
  rw [show (enterFr m16 [.ptr ot 0]).slots.take 1 = [D.ptr ot 0] from rfl, h1]
  rfl
theorem nodes_none (n : Nat) (σ : St) : callN T (n + 1) 16 [.nilp] σ = some (.sl [] (some 46), σ) := rfl
theorem heldOf_lay : ∀ hs : List HeldR, heldOf (heldD hs) = some hs
  | [] => rfl
  | x :: hs => by
    have ih := heldOf_lay hs
    simp only [heldD, List.map_cons, heldOf, heldAt, HeldR.cells] at ih ⊢
    rw [ih]
def heldV (hs : List HeldR) : List HeldR := sortK HeldR.id hs
theorem sorted_ok {σ : St} {ot om oh : Nat} {ns : List NodeX} {hs : List HeldR} (L : Lay σ ot om oh ns hs) (hl : hs.length < 900) {p : Nat} {c1 : List D} (hp : σ[p]? = some (.cells (.map oh :: c1))) (n : Nat) : callN T (n + 1) 28 [.func 44 [.ptr p 0], .func 30 []] σ = some (.sl ((heldV hs).map HeldR.cells) none, σ) := by
  have hm : mapAt σ p 0 = some (heldD hs) := by
    unfold mapAt
    rw [hp]
    simp only [List.getElem?_cons_zero, L.held]
  have h1 : sortedF [.func 44 [.ptr p 0], .func 30 []] σ = some (.sl ((heldV hs).map HeldR.cells) none) := by
    simp only [sortedF, hm, heldOf_lay]
    rw [if_pos ⟨L.ids, by omega⟩]
    rfl
  refine call_ret (m := m28) (σ1 := σ) rfl rfl (by decide) (fr := (enterFr m28 [.func 44 [.ptr p 0], .func 30 []]).set 2 (.sl ((heldV hs).map HeldR.cells) none)) (ae := .ret) ?_ (.inr rfl) rfl rfl
  show ((sortedF ((enterFr m28 [.func 44 [.ptr p 0], .func 30 []]).slots.take 2) σ).map fun d => (AE.ret, (enterFr m28 [.func 44 [.ptr p 0], .func 30 []]).set 2 d, σ)) = _
  rw [show (enterFr m28 [.func 44 [.ptr p 0], .func 30 []]).slots.take 2 = [D.func 44 [.ptr p 0], .func 30 []] from rfl, h1]
  rfl
theorem vals_ok (n : Nat) (oh : Nat) (σ : St) : callN T (n + 1) 29 [.map oh] σ = some (.func 44 [.ptr σ.length 0], σ ++ [Go.Abs.Obj.cells [.map oh]]) := by
  refine call_ret (m := m29) (σ1 := σ ++ [Go.Abs.Obj.cells [.map oh]]) rfl rfl (by decide) (fr := _) (ae := .ret) (by simp [m29, enterFr, runC, runOps, runOp, wantedD, evalOp, Fr.val, Fr.at, Fr.put, Fr.set, Fr.take, D.strip, Fr.promoteAll, Fr.promoteX, Fr.newBox, Fr.boxAt, Fr.setBox, Fr.promote, relinkL, D.cells, D.plain, D.raw, D.deep, D.bare]; rfl) (.inr rfl) rfl rfl
theorem live_ok {σ : St} {ot om oh : Nat} {ns : List NodeX} {hs : List HeldR} (L : Lay σ ot om oh ns hs) (hl : hs.length < 900) (n : Nat) : callN T (n + 2) 17 [.ptr ot 0] σ = some (.sl ((heldV hs).map HeldR.cells) none, σ ++ [Go.Abs.Obj.cells [.map oh]]) := by
  have ht := L.tree
  have h29 := vals_ok n oh σ
  have h28 := sorted_ok (L.append [Go.Abs.Obj.cells [.map oh]]) hl (p := σ.length) (c1 := []) (by rw [List.getElem?_append_right (by omega)]; simp) n
  refine call_ret (m := m17) (σ1 := σ ++ [Go.Abs.Obj.cells [.map oh]]) rfl rfl (by decide) (fr := _) (ae := .ret) (by simp [m17, enterFr, ht, h29, h28, doCall, pureArg, D.pure1, D.notL, D.deep, D.bare, Fr.promoteAll, Fr.promoteX, runC, runOps, runOp, wantedD, evalOp, eqnD, Fr.val, Fr.at, Fr.put, Fr.set, Fr.take, D.strip, cellsAt]; rfl) (.inr rfl) rfl rfl
theorem live_none (n : Nat) (σ : St) : callN T (n + 1) 17 [.nilp] σ = some (.sl [] (some 44), σ) := rfl
end Go.Abs.C
