import Derived.Test.YtnjoledlgacpeaaTabC
import Derived.Test.YtnjoledlgacpeaaKont2
set_option linter.unusedVariables false
set_option linter.unusedSimpArgs false
/-
  The tree in the interpreter's store; adding a node.
-/
namespace Go.Abs.C
open Go Go.Abs

structure NodeX where
  o : Nat
  r : NodeR
def nodesD (ns : List NodeX) : List (D × D) := ns.map fun x => (.str x.r.name, .ptr x.o 0)
def heldD (hs : List HeldR) : List (D × D) := hs.map fun h => (.str h.id, .agg h.cells)
structure Lay (σ : St) (ot om oh : Nat) (ns : List NodeX) (hs : List HeldR) : Prop where
  tree : σ[ot]? = some (.cells [.map om, .map oh])
  nodes : σ[om]? = some (.map (nodesD ns))
  held : σ[oh]? = some (.map (heldD hs))
  cells : ∀ x ∈ ns, σ[x.o]? = some (.cells x.r.cells)
  neh : om ≠ oh
  net : ∀ x ∈ ns, x.o ≠ ot
  nod : (ns.map (·.o)).Nodup
  names : (ns.map (·.r.name)).Nodup
  ids : (hs.map (·.id)).Nodup
def findN (ns : List NodeX) (name : List UInt8) : Option NodeX := ns.find? fun x => x.r.name == name
theorem findKey_nodes (name : List UInt8) : ∀ ns : List NodeX, findKey 1 (.str name) (nodesD ns) = some ((findN ns name).map fun x => .ptr x.o 0)
  | [] => rfl
  | x :: ns => by
    have ih := findKey_nodes name ns
    simp only [nodesD, List.map_cons, findKey, eqKey, findN, List.find?_cons] at ih ⊢
    by_cases h : name = x.r.name
    · subst h
      simp
    · have h1 : (name == x.r.name) = false := by simpa using h
      have h2 : (x.r.name == name) = false := by simpa using fun e => h e.symm
      rw [h1, h2]
      exact ih
theorem putKey_nodes (name : List UInt8) (o : Nat) : ∀ ns : List NodeX, findN ns name = none → putKey 1 (.str name) (.ptr o 0) (nodesD ns) = some (nodesD ns ++ [(.str name, .ptr o 0)])
  | [], _ => rfl
  | x :: ns, h => by
    simp only [findN, List.find?_cons] at h
    split at h
    · cases h
    · rename_i hx
      have ih := putKey_nodes name o ns h
      have h1 : (name == x.r.name) = false := by
        have : ¬ x.r.name = name := by simpa using hx
        simpa using fun e => this e.symm
      simp only [nodesD, List.map_cons, putKey, eqKey, h1] at ih ⊢
      rw [ih]
      rfl
set_option maxRecDepth 10000
theorem call_ret {σ σ1 σ' : St} {n f : Nat} {m : MFunc} {args : List D} {d : D} {fr : Fr} {ae : AE} (hm : T f = some m) (hp : args.length = m.nparams) (hp2 : m.nparams ≤ m.ntmps) (h : runC (callN T n) n m.body (enterFr m args) σ = some (ae, fr, σ1)) (ha : ae = .normal ∨ ae = .ret) (hd : fr.defers = []) (hr : resultOf fr σ1 m.results = some (d, σ')) :
    callN T (n + 1) f args σ = some (d, σ') := call_of hm hp hp2 ⟨ae, fr, σ1, h, ha, hd, hr⟩
theorem add_arg {σ : St} {ot : Nat} (n : Nat) (name parent : List UInt8) (limit : Int) (h : name = [] ∨ limit < 0) :
    callN T (n + 1) 12 [.ptr ot 0, .str name, .str parent, .int .i64 limit] σ = some (.int .i64 1, σ) := by
  by_cases c1 : name = []
  · subst c1
    refine call_ret (m := m12) (σ1 := σ) rfl rfl (by decide) (fr := _) (ae := .ret) (by simp [m12, enterFr, runC, runOps, runOp, wantedD, evalOp, Fr.val, Fr.at, Fr.put, Fr.set, Fr.take, cellsAt, D.strip, eqnD, binD, strD, intD, D.plain, keyD]; rfl) (.inr rfl) rfl rfl
  · have c2 : limit < 0 := by rcases h with h | h; exact absurd h c1; exact h
    have c1' : name.isEmpty = false := by simpa using c1
    refine call_ret (m := m12) (σ1 := σ) rfl rfl (by decide) (fr := _) (ae := .ret) (by simp [c1', c2, m12, enterFr, runC, runOps, runOp, wantedD, evalOp, Fr.val, Fr.at, Fr.put, Fr.set, Fr.take, cellsAt, D.strip, eqnD, binD, strD, intD, D.plain, keyD]; rfl) (.inr rfl) rfl rfl
theorem add_arg_nil {σ : St} (n : Nat) (name parent : List UInt8) (limit : Int) :
    callN T (n + 1) 12 [.nilp, .str name, .str parent, .int .i64 limit] σ = some (.int .i64 1, σ) := by
  refine call_ret (m := m12) (σ1 := σ) rfl rfl (by decide) (fr := _) (ae := .ret) (by simp [m12, enterFr, runC, runOps, runOp, wantedD, evalOp, Fr.val, Fr.at, Fr.put, Fr.set, Fr.take, cellsAt, D.strip, eqnD, binD, strD, intD, D.plain, keyD]; rfl) (.inr rfl) rfl rfl
theorem add_twice {σ : St} {ot om oh : Nat} {ns : List NodeX} {hs : List HeldR} (L : Lay σ ot om oh ns hs) (n : Nat) (name parent : List UInt8) (limit : Int) (h1 : name ≠ []) (h2 : 0 ≤ limit) (h : (findN ns name).isSome = true) :
    callN T (n + 1) 12 [.ptr ot 0, .str name, .str parent, .int .i64 limit] σ = some (.int .i64 13, σ) := by
  have ht := L.tree
  have hn := L.nodes
  have f1 := findKey_nodes name ns
  obtain ⟨x, hx⟩ := Option.isSome_iff_exists.1 h
  rw [hx] at f1
  have c1' : name.isEmpty = false := by simpa using h1
  have c2 : ¬ limit < 0 := by omega
  refine call_ret (m := m12) (σ1 := σ) rfl rfl (by decide) (fr := _) (ae := .ret) (by simp [c1', c2, ht, hn, f1, m12, enterFr, runC, runOps, runOp, wantedD, evalOp, Fr.val, Fr.at, Fr.put, Fr.set, Fr.take, cellsAt, D.strip, eqnD, binD, strD, intD, D.plain, keyD]; rfl) (.inr rfl) rfl rfl
theorem add_node {σ : St} {ot om oh : Nat} {ns : List NodeX} {hs : List HeldR} (L : Lay σ ot om oh ns hs) (n : Nat) (name parent : List UInt8) (limit : Int) (h1 : name ≠ []) (h2 : 0 ≤ limit) (h : findN ns name = none) (h3 : parent ≠ []) (h4 : findN ns parent = none) :
    callN T (n + 1) 12 [.ptr ot 0, .str name, .str parent, .int .i64 limit] σ = some (.int .i64 60, σ) := by
  have ht := L.tree
  have hn := L.nodes
  have f1 := findKey_nodes name ns
  have f2 := findKey_nodes parent ns
  rw [h] at f1
  rw [h4] at f2
  have c1' : name.isEmpty = false := by simpa using h1
  have c3' : parent.isEmpty = false := by simpa using h3
  have c2 : ¬ limit < 0 := by omega
  refine call_ret (m := m12) (σ1 := σ) rfl rfl (by decide) (fr := _) (ae := .ret) (by simp [c1', c3', c2, ht, hn, f1, f2, m12, enterFr, runC, runOps, runOp, wantedD, evalOp, Fr.val, Fr.at, Fr.put, Fr.set, Fr.take, cellsAt, D.strip, eqnD, binD, strD, intD, D.plain, keyD]; rfl) (.inr rfl) rfl rfl
def addS (σ : St) (om : Nat) (ns : List NodeX) (name parent : List UInt8) (limit : Int) : St := (σ ++ [Go.Abs.Obj.cells (NodeR.mk name parent limit 0).cells]).set om (Go.Abs.Obj.map (nodesD ns ++ [(D.str name, D.ptr σ.length 0)]))
theorem add_good {σ : St} {ot om oh : Nat} {ns : List NodeX} {hs : List HeldR} (L : Lay σ ot om oh ns hs) (n : Nat) (name parent : List UInt8) (limit : Int) (h1 : name ≠ []) (h2 : 0 ≤ limit) (h : findN ns name = none) (h3 : parent = [] ∨ (findN ns parent).isSome = true) :
    callN T (n + 1) 12 [.ptr ot 0, .str name, .str parent, .int .i64 limit] σ = some (.int .i64 0, addS σ om ns name parent limit) := by
  have ht := L.tree
  have hn := L.nodes
  have f1 := findKey_nodes name ns
  have f2 := findKey_nodes parent ns
  have f3 := putKey_nodes name σ.length ns h
  have hlt : om < σ.length := (List.getElem?_eq_some_iff.1 hn).1
  have hlt2 : ot < σ.length := (List.getElem?_eq_some_iff.1 ht).1
  have hn' : (σ ++ [Go.Abs.Obj.cells (NodeR.mk name parent limit 0).cells])[om]? = some (.map (nodesD ns)) := by rw [List.getElem?_append_left hlt]; exact hn
  have ht' : (σ ++ [Go.Abs.Obj.cells (NodeR.mk name parent limit 0).cells])[ot]? = some (.cells [.map om, .map oh]) := by rw [List.getElem?_append_left hlt2]; exact ht
  simp only [NodeR.cells] at hn' ht'
  rw [h] at f1
  have c1' : name.isEmpty = false := by simpa using h1
  have c2 : ¬ limit < 0 := by omega
  by_cases c3 : parent = []
  · subst c3
    refine call_ret (m := m12) (σ1 := addS σ om ns name [] limit) rfl rfl (by decide) (fr := _) (ae := .ret) (by simp [c1', c2, ht, hn, hn', ht', f1, f3, fillD, setAt, D.cells, D.raw, D.ripe, Fr.ownP, Fr.newBox, Fr.boxAt, Fr.setBox, Fr.promote, relinkL, D.notL, addS, NodeR.cells, m12, enterFr, runC, runOps, runOp, wantedD, evalOp, Fr.val, Fr.at, Fr.put, Fr.set, Fr.take, cellsAt, D.strip, eqnD, binD, strD, intD, D.plain, keyD]; rfl) (.inr rfl) rfl rfl
  · have c3' : parent.isEmpty = false := by simpa using c3
    obtain ⟨y, hy⟩ : ∃ y, findN ns parent = some y := by rcases h3 with h3 | h3; exact absurd h3 c3; exact Option.isSome_iff_exists.1 h3
    rw [hy] at f2
    refine call_ret (m := m12) (σ1 := addS σ om ns name parent limit) rfl rfl (by decide) (fr := _) (ae := .ret) (by simp [c1', c2, c3', ht, hn, hn', ht', f1, f2, f3, fillD, setAt, D.cells, D.raw, D.ripe, Fr.ownP, Fr.newBox, Fr.boxAt, Fr.setBox, Fr.promote, relinkL, D.notL, addS, NodeR.cells, m12, enterFr, runC, runOps, runOp, wantedD, evalOp, Fr.val, Fr.at, Fr.put, Fr.set, Fr.take, cellsAt, D.strip, eqnD, binD, strD, intD, D.plain, keyD]; rfl) (.inr rfl) rfl rfl
theorem findN_mem {ns : List NodeX} {name : List UInt8} {x : NodeX} (h : findN ns name = some x) : x ∈ ns ∧ x.r.name = name := ⟨List.mem_of_find?_eq_some h, by simpa using List.find?_some h⟩
theorem findN_none {ns : List NodeX} {name : List UInt8} (h : findN ns name = none) : ∀ x ∈ ns, x.r.name ≠ name := by
  intro x hx
  have := List.find?_eq_none.1 h x hx
  simpa using this
theorem nodesD_snoc (ns : List NodeX) (x : NodeX) : nodesD (ns ++ [x]) = nodesD ns ++ [(.str x.r.name, .ptr x.o 0)] := by simp [nodesD]
theorem Lay.lt {σ : St} {ot om oh : Nat} {ns : List NodeX} {hs : List HeldR} (L : Lay σ ot om oh ns hs) : ot < σ.length ∧ om < σ.length ∧ oh < σ.length ∧ ∀ x ∈ ns, x.o < σ.length :=
  ⟨(List.getElem?_eq_some_iff.1 L.tree).1, (List.getElem?_eq_some_iff.1 L.nodes).1, (List.getElem?_eq_some_iff.1 L.held).1, fun x hx => (List.getElem?_eq_some_iff.1 (L.cells x hx)).1⟩
/-- The places of a tree. -/
def Mine (ot om oh : Nat) (ns : List NodeX) (o : Nat) : Prop := o = ot ∨ o = om ∨ o = oh ∨ ∃ x ∈ ns, x.o = o
/-- What is no place of the tree is as it was. -/
def KeptS (M : Nat → Prop) (σ σ' : St) : Prop := σ.length ≤ σ'.length ∧ ∀ o, o < σ.length → ¬ M o → σ'[o]? = σ[o]?
theorem Lay.add {σ : St} {ot om oh : Nat} {ns : List NodeX} {hs : List HeldR} (L : Lay σ ot om oh ns hs) (name parent : List UInt8) (limit : Int) (h : findN ns name = none) :
    Lay (addS σ om ns name parent limit) ot om oh (ns ++ [⟨σ.length, ⟨name, parent, limit, 0⟩⟩]) hs := by
  obtain ⟨l1, l2, l3, l4⟩ := L.lt
  have hget : ∀ o, o ≠ om → o < σ.length → (addS σ om ns name parent limit)[o]? = σ[o]? := fun o ho hl => by
    unfold addS
    rw [List.getElem?_set_ne (Ne.symm ho), List.getElem?_append_left hl]
  have hto : ot ≠ om := by
    intro e
    have := L.tree
    rw [e, L.nodes] at this
    cases this
  refine ⟨(hget ot hto l1).trans L.tree, ?_, (hget oh (Ne.symm L.neh) l3).trans L.held, fun x hx => ?_, L.neh, fun x hx => ?_, ?_, ?_, L.ids⟩
  · unfold addS
    rw [nodesD_snoc, List.getElem?_set_self (by simp; omega)]
  · rcases List.mem_append.1 hx with hx | hx
    · have hne : x.o ≠ om := by
        intro e
        have := L.cells x hx
        rw [e, L.nodes] at this
        cases this
      exact (hget x.o hne (l4 x hx)).trans (L.cells x hx)
    · simp only [List.mem_singleton] at hx
      subst hx
      unfold addS
      have : om ≠ σ.length := by omega
      rw [List.getElem?_set_ne this]
      simp
  · rcases List.mem_append.1 hx with hx | hx
    · exact L.net x hx
    · simp only [List.mem_singleton] at hx
      subst hx
      exact Nat.ne_of_gt l1
  · rw [List.map_append, List.nodup_append]
    refine ⟨L.nod, by simp, fun a ha b hb => ?_⟩
    obtain ⟨x, hx, rfl⟩ := List.mem_map.1 ha
    simp only [List.map_cons, List.map_nil, List.mem_singleton] at hb
    subst hb
    exact Nat.ne_of_lt (l4 x hx)
  · rw [List.map_append, List.nodup_append]
    refine ⟨L.names, by simp, fun a ha b hb => ?_⟩
    obtain ⟨x, hx, rfl⟩ := List.mem_map.1 ha
    simp only [List.map_cons, List.map_nil, List.mem_singleton] at hb
    subst hb
    exact findN_none h x hx
theorem add_kept (σ : St) (ot om oh : Nat) (ns : List NodeX) (name parent : List UInt8) (limit : Int) : KeptS (Mine ot om oh ns) σ (addS σ om ns name parent limit) := by
  refine ⟨by simp [addS], fun o ho hM => ?_⟩
  unfold addS
  have : om ≠ o := fun e => hM (.inr (.inl e.symm))
  rw [List.getElem?_set_ne this, List.getElem?_append_left ho]

/-! the limit of a node -/
def setN (ns : List NodeX) (name : List UInt8) (f : NodeR → NodeR) : List NodeX := ns.map fun x => if x.r.name = name then ⟨x.o, f x.r⟩ else x
theorem lim_arg {σ : St} {ot : Nat} (n : Nat) (name : List UInt8) (limit : Int) (h : limit < 0) : callN T (n + 1) 15 [.ptr ot 0, .str name, .int .i64 limit] σ = some (.int .i64 1, σ) := by
  refine call_ret (m := m15) (σ1 := σ) rfl rfl (by decide) (fr := _) (ae := .ret) (by simp [h, m15, enterFr, runC, runOps, runOp, wantedD, evalOp, Fr.val, Fr.at, Fr.put, Fr.set, Fr.take, cellsAt, D.strip, eqnD, binD, strD, intD, D.plain, keyD]; rfl) (.inr rfl) rfl rfl
theorem lim_arg_nil {σ : St} (n : Nat) (name : List UInt8) (limit : Int) : callN T (n + 1) 15 [.nilp, .str name, .int .i64 limit] σ = some (.int .i64 1, σ) := by
  refine call_ret (m := m15) (σ1 := σ) rfl rfl (by decide) (fr := _) (ae := .ret) (by simp [m15, enterFr, runC, runOps, runOp, wantedD, evalOp, Fr.val, Fr.at, Fr.put, Fr.set, Fr.take, cellsAt, D.strip, eqnD, binD, strD, intD, D.plain, keyD]; rfl) (.inr rfl) rfl rfl
theorem lim_node {σ : St} {ot om oh : Nat} {ns : List NodeX} {hs : List HeldR} (L : Lay σ ot om oh ns hs) (n : Nat) (name : List UInt8) (limit : Int) (h2 : 0 ≤ limit) (h : findN ns name = none) :
    callN T (n + 1) 15 [.ptr ot 0, .str name, .int .i64 limit] σ = some (.int .i64 60, σ) := by
  have ht := L.tree
  have hn := L.nodes
  have f1 := findKey_nodes name ns
  rw [h] at f1
  have c2 : ¬ limit < 0 := by omega
  refine call_ret (m := m15) (σ1 := σ) rfl rfl (by decide) (fr := _) (ae := .ret) (by simp [c2, ht, hn, f1, m15, enterFr, runC, runOps, runOp, wantedD, evalOp, Fr.val, Fr.at, Fr.put, Fr.set, Fr.take, cellsAt, D.strip, eqnD, binD, strD, intD, D.plain, keyD]; rfl) (.inr rfl) rfl rfl
theorem lim_quota {σ : St} {ot om oh : Nat} {ns : List NodeX} {hs : List HeldR} (L : Lay σ ot om oh ns hs) (n : Nat) (name : List UInt8) (limit : Int) (h2 : 0 ≤ limit) {x : NodeX} (h : findN ns name = some x) (h3 : limit < x.r.used) :
    callN T (n + 1) 15 [.ptr ot 0, .str name, .int .i64 limit] σ = some (.int .i64 61, σ) := by
  have ht := L.tree
  have hn := L.nodes
  have f1 := findKey_nodes name ns
  rw [h] at f1
  have hc := L.cells x (findN_mem h).1
  simp only [NodeR.cells] at hc
  have c2 : ¬ limit < 0 := by omega
  refine call_ret (m := m15) (σ1 := σ) rfl rfl (by decide) (fr := _) (ae := .ret) (by simp [c2, ht, hn, f1, hc, h3, m15, enterFr, runC, runOps, runOp, wantedD, evalOp, Fr.val, Fr.at, Fr.put, Fr.set, Fr.take, cellsAt, D.strip, eqnD, binD, strD, intD, D.plain, keyD]; rfl) (.inr rfl) rfl rfl
theorem lim_good {σ : St} {ot om oh : Nat} {ns : List NodeX} {hs : List HeldR} (L : Lay σ ot om oh ns hs) (n : Nat) (name : List UInt8) (limit : Int) (h2 : 0 ≤ limit) {x : NodeX} (h : findN ns name = some x) (h3 : x.r.used ≤ limit) :
    callN T (n + 1) 15 [.ptr ot 0, .str name, .int .i64 limit] σ = some (.int .i64 0, σ.set x.o (.cells { x.r with limit := limit }.cells)) := by
  have ht := L.tree
  have hn := L.nodes
  have f1 := findKey_nodes name ns
  rw [h] at f1
  have hc := L.cells x (findN_mem h).1
  simp only [NodeR.cells] at hc
  have c2 : ¬ limit < 0 := by omega
  have c3 : ¬ limit < x.r.used := by omega
  refine call_ret (m := m15) (σ1 := σ.set x.o (.cells { x.r with limit := limit }.cells)) rfl rfl (by decide) (fr := _) (ae := .ret) (by simp [c2, ht, hn, f1, hc, c3, storeAt, setAt, D.cells, D.raw, D.ripe, NodeR.cells, m15, enterFr, runC, runOps, runOp, wantedD, evalOp, Fr.val, Fr.at, Fr.put, Fr.set, Fr.take, cellsAt, D.strip, eqnD, binD, strD, intD, D.plain, keyD]; rfl) (.inr rfl) rfl rfl
/-- One node's record turns. -/
theorem Lay.turn {σ : St} {ot om oh : Nat} {ns : List NodeX} {hs : List HeldR} (L : Lay σ ot om oh ns hs) {name : List UInt8} {x : NodeX} (h : findN ns name = some x) (f : NodeR → NodeR) (hf : ∀ r, (f r).name = r.name) :
    Lay (σ.set x.o (.cells (f x.r).cells)) ot om oh (setN ns name f) hs := by
  obtain ⟨hx, hxn⟩ := findN_mem h
  obtain ⟨l1, l2, l3, l4⟩ := L.lt
  have hkey : nodesD (setN ns name f) = nodesD ns := by
    simp only [nodesD, setN, List.map_map]
    refine List.map_congr_left fun y _ => ?_
    simp only [Function.comp]
    split
    · simp [hf]
    · rfl
  have hno : ∀ {o : Nat} {es : List (D × D)}, σ[o]? = some (.map es) → x.o ≠ o := fun {o es} he e => by
    have := L.cells x hx
    rw [e, he] at this
    cases this
  refine ⟨?_, ?_, ?_, fun y hy => ?_, L.neh, fun y hy => ?_, ?_, ?_, L.ids⟩
  · rw [List.getElem?_set_ne (L.net x hx)]
    exact L.tree
  · rw [List.getElem?_set_ne (hno L.nodes), hkey]
    exact L.nodes
  · rw [List.getElem?_set_ne (hno L.held)]
    exact L.held
  · obtain ⟨z, hz, rfl⟩ := List.mem_map.1 hy
    by_cases hzn : z.r.name = name
    · have hzx : z = x := by
        have := keys_inj (key := fun w : NodeX => w.r.name) L.names hz hx (by rw [hzn, hxn])
        exact this
      subst hzx
      rw [if_pos hzn, List.getElem?_set_self (l4 z hz)]
    · rw [if_neg hzn]
      have hne : x.o ≠ z.o := fun e => by
        have : x = z := by
          have hnd := L.nod
          clear hkey hno hy
          have key : ∀ {l : List NodeX}, (l.map (·.o)).Nodup → ∀ {a b : NodeX}, a ∈ l → b ∈ l → a.o = b.o → a = b := by
            intro l
            induction l with
            | nil => intro _ a b ha; simp at ha
            | cons c l ih =>
              intro hn a b ha hb hab
              rw [List.map_cons, List.nodup_cons] at hn
              rcases List.mem_cons.1 ha with ha | ha <;> rcases List.mem_cons.1 hb with hb | hb
              · rw [ha, hb]
              · exact absurd (List.mem_map.2 ⟨b, hb, by rw [← hab, ha]⟩) hn.1
              · exact absurd (List.mem_map.2 ⟨a, ha, by rw [hab, hb]⟩) hn.1
              · exact ih hn.2 ha hb hab
          exact key hnd hx hz e
        rw [this] at hxn
        exact hzn hxn
      rw [List.getElem?_set_ne hne]
      exact L.cells z hz
  · obtain ⟨z, hz, rfl⟩ := List.mem_map.1 hy
    split
    · exact L.net z hz
    · exact L.net z hz
  · have : (setN ns name f).map (·.o) = ns.map (·.o) := by
      simp only [setN, List.map_map]
      refine List.map_congr_left fun y _ => ?_
      simp only [Function.comp]
      split <;> rfl
    rw [this]
    exact L.nod
  · have : (setN ns name f).map (·.r.name) = ns.map (·.r.name) := by
      simp only [setN, List.map_map]
      refine List.map_congr_left fun y _ => ?_
      simp only [Function.comp]
      split
      · simp [hf]
      · rfl
    rw [this]
    exact L.names
end Go.Abs.C

/-
  Paths in a tree: names and parents alone.
-/
namespace Go.Abs.C
abbrev Nm := List UInt8
def lookP (np : List (Nm × Nm)) (name : Nm) : Option Nm := (np.find? fun p => p.1 == name).map (·.2)
def pathP (np : List (Nm × Nm)) : Nat → Nm → List Nm
  | 0, _ => []
  | k + 1, name =>
    match lookP np name with
    | none => []
    | some p => name :: pathP np k p
def endsP (np : List (Nm × Nm)) : Nat → Nm → Bool
  | 0, _ => false
  | k + 1, name =>
    match lookP np name with
    | none => true
    | some p => endsP np k p
/-- Each is put below one that was there, or below none. -/
inductive Grown : List (Nm × Nm) → Prop
  | nil : Grown []
  | snoc {np : List (Nm × Nm)} {name parent : Nm} (h : Grown np) (h1 : name ≠ []) (h2 : lookP np name = none) (h3 : parent = [] ∨ (lookP np parent).isSome = true) : Grown (np ++ [(name, parent)])

theorem lookP_snoc (np : List (Nm × Nm)) (name parent s : Nm) : lookP (np ++ [(name, parent)]) s = match lookP np s with | some p => some p | none => if name = s then some parent else none := by
  unfold lookP
  rw [List.find?_append]
  cases h : np.find? (fun p => p.1 == s) with
  | some p => simp
  | none =>
    simp only [Option.none_or, List.find?_cons, List.find?_nil, Option.map_none]
    by_cases hs : name = s
    · simp [hs]
    · have : (name == s) = false := by simpa using hs
      simp [this, hs]
theorem Grown.empty {np : List (Nm × Nm)} (h : Grown np) : lookP np [] = none := by
  induction h with
  | nil => rfl
  | snoc h h1 h2 h3 ih => rw [lookP_snoc, ih]; simp [h1]
/-- A parent is there, or none. -/
theorem Grown.parent {np : List (Nm × Nm)} (h : Grown np) {s p : Nm} (hs : lookP np s = some p) : p = [] ∨ (lookP np p).isSome = true := by
  induction h with
  | nil => simp [lookP] at hs
  | snoc h h1 h2 h3 ih =>
    rw [lookP_snoc] at hs
    split at hs
    · rename_i q hq
      cases hs
      rcases ih hq with h | h
      · exact .inl h
      · obtain ⟨r, hr⟩ := Option.isSome_iff_exists.1 h
        refine .inr ?_
        rw [lookP_snoc, hr]
        rfl
    · split at hs
      · cases hs
        rcases h3 with h | h
        · exact .inl h
        · obtain ⟨r, hr⟩ := Option.isSome_iff_exists.1 h
          refine .inr ?_
          rw [lookP_snoc, hr]
          rfl
      · cases hs
/-- Below an elder node nothing new stands. -/
theorem path_old {np : List (Nm × Nm)} (hg : Grown np) {name parent : Nm} (h1 : name ≠ []) (h2 : lookP np name = none) : ∀ (k : Nat) (s : Nm), s = [] ∨ (lookP np s).isSome = true → pathP (np ++ [(name, parent)]) k s = pathP np k s ∧ endsP (np ++ [(name, parent)]) k s = endsP np k s
  | 0, _, _ => ⟨rfl, rfl⟩
  | k + 1, s, hs => by
    have e : lookP (np ++ [(name, parent)]) s = lookP np s := by
      rw [lookP_snoc]
      cases h : lookP np s with
      | some p => rfl
      | none =>
        have hne : name ≠ s := by
          rintro rfl
          rcases hs with hs | hs
          · exact h1 hs
          · rw [h] at hs; cases hs
        simp [hne]
    simp only [pathP, endsP, e]
    cases h : lookP np s with
    | none => exact ⟨rfl, rfl⟩
    | some p =>
      obtain ⟨q1, q2⟩ := path_old (parent := parent) hg h1 h2 k p (hg.parent h)
      exact ⟨by simp only [q1], by simp only [q2]⟩
theorem path_mem {np : List (Nm × Nm)} : ∀ (k : Nat) (s x : Nm), x ∈ pathP np k s → (lookP np x).isSome = true
  | 0, s, x, h => by simp [pathP] at h
  | k + 1, s, x, h => by
    simp only [pathP] at h
    split at h
    · simp at h
    · rename_i p hp
      rcases List.mem_cons.1 h with rfl | h
      · rw [hp]; rfl
      · exact path_mem k p x h
theorem path_nodup {np : List (Nm × Nm)} (hg : Grown np) : ∀ (k : Nat) (s : Nm), (pathP np k s).Nodup := by
  induction hg with
  | nil =>
    intro k s
    cases k with
    | zero => exact List.nodup_nil
    | succ k => simp [pathP, lookP]
  | snoc h h1 h2 h3 ih =>
    rename_i np name parent
    intro k s
    by_cases hs : s = [] ∨ (lookP np s).isSome = true
    · rw [(path_old h h1 h2 k s hs).1]
      exact ih k s
    · cases k with
      | zero => exact List.nodup_nil
      | succ k =>
        simp only [pathP]
        have hn : lookP np s = none := by
          cases h : lookP np s with
          | none => rfl
          | some p => exact absurd (.inr (by rw [h]; rfl)) hs
        rw [lookP_snoc, hn]
        simp only
        by_cases hs' : name = s
        · rw [if_pos hs']
          simp only
          rw [(path_old h h1 h2 k parent h3).1]
          refine List.nodup_cons.2 ⟨fun hm => ?_, ih k parent⟩
          have := path_mem k parent s hm
          rw [hn] at this
          cases this
        · rw [if_neg hs']
          exact List.nodup_nil
theorem path_ends {np : List (Nm × Nm)} (hg : Grown np) : ∀ (s : Nm), endsP np (np.length + 1) s = true := by
  induction hg with
  | nil => intro s; simp [endsP, lookP]
  | snoc h h1 h2 h3 ih =>
    rename_i np name parent
    have more : ∀ (k : Nat) (s : Nm), endsP np k s = true → endsP np (k + 1) s = true := by
      intro k
      induction k with
      | zero => intro s h; cases h
      | succ k ihk =>
        intro s h
        rw [endsP] at h ⊢
        cases hl : lookP np s with
        | none => rfl
        | some p =>
          rw [hl] at h
          exact ihk p h
    intro s
    rw [List.length_append, List.length_cons, List.length_nil]
    by_cases hs : s = [] ∨ (lookP np s).isSome = true
    · rw [(path_old h h1 h2 _ s hs).2]
      exact more _ _ (ih s)
    · have hn : lookP np s = none := by
        cases h : lookP np s with
        | none => rfl
        | some p => exact absurd (.inr (by rw [h]; rfl)) hs
      rw [endsP, lookP_snoc, hn]
      simp only
      by_cases hs' : name = s
      · rw [if_pos hs']
        simp only
        rw [(path_old h h1 h2 _ parent h3).2]
        exact ih parent
      · rw [if_neg hs']
theorem ends_more {np : List (Nm × Nm)} : ∀ (k : Nat) (s : Nm), endsP np k s = true → ∀ j, k ≤ j → endsP np j s = true ∧ pathP np j s = pathP np k s
  | 0, s, h, _, _ => by cases h
  | k + 1, s, h, 0, hj => by omega
  | k + 1, s, h, j + 1, hj => by
    rw [endsP] at h ⊢
    rw [pathP, pathP]
    cases hl : lookP np s with
    | none => exact ⟨rfl, rfl⟩
    | some p =>
      rw [hl] at h
      obtain ⟨q1, q2⟩ := ends_more k p h j (by omega)
      exact ⟨q1, by simp only [q2]⟩
/-- The line of a node. -/
def lineP (np : List (Nm × Nm)) (s : Nm) : List Nm := pathP np (np.length + 1) s
theorem lineP_eq {np : List (Nm × Nm)} (hg : Grown np) {k : Nat} (hk : np.length + 1 ≤ k) (s : Nm) : pathP np k s = lineP np s ∧ endsP np k s = true := by
  obtain ⟨h1, h2⟩ := ends_more _ s (path_ends hg s) k hk
  exact ⟨h2, h1⟩
end Go.Abs.C

/-
  The line of a node, in the interpreter's store.
-/
namespace Go.Abs.C
open Go Go.Abs

def npOf (ns : List NodeX) : List (Nm × Nm) := ns.map fun x => (x.r.name, x.r.parent)
theorem lookP_np (name : Nm) : ∀ ns : List NodeX, lookP (npOf ns) name = (findN ns name).map (·.r.parent)
  | [] => rfl
  | x :: ns => by
    have ih := lookP_np name ns
    simp only [npOf, lookP, List.map_cons, List.find?_cons, findN] at ih ⊢
    cases h : x.r.name == name with
    | true => rfl
    | false => exact ih
def nodeD : Option NodeX → D
  | some x => .ptr x.o 0
  | none => .nilp
theorem mapAt_lay {σ : St} {ot om oh : Nat} {ns : List NodeX} {hs : List HeldR} (L : Lay σ ot om oh ns hs) : mapAt σ ot 0 = some (nodesD ns) := by
  unfold mapAt
  rw [L.tree]
  simp only [List.getElem?_cons_zero, L.nodes]
theorem nodeOf_lay {σ : St} {ot om oh : Nat} {ns : List NodeX} {hs : List HeldR} (L : Lay σ ot om oh ns hs) (name : Nm) : nodeOf σ ot name = some (nodeD (findN ns name)) := by
  unfold nodeOf
  rw [mapAt_lay L]
  simp only [findKey_nodes]
  cases findN ns name <;> rfl
theorem startL_lay {σ : St} {ot om oh : Nat} {ns : List NodeX} {hs : List HeldR} (L : Lay σ ot om oh ns hs) {pt pn : Nat} {name : Nm} {c1 c2 : List D} (h1 : σ[pt]? = some (.cells (.ptr ot 0 :: c1))) (h2 : σ[pn]? = some (.cells (.str name :: c2))) : startL σ pt pn = some (nodeD (findN ns name)) := by
  unfold startL ptrAt strAt
  rw [h1, h2]
  simp only [List.getElem?_cons_zero]
  exact nodeOf_lay L name
theorem stepL_lay {σ : St} {ot om oh : Nat} {ns : List NodeX} {hs : List HeldR} (L : Lay σ ot om oh ns hs) {pt : Nat} {c1 : List D} (h1 : σ[pt]? = some (.cells (.ptr ot 0 :: c1))) {x : NodeX} (hx : x ∈ ns) : stepL σ pt x.o = some (nodeD (findN ns x.r.parent)) := by
  unfold stepL ptrAt strAt
  rw [h1, L.cells x hx]
  exact nodeOf_lay L x.r.parent
/-- Is one of the line bad? -/
def anyN (ns : List NodeX) (bad : NodeR → Bool) (names : List Nm) : Bool := names.any fun s => ((findN ns s).map fun x => bad x.r).getD false
theorem line_check {round : D → St → Option (AE × St)} {pt : Nat} {σ σb : St} {ot om oh : Nat} {ns : List NodeX} {hs : List HeldR} (L : Lay σ ot om oh ns hs) {c1 : List D} (hpt : σ[pt]? = some (.cells (.ptr ot 0 :: c1))) (bad : NodeR → Bool)
    (hr : ∀ x ∈ ns, round (.ptr x.o 0) σ = if bad x.r then some (.ret, σb) else some (.normal, σ)) : ∀ (k : Nat) (name : Nm), endsP (npOf ns) k name = true →
    lineIt round pt k (nodeD (findN ns name)) σ = if anyN ns bad (pathP (npOf ns) k name) then some (.ret, σb) else some (.normal, σ)
  | 0, name, h => by cases h
  | k + 1, name, h => by
    rw [endsP, lookP_np] at h
    rw [pathP, lookP_np]
    cases hf : findN ns name with
    | none => rfl
    | some x =>
      rw [hf] at h
      simp only [Option.map_some] at h ⊢
      obtain ⟨hx, hxn⟩ := findN_mem hf
      simp only [nodeD, lineIt, hr x hx]
      by_cases hb : bad x.r = true
      · simp [hb, anyN, hf]
      · have hb' : bad x.r = false := by simpa using hb
        have ih := line_check L hpt bad hr k x.r.parent h
        simp only [hb', Bool.false_eq_true, if_false, stepL_lay L hpt hx, ih]
        simp only [anyN, List.any_cons, hf, Option.map_some, Option.getD_some, hb', Bool.false_or]
        rfl

def bumpN (ns : List NodeX) (names : List Nm) (f : NodeR → NodeR) : List NodeX := ns.map fun x => if x.r.name ∈ names then ⟨x.o, f x.r⟩ else x
theorem npOf_set (ns : List NodeX) (name : Nm) {f : NodeR → NodeR} (h1 : ∀ r, (f r).name = r.name) (h2 : ∀ r, (f r).parent = r.parent) : npOf (setN ns name f) = npOf ns := by
  simp only [npOf, setN, List.map_map]
  refine List.map_congr_left fun y _ => ?_
  simp only [Function.comp]
  split
  · simp [h1, h2]
  · rfl
theorem npOf_bump (ns : List NodeX) (names : List Nm) {f : NodeR → NodeR} (h1 : ∀ r, (f r).name = r.name) (h2 : ∀ r, (f r).parent = r.parent) : npOf (bumpN ns names f) = npOf ns := by
  simp only [npOf, bumpN, List.map_map]
  refine List.map_congr_left fun y _ => ?_
  simp only [Function.comp]
  split
  · simp [h1, h2]
  · rfl
theorem bump_set (ns : List NodeX) (name : Nm) (names : List Nm) {f : NodeR → NodeR} (h1 : ∀ r, (f r).name = r.name) (hn : name ∉ names) : bumpN (setN ns name f) names f = bumpN ns (name :: names) f := by
  simp only [bumpN, setN, List.map_map]
  refine List.map_congr_left fun y _ => ?_
  simp only [Function.comp]
  by_cases h : y.r.name = name
  · rw [if_pos h]
    simp only [h1, List.mem_cons, h, true_or, if_true]
    rw [if_neg hn]
  · rw [if_neg h]
    simp only [List.mem_cons, h, false_or]
theorem KeptS.trans {M : Nat → Prop} {a b c : St} (h : KeptS M a b) (k : KeptS M b c) : KeptS M a c :=
  ⟨Nat.le_trans h.1 k.1, fun o ho hM => (k.2 o (Nat.lt_of_lt_of_le ho h.1) hM).trans (h.2 o ho hM)⟩
theorem KeptS.refl (M : Nat → Prop) (a : St) : KeptS M a a := ⟨Nat.le_refl _, fun _ _ _ => rfl⟩
theorem KeptS.mono {M N : Nat → Prop} {a b : St} (h : KeptS M a b) (k : ∀ o, M o → N o) : KeptS N a b := ⟨h.1, fun o ho hN => h.2 o ho (fun hM => hN (k o hM))⟩
theorem KeptS.set {M : Nat → Prop} {a : St} {o : Nat} (ob : Go.Abs.Obj) (h : M o) : KeptS M a (a.set o ob) := ⟨by simp, fun p hp hM => List.getElem?_set_ne (fun e => hM (by rw [← e]; exact h))⟩
theorem KeptS.append (M : Nat → Prop) (a b : St) : KeptS M a (a ++ b) := ⟨by simp, fun p hp hM => List.getElem?_append_left hp⟩
theorem mine_set {ot om oh : Nat} {ns : List NodeX} {name : Nm} {f : NodeR → NodeR} {o : Nat} (h : Mine ot om oh (setN ns name f) o) : Mine ot om oh ns o := by
  rcases h with h | h | h | ⟨x, hx, h⟩
  · exact .inl h
  · exact .inr (.inl h)
  · exact .inr (.inr (.inl h))
  · obtain ⟨z, hz, rfl⟩ := List.mem_map.1 hx
    refine .inr (.inr (.inr ⟨z, hz, ?_⟩))
    split at h <;> exact h
theorem line_upd {round : D → St → Option (AE × St)} {pt : Nat} {σ0 : St} {M : Nat → Prop} {ot om oh : Nat} {hs : List HeldR} {f : NodeR → NodeR} (h1 : ∀ r, (f r).name = r.name) (h2 : ∀ r, (f r).parent = r.parent) (hM : ¬ M pt) (hpl : pt < σ0.length)
    (hr : ∀ (σ : St) (ns : List NodeX), Lay σ ot om oh ns hs → KeptS M σ0 σ → ∀ x ∈ ns, round (.ptr x.o 0) σ = some (.normal, σ.set x.o (.cells (f x.r).cells))) {c1 : List D} (hpt : σ0[pt]? = some (.cells (.ptr ot 0 :: c1))) : ∀ (k : Nat) (name : Nm) (σ : St) (ns : List NodeX),
    Lay σ ot om oh ns hs → KeptS M σ0 σ → (∀ o, Mine ot om oh ns o → M o) → Grown (npOf ns) → endsP (npOf ns) k name = true →
    ∃ σ', lineIt round pt k (nodeD (findN ns name)) σ = some (.normal, σ') ∧ Lay σ' ot om oh (bumpN ns (pathP (npOf ns) k name) f) hs ∧ KeptS M σ0 σ'
  | 0, name, σ, ns, _, _, _, _, h => by cases h
  | k + 1, name, σ, ns, L, hk, hmine, hg, h => by
    have hnd := path_nodup hg (k + 1) name
    rw [endsP, lookP_np] at h
    rw [pathP, lookP_np] at hnd ⊢
    cases hf : findN ns name with
    | none =>
      refine ⟨σ, rfl, ?_, hk⟩
      have : bumpN ns [] f = ns := by simp [bumpN]
      simp only [Option.map_none]
      rw [this]
      exact L
    | some x =>
      rw [hf] at h hnd
      simp only [Option.map_some] at h hnd ⊢
      obtain ⟨hx, hxn⟩ := findN_mem hf
      have L1 := L.turn hf f h1
      have hk1 : KeptS M σ0 (σ.set x.o (.cells (f x.r).cells)) := hk.trans (KeptS.set _ (hmine _ (.inr (.inr (.inr ⟨x, hx, rfl⟩)))))
      have hpt1 : (σ.set x.o (.cells (f x.r).cells))[pt]? = some (.cells (.ptr ot 0 :: c1)) := (hk1.2 pt hpl hM).trans hpt
      have hmem : (⟨x.o, f x.r⟩ : NodeX) ∈ setN ns name f := List.mem_map.2 ⟨x, hx, by rw [if_pos hxn]⟩
      have hst := stepL_lay L1 hpt1 hmem
      simp only [h2] at hst
      have hnp := npOf_set ns name h1 h2
      obtain ⟨σ', q1, q2, q3⟩ := line_upd h1 h2 hM hpl hr hpt k x.r.parent _ _ L1 hk1 (fun o ho => hmine o (mine_set ho)) (by rw [hnp]; exact hg) (by rw [hnp]; exact h)
      refine ⟨σ', ?_, ?_, q3⟩
      · simp only [nodeD, lineIt, hr σ ns L hk x hx, hst]
        exact q1
      · rw [hnp, bump_set ns name _ h1 (List.nodup_cons.1 hnd).1] at q2
        exact q2
end Go.Abs.C
