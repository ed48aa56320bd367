import Derived.Test.YtnjoledlgacpeaaKont2
import Derived.Test.YtnjoledlgacpeaaTreeW
set_option linter.unusedVariables false
set_option linter.unusedSimpArgs false
/-
  QuotaPlays as the machine code sees it.
-/
namespace Go.Abs.C
open Go Go.Abs
set_option maxRecDepth 8000
attribute [local irreducible] callN runC evalOp
theorem awakeN_ok (n : Nat) : ∃ σ, callN T (n + 99) 9 [] [] = some (.bool true, σ) := by
  have h : (callN T (n + 99) 9 [] []).map (·.1) = some (.bool true) := by kernel_rfl
  cases hc : callN T (n + 99) 9 [] [] with
  | none => rw [hc] at h; cases h
  | some p => rw [hc] at h; obtain ⟨r, σ⟩ := p; cases h; exact ⟨σ, rfl⟩
theorem new_ps (n : Nat) : PS n [Go.Abs.Obj.map [], Go.Abs.Obj.map [], Go.Abs.Obj.cells [.map 0, .map 1]] 2 0 1 [] [] 0 :=
  ⟨⟨new_lay [], ⟨.nil, by simp, by simp, by simp⟩, by simp⟩, by simp, by simp, by simp, by simp⟩
theorem lawPlays_ok (n : Nat) (sc : List ActR) (hok : ∀ a ∈ sc, a.n ≤ 9223372036854775807 ∧ a.a.length < n ∧ a.b.length < n) (hn1 : 1000 < n) (hn2 : n ≤ 9223372036854775808) :
    ∃ σ, callN T (n + 22) 3 [.sl (acts sc) none] [] = some (.bool true, σ) := by
  have hnew : callN T (n + 21) 11 [] [] = some (.ptr 2 0, [Go.Abs.Obj.map [], Go.Abs.Obj.map [], Go.Abs.Obj.cells [.map 0, .map 1]]) := new_ok (n + 20) []
  obtain ⟨σw, haw⟩ := awakeN_ok (n - 78)
  rw [show n - 78 + 99 = n + 21 by omega] at haw
  obtain ⟨r, σ', hp, ns', hs', rfl, _⟩ := play_ok n sc hok (new_ps n) (by omega) hn1 hn2
  change callN T (n + 21) 10 [.ptr 2 0, .agg [.sl [] none, .sl [] none], .sl (acts sc) none] _ = _ at hp
  unfold treeD at hp
  refine call_ofE (m := m3) rfl rfl (by decide) (k_start ?_)
  unfold m3
  refine k_seq ?_
  refine rv (D.bool false) ?_
  refine k_done (k_skip_seq (k_seq ?_))
  refine runs_call ([]) (by kernel_rfl) (by kernel_rfl) (by kernel_rfl) (by kernel_rfl) (haw) (by kernel_rfl) ?_
  refine ra0 (D.bool true) ?_
  refine k_done (k_skip_seq (k_seq (k_seq ?_)))
  refine rv (D.bool true) ?_
  refine rv (D.bool false) ?_
  refine k_done (k_skip_seq (kcf (k_skip_seq (k_seq ?_))))
  refine runs_call_fr ([]) (by kernel_rfl) (by kernel_rfl) (by kernel_rfl) (by kernel_rfl) (hnew) (by kernel_rfl) (by kernel_rfl) (hnew) ?_
  refine rv (D.agg [D.nils (81 : Nat), D.nils (83 : Nat)]) ?_
  refine rv (D.sl (acts sc) none) ?_
  refine runs_call_st ([D.ptr (2 : Nat) (0 : Nat), D.agg [D.sl [] none, D.sl [] none], D.sl (acts sc) none]) (by kernel_rfl) (by kernel_rfl) (by kernel_rfl) (by kernel_rfl) (hp) ?_
  refine rv (D.tup [D.agg [D.sl (List.map nW (nodesV ns')) none, D.sl (List.map HeldR.cells (heldV hs')) none], D.bool true]) ?_
  refine rv (D.agg [D.sl (List.map nW (nodesV ns')) none, D.sl (List.map HeldR.cells (heldV hs')) none]) ?_
  refine rv (D.bool true) ?_
  refine rgf (D.lptr (4 : Nat) (0 : Nat)) (σ') ?_
  refine rgf (D.junk) (σ') ?_
  refine ra0 (D.bool true) ?_
  refine k_done (k_skip_seq (k_seq ?_))
  refine rv (D.bool true) ?_
  refine ra0 (D.bool true) ?_
  refine k_done (k_skip_seq (k_ret ?_))
  exact ⟨.inr rfl, by kernel_rfl, σ', by kernel_rfl⟩
end Go.Abs.C

/-
  A copy of a tree, in the interpreter.
-/
namespace Go.Abs.C
open Go Go.Abs
def csOf (ns : List NodeX) : List (List UInt8 × NodeR) := ns.map fun x => (x.r.name, x.r)
def copyS (σ : St) (ns : List NodeX) (hs : List HeldR) : St := σ ++ ([Go.Abs.Obj.map (newL (σ.length + 2) (csOf ns)), Go.Abs.Obj.map (heldD hs)] ++ ((csOf ns).map (fun p => Go.Abs.Obj.cells p.2.cells) ++ [Go.Abs.Obj.cells [.map σ.length, .map (σ.length + 1)]]))
def copyN (n0 : Nat) (ns : List NodeX) : List NodeX := ns.mapIdx fun j x => ⟨n0 + j, x.r⟩
theorem nodesX_lay {σ : St} : ∀ {ns : List NodeX}, (∀ x ∈ ns, σ[x.o]? = some (.cells x.r.cells)) → nodesX σ (nodesD ns) = some (csOf ns)
  | [], _ => rfl
  | x :: ns, h => by
    have ih := nodesX_lay (σ := σ) (ns := ns) (fun y hy => h y (by simp [hy]))
    have h0 := h x (by simp)
    simp only [NodeR.cells] at h0
    simp only [nodesD, csOf, List.map_cons, nodesX] at ih ⊢
    simp only [nodeAt, h0]
    rw [ih]
theorem copy_ok {σ : St} {ot om oh : Nat} {ns : List NodeX} {hs : List HeldR} (L : Lay σ ot om oh ns hs) (n : Nat) : callN T (n + 1) 18 [.ptr ot 0] σ = some (.ptr (σ.length + 2 + ns.length) 0, copyS σ ns hs) := by
  have h1 : copyF [.ptr ot 0] σ = some (.ptr (σ.length + 2 + ns.length) 0, copyS σ ns hs) := by
    simp only [copyF, L.tree, L.nodes, L.held, nodesX_lay L.cells]
    rw [if_pos (by unfold csOf; rw [List.map_map]; exact L.names)]
    simp [copyS, csOf]
  refine call_ret (m := m18) (σ1 := copyS σ ns hs) rfl rfl (by decide) (fr := (enterFr m18 [.ptr ot 0]).set 1 (.ptr (σ.length + 2 + ns.length) 0)) (ae := .ret) ?_ (.inr rfl) rfl rfl
  show ((copyF ((enterFr m18 [.ptr ot 0]).slots.take 1) σ).map fun r => (AE.ret, (enterFr m18 [.ptr ot 0]).set 1 r.1, r.2)) = _
  rw [show (enterFr m18 [.ptr ot 0]).slots.take 1 = [D.ptr ot 0] from rfl, h1]
  rfl
theorem copy_none (n : Nat) (σ : St) : callN T (n + 1) 18 [.nilp] σ = some (.nilp, σ) := rfl
theorem copyN_recs (n0 : Nat) (ns : List NodeX) : (copyN n0 ns).map (·.r) = ns.map (·.r) := by
  unfold copyN
  apply List.ext_getElem?
  intro i
  simp only [List.getElem?_map, List.getElem?_mapIdx, Option.map_map]
  cases ns[i]? <;> rfl
theorem copyN_get {n0 : Nat} {ns : List NodeX} {x : NodeX} (h : x ∈ copyN n0 ns) : ∃ i, ∃ hi : i < ns.length, x = ⟨n0 + i, ns[i].r⟩ := by
  unfold copyN at h
  rw [List.mem_mapIdx] at h
  obtain ⟨i, hi, rfl⟩ := h
  exact ⟨i, hi, rfl⟩
theorem copyS_len (σ : St) (ns : List NodeX) (hs : List HeldR) : (copyS σ ns hs).length = σ.length + 3 + ns.length := by
  simp [copyS, csOf]
  omega
theorem copy_lay {σ : St} {ot om oh : Nat} {ns : List NodeX} {hs : List HeldR} (L : Lay σ ot om oh ns hs) : Lay (copyS σ ns hs) (σ.length + 2 + ns.length) σ.length (σ.length + 1) (copyN (σ.length + 2) ns) hs := by
  have hcl : (csOf ns).length = ns.length := by simp [csOf]
  have hat : ∀ k, (copyS σ ns hs)[σ.length + k]? = ([Go.Abs.Obj.map (newL (σ.length + 2) (csOf ns)), Go.Abs.Obj.map (heldD hs)] ++ ((csOf ns).map (fun p => Go.Abs.Obj.cells p.2.cells) ++ [Go.Abs.Obj.cells [.map σ.length, .map (σ.length + 1)]]))[k]? := by
    intro k
    unfold copyS
    rw [List.getElem?_append_right (by omega), show σ.length + k - σ.length = k by omega]
  refine ⟨?_, ?_, ?_, fun x hx => ?_, by omega, fun x hx => ?_, ?_, ?_, L.ids⟩
  · rw [show σ.length + 2 + ns.length = σ.length + (2 + ns.length) by omega, hat, List.getElem?_append_right (by simp), List.getElem?_append_right (by simp [hcl])]
    simp [hcl]
  · have := hat 0
    rw [Nat.add_zero] at this
    rw [this]
    simp only [List.cons_append, List.getElem?_cons_zero, Option.some.injEq]
    congr 1
    unfold newL nodesD copyN csOf
    apply List.ext_getElem?
    intro i
    simp only [List.getElem?_map, List.getElem?_mapIdx, Option.map_map]
    cases ns[i]? <;> rfl
  · rw [hat 1]
    rfl
  · obtain ⟨i, hi, rfl⟩ := copyN_get hx
    show (copyS σ ns hs)[σ.length + 2 + i]? = _
    rw [show σ.length + 2 + i = σ.length + (2 + i) by omega, hat, List.getElem?_append_right (by simp), List.getElem?_append_left (by simp [hcl, hi])]
    simp [csOf, hi]
  · obtain ⟨i, hi, rfl⟩ := copyN_get hx
    show σ.length + 2 + i ≠ _
    omega
  · unfold copyN
    rw [show (ns.mapIdx fun j x => (⟨σ.length + 2 + j, x.r⟩ : NodeX)).map (·.o) = (List.range ns.length).map (σ.length + 2 + ·) by
      apply List.ext_getElem?
      intro i
      simp only [List.getElem?_map, List.getElem?_mapIdx, Option.map_map, List.getElem?_range]
      by_cases hi : i < ns.length
      · simp [hi]
      · simp [hi]]
    exact List.pairwise_map.2 (List.Pairwise.imp (fun h e => h (by omega)) List.nodup_range)
  · have := copyN_recs (σ.length + 2) ns
    have h2 := L.names
    have e1 : (copyN (σ.length + 2) ns).map (fun x => x.r.name) = ((copyN (σ.length + 2) ns).map (·.r)).map (·.name) := by rw [List.map_map]; rfl
    rw [e1, this, List.map_map]
    exact h2
theorem Lay.kept {σ σ' : St} {M : Nat → Prop} {ot om oh : Nat} {ns : List NodeX} {hs : List HeldR} (L : Lay σ ot om oh ns hs) (k : KeptS M σ σ') (h : ∀ o, Mine ot om oh ns o → ¬ M o) : Lay σ' ot om oh ns hs := by
  obtain ⟨l1, l2, l3, l4⟩ := L.lt
  exact ⟨(k.2 _ l1 (h _ (.inl rfl))).trans L.tree, (k.2 _ l2 (h _ (.inr (.inl rfl)))).trans L.nodes, (k.2 _ l3 (h _ (.inr (.inr (.inl rfl))))).trans L.held, fun x hx => (k.2 _ (l4 x hx) (h _ (.inr (.inr (.inr ⟨x, hx, rfl⟩))))).trans (L.cells x hx), L.neh, L.net, L.nod, L.names, L.ids⟩
theorem copy_far {σ : St} {ns : List NodeX} {o : Nat} (h : Mine (σ.length + 2 + ns.length) σ.length (σ.length + 1) (copyN (σ.length + 2) ns) o) : σ.length ≤ o := by
  rcases h with h | h | h | ⟨x, hx, rfl⟩
  · omega
  · omega
  · omega
  · obtain ⟨i, hi, rfl⟩ := copyN_get hx
    show _ ≤ σ.length + 2 + i
    omega
theorem mine_near {σ : St} {ot om oh : Nat} {ns : List NodeX} {hs : List HeldR} (L : Lay σ ot om oh ns hs) {o : Nat} (h : Mine ot om oh ns o) : o < σ.length := by
  obtain ⟨l1, l2, l3, l4⟩ := L.lt
  rcases h with rfl | rfl | rfl | ⟨x, hx, rfl⟩
  · exact l1
  · exact l2
  · exact l3
  · exact l4 x hx
theorem copy_ps {n : Nat} {σ : St} {ot om oh : Nat} {ns : List NodeX} {hs : List HeldR} {B : Nat} (P : PS n σ ot om oh ns hs B) : PS n (copyS σ ns hs) (σ.length + 2 + ns.length) σ.length (σ.length + 1) (copyN (σ.length + 2) ns) hs B := by
  have hl : (copyN (σ.length + 2) ns).length = ns.length := by simp [copyN]
  refine ⟨⟨copy_lay P.I.L, by rw [copyN_recs]; exact P.I.p, by rw [hl]; exact P.I.k⟩, fun x hx => ?_, P.sb, by rw [hl]; exact P.ln, P.lh⟩
  obtain ⟨i, hi, rfl⟩ := copyN_get hx
  exact P.sa ns[i] (List.getElem_mem hi)
theorem nodesV_copy (n0 : Nat) (ns : List NodeX) : nodesV (copyN n0 ns) = nodesV ns := by
  unfold nodesV
  rw [copyN_recs]
end Go.Abs.C
