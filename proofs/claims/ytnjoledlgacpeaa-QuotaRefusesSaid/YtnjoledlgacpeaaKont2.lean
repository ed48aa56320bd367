import Derived.Test.YtnjoledlgacpeaaKont
import Derived.Test.YtnjoledlgacpeaaComm
set_option linter.unusedVariables false
set_option linter.unusedSimpArgs false
/-
  More rules: calls that make a variable an object, rows in memory.
-/
namespace Go.Abs
open Go
/-- Rows of small numbers, and of operations. -/
def u16s (l : List Int) : List (List D) := l.map fun n => [.int .u16 n]
def u8s (l : List Int) : List (List D) := l.map fun n => [.int .u8 n]
/-- An operation, raw. -/
structure ActR where
  kind : Int
  a : List UInt8
  b : List UInt8
  n : Int
def ActR.cells (x : ActR) : List D := [.int .i64 x.kind, .str x.a, .str x.b, .int .i64 x.n]
def acts (l : List ActR) : List (List D) := l.map ActR.cells
section
variable {cal : Cal} {fuel : Nat} {fr : Fr} {σ : St} {R : AE → Fr → St → Prop}

/-- The frame behind the promotion of arguments. -/
def promFr (o : Option (List D × Fr × St)) : Fr :=
  match o with
  | some r => r.2.1
  | none => ⟨[], [], []⟩
theorem runs_prom {dst : Option Nat} {f : Nat} {args : List X} {g : Option (Nat × Bool)} {ops : List MOper} (ds : List D) (σ' : St) (hw : wantedD fr g = some true) (hp : (fr.promoteAll σ args).map (fun r => (r.1, r.2.2)) = some (ds, σ'))
    (hq : (promFr (fr.promoteAll σ args)).promoteAll σ' args = some (ds, promFr (fr.promoteAll σ args), σ')) (hw' : wantedD (promFr (fr.promoteAll σ args)) g = some true)
    (h : Runs (runC cal fuel (.region false (⟨dst, .call f args, g⟩ :: ops)) (promFr (fr.promoteAll σ args)) σ') R) : Runs (runC cal fuel (.region false (⟨dst, .call f args, g⟩ :: ops)) fr σ) R := by
  cases hr : fr.promoteAll σ args with
  | none => rw [hr] at hp; cases hp
  | some r =>
    obtain ⟨ds1, fr1, σ1⟩ := r
    rw [hr] at hp hq hw' h
    simp only [Option.map_some, Option.some.injEq, Prod.mk.injEq] at hp
    obtain ⟨rfl, rfl⟩ := hp
    have e : runOp cal false ⟨dst, .call f args, g⟩ fr σ = runOp cal false ⟨dst, .call f args, g⟩ (promFr (some (ds1, fr1, σ1))) σ1 := by
      show (match wantedD fr g with | none => none | some false => some (fr.put dst .undef, σ) | some true => match evalOp cal false dst (.call f args) fr σ with | some (d, fr, σ) => some (fr.put dst d, σ) | none => none) = (match wantedD fr1 g with | none => none | some false => some (fr1.put dst .undef, σ1) | some true => match evalOp cal false dst (.call f args) fr1 σ1 with | some (d, fr, σ) => some (fr.put dst d, σ) | none => none)
      have hw1 : wantedD fr1 g = some true := hw'
      have hq1 : fr1.promoteAll σ1 args = some (ds1, fr1, σ1) := hq
      rw [hw, hw1]
      simp only [evalOp, Bool.false_eq_true, if_false, hr, hq1]
    obtain ⟨ae, fr2, σ2, h1, h2⟩ := h
    refine ⟨ae, fr2, σ2, ?_, h2⟩
    simp only [runC, runOps] at h1 ⊢
    rw [e]
    exact h1
theorem runs_make {dst : Option Nat} {esz bytes : Nat} {zero : List D} {len cap : X} {q : Bool} {g : Option (Nat × Bool)} {ops : List MOper} (n : Nat) (cs : List D) (hw : wantedD fr g = some true) (hl : fr.val len = .int .i64 n) (hc : fr.val cap = .int .i64 n)
    (hb : n * bytes ≤ 140737488355328 ∧ n < 4611686018427387904) (hcs : (List.replicate n zero).flatten = cs)
    (h : Runs (runC cal fuel (.region q ops) (fr.put dst (.msl σ.length 0 n esz)) (σ ++ [.cells cs])) R) : Runs (runC cal fuel (.region q (⟨dst, .mkslice esz bytes zero len cap, g⟩ :: ops)) fr σ) R := by
  subst hcs
  refine runs_op hw ?_ h
  have hnb : (n : Int) * (bytes : Int) ≤ 140737488355328 := by
    have := hb.1
    rw [← Int.natCast_mul]
    omega
  simp only [evalOp, hl, hc]
  refine (if_pos ⟨by omega, trivial, hnb, by omega⟩).trans ?_
  simp
theorem runs_indexM {q : Bool} {dst : Option Nat} {esz : Nat} {x i : X} {g : Option (Nat × Bool)} {ops : List MOper} {kd : IntKind} (o off n j : Nat) (hw : wantedD fr g = some true) (hx : fr.val x = .msl o off n esz) (hi : fr.val i = .int kd j) (hj : j < n)
    (h : Runs (runC cal fuel (.region q ops) (fr.put dst (.ptr o (off + j * esz))) σ) R) : Runs (runC cal fuel (.region q (⟨dst, .indexAddr esz x i, g⟩ :: ops)) fr σ) R := by
  refine runs_op hw ?_ h
  simp only [evalOp, hi, intOf?, hx]
  rw [if_pos (by omega)]
  refine (if_pos ⟨by omega, trivial⟩).trans ?_
  simp
theorem runs_indexMI {q : Bool} {dst : Option Nat} {esz : Nat} {x i : X} {g : Option (Nat × Bool)} {ops : List MOper} {kd : IntKind} (o off n : Nat) (j : Int) (hw : wantedD fr g = some true) (hx : fr.val x = .msl o off n esz) (hi : fr.val i = .int kd j) (h0 : 0 ≤ j) (hj : j.toNat < n)
    (h : Runs (runC cal fuel (.region q ops) (fr.put dst (.ptr o (off + j.toNat * esz))) σ) R) : Runs (runC cal fuel (.region q (⟨dst, .indexAddr esz x i, g⟩ :: ops)) fr σ) R := by
  refine runs_op hw ?_ h
  simp only [evalOp, hi, intOf?, hx]
  rw [if_pos h0]
  exact if_pos ⟨by omega, trivial⟩
theorem runs_storeP {q : Bool} {dst : Option Nat} {a x : X} {g : Option (Nat × Bool)} {ops : List MOper} (o off : Nat) (cs cs' : List D) (d : D) (σ' : St) (hw : wantedD fr g = some true) (ha : fr.val a = .ptr o off) (hx : fr.take x = (d, fr)) (h1 : d.cells = [d]) (h2 : d.raw = [d]) (h3 : d.plain = true)
    (ho : σ[o]? = some (.cells cs)) (hlt : off < cs.length) (hcs : cs.set off d = cs') (hs : σ.set o (.cells cs') = σ')
    (h : Runs (runC cal fuel (.region q ops) (fr.put dst .junk) σ') R) : Runs (runC cal fuel (.region q (⟨dst, .store 1 a x, g⟩ :: ops)) fr σ) R := by
  subst hcs hs
  refine runs_op hw ?_ h
  simp only [evalOp, hx, h1, h2, ha, storeAt, ho, List.length_cons, List.length_nil, List.all_cons, List.all_nil, h3, Bool.and_true, setAt]
  rw [if_pos (by trivial), if_pos (by omega)]
  rfl
theorem runs_loadP {q : Bool} {dst : Option Nat} {a : X} {size : Nat} {g : Option (Nat × Bool)} {ops : List MOper} (o off : Nat) (cs : List D) (d : D) (hw : wantedD fr g = some true) (ha : fr.val a = .ptr o off)
    (ho : σ[o]? = some (.cells cs)) (hd : cs[off]? = some d)
    (h : Runs (runC cal fuel (.region q ops) (fr.put dst d.strip) σ) R) : Runs (runC cal fuel (.region q (⟨dst, .load false size a false, g⟩ :: ops)) fr σ) R := by
  refine runs_op hw ?_ h
  have hlt : off < cs.length := (List.getElem?_eq_some_iff.1 hd).1
  have he : cs.drop off = d :: cs.drop (off + 1) := by
    rw [List.drop_eq_getElem_cons hlt]
    congr 1
    exact (List.getElem?_eq_some_iff.1 hd).2
  simp only [evalOp, ha, cellsAt, ho, he, Bool.false_eq_true, if_false]
theorem runs_indexA {q : Bool} {dst : Option Nat} {len esz : Nat} {x i : X} {g : Option (Nat × Bool)} {ops : List MOper} {kd : IntKind} (t o : Nat) (j : Int) (hw : wantedD fr g = some true) (hx : fr.val x = .lptr t o) (hi : fr.val i = .int kd j) (h0 : 0 ≤ j) (hj : j < len)
    (h : Runs (runC cal fuel (.region q ops) (fr.put dst (.lptr t (o + j.toNat * esz))) σ) R) : Runs (runC cal fuel (.region q (⟨dst, .indexArr true false len esz x i, g⟩ :: ops)) fr σ) R := by
  refine runs_op hw ?_ h
  simp only [evalOp, hi, intOf?, hx]
  refine (if_pos ⟨h0, hj⟩).trans ?_
  rfl
theorem runs_loadB {q : Bool} {dst : Option Nat} {a : X} {size : Nat} {g : Option (Nat × Bool)} {ops : List MOper} (t off : Nat) (cs : List D) (d : D) (hw : wantedD fr g = some true) (ha : fr.val a = .lptr t off)
    (ho : fr.boxAt t = some cs) (hd : cs[off]? = some d)
    (h : Runs (runC cal fuel (.region q ops) (fr.put dst d.strip) σ) R) : Runs (runC cal fuel (.region q (⟨dst, .load false size a false, g⟩ :: ops)) fr σ) R := by
  refine runs_op hw ?_ h
  have hlt : off < cs.length := (List.getElem?_eq_some_iff.1 hd).1
  have he : cs.drop off = d :: cs.drop (off + 1) := by
    rw [List.drop_eq_getElem_cons hlt]
    congr 1
    exact (List.getElem?_eq_some_iff.1 hd).2
  simp only [evalOp, ha, cellsAt, ho, Option.map_some, he, Bool.false_eq_true, if_false]
theorem runs_loadPA {q : Bool} {dst : Option Nat} {a : X} {size : Nat} {g : Option (Nat × Bool)} {ops : List MOper} (o off : Nat) (cs es es' : List D) (hw : wantedD fr g = some true) (ha : fr.val a = .ptr o off)
    (ho : σ[o]? = some (.cells cs)) (hd : (cs.drop off).take size = es) (hl : es.length = size) (he : es.map D.strip = es')
    (h : Runs (runC cal fuel (.region q ops) (fr.put dst (.agg es')) σ) R) : Runs (runC cal fuel (.region q (⟨dst, .load true size a false, g⟩ :: ops)) fr σ) R := by
  subst he
  refine runs_op hw ?_ h
  have h1 : size ≤ (cs.drop off).length := by rw [← hl, ← hd, List.length_take]; omega
  simp only [evalOp, ha, cellsAt, ho, if_true, hd]
  rw [if_pos h1]
theorem runs_appendM {q : Bool} {dst : Option Nat} {t e esz bytes : Nat} {y : X} {g : Option (Nat × Bool)} {ops : List MOper} (o n o' : Nat) (cs : List D) (ys : List (List D)) (σ' : St) (hw : wantedD fr g = some true) (hd : fr.val (.tmp t) = .msl o 0 n esz) (hy : elems σ (fr.val y) = some ys)
    (hz : (ys.all fun y => y.length == esz) = true) (h0 : 0 < ys.length) (hs : ys.flatten.all scalar1 = true) (ho : σ[o]? = some (.cells cs)) (hr : σ[o + 1]? = some (.row e)) (hc : n * esz ≤ cs.length) (hcs : (cs.take (n * esz)).all scalar1 = true)
    (hb : (n + ys.length) * bytes ≤ room ∧ n + ys.length < 4611686018427387904) (hl : σ.length = o') (hσ : σ.set o .dead ++ [.cells (cs.take (n * esz) ++ ys.flatten), .row e] = σ')
    (h : Runs (runC cal fuel (.region q ops) (fr.put dst (.msl o' 0 (n + ys.length) esz)) σ') R) : Runs (runC cal fuel (.region q (⟨dst, .append e esz bytes true (.tmp t) y, g⟩ :: ops)) fr σ) R := by
  subst hσ hl
  refine runs_op hw ?_ h
  simp only [evalOp, hy, hz, if_true, hd, ho, hr]
  exact if_pos ⟨trivial, trivial, trivial, h0, hc, hcs, hs, hb.1, hb.2⟩
theorem runs_appendN {q : Bool} {dst : Option Nat} {t e esz bytes : Nat} {y : X} {g : Option (Nat × Bool)} {ops : List MOper} (o' : Nat) (ys : List (List D)) (σ' : St) (hw : wantedD fr g = some true) (hd : fr.at t = .sl [] (some e)) (hy : elems σ (fr.val y) = some ys)
    (hz : (ys.all fun y => y.length == esz) = true) (h0 : 0 < ys.length) (hs : ys.flatten.all scalar1 = true)
    (hb : ys.length * bytes ≤ room ∧ ys.length < 4611686018427387904) (hl : σ.length = o') (hσ : σ ++ [.cells ys.flatten, .row e] = σ')
    (h : Runs (runC cal fuel (.region q ops) ((fr.set t (.sl [] none)).put dst (.msl o' 0 ys.length esz)) σ') R) : Runs (runC cal fuel (.region q (⟨dst, .append e esz bytes true (.tmp t) y, g⟩ :: ops)) fr σ) R := by
  subst hσ hl
  refine runs_op hw ?_ h
  have hv : fr.val (.tmp t) = .sl [] none := by simp only [Fr.val, hd, D.strip]
  simp only [evalOp, hy, hz, if_true, hv, Fr.take, hd, D.strip]
  exact if_pos ⟨trivial, h0, hs, hb.1, hb.2⟩
theorem runs_sliceM {q : Bool} {dst : Option Nat} {esz : Nat} {x : X} {lo hi : Option X} {g : Option (Nat × Bool)} {ops : List MOper} (o off n l k : Nat) (hw : wantedD fr g = some true) (hx : fr.val x = .msl o off n esz) (hlo : loD (fr.optVal lo) = some l) (hhi : hiD n (fr.optVal hi) = some k)
    (hc : l ≤ k ∧ k ≤ n) (hn : ¬ (l = n ∧ 0 < l))
    (h : Runs (runC cal fuel (.region q ops) (fr.put dst (.msl o (off + l * esz) (k - l) esz)) σ) R) : Runs (runC cal fuel (.region q (⟨dst, .slice esz x lo hi, g⟩ :: ops)) fr σ) R := by
  refine runs_op hw ?_ h
  simp only [evalOp, hx, hlo, hhi]
  rw [if_pos ⟨hc.1, hc.2, trivial⟩, if_neg hn]
theorem runs_sliceE {q : Bool} {dst : Option Nat} {esz : Nat} {x : X} {lo hi : Option X} {g : Option (Nat × Bool)} {ops : List MOper} (o off n l k : Nat) (hw : wantedD fr g = some true) (hx : fr.val x = .msl o off n esz) (hlo : loD (fr.optVal lo) = some l) (hhi : hiD n (fr.optVal hi) = some k)
    (hc : l ≤ k ∧ k ≤ n) (hn : l = n ∧ 0 < l)
    (h : Runs (runC cal fuel (.region q ops) (fr.put dst (.sl [] none)) σ) R) : Runs (runC cal fuel (.region q (⟨dst, .slice esz x lo hi, g⟩ :: ops)) fr σ) R := by
  refine runs_op hw ?_ h
  simp only [evalOp, hx, hlo, hhi]
  rw [if_pos ⟨hc.1, hc.2, trivial⟩, if_pos hn]
theorem runs_loadT {q : Bool} {dst : Option Nat} {a : X} {size : Nat} {g : Option (Nat × Bool)} {ops : List MOper} (o off : Nat) (cs cs' : List D) (d : D) (σ' : St) (hw : wantedD fr g = some true) (ha : fr.val a = .ptr o off)
    (ho : σ[o]? = some (.cells cs)) (hd : cs[off]? = some d) (hcs : cs.set off d.strip = cs') (hs : σ.set o (.cells cs') = σ')
    (h : Runs (runC cal fuel (.region q ops) (fr.put dst d) σ') R) : Runs (runC cal fuel (.region q (⟨dst, .load false size a true, g⟩ :: ops)) fr σ) R := by
  subst hs hcs
  refine runs_op hw ?_ h
  have hlt : off < cs.length := (List.getElem?_eq_some_iff.1 hd).1
  have he : cs.drop off = d :: cs.drop (off + 1) := by
    rw [List.drop_eq_getElem_cons hlt]
    congr 1
    exact (List.getElem?_eq_some_iff.1 hd).2
  simp only [evalOp, ha, cellsAt, ho, he, Bool.false_eq_true, if_false, if_true, storeAt, List.length_cons, List.length_nil, setAt]
  rw [if_pos (by omega)]
  rfl
theorem runs_storeT {q : Bool} {dst : Option Nat} {a : X} {t : Nat} {g : Option (Nat × Bool)} {ops : List MOper} (o off : Nat) (cs cs' : List D) (d : D) (σ' : St) (hw : wantedD fr g = some true) (ha : fr.val a = .ptr o off) (hx : fr.at t = d) (h1 : d.cells = [d]) (h2 : d.raw = [d]) (h3 : d.plain = true)
    (ho : σ[o]? = some (.cells cs)) (hlt : off < cs.length) (hcs : cs.set off d = cs') (hs : σ.set o (.cells cs') = σ')
    (h : Runs (runC cal fuel (.region q ops) ((fr.set t d.strip).put dst .junk) σ') R) : Runs (runC cal fuel (.region q (⟨dst, .store 1 a (.tmp t), g⟩ :: ops)) fr σ) R := by
  subst hcs hs
  refine runs_op hw ?_ h
  simp only [evalOp, Fr.take, hx, h1, h2, ha, storeAt, ho, List.length_cons, List.length_nil, List.all_cons, List.all_nil, h3, Bool.and_true, setAt]
  rw [if_pos (by trivial), if_pos (by omega)]
  rfl
theorem runs_len {q : Bool} {dst : Option Nat} {x : X} {g : Option (Nat × Bool)} {ops : List MOper} (d : D) (n : Nat) (hw : wantedD fr g = some true) (hx : fr.val x = d) (hl : (∃ o, d = .sl [] o ∧ n = 0) ∨ ∃ o off e, d = .msl o off n e)
    (h : Runs (runC cal fuel (.region q ops) (fr.put dst (.int .i64 n)) σ) R) : Runs (runC cal fuel (.region q (⟨dst, .len 0 x, g⟩ :: ops)) fr σ) R := by
  refine runs_op hw ?_ h
  rcases hl with ⟨o, h1, h2⟩ | ⟨o, off, e, h1⟩
  · subst h2
    rw [h1] at hx
    simp only [evalOp, hx]
    rfl
  · rw [h1] at hx
    simp only [evalOp, hx]
theorem runs_sliceS {q : Bool} {dst : Option Nat} {esz : Nat} {x : X} {lo hi : Option X} {g : Option (Nat × Bool)} {ops : List MOper} (es r : List (List D)) {o : Option Nat} (l k : Nat) (hw : wantedD fr g = some true) (hx : fr.val x = .sl es o) (hlo : loD (fr.optVal lo) = some l) (hhi : hiD es.length (fr.optVal hi) = some k)
    (hc : l ≤ k ∧ k ≤ es.length) (ha : (es.all fun e => e.length == esz) = true) (hr : (es.drop l).take (k - l) = r)
    (h : Runs (runC cal fuel (.region q ops) (fr.put dst (.sl r none)) σ) R) : Runs (runC cal fuel (.region q (⟨dst, .slice esz x lo hi, g⟩ :: ops)) fr σ) R := by
  subst hr
  refine runs_op hw ?_ h
  simp only [evalOp, hx, hlo, hhi]
  rw [if_pos ⟨hc.1, hc.2, ha⟩]
theorem loD_nat {d : D} {k : IntKind} {n : Nat} (h : d = .int k n) : loD (some d) = some n := by
  subst h
  simp [loD, intOf?]
theorem hiD_nat {d : D} {k : IntKind} {n m : Nat} (h : d = .int k n) : hiD m (some d) = some n := by
  subst h
  simp [hiD, intOf?]
theorem runs_callS {dst : Option Nat} {f : Nat} {args : List X} {g : Option (Nat × Bool)} {ops : List MOper} (ds ds' : List D) (os : List Nat) (hw : wantedD fr g = some true) (hp : fr.promoteAll σ args = some (ds, fr, σ)) (hq : ds.all pureArg = true) (hs : snap σ ds = some (ds', os)) {σc : St} {r : D}
    (hc : cal f ds' [] = some (r, σc)) (hf : freeze σc r = some r) (hr : scalar r = true)
    (h : Runs (runC cal fuel (.region false ops) (fr.put dst r) σ) R) : Runs (runC cal fuel (.region false (⟨dst, .call f args, g⟩ :: ops)) fr σ) R := by
  refine runs_op hw ?_ h
  simp only [evalOp, Bool.false_eq_true, if_false, hp, doCall, hq, if_true, hs, hc, hf, hr, Bool.or_true, Option.map_some]
end
theorem call_ofE {σ : St} {T : Table} {n f : Nat} {m : MFunc} {args : List D} {d : D} (hm : T f = some m) (hp : args.length = m.nparams) (hp2 : m.nparams ≤ m.ntmps)
    (h : Runs (runC (callN T n) n m.body (enterFr m args) σ) (fun ae fr σ1 => (ae = .normal ∨ ae = .ret) ∧ fr.defers = [] ∧ ∃ σ', resultOf fr σ1 m.results = some (d, σ'))) : ∃ σ', callN T (n + 1) f args σ = some (d, σ') := by
  obtain ⟨ae, fr, σ1, h1, h2, h3, σ', h4⟩ := h
  exact ⟨σ', call_of hm hp hp2 ⟨ae, fr, σ1, h1, h2, h3, h4⟩⟩
theorem call_ofX {σ : St} {T : Table} {n f : Nat} {m : MFunc} {args : List D} {Φ : D → St → Prop} (hm : T f = some m) (hp : args.length = m.nparams) (hp2 : m.nparams ≤ m.ntmps)
    (h : Runs (runC (callN T n) n m.body (enterFr m args) σ) (fun ae fr σ1 => (ae = .normal ∨ ae = .ret) ∧ fr.defers = [] ∧ ∃ d σ', resultOf fr σ1 m.results = some (d, σ') ∧ Φ d σ')) : ∃ d σ', callN T (n + 1) f args σ = some (d, σ') ∧ Φ d σ' := by
  obtain ⟨ae, fr, σ1, h1, h2, h3, d, σ', h4, h5⟩ := h
  exact ⟨d, σ', call_of hm hp hp2 ⟨ae, fr, σ1, h1, h2, h3, h4⟩, h5⟩
theorem set_get {σ : St} {k : Nat} {X : Obj} (h : k < σ.length) : (σ.set k X)[k]? = some X := by simp [h]
theorem get_last2 (A S : Obj) (ρ : St) (X : Obj) : (A :: S :: (ρ ++ [X]))[ρ.length + 2]? = some X := by simp
theorem set_last2 (A S : Obj) (ρ : St) (X Y : Obj) : (A :: S :: (ρ ++ [X])).set (ρ.length + 2) Y = A :: S :: (ρ ++ [Y]) := by simp
theorem plain_of {σ : St} {T : Table} {n f : Nat} {m : MFunc} {args : List D} {d : D} {σ' : St} (hm : T f = some m) (hp : args.length = m.nparams) (hp2 : m.nparams ≤ m.ntmps)
    (h : Runs (runC (callN T n) n m.body (enterFr m args) σ) (fun ae fr σ1 => (ae = .normal ∨ ae = .ret) ∧ fr.defers = [] ∧ resultOf fr σ1 m.results = some (d, σ'))) (hnt : m.body.told = false := by rfl) : plainN T (callN T n) n f args σ = some (d, σ') := by
  obtain ⟨ae, fr, σ1, h1, h2, h3, h4⟩ := h
  have hb : runBody (callN T n) n m args σ = some (fr, σ1) := by
    unfold runBody
    rw [if_pos ⟨hp, hp2⟩, h1]
    rcases h2 with rfl | rfl <;> rfl
  simp only [plainN, hm, hb, h3, hnt, List.isEmpty_nil, if_true, Bool.false_eq_true, if_false]
  exact h4
/-- A call, with at most one call deferred. -/
theorem call_ofXD {σ : St} {T : Table} {n f : Nat} {m : MFunc} {args : List D} {Φ : D → St → Prop} (hm : T f = some m) (hp : args.length = m.nparams) (hp2 : m.nparams ≤ m.ntmps)
    (h : Runs (runC (callN T n) n m.body (enterFr m args) σ) (fun ae fr σ1 => (ae = .normal ∨ ae = .ret) ∧ ((fr.defers = [] ∧ ∃ d σ', resultOf fr σ1 m.results = some (d, σ') ∧ Φ d σ') ∨
      (∃ g caps σ2 d0, fr.defers = [(.func g caps, [])] ∧ caps.all D.notL = true ∧ plainN T (callN T n) n g caps σ1 = some (d0, σ2) ∧ ∃ d σ', resultOf fr σ2 m.results = some (d, σ') ∧ Φ d σ')))) (hnt : m.body.told = false := by rfl) : ∃ d σ', callN T (n + 1) f args σ = some (d, σ') ∧ Φ d σ' := by
  obtain ⟨ae, fr, σ1, h1, h2, h3⟩ := h
  have hb : runBody (callN T n) n m args σ = some (fr, σ1) := by
    unfold runBody
    rw [if_pos ⟨hp, hp2⟩, h1]
    rcases h2 with rfl | rfl <;> rfl
  rcases h3 with ⟨h3, d, σ', h4, h5⟩ | ⟨g, caps, σ2, d0, h3, h6, h7, d, σ', h4, h5⟩
  · refine ⟨d, σ', ?_, h5⟩
    simp only [callN, hm, hb, h3, List.isEmpty_nil, if_true]
    exact h4
  · refine ⟨d, σ', ?_, h5⟩
    simp only [callN, hm, hb, h3, List.isEmpty_cons, hnt, Bool.false_eq_true, if_false, runDefers, List.nil_append, h6, if_true, h7]
    exact h4
/-- Truths, and numbers, in memory. -/
def bls (l : List Bool) : List D := l.map .bool
def ils (l : List Int) : List D := l.map (.int .i64)
theorem bls_len (l : List Bool) : (bls l).length = l.length := by simp [bls]
theorem ils_len (l : List Int) : (ils l).length = l.length := by simp [ils]
theorem bls_set (l : List Bool) (i : Nat) (b : Bool) : (bls l).set i (.bool b) = bls (l.set i b) := by simp [bls, List.map_set]
theorem ils_set (l : List Int) (i : Nat) (b : Int) : (ils l).set i (.int .i64 b) = ils (l.set i b) := by simp [ils, List.map_set]
theorem bls_new (n : Nat) : (List.replicate n [D.bool false]).flatten = bls (List.replicate n false) := by simp [bls]
theorem ils_new (n : Nat) : (List.replicate n [D.int .i64 0]).flatten = ils (List.replicate n 0) := by simp [ils]
theorem bls_get {l : List Bool} {i : Nat} (h : i < l.length) : (bls l)[i]? = some (.bool l[i]) := by simp [bls, h]
theorem ils_get {l : List Int} {i : Nat} (h : i < l.length) : (ils l)[i]? = some (.int .i64 l[i]) := by simp [ils, h]
theorem chunk_bls : ∀ l : List Bool, chunk 1 ((bls l).map D.strip) l.length = bools l
  | [] => rfl
  | b :: l => by
    show chunk 1 (.bool b :: (bls l).map D.strip) (l.length + 1) = [.bool b] :: bools l
    rw [← chunk_bls l]
    rfl
theorem chunk_ils : ∀ l : List Int, chunk 1 ((ils l).map D.strip) l.length = ints l
  | [] => rfl
  | b :: l => by
    show chunk 1 (.int .i64 b :: (ils l).map D.strip) (l.length + 1) = [.int .i64 b] :: ints l
    rw [← chunk_ils l]
    rfl
theorem elems_bls {σ : St} {o : Nat} {l : List Bool} (h : σ[o]? = some (.cells (bls l))) : elems σ (.msl o 0 l.length 1) = some (bools l) := by
  have h1 : (bls l).all D.pure1 = true := by simp [bls, D.pure1]
  simp only [elems, h]
  rw [if_pos ⟨by rw [bls_len]; omega, by omega, h1⟩, List.drop_zero, chunk_bls]
theorem elems_ils {σ : St} {o : Nat} {l : List Int} (h : σ[o]? = some (.cells (ils l))) : elems σ (.msl o 0 l.length 1) = some (ints l) := by
  have h1 : (ils l).all D.pure1 = true := by simp [ils, D.pure1]
  simp only [elems, h]
  rw [if_pos ⟨by rw [ils_len]; omega, by omega, h1⟩, List.drop_zero, chunk_ils]
theorem elems_ils1 {σ : St} {o : Nat} {l : List Int} (h0 : 0 < l.length) (h : σ[o]? = some (.cells (ils l))) : elems σ (.msl o (0 + 1 * 1) (l.length - 1) 1) = some (ints (l.drop 1)) := by
  have h1 : (ils l).all D.pure1 = true := by simp [ils, D.pure1]
  simp only [elems, h]
  rw [if_pos ⟨by rw [ils_len]; omega, by omega, h1⟩]
  cases l with
  | nil => simp at h0
  | cons x l =>
    have : (ils (x :: l)).drop (0 + 1 * 1) = ils l := rfl
    rw [this]
    exact congrArg some (chunk_ils l)
theorem last_get (σ : St) (c : Obj) : (σ ++ [c])[σ.length]? = some c := by simp
theorem last_set (σ : St) (c c' : Obj) : (σ ++ [c]).set σ.length c' = σ ++ [c'] := by simp
section
variable {cal : Cal} {fuel : Nat} {fr : Fr} {σ : St} {R : AE → Fr → St → Prop}
theorem runs_same {q : Bool} {o o' : MOper} {ops : List MOper} (he : runOp cal q o fr σ = runOp cal q o' fr σ) (h : Runs (runC cal fuel (.region q (o' :: ops)) fr σ) R) : Runs (runC cal fuel (.region q (o :: ops)) fr σ) R := by
  simp only [runC, runOps, he] at h ⊢
  exact h
theorem runs_call_fr {dst : Option Nat} {f : Nat} {args : List X} {g : Option (Nat × Bool)} {ops : List MOper} (ds : List D) (hw : wantedD fr g = some true) (hp : fr.promoteAll σ args = some (ds, fr, σ)) (hq : ds.all pureArg = true) (hs : snap σ ds = some (ds, [])) {r0 : D} {σc : St} (hc0 : cal f ds [] = some (r0, σc)) (hf : freeze σc r0 = none) (hn : ds.all D.notL = true) {r : D} {σ' : St} (hc : cal f ds σ = some (r, σ'))
    (h : Runs (runC cal fuel (.region false ops) (fr.put dst r) σ') R) : Runs (runC cal fuel (.region false (⟨dst, .call f args, g⟩ :: ops)) fr σ) R := by
  refine runs_op hw ?_ h
  simp only [evalOp, Bool.false_eq_true, if_false, hp, doCall, hq, if_true, hs, hc0, hf, hn, hc, Option.map_some]
theorem runs_updateP {q : Bool} {dst : Option Nat} {kk : Nat} {m i x : X} {g : Option (Nat × Bool)} {ops : List MOper} (fr1 : Fr) (σ1 : St) (o : Nat) (es es' : List (D × D)) (kv v : D) (hw : wantedD fr g = some true) (hp : fr.ownP σ x = some (fr1, σ1)) (hx : fr1.val m = .map o) (ho : σ1[o]? = some (.map es)) (hi : fr1.val i = kv) (hv : fr1.val x = v) (hk : keyD kk kv = true) (hn : v.notL = true) (hf : putKey kk kv v es = some es')
    (h : Runs (runC cal fuel (.region q ops) (fr1.put dst .junk) (σ1.set o (.map es'))) R) : Runs (runC cal fuel (.region q (⟨dst, .mapUpdateP kk m i x, g⟩ :: ops)) fr σ) R := by
  refine runs_op hw ?_ h
  simp only [evalOp, hp, hx, ho, hi, hv, hk, hn, hf, and_self, if_true, Option.map_some]
theorem runs_loadA {q : Bool} {dst : Option Nat} {t s : Nat} {agg : Bool} {a : X} {g : Option (Nat × Bool)} {ops : List MOper} (hi : (fr.val a).inBox t = false)
    (h : Runs (runC cal fuel (.region q (⟨dst, .load agg s a false, g⟩ :: ops)) fr σ) R) : Runs (runC cal fuel (.region q (⟨dst, .loadA t agg s a, g⟩ :: ops)) fr σ) R := by
  refine runs_same ?_ h
  unfold runOp
  rw [loadA_eq, hi]
  rfl
theorem runs_callT {dst : Option Nat} {f : Nat} {args : List X} {g : Option (Nat × Bool)} {ops : List MOper} (hi : (args.map fr.arg).all D.notL = true)
    (h : Runs (runC cal fuel (.region false (⟨dst, .call f args, g⟩ :: ops)) fr σ) R) : Runs (runC cal fuel (.region false (⟨dst, .callS f args, g⟩ :: ops)) fr σ) R := by
  refine runs_same ?_ h
  unfold runOp
  simp only []
  split
  · rfl
  · rfl
  · simp only [evalOp, if_pos hi, Bool.false_eq_true, if_false, promA_ok args hi]
theorem runs_storeR {q : Bool} {dst : Option Nat} {t s : Nat} {x : X} {g : Option (Nat × Bool)} {ops : List MOper} (hi : (fr.val (.tmp t)).inBox t = true)
    (h : Runs (runC cal fuel (.region q (⟨dst, .store s (.tmp t) x, g⟩ :: ops)) fr σ) R) : Runs (runC cal fuel (.region q (⟨dst, .storeR s t x, g⟩ :: ops)) fr σ) R := by
  refine runs_same ?_ h
  unfold runOp
  rw [storeR_eq, hi]
  rfl
theorem runs_allocR {q : Bool} {t : Nat} {z : List D} {g : Option (Nat × Bool)} {ops : List MOper} (hi : (fr.boxAt t).isNone = true)
    (h : Runs (runC cal fuel (.region q (⟨some t, .alloc z, g⟩ :: ops)) fr σ) R) : Runs (runC cal fuel (.region q (⟨some t, .allocR z, g⟩ :: ops)) fr σ) R := by
  refine runs_same ?_ h
  have hn : fr.newBox t z = fr.setBox t (some z) := by
    unfold Fr.newBox
    cases hb : fr.boxAt t with
    | none => rfl
    | some b =>
      rw [hb] at hi
      cases hi
  unfold runOp
  simp only [evalOp, hi, hn, if_true]
theorem runs_cut {q : Bool} {dst : Option Nat} {x : X} {lo hi : Option X} {g : Option (Nat × Bool)} {ops : List MOper} (s : List UInt8) (s' : List UInt8) (l h : Nat) (hw : wantedD fr g = some true) (hx : fr.val x = .str s)
    (hl : loD (fr.optVal lo) = some l) (hh : hiD s.length (fr.optVal hi) = some h) (hc : l ≤ h ∧ h ≤ s.length) (hs : (s.drop l).take (h - l) = s')
    (hk : Runs (runC cal fuel (.region q ops) (fr.put dst (.str s')) σ) R) : Runs (runC cal fuel (.region q (⟨dst, .sliceStr x lo hi, g⟩ :: ops)) fr σ) R := by
  subst hs
  refine runs_op hw ?_ hk
  simp only [evalOp, hx, hl, hh]
  exact if_pos hc
theorem runs_indexStr {q : Bool} {dst : Option Nat} {x i : X} {g : Option (Nat × Bool)} {ops : List MOper} {kd : IntKind} (s : List UInt8) (j : Nat) (h : j < s.length) (hw : wantedD fr g = some true) (hx : fr.val x = .str s) (hi : fr.val i = .int kd j)
    (hk : Runs (runC cal fuel (.region q ops) (fr.put dst (.int .u8 (s[j].toNat : Int))) σ) R) : Runs (runC cal fuel (.region q (⟨dst, .indexStr x i, g⟩ :: ops)) fr σ) R := by
  refine runs_op hw ?_ hk
  simp only [evalOp, hi, hx, intOf?]
  rw [if_pos (by omega)]
  simp [h]
theorem wrap_equ {v w : Int} (h : v = w) (lo : 0 ≤ w) (hi : w < 18446744073709551616) : IntKind.u64.wrap v = w := by
  subst h
  simp only [IntKind.wrap, IntKind.bits, IntKind.signed]
  simp
  omega
theorem runs_callF {dst : Option Nat} {f : Nat} {args : List X} {g : Option (Nat × Bool)} {ops : List MOper} (ds : List D) (hw : wantedD fr g = some true) (hp : fr.promoteAll σ args = some (ds, fr, σ)) (hq : ds.all pureArg = true) (hs : snap σ ds = some (ds, [])) {r r' : D} {σc : St} (hc : cal f ds [] = some (r, σc)) (hf : freeze σc r = some r')
    (h : Runs (runC cal fuel (.region false ops) (fr.put dst r') σ) R) : Runs (runC cal fuel (.region false (⟨dst, .call f args, g⟩ :: ops)) fr σ) R := by
  refine runs_op hw ?_ h
  simp only [evalOp, Bool.false_eq_true, if_false, hp, doCall, hq, if_true, hs, hc, hf, List.isEmpty_nil, Bool.true_or, Option.map_some, killAll]
end
end Go.Abs
