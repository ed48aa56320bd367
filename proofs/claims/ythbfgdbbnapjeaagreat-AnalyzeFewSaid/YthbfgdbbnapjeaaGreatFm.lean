/-
  A part of AnalyzeFew's proof.
-/
import Derived.Test.YthbfgdbbnapjeaaGreatTabW1
import Derived.Test.YthbfgdbbnapjeaaGreatTabW2
import Derived.Test.YthbfgdbbnapjeaaGreatTabW3
import Derived.Test.YthbfgdbbnapjeaaGreatRepeatW
import Derived.Shelf.Spec.SlicesGrow
set_option linter.unusedVariables false
set_option linter.unusedSimpArgs false
namespace Go.Abs
open Go
inductive Fm where
 | mk (op n : Int) (kids : List Fm)
namespace Fm
def op : Fm → Int | .mk o _ _ => o
def n : Fm → Int | .mk _ n _ => n
def kids : Fm → List Fm | .mk _ _ k => k
theorem op_mk (o n : Int) (k : List Fm) : (Fm.mk o n k).op = o := rfl
theorem n_mk (o n : Int) (k : List Fm) : (Fm.mk o n k).n = n := rfl
theorem kids_mk (o n : Int) (k : List Fm) : (Fm.mk o n k).kids = k := rfl
end Fm
mutual
def eFr : Fm → List D
 | .mk op n ks => [.int .i64 op, .int .i64 n, .sl (eFsr ks) none]
def eFsr : List Fm → List (List D)
 | [] => []
 | f :: fs => eFr f :: eFsr fs
end
def eFs (fs : List Fm) : List (List D) := eFsr fs
def eF (f : Fm) : List D := [.int .i64 f.op, .int .i64 f.n, .sl (eFs f.kids) none]
theorem eFr_eq : ∀ f : Fm, eFr f = eF f
 | .mk _ _ _ => by simp [eFr, eF, Fm.op, Fm.n, Fm.kids, eFs]
theorem eFs_map : ∀ fs : List Fm, eFs fs = fs.map eF
 | [] => by simp [eFs, eFsr]
 | f :: fs => by
  have := eFs_map fs
  unfold eFs at this ⊢
  simp only [eFsr, List.map_cons, this, eFr_eq]
theorem eFs_length (fs : List Fm) : (eFs fs).length = fs.length := by rw [eFs_map]; simp
theorem eFs_get {fs : List Fm} {i : Nat} {f : Fm} (h : fs[i]? = some f) : (eFs fs)[i]? = some (eF f) := by
 rw [eFs_map]
 simp [h]
theorem eFs_all (fs : List Fm) : ((eFs fs).all fun y => y.length == 3) = true := by
 rw [eFs_map]
 simp only [List.all_map, List.all_eq_true]
 intro f _
 rfl
def fits : Nat → Fm → Prop
 | 0, _ => False
 | d + 1, f => f.kids.length ≤ 60 ∧ ∀ k ∈ f.kids, fits d k
theorem fits_mono : ∀ {d e : Nat} {f : Fm}, fits d f → d ≤ e → fits e f
 | 0, _, _, h, _ => h.elim
 | d + 1, 0, _, _, h => by omega
 | d + 1, e + 1, f, h, hle => ⟨h.1, fun k hk => fits_mono (h.2 k hk) om⟩
section
variable {cal : Cal} {fuel : Nat} {fr : Fr} {σ : St} {R : AE → Fr → St → Prop}
theorem runs_indexL {q : Bool} {dst : Option Nat} {esz : Nat} {x i : X} {g : Option (Nat × Bool)} {ops : List MOper} (es : List (List D)) {o : Option Nat} {kd : IntKind} (j : Nat) (e : List D) (hw : wantedD fr g = some true) (hx : fr.val x = .sl es o) (hi : fr.val i = .int kd (j : Int)) (he : es[j]? = some e) (hl : e.length = esz)
  (h : Runs (runC cal fuel (.region q ops) (fr.put dst (.ref e)) σ) R) : Runs (runC cal fuel (.region q (⟨dst, .indexAddr esz x i, g⟩ :: ops)) fr σ) R := by
 refine runs_op hw ?_ h
 exact ev_index hx hi (Int.natCast_nonneg j) (by simpa using he) hl
end
end Go.Abs

namespace Go.Abs.W
open Go Go.Abs
set_option maxRecDepth 8000
attribute [local irreducible] callN runC evalOp
def T64 : Table := fun f => if f = 64 then some m64 else none
theorem so_yes (n : Nat) (es : List (List D)) (i : Nat) (b : Bool) (o : Option Nat) (hlt : i < es.length) (hg : es[i]? = some [.bool b]) : callN T64 (n + 1) 64 [.int .i64 i, .ref [.sl es o]] [] = some (.bool b, []) := by
 refine call_of (m := m64) rfl rfl (by decide) (k_start ?_)
 unfold m64
 refine kq <| rn 1 ?_
 refine kD (k_skip_seq (kq ?_))
 refine rn 5 <| rkn 8 (decide ((↑i : Int) < (↑(List.length es) : Int))) true (decide_eq_true om) <| rn 2 <| runs_indexL (es) (o := none) (kd := IntKind.i64) (i) _ kr kr kr asm kr <| rn 3 ?_
 refine kD (k_skip_seq (k_ret ?_))
 exact ⟨.inr rfl, kr, kr⟩
theorem so_no (n : Nat) (es : List (List D)) (i : Nat) (o : Option Nat) (hlt : ¬ i < es.length) : callN T64 (n + 1) 64 [.int .i64 i, .ref [.sl es o]] [] = some (.bool false, []) := by
 refine call_of (m := m64) rfl rfl (by decide) (k_start ?_)
 unfold m64
 refine kq <| rn 1 ?_
 refine kD (k_skip_seq (kq ?_))
 refine rn 5 <| rkn 8 (decide ((↑i : Int) < (↑(List.length es) : Int))) false (decide_eq_false om) ?_
 refine rno (rno (rno (rno ?_)))
 refine rn 2 ?_
 refine kD (k_skip_seq (k_ret ?_))
 exact ⟨.inr rfl, kr, kr⟩
theorem atS_yes : ∀ {es : List (List D)} {i : Nat} {b : Bool}, atS es i = some b → (i < es.length ∧ es[i]? = some [.bool b]) ∨ (¬ i < es.length ∧ b = false)
 | [], i, b, h => by
  simp only [atS, Option.some.injEq] at h
  exact .inr ⟨by simp, h.symm⟩
 | e :: es, 0, b, h => by
  match e, h with
  | [.bool b'], h =>
   simp only [atS, Option.some.injEq] at h
   subst h
   exact .inl ⟨by simp, rfl⟩
 | e :: es, i + 1, b, h => by
  have h' : atS es i = some b := by
   cases e with
   | nil => exact h
   | cons x xs => cases x <;> cases xs <;> exact h
  rcases atS_yes h' with ⟨h1, h2⟩ | ⟨h1, h2⟩
  ·exact .inl ⟨by simpa using h1, by simpa using h2⟩
  ·exact .inr ⟨by simpa using h1, h2⟩
end Go.Abs.W

namespace Go.Proofs
open Go.Shelf Go.RowKit Go.Lib
def Tryz.laysGrow_ren : Go.Shelf.Ren := ⟨fun | 4 => 27 | n => n, fun | 22 => 38 | 25 => 65 | n => n, fun | n => n⟩
theorem Tryz.laysGrow : Lays8.n4 Tryz.prog Tryz.laysGrow_ren where
 mixed := by kernel_rfl
 f4 := ⟨Tryz.f27.name, by kernel_rfl, Tryz.func27.trans (congrArg some (by kernel_rfl))⟩
 t0 := Tryz.underlying0
 a0 := Tryz.isAgg0
 z0 := Tryz.sizeOf0
 v0 := Tryz.zeroValue0
 t3 := Tryz.underlying3
 a3 := Tryz.isAgg3
 z3 := Tryz.sizeOf3
 v3 := Tryz.zeroValue3
 t4 := Tryz.underlying4
 a4 := Tryz.isAgg4
 z4 := Tryz.sizeOf4
 v4 := Tryz.zeroValue4
 t9 := Tryz.underlying9
 a9 := Tryz.isAgg9
 z9 := Tryz.sizeOf9
 v9 := Tryz.zeroValue9
 t20 := Tryz.underlying20
 a20 := Tryz.isAgg20
 z20 := Tryz.sizeOf20
 v20 := Tryz.zeroValue20
 t22 := Tryz.underlying38
 a22 := Tryz.isAgg38
 z22 := Tryz.sizeOf38
 v22 := Tryz.zeroValue38
end Go.Proofs
namespace Go.Abs.W
open Go Go.Abs Go.Proofs Go.RowKit
set_option maxRecDepth 100000
theorem hmix : Tryz.prog.follows .mixedOrders = true := by kernel_rfl
theorem good26 : Good Tryz.prog 26 m26 :=
 cloneM_good (mu := [65]) (k1 := ⟨[], [], [], []⟩) (k2 := ⟨[], [], [], []⟩) (t := 38) (A := cA Tryz.f26.body) (D0 := cD Tryz.f26.body) (idB := (cB Tryz.f26.body).1) (opsB := (cB Tryz.f26.body).2) (idC := (cC Tryz.f26.body).1) (opsC := (cC Tryz.f26.body).2) (o1 := opAt (cB Tryz.f26.body).2 0) (o2 := opAt (cB Tryz.f26.body).2 1) (o3 := opAt (cC Tryz.f26.body).2 0)
  hmix Tryz.func26 (by kernel_rfl) (by kernel_rfl) ⟨by kernel_rfl, by kernel_rfl, by kernel_rfl⟩ ⟨by kernel_rfl, by kernel_rfl, by kernel_rfl⟩ (by kernel_rfl) ⟨by kernel_rfl, by kernel_rfl, by kernel_rfl⟩ (by kernel_rfl) (by kernel_rfl) (by kernel_rfl) (by kernel_rfl) (by kernel_rfl)
theorem grow_ok : GrowOK Tryz.prog 27 65 21 1000000 := by
 intro w n hn
 by_cases h0 : n = 0
 ·subst h0
  refine Calls.mono (Any8.slices_Grow_room Tryz.laysGrow none 0 0 0 w (by omega) (by omega) (by omega) (by omega)) ?_
  rintro e w' ⟨rfl, rfl⟩
  exact .inl ⟨rfl, rfl⟩
 ·obtain ⟨inf, hi, hz, hs, hb⟩ : ∃ inf : TypeInfo, Tryz.prog.info? 65 = some inf ∧ inf.zero.isSome = true ∧ inf.size = 21 ∧ inf.bytes ≤ 1000 := ⟨(Tryz.prog.info? 65).get (by kernel_rfl), by kernel_rfl, by kernel_rfl, by kernel_rfl, Nat.le_of_ble_eq_true (by kernel_rfl)⟩
  obtain ⟨z, hz⟩ := Option.isSome_iff_exists.1 hz
  have hzs : z.cells.size = 21 := by
   have h2 : (inf.zero.map fun z => z.cells.size) = some 21 := by
    have : ((Tryz.prog.info? 65).bind fun i => i.zero.map fun z => z.cells.size) = some 21 := by kernel_rfl
    rw [hi] at this
    exact this
   rw [hz] at h2
   exact Option.some.inj h2
  have hmul : (0 + n) * inf.bytes ≤ 140737488355328 := Nat.le_trans (Nat.mul_le_mul (show 0 + n ≤ 1000000 by omega) hb) (by decide)
  have hge := grownCap_ge w (0 + n) 0 65
  refine Calls.mono (Any8.slices_Grow_grow Tryz.laysGrow inf z hi hz (by omega) none 0 0 n [] w (by omega) (by omega) hmul (by omega) (by simp) (fun _ => rfl) (fun a h => by cases h)) ?_
  rintro e w' ⟨rfl, rfl⟩
  refine .inr ⟨_, _, rfl, rfl, ?_, ?_⟩
  ·show (#[] ++ Builtin.zeroCells z.cells (0 + n - 0) ++ Builtin.zeroCells z.cells (grownCap w (0 + n) 0 65 - (0 + n))).size = grownCap w (0 + n) 0 65 * 21
   simp only [Array.size_append, size_zeroCells, hzs]
   simp only [List.size_toArray, List.length_nil]
   omega
  ·exact grownCap_le_maxLen w _ _ _ (by unfold maxLen; omega)
def path16 : List Bool := [true, true, true, false]
noncomputable def reg16 : Nat × Array Oper := match subC path16 ((Tryz.f16.body).getD .skip) with
 | .region i ops _ => (i, ops)
 | _ => (0, #[])
noncomputable def call16 : Call := match (opAt reg16.2 1).op with
 | .call c => c
 | _ => { callee := .value (.tmp 0), args := #[], argTypes := #[] }
theorem tab64 : TabOK Tryz.prog T64 := by
 intro f m h
 unfold T64 at h
 split at h
 ·rename_i hf
  subst hf
  cases h
  exact ⟨Tryz.f64, Tryz.func64, .inl ⟨_, ok64⟩, by kernel_rfl⟩
 ·cases h
theorem good64 : GoodT Tryz.prog 64 m64n := by
 refine good_told Tryz.func64 (c := (Tryz.f64.body).getD .skip) (by kernel_rfl) (fun ds σ d ha => ?_)
 unfold soF at ha
 split at ha
 rotate_left
 ·cases ha
 rename_i i es o
 split at ha
 rotate_left
 ·cases ha
 rename_i h0
 rw [Option.map_eq_some_iff] at ha
 obtain ⟨b, hb, rfl⟩ := ha
 have hi0 : (i.toNat : Int) = i := Int.toNat_of_nonneg h0
 have hcall : callN T64 1 64 [.int .i64 i, .ref [.sl es o]] [] = some (.bool b, []) := by
  rw [← hi0]
  rcases atS_yes hb with ⟨h1, h2⟩ | ⟨h1, rfl⟩
  ·exact so_yes 0 es i.toNat b o h1 h2
  ·exact so_no 0 es i.toNat o h1
 refine ⟨rfl, rfl, fun g w vals hi _ hr hbase => ?_⟩
 have i0 : Inv Tryz.prog g w ⟨[], [], []⟩ σ { tmps := #[], defers := g.base } := ⟨hi, ⟨rfl, rfl, fun t d h => by simp at h, fun t cs h => by simp at h⟩, ⟨[], rfl, rfl, fun k x y h => by simp at h⟩⟩
 refine Calls.mono (call_pure (callN_ok hmix tab64 1).1 i0 rfl rfl hcall rfl hr) ?_
 rintro e w' ⟨v, rfl, g', e1, i1, r1, n1, o1⟩
 refine ⟨v, rfl, g', e1, ?_, r1, n1, o1⟩
 have := i1.h
 simpa using this
theorem good35 : GoodT Tryz.prog 35 m35n := goodT_insSp hmix _ Tryz.func35 ok35 (by kernel_rfl)
theorem good31 : GoodT Tryz.prog 31 m31n := goodT_putP hmix 34 [true, false] Tryz.func31 ok31 (by kernel_rfl)
theorem good16 : GoodT Tryz.prog 16 m16n := by
 refine goodT_put (new := .nat (NG 65 1000000)) hmix path16 Tryz.func16 ok16 (fun c hb => ?_) (by kernel_rfl)
 have hc : subC path16 c = .region reg16.1 reg16.2 false := by
  have : (Tryz.f16.body).getD .skip = c := by rw [hb]; rfl
  rw [← this]
  show _ = _
  kernel_rfl
 rw [hc]
 obtain ⟨inf, hi, hs⟩ : ∃ inf : TypeInfo, Tryz.prog.info? 65 = some inf ∧ inf.size = 21 := ⟨(Tryz.prog.info? 65).get (by kernel_rfl), by kernel_rfl, by kernel_rfl⟩
 refine concat_region (f := 27) (inf := inf) (mu := []) (ops' := reg16.2.toList) (o1 := opAt reg16.2 0) (o2 := opAt reg16.2 1) (o3 := opAt reg16.2 2) (c := call16) (by kernel_rfl) ⟨by kernel_rfl, by kernel_rfl, by kernel_rfl⟩ ⟨by kernel_rfl, by kernel_rfl, by kernel_rfl⟩ ⟨by kernel_rfl, by kernel_rfl⟩ ⟨by kernel_rfl, by kernel_rfl, by kernel_rfl⟩ ⟨Tryz.f27, (Tryz.f27.body).getD .skip, Tryz.func27, by kernel_rfl, by kernel_rfl⟩ hi (by omega) (by rw [hs]; exact grow_ok)
end Go.Abs.W
