/-
  A part of AnalyzeFew's proof.
-/
import Derived.Test.YthbfgdbbnapjeaaGreatSem
set_option linter.unusedVariables false
set_option linter.unusedSimpArgs false
namespace Go.Abs
open Go
noncomputable def getR (l : List D) : Nat → D := List.rec (motive := fun _ => Nat → D) (fun _ => .junk) (fun a _ ih n => Nat.rec (motive := fun _ => D) a (fun k _ => ih k) n) l
noncomputable def setR {α : Type} (d : α) (l : List α) : Nat → List α := List.rec (motive := fun _ => Nat → List α) (fun _ => []) (fun a t ih n => Nat.rec (motive := fun _ => List α) (d :: t) (fun k _ => a :: ih k) n) l
noncomputable def getB (l : List (Option (List D))) : Nat → Option (List D) := List.rec (motive := fun _ => Nat → Option (List D)) (fun _ => none) (fun a _ ih n => Nat.rec (motive := fun _ => Option (List D)) a (fun k _ => ih k) n) l
noncomputable def getO {α : Type} (l : List α) : Nat → Option α := List.rec (motive := fun _ => Nat → Option α) (fun _ => none) (fun a _ ih n => Nat.rec (motive := fun _ => Option α) (some a) (fun k _ => ih k) n) l
theorem getR_eq : ∀ (l : List D) (n : Nat), getR l n = l.getD n .junk
 | [], n => by cases n <;> rfl
 | a :: l, 0 => rfl
 | a :: l, n + 1 => (getR_eq l n).trans (by simp [List.getD_eq_getElem?_getD])
theorem setR_eq {α : Type} (d : α) : ∀ (l : List α) (n : Nat), setR d l n = l.set n d
 | [], n => by cases n <;> rfl
 | a :: l, 0 => rfl
 | a :: l, n + 1 => by
  show a :: setR d l n = _
  rw [setR_eq d l n]
  rfl
theorem getB_eq : ∀ (l : List (Option (List D))) (n : Nat), getB l n = (l[n]?).getD none
 | [], n => by cases n <;> rfl
 | a :: l, 0 => rfl
 | a :: l, n + 1 => (getB_eq l n).trans (by simp)
theorem getO_eq {α : Type} : ∀ (l : List α) (n : Nat), getO l n = l[n]?
 | [], n => by cases n <;> rfl
 | a :: l, 0 => rfl
 | a :: l, n + 1 => (getO_eq l n).trans (by simp)
noncomputable def Fr.atK (fr : Fr) (t : Nat) : D := getR fr.slots t
noncomputable def Fr.setK (fr : Fr) (t : Nat) (d : D) : Fr := ⟨setR d fr.slots t, fr.boxes, fr.defers⟩
noncomputable def Fr.setBoxK (fr : Fr) (t : Nat) (b : Option (List D)) : Fr := ⟨fr.slots, setR b fr.boxes t, fr.defers⟩
noncomputable def Fr.boxAtK (fr : Fr) (t : Nat) : Option (List D) := getB fr.boxes t
theorem atK_eq (fr : Fr) (t : Nat) : fr.atK t = fr.at t := getR_eq _ _
theorem setK_eq (fr : Fr) (t : Nat) (d : D) : fr.setK t d = fr.set t d := by simp only [Fr.setK, Fr.set, setR_eq]
theorem sBe (fr : Fr) (t : Nat) (b : Option (List D)) : fr.setBoxK t b = fr.setBox t b := by simp only [Fr.setBoxK, Fr.setBox, setR_eq]
theorem bAe (fr : Fr) (t : Nat) : fr.boxAtK t = fr.boxAt t := getB_eq _ _
def maskOf (keep : List Nat) : Nat := keep.foldl (fun m i => m ||| (1 <<< i)) 0
theorem maskOf_bit (keep : List Nat) (i : Nat) : (maskOf keep).testBit i = keep.contains i := by
 have key : ∀ (l : List Nat) (m : Nat), (l.foldl (fun m i => m ||| (1 <<< i)) m).testBit i = (m.testBit i || l.contains i) := by
  intro l
  induction l with
  | nil => intro m; simp
  | cons x l ih =>
   intro m
   rw [List.foldl_cons, ih]
   simp only [Nat.testBit_or, Nat.one_shiftLeft, Nat.testBit_two_pow, List.contains_cons, Bool.or_assoc]
   congr 2
   by_cases h : x = i
   ·subst h; simp
   ·have h2 : ¬ i = x := fun e => h e.symm
    simp [h, h2]
 have := key keep 0
 simpa [maskOf] using this
def keptDK (mask : Nat) : D → D
 | .lptr s off => bif mask.testBit s then .lptr s off else .junk
 | d => d
noncomputable def clearSK (mask : Nat) (l : List D) : Nat → List D := List.rec (motive := fun _ => Nat → List D) (fun _ => []) (fun d _ ih i => (bif mask.testBit i then keptDK mask d else .junk) :: ih (i + 1)) l
noncomputable def clearBK (mask : Nat) (l : List (Option (List D))) : Nat → List (Option (List D)) := List.rec (motive := fun _ => Nat → List (Option (List D))) (fun _ => []) (fun d _ ih i => (bif mask.testBit i then d else none) :: ih (i + 1)) l
theorem clearSK_eq (keep : List Nat) : ∀ (l : List D) (i : Nat), clearSK (maskOf keep) l i = clearS keep i l
 | [], _ => rfl
 | d :: l, i => by
  show (bif (maskOf keep).testBit i then keptDK (maskOf keep) d else .junk) :: clearSK (maskOf keep) l (i + 1) = _
  rw [clearSK_eq keep l (i + 1), maskOf_bit]
  simp only [clearS, cond_eq_ite]
  congr 2
  cases d <;> first | rfl | (simp only [keptDK, keptD, maskOf_bit, cond_eq_ite])
theorem clearBK_eq (keep : List Nat) : ∀ (l : List (Option (List D))) (i : Nat), clearBK (maskOf keep) l i = clearB keep i l
 | [], _ => rfl
 | d :: l, i => by
  show (bif (maskOf keep).testBit i then d else none) :: clearBK (maskOf keep) l (i + 1) = _
  rw [clearBK_eq keep l (i + 1), maskOf_bit]
  simp only [clearB, cond_eq_ite]
noncomputable def Fr.clearK (keep : List Nat) (fr : Fr) : Fr := ⟨clearSK (maskOf keep) fr.slots 0, clearBK (maskOf keep) fr.boxes 0, fr.defers⟩
theorem cKe (keep : List Nat) (fr : Fr) : fr.clearK keep = fr.clear keep := by simp only [Fr.clearK, Fr.clear, clearSK_eq, clearBK_eq]
noncomputable def setAtK {α : Type} (cs : List α) (off : Nat) : List α → List α
 | [] => cs
 | d :: ds => setAtK (setR d cs off) (off + 1) ds
theorem sae {α : Type} : ∀ (ds cs : List α) (off : Nat), setAtK cs off ds = setAt cs off ds
 | [], _, _ => rfl
 | d :: ds, cs, off => by
  show setAtK (setR d cs off) (off + 1) ds = _
  rw [sae ds, setR_eq]
  rfl
noncomputable def Fr.valK (fr : Fr) : X → D
 | .tmp t => (fr.atK t).strip
 | .const d => d.strip
theorem valK_eq (fr : Fr) (x : X) : fr.valK x = fr.val x := by
 first
  | (cases x <;> simp only [Fr.valK, Fr.val, atK_eq, setK_eq, bAe, sBe, atK_eq] <;> rfl)
  | (cases x <;> simp only [Fr.valK, Fr.val, atK_eq, setK_eq, bAe, sBe, atK_eq])
  | (simp only [Fr.valK, Fr.val, atK_eq, setK_eq, bAe, sBe, atK_eq, setR_eq]; rfl)
  | (simp only [Fr.valK, Fr.val, atK_eq, setK_eq, bAe, sBe, atK_eq, setR_eq])
noncomputable def Fr.argK (fr : Fr) : X → D
 | .tmp t => (fr.valK (.tmp t)).deep
 | .const d => d.strip
theorem argK_eq (fr : Fr) (x : X) : fr.argK x = fr.arg x := by
 first
  | (cases x <;> simp only [Fr.argK, Fr.arg, atK_eq, setK_eq, bAe, sBe, valK_eq] <;> rfl)
  | (cases x <;> simp only [Fr.argK, Fr.arg, atK_eq, setK_eq, bAe, sBe, valK_eq])
  | (simp only [Fr.argK, Fr.arg, atK_eq, setK_eq, bAe, sBe, valK_eq, setR_eq]; rfl)
  | (simp only [Fr.argK, Fr.arg, atK_eq, setK_eq, bAe, sBe, valK_eq, setR_eq])
noncomputable def Fr.takeK (fr : Fr) : X → D × Fr
 | .tmp t => (fr.atK t, fr.setK t (fr.atK t).strip)
 | .const d => (d, fr)
theorem tKe (fr : Fr) (x : X) : fr.takeK x = fr.take x := by
 first
  | (cases x <;> simp only [Fr.takeK, Fr.take, atK_eq, setK_eq, bAe, sBe, valK_eq, argK_eq] <;> rfl)
  | (cases x <;> simp only [Fr.takeK, Fr.take, atK_eq, setK_eq, bAe, sBe, valK_eq, argK_eq])
  | (simp only [Fr.takeK, Fr.take, atK_eq, setK_eq, bAe, sBe, valK_eq, argK_eq, setR_eq]; rfl)
  | (simp only [Fr.takeK, Fr.take, atK_eq, setK_eq, bAe, sBe, valK_eq, argK_eq, setR_eq])
noncomputable def Fr.newBoxK (fr : Fr) (t : Nat) (cs : List D) : Fr :=
 match fr.boxAtK t with
 | none => fr.setBoxK t (some cs)
 | some _ => { fr with slots := fr.slots.map (killL t), boxes := fr.boxes.set t (some cs) }
theorem nBe (fr : Fr) (t : Nat) (cs : List D) : fr.newBoxK t cs = fr.newBox t cs := by
 first
  | (cases x <;> simp only [Fr.newBoxK, Fr.newBox, atK_eq, setK_eq, bAe, sBe, valK_eq, argK_eq, tKe] <;> rfl)
  | (cases x <;> simp only [Fr.newBoxK, Fr.newBox, atK_eq, setK_eq, bAe, sBe, valK_eq, argK_eq, tKe])
  | (simp only [Fr.newBoxK, Fr.newBox, atK_eq, setK_eq, bAe, sBe, valK_eq, argK_eq, tKe, setR_eq]; rfl)
  | (simp only [Fr.newBoxK, Fr.newBox, atK_eq, setK_eq, bAe, sBe, valK_eq, argK_eq, tKe, setR_eq])
noncomputable def Fr.promoteK (fr : Fr) (σ : St) (t : Nat) : Option (Fr × St) :=
 match fr.boxAtK t with
 | some cs => some ({ fr with slots := fr.slots.map (relinkL t σ.length), boxes := fr.boxes.set t none }, σ ++ [.cells cs])
 | none => none
theorem pKe (fr : Fr) (σ : St) (t : Nat) : fr.promoteK σ t = fr.promote σ t := by
 first
  | (cases x <;> simp only [Fr.promoteK, Fr.promote, atK_eq, setK_eq, bAe, sBe, valK_eq, argK_eq, tKe, nBe] <;> rfl)
  | (cases x <;> simp only [Fr.promoteK, Fr.promote, atK_eq, setK_eq, bAe, sBe, valK_eq, argK_eq, tKe, nBe])
  | (simp only [Fr.promoteK, Fr.promote, atK_eq, setK_eq, bAe, sBe, valK_eq, argK_eq, tKe, nBe, setR_eq]; rfl)
  | (simp only [Fr.promoteK, Fr.promote, atK_eq, setK_eq, bAe, sBe, valK_eq, argK_eq, tKe, nBe, setR_eq])
noncomputable def Fr.ownPK (fr : Fr) (σ : St) (x : X) : Option (Fr × St) :=
 match fr.valK x with
 | .lptr s _ => fr.promoteK σ s
 | _ => some (fr, σ)
theorem ownPK_eq (fr : Fr) (σ : St) (x : X) : fr.ownPK σ x = fr.ownP σ x := by
 first
  | (cases x <;> simp only [Fr.ownPK, Fr.ownP, atK_eq, setK_eq, bAe, sBe, valK_eq, argK_eq, tKe, nBe, pKe] <;> rfl)
  | (cases x <;> simp only [Fr.ownPK, Fr.ownP, atK_eq, setK_eq, bAe, sBe, valK_eq, argK_eq, tKe, nBe, pKe])
  | (simp only [Fr.ownPK, Fr.ownP, atK_eq, setK_eq, bAe, sBe, valK_eq, argK_eq, tKe, nBe, pKe, setR_eq]; rfl)
  | (simp only [Fr.ownPK, Fr.ownP, atK_eq, setK_eq, bAe, sBe, valK_eq, argK_eq, tKe, nBe, pKe, setR_eq])
noncomputable def Fr.promoteXK (fr : Fr) (σ : St) : X → Option (D × Fr × St)
 | .const d => some (d.strip, fr, σ)
 | .tmp t =>
  match fr.atK t with
  | .lptr s off => (fr.promoteK σ s).map fun (fr', σ') => (.ptr σ.length off, fr', σ')
  | d => some (d.deep, fr, σ)
theorem pXe (fr : Fr) (σ : St) (x : X) : fr.promoteXK σ x = fr.promoteX σ x := by
 first
  | (cases x <;> simp only [Fr.promoteXK, Fr.promoteX, atK_eq, setK_eq, bAe, sBe, valK_eq, argK_eq, tKe, nBe, pKe, ownPK_eq] <;> rfl)
  | (cases x <;> simp only [Fr.promoteXK, Fr.promoteX, atK_eq, setK_eq, bAe, sBe, valK_eq, argK_eq, tKe, nBe, pKe, ownPK_eq])
  | (simp only [Fr.promoteXK, Fr.promoteX, atK_eq, setK_eq, bAe, sBe, valK_eq, argK_eq, tKe, nBe, pKe, ownPK_eq, setR_eq]; rfl)
  | (simp only [Fr.promoteXK, Fr.promoteX, atK_eq, setK_eq, bAe, sBe, valK_eq, argK_eq, tKe, nBe, pKe, ownPK_eq, setR_eq])
noncomputable def Fr.promoteAllK (fr : Fr) (σ : St) : List X → Option (List D × Fr × St)
 | [] => some ([], fr, σ)
 | x :: xs =>
  match fr.promoteXK σ x with
  | some (d, fr, σ) => (Fr.promoteAllK fr σ xs).map fun (ds, r) => (d :: ds, r)
  | none => none
theorem pAe : ∀ (xs : List X) (fr : Fr) (σ : St), fr.promoteAllK σ xs = fr.promoteAll σ xs
 | [], _, _ => rfl
 | x :: xs, fr, σ => by
  simp only [Fr.promoteAllK, Fr.promoteAll, pXe, pAe xs]
  rfl
noncomputable def cellsAtK (fr : Fr) (σ : St) : D → Option (List D)
 | .ref cs => some cs
 | .lptr t off => (fr.boxAtK t).map (·.drop off)
 | .ptr o off =>
  match (getO σ (o)) with
  | some (.cells cs) => some (cs.drop off)
  | _ => none
 | _ => none
theorem cAe (fr : Fr) (σ : St) (d : D) : cellsAtK fr σ d = cellsAt fr σ d := by
 first
  | (cases d <;> simp only [cellsAtK, cellsAt, valK_eq, argK_eq, tKe, nBe, pKe, ownPK_eq, pXe, getO_eq, sae, atK_eq, setK_eq, bAe, sBe] <;> rfl)
  | (cases d <;> simp only [cellsAtK, cellsAt, valK_eq, argK_eq, tKe, nBe, pKe, ownPK_eq, pXe, getO_eq, sae, atK_eq, setK_eq, bAe, sBe])
noncomputable def storeAtK (fr : Fr) (σ : St) (a : D) (ds : List D) : Option (Fr × St) :=
 match a with
 | .lptr t off =>
  match fr.boxAtK t with
  | some cs => if off + ds.length ≤ cs.length then some (fr.setBoxK t (some (setAtK cs off ds)), σ) else none
  | none => none
 | .ptr o off =>
  match (getO σ (o)) with
  | some (.cells cs) => if off + ds.length ≤ cs.length then some (fr, σ.set o (.cells (setAtK cs off ds))) else none
  | _ => none
 | _ => none
theorem sAe (fr : Fr) (σ : St) (a : D) (ds : List D) : storeAtK fr σ a ds = storeAt fr σ a ds := by
 first
  | (cases a <;> simp only [storeAtK, storeAt, valK_eq, argK_eq, tKe, nBe, pKe, ownPK_eq, pXe, cAe, getO_eq, sae, atK_eq, setK_eq, bAe, sBe] <;> rfl)
  | (cases a <;> simp only [storeAtK, storeAt, valK_eq, argK_eq, tKe, nBe, pKe, ownPK_eq, pXe, cAe, getO_eq, sae, atK_eq, setK_eq, bAe, sBe])
noncomputable def mapOfK (σ : St) (o : Nat) : Option (List (D × D)) :=
 match (getO σ (o)) with
 | some (.map es) => some es
 | some (.mapR es) => some es
 | _ => none
theorem mOe (σ : St) (o : Nat) : mapOfK σ o = mapOf σ o := by
 first
  | (simp only [mapOfK, mapOf, valK_eq, argK_eq, tKe, nBe, pKe, ownPK_eq, pXe, cAe, sAe, getO_eq, sae, atK_eq, setK_eq, bAe, sBe] <;> rfl)
  | (simp only [mapOfK, mapOf, valK_eq, argK_eq, tKe, nBe, pKe, ownPK_eq, pXe, cAe, sAe, getO_eq, sae, atK_eq, setK_eq, bAe, sBe])
noncomputable def Fr.optValK (fr : Fr) : Option X → Option D
 | none => none
 | some x => some (fr.valK x)
theorem oVe (fr : Fr) (x : Option X) : fr.optValK x = fr.optVal x := by
 first
  | (cases x <;> simp only [Fr.optValK, Fr.optVal, valK_eq, argK_eq, tKe, nBe, pKe, ownPK_eq, pXe, cAe, sAe, mOe, getO_eq, sae, atK_eq, setK_eq, bAe, sBe] <;> rfl)
  | (cases x <;> simp only [Fr.optValK, Fr.optVal, valK_eq, argK_eq, tKe, nBe, pKe, ownPK_eq, pXe, cAe, sAe, mOe, getO_eq, sae, atK_eq, setK_eq, bAe, sBe])
noncomputable def Fr.putK (fr : Fr) (dst : Option Nat) (d : D) : Fr :=
 match dst with
 | some t => fr.setK t d
 | none => fr
theorem putK_eq (fr : Fr) (x : Option Nat) (d : D) : fr.putK x d = fr.put x d := by
 first
  | (cases x <;> simp only [Fr.putK, Fr.put, valK_eq, argK_eq, tKe, nBe, pKe, ownPK_eq, pXe, cAe, sAe, mOe, oVe, getO_eq, sae, atK_eq, setK_eq, bAe, sBe] <;> rfl)
  | (cases x <;> simp only [Fr.putK, Fr.put, valK_eq, argK_eq, tKe, nBe, pKe, ownPK_eq, pXe, cAe, sAe, mOe, oVe, getO_eq, sae, atK_eq, setK_eq, bAe, sBe])
noncomputable def wantedDK (fr : Fr) : Option (Nat × Bool) → Option Bool
 | none => some true
 | some (t, want) =>
  match fr.atK t with
  | .bool b => some (b == want)
  | .undef => some false
  | _ => none
theorem wDe (fr : Fr) (x : Option (Nat × Bool)) : wantedDK fr x = wantedD fr x := by
 first
  | (cases x <;> simp only [wantedDK, wantedD, valK_eq, argK_eq, tKe, nBe, pKe, ownPK_eq, pXe, cAe, sAe, mOe, oVe, putK_eq, getO_eq, sae, atK_eq, setK_eq, bAe, sBe] <;> rfl)
  | (cases x <;> simp only [wantedDK, wantedD, valK_eq, argK_eq, tKe, nBe, pKe, ownPK_eq, pXe, cAe, sAe, mOe, oVe, putK_eq, getO_eq, sae, atK_eq, setK_eq, bAe, sBe])
noncomputable def isItK (R : MRange) (n0 : Nat) (fr : Fr) : Bool :=
 match fr.valK (.tmp R.it) with
 | .ptr n 0 => n == n0
 | _ => false
theorem isItK_eq (R : MRange) (n0 : Nat) (fr : Fr) : isItK R n0 fr = isIt R n0 fr := by
 first
  | (simp only [isItK, isIt, valK_eq, argK_eq, tKe, nBe, pKe, ownPK_eq, pXe, cAe, sAe, mOe, oVe, putK_eq, wDe, getO_eq, sae, atK_eq, setK_eq, bAe, sBe] <;> rfl)
  | (simp only [isItK, isIt, valK_eq, argK_eq, tKe, nBe, pKe, ownPK_eq, pXe, cAe, sAe, mOe, oVe, putK_eq, wDe, getO_eq, sae, atK_eq, setK_eq, bAe, sBe])
noncomputable def kv_move (x : X) (steal : Bool) (cal : Cal) (quiet : Bool) (dst : Option Nat) (fr : Fr) (σ : St) : Option (D × Fr × St) :=
  if steal then let (d, fr) := fr.takeK x; some (d, fr, σ) else some (fr.valK x, fr, σ)
noncomputable def kv_assign (x : X) (cal : Cal) (quiet : Bool) (dst : Option Nat) (fr : Fr) (σ : St) : Option (D × Fr × St) := let (d, fr) := fr.takeK x; some (d, fr, σ)
noncomputable def kv_pick (c : X) (a : X) (b : X) (cal : Cal) (quiet : Bool) (dst : Option Nat) (fr : Fr) (σ : St) : Option (D × Fr × St) :=
  match fr.valK c with
  | .bool true => some (fr.valK a, fr, σ)
  | .bool false => some (fr.valK b, fr, σ)
  | _ => none
noncomputable def kv_alloc (zero : List D) (cal : Cal) (quiet : Bool) (dst : Option Nat) (fr : Fr) (σ : St) : Option (D × Fr × St) :=
  match dst with
  | some t => some (.lptr t 0, fr.newBoxK t zero, σ)
  | none => none
noncomputable def kv_box (x : X) (cal : Cal) (quiet : Bool) (dst : Option Nat) (fr : Fr) (σ : St) : Option (D × Fr × St) :=
  match dst with
  | some t =>
   let cs := (fr.valK x).cells
   if cs.all D.plain then some (.lptr t 0, fr.newBoxK t (fr.valK x).raw, σ) else none
  | none => none
noncomputable def kv_build (zero : List D) (parts : List (Nat × Nat × X)) (cal : Cal) (quiet : Bool) (dst : Option Nat) (fr : Fr) (σ : St) : Option (D × Fr × St) := (fillD zero (parts.map fun (o, s, x) => (o, s, fr.valK x))).map fun cs => (.agg cs, fr, σ)
noncomputable def kv_buildSlice (e : Nat) (esz : Nat) (n : Nat) (zero : List D) (parts : List (Nat × X)) (cal : Cal) (quiet : Bool) (dst : Option Nat) (fr : Fr) (σ : St) : Option (D × Fr × St) :=
  (fillE (List.replicate n zero) esz (parts.map fun (i, x) => (i, fr.valK x))).map fun es => (.sl es (some e), fr, σ)
noncomputable def kv_load (agg : Bool) (size : Nat) (a : X) (steal : Bool) (cal : Cal) (quiet : Bool) (dst : Option Nat) (fr : Fr) (σ : St) : Option (D × Fr × St) :=
  match cellsAtK fr σ (fr.valK a) with
  | none => none
  | some cs =>
   if agg then (if size ≤ cs.length then some (.agg ((cs.take size).map D.strip), fr, σ) else none)
   else match cs with
    | [] => none
    | d :: _ =>
     if steal then (storeAtK fr σ (fr.valK a) [d.strip]).map fun (fr, σ) => (d, fr, σ)
     else some (d.strip, fr, σ)
noncomputable def kv_store (size : Nat) (a : X) (x : X) (cal : Cal) (quiet : Bool) (dst : Option Nat) (fr : Fr) (σ : St) : Option (D × Fr × St) :=
  let (d, fr') := fr.takeK x
  if d.cells.length = size ∧ d.cells.all D.plain then (storeAtK fr' σ (fr.valK a) d.raw).map fun (fr, σ) => (.junk, fr, σ) else none
noncomputable def kv_nilCheck (x : X) (cal : Cal) (quiet : Bool) (dst : Option Nat) (fr : Fr) (σ : St) : Option (D × Fr × St) :=
  match fr.valK x with
  | .ptr o off => some (.ptr o off, fr, σ)
  | .lptr t off => some (.lptr t off, fr, σ)
  | .ref cs => some (.ref cs, fr, σ)
  | _ => none
noncomputable def kv_bin (op : BinOp) (x : X) (y : X) (cal : Cal) (quiet : Bool) (dst : Option Nat) (fr : Fr) (σ : St) : Option (D × Fr × St) := (binD op (fr.valK x) (fr.valK y)).map (·, fr, σ)
noncomputable def kv_eqb (neg : Bool) (x : X) (y : X) (cal : Cal) (quiet : Bool) (dst : Option Nat) (fr : Fr) (σ : St) : Option (D × Fr × St) := (eqbD neg (fr.valK x) (fr.valK y)).map (·, fr, σ)
noncomputable def kv_eqn (neg : Bool) (x : X) (cal : Cal) (quiet : Bool) (dst : Option Nat) (fr : Fr) (σ : St) : Option (D × Fr × St) := (eqnD neg (fr.valK x)).map (·, fr, σ)
noncomputable def kv_eqA (n : Nat) (neg : Bool) (x : X) (y : X) (cal : Cal) (quiet : Bool) (dst : Option Nat) (fr : Fr) (σ : St) : Option (D × Fr × St) := (eqaD n neg (fr.valK x) (fr.valK y)).map (·, fr, σ)
noncomputable def kv_un (op : UnOp) (x : X) (cal : Cal) (quiet : Bool) (dst : Option Nat) (fr : Fr) (σ : St) : Option (D × Fr × St) := (unD op (fr.valK x)).map (·, fr, σ)
noncomputable def kv_conv (k : IntKind) (x : X) (cal : Cal) (quiet : Bool) (dst : Option Nat) (fr : Fr) (σ : St) : Option (D × Fr × St) :=
  match fr.valK x with
  | .int _ n => some (.int k (k.wrap n), fr, σ)
  | _ => none
noncomputable def kv_mkfunc (f : Nat) (caps : List X) (cal : Cal) (quiet : Bool) (dst : Option Nat) (fr : Fr) (σ : St) : Option (D × Fr × St) := (fr.promoteAllK σ caps).map fun (ds, fr, σ) => (.func f ds, fr, σ)
noncomputable def kv_mkmap  (cal : Cal) (quiet : Bool) (dst : Option Nat) (fr : Fr) (σ : St) : Option (D × Fr × St) := some (.map σ.length, fr, σ ++ [.map []])
noncomputable def kv_mkslice (esz : Nat) (bytes : Nat) (zero : List D) (len : X) (cap : X) (cal : Cal) (quiet : Bool) (dst : Option Nat) (fr : Fr) (σ : St) : Option (D × Fr × St) :=
  match fr.valK len, fr.valK cap with
  | .int .i64 n, .int .i64 c =>
   if 0 ≤ n ∧ n = c ∧ n * bytes ≤ 140737488355328 ∧ n < 4611686018427387904 then
    some (.msl σ.length 0 n.toNat esz, fr, σ ++ [.cells (List.replicate n.toNat zero).flatten])
   else none
  | _, _ => none
noncomputable def kv_slice (esz : Nat) (x : X) (lo : Option X) (hi : Option X) (cal : Cal) (quiet : Bool) (dst : Option Nat) (fr : Fr) (σ : St) : Option (D × Fr × St) :=
  match fr.valK x with
  | .sl es _ =>
   match loD (fr.optValK lo), hiD es.length (fr.optValK hi) with
   | some l, some h => if l ≤ h ∧ h ≤ es.length ∧ (es.all fun e => e.length == esz) then some (.sl ((es.drop l).take (h - l)) none, fr, σ) else none
   | _, _ => none
  | .msl o off n esz' =>
   match loD (fr.optValK lo), hiD n (fr.optValK hi) with
   | some l, some h =>
    if l ≤ h ∧ h ≤ n ∧ esz' = esz then (if l = n ∧ 0 < l then some (.sl [] none, fr, σ) else some (.msl o (off + l * esz) (h - l) esz, fr, σ)) else none
   | _, _ => none
  | _ => none
noncomputable def kv_sliceStr (x : X) (lo : Option X) (hi : Option X) (cal : Cal) (quiet : Bool) (dst : Option Nat) (fr : Fr) (σ : St) : Option (D × Fr × St) :=
  match fr.valK x with
  | .str s =>
   match loD (fr.optValK lo), hiD s.length (fr.optValK hi) with
   | some l, some h => if l ≤ h ∧ h ≤ s.length then some (.str ((s.drop l).take (h - l)), fr, σ) else none
   | _, _ => none
  | _ => none
noncomputable def kv_fieldAddr (off : Nat) (x : X) (cal : Cal) (quiet : Bool) (dst : Option Nat) (fr : Fr) (σ : St) : Option (D × Fr × St) :=
  match fr.valK x with
  | .ref cs => some (.ref (cs.drop off), fr, σ)
  | .lptr t o => some (.lptr t (o + off), fr, σ)
  | .ptr o a => some (.ptr o (a + off), fr, σ)
  | _ => none
noncomputable def kv_field (agg : Bool) (off : Nat) (size : Nat) (x : X) (cal : Cal) (quiet : Bool) (dst : Option Nat) (fr : Fr) (σ : St) : Option (D × Fr × St) :=
  match fr.valK x with
  | .agg cs =>
   if agg then (if off + size ≤ cs.length then some (.agg ((cs.drop off).take size), fr, σ) else none)
   else (cs[off]?).map (·.strip, fr, σ)
  | _ => none
noncomputable def kv_indexAddr (esz : Nat) (x : X) (i : X) (cal : Cal) (quiet : Bool) (dst : Option Nat) (fr : Fr) (σ : St) : Option (D × Fr × St) :=
  match intOf? (fr.valK i) with
  | none => none
  | some i =>
   if 0 ≤ i then
    match fr.valK x with
    | .sl es _ =>
     match es[i.toNat]? with
     | some e => if e.length = esz then some (.ref e, fr, σ) else none
     | none => none
    | .msl o off n esz' => if i < n ∧ esz' = esz then some (.ptr o (off + i.toNat * esz), fr, σ) else none
    | _ => none
   else none
noncomputable def kv_indexArr (ad : Bool) (agg : Bool) (len : Nat) (esz : Nat) (x : X) (i : X) (cal : Cal) (quiet : Bool) (dst : Option Nat) (fr : Fr) (σ : St) : Option (D × Fr × St) :=
  match intOf? (fr.valK i) with
  | none => none
  | some i =>
   if 0 ≤ i ∧ i < len then
    if ad then
     match fr.valK x with
     | .lptr t o => some (.lptr t (o + i.toNat * esz), fr, σ)
     | .ptr o a => some (.ptr o (a + i.toNat * esz), fr, σ)
     | _ => none
    else
     match fr.valK x with
     | .agg cs =>
      if agg then (if (i.toNat + 1) * esz ≤ cs.length then some (.agg ((cs.drop (i.toNat * esz)).take esz), fr, σ) else none)
      else if esz = 1 then (cs[i.toNat]?).map (·.strip, fr, σ) else none
     | _ => none
   else none
noncomputable def kv_lookup (kk : Nat) (agg : Bool) (zero : List D) (x : X) (i : X) (ok : Bool) (cal : Cal) (quiet : Bool) (dst : Option Nat) (fr : Fr) (σ : St) : Option (D × Fr × St) :=
  match fr.valK x with
  | .map o =>
   match mapOfK σ o with
   | some es =>
    if keyD kk (fr.valK i) then
     match findKey kk (fr.valK i) es with
     | some (some v) => some (if ok then .tup [v, .bool true] else v, fr, σ)
     | some none =>
      match zero with
      | z :: rest =>
       if agg then some (if ok then .tup [.agg (z :: rest), .bool false] else .agg (z :: rest), fr, σ)
       else if rest.isEmpty then some (if ok then .tup [z.strip, .bool false] else z.strip, fr, σ) else none
      | [] => none
     | none => none
    else none
   | _ => none
  | _ => none
noncomputable def kv_mapUpdate (kk : Nat) (m : X) (k : X) (x : X) (cal : Cal) (quiet : Bool) (dst : Option Nat) (fr : Fr) (σ : St) : Option (D × Fr × St) :=
  match fr.valK m with
  | .map o =>
   match (getO σ (o)) with
   | some (.map es) =>
    if keyD kk (fr.valK k) ∧ (fr.valK x).notL then (putKey kk (fr.valK k) (fr.valK x) es).map fun es => (.junk, fr, σ.set o (.map es)) else none
   | _ => none
  | _ => none
noncomputable def kv_mapUpdateP (kk : Nat) (m : X) (k : X) (x : X) (cal : Cal) (quiet : Bool) (dst : Option Nat) (fr : Fr) (σ : St) : Option (D × Fr × St) :=
  match fr.ownPK σ x with
  | none => none
  | some (fr, σ) =>
   match fr.valK m with
   | .map o =>
    match (getO σ (o)) with
    | some (.map es) =>
     if keyD kk (fr.valK k) ∧ (fr.valK x).notL then (putKey kk (fr.valK k) (fr.valK x) es).map fun es => (.junk, fr, σ.set o (.map es)) else none
    | _ => none
   | _ => none
noncomputable def kv_extract (x : X) (i : Nat) (cal : Cal) (quiet : Bool) (dst : Option Nat) (fr : Fr) (σ : St) : Option (D × Fr × St) :=
  match fr.valK x with
  | .tup vs => (vs[i]?).map (·.strip, fr, σ)
  | _ => none
noncomputable def kv_len (kind : Nat) (x : X) (cal : Cal) (quiet : Bool) (dst : Option Nat) (fr : Fr) (σ : St) : Option (D × Fr × St) :=
 match kind with
 | 0 =>
  match fr.valK x with
  | .sl es _ => some (.int .i64 es.length, fr, σ)
  | .msl _ _ n _ => some (.int .i64 n, fr, σ)
  | _ => none
 | 1 =>
  match fr.valK x with
  | .str s => some (.int .i64 s.length, fr, σ)
  | _ => none
 | _ =>
  match fr.valK x with
  | .map o =>
   match mapOfK σ o with
   | some es => some (.int .i64 es.length, fr, σ)
   | _ => none
  | _ => none
noncomputable def kv_append (e : Nat) (esz : Nat) (bytes : Nat) (mutable : Bool) (x : X) (y : X) (cal : Cal) (quiet : Bool) (dst : Option Nat) (fr : Fr) (σ : St) : Option (D × Fr × St) :=
  match elems σ (fr.valK y) with
  | none => none
  | some ys =>
   if (ys.all fun y => y.length == esz) then
    if mutable then
     match fr.valK x with
     | .msl o off n esz' =>
      match (getO σ (o)), (getO σ (o + 1)) with
      | some (.cells cs), some (.row e') =>
       if esz' = esz ∧ off = 0 ∧ e' = e ∧ 0 < ys.length ∧ n * esz ≤ cs.length ∧ (cs.take (n * esz)).all calm1 ∧ ys.flatten.all calm1 ∧ (n + ys.length) * bytes ≤ room ∧ n + ys.length < 4611686018427387904 then
        some (.msl σ.length 0 (n + ys.length) esz, fr, σ.set o .dead ++ [.cells (cs.take (n * esz) ++ ys.flatten), .row e])
       else none
      | _, _ => none
     | .sl [] _ =>
      match fr.takeK x with
      | (.sl [] (some e'), fr) =>
       if e' = e ∧ 0 < ys.length ∧ ys.flatten.all calm1 ∧ ys.length * bytes ≤ room ∧ ys.length < 4611686018427387904 then some (.msl σ.length 0 ys.length esz, fr, σ ++ [.cells ys.flatten, .row e]) else none
      | _ => none
     | _ => none
    else
     let (d, fr) := fr.takeK x
     match d with
     | .sl xs (some e') =>
      if e' = e ∧ (xs.length + ys.length) * bytes ≤ room ∧ xs.length + ys.length < 4611686018427387904 then some (.sl (xs ++ ys) (some e), fr, σ) else none
     | _ => none
   else none
noncomputable def kv_max (xs : List X) (cal : Cal) (quiet : Bool) (dst : Option Nat) (fr : Fr) (σ : St) : Option (D × Fr × St) :=
  match xs.map fr.valK with
  | d :: ds => (maxD d ds).map (·, fr, σ)
  | [] => none
noncomputable def kv_min (xs : List X) (cal : Cal) (quiet : Bool) (dst : Option Nat) (fr : Fr) (σ : St) : Option (D × Fr × St) :=
  match xs.map fr.valK with
  | d :: ds => (minD d ds).map (·, fr, σ)
  | [] => none
noncomputable def kv_bad  (cal : Cal) (quiet : Bool) (dst : Option Nat) (fr : Fr) (σ : St) : Option (D × Fr × St) := none
noncomputable def kv_call (f : Nat) (args : List X) (cal : Cal) (quiet : Bool) (dst : Option Nat) (fr : Fr) (σ : St) : Option (D × Fr × St) :=
  if quiet then (doCallQ cal f (args.map fun x => (fr.valK x).deep) σ).map fun r => (r, fr, σ) else
  match fr.promoteAllK σ args with
  | none => none
  | some (ds, fr, σ) => (doCall cal f ds σ).map fun (r, σ) => (r, fr, σ)
noncomputable def kv_callv (x : X) (args : List X) (cal : Cal) (quiet : Bool) (dst : Option Nat) (fr : Fr) (σ : St) : Option (D × Fr × St) :=
  match fr.valK x with
  | .func f caps =>
   if quiet then (doCallQ cal f ((args.map fun x => (fr.valK x).deep) ++ caps) σ).map fun r => (r, fr, σ) else
   match fr.promoteAllK σ args with
   | none => none
   | some (ds, fr, σ) => (doCall cal f (ds ++ caps) σ).map fun (r, σ) => (r, fr, σ)
  | _ => none
noncomputable def kv_defer (x : X) (args : List X) (cal : Cal) (quiet : Bool) (dst : Option Nat) (fr : Fr) (σ : St) : Option (D × Fr × St) :=
  match fr.valK x with
  | .func f caps =>
   match fr.promoteAllK σ args with
   | none => none
   | some (ds, fr, σ) => some (.junk, { fr with defers := (.func f caps, ds) :: fr.defers }, σ)
  | _ => none
noncomputable def kv_loadA (t : Nat) (agg : Bool) (size : Nat) (a : X) (cal : Cal) (quiet : Bool) (dst : Option Nat) (fr : Fr) (σ : St) : Option (D × Fr × St) :=
  if (fr.valK a).inBox t then none else
  match cellsAtK fr σ (fr.valK a) with
  | none => none
  | some cs =>
   if agg then (if size ≤ cs.length then some (.agg ((cs.take size).map D.strip), fr, σ) else none)
   else match cs with
    | [] => none
    | d :: _ => some (d.strip, fr, σ)
noncomputable def kv_loadL (agg : Bool) (size : Nat) (a : X) (cal : Cal) (quiet : Bool) (dst : Option Nat) (fr : Fr) (σ : St) : Option (D × Fr × St) :=
  if okL (fr.valK a) then
   match cellsAtK fr σ (fr.valK a) with
   | none => none
   | some cs =>
    if agg then (if size ≤ cs.length then some (.agg ((cs.take size).map D.strip), fr, σ) else none)
    else match cs with
     | [] => none
     | d :: _ => some (d.strip, fr, σ)
  else none
noncomputable def kv_storeR (size : Nat) (t : Nat) (x : X) (cal : Cal) (quiet : Bool) (dst : Option Nat) (fr : Fr) (σ : St) : Option (D × Fr × St) :=
  if (fr.valK (.tmp t)).inBox t then
   let (d, fr') := fr.takeK x
   if d.cells.length = size ∧ d.cells.all D.plain then (storeAtK fr' σ (fr.valK (.tmp t)) d.raw).map fun (fr, σ) => (.junk, fr, σ) else none
  else none
noncomputable def kv_allocR (zero : List D) (cal : Cal) (quiet : Bool) (dst : Option Nat) (fr : Fr) (σ : St) : Option (D × Fr × St) :=
  match dst with
  | some t => if (fr.boxAtK t).isNone then some (.lptr t 0, fr.setBoxK t (some zero), σ) else none
  | none => none
noncomputable def kv_callS (f : Nat) (args : List X) (cal : Cal) (quiet : Bool) (dst : Option Nat) (fr : Fr) (σ : St) : Option (D × Fr × St) :=
  if (args.map fr.argK).all D.notL then (doCall cal f (args.map fr.argK) σ).map fun (r, σ) => (r, fr, σ) else none
noncomputable def kv_indexStr (x : X) (i : X) (cal : Cal) (quiet : Bool) (dst : Option Nat) (fr : Fr) (σ : St) : Option (D × Fr × St) :=
  match intOf? (fr.valK i) with
  | none => none
  | some i =>
   if 0 ≤ i then
    match fr.valK x with
    | .str s => (s[i.toNat]?).map fun b => (.int .u8 (b.toNat : Int), fr, σ)
    | _ => none
   else none
noncomputable def kv_delete (kk : Nat) (m : X) (k : X) (cal : Cal) (quiet : Bool) (dst : Option Nat) (fr : Fr) (σ : St) : Option (D × Fr × St) :=
  match fr.valK m with
  | .map o =>
   match (getO σ (o)) with
   | some (.map es) =>
    if keyD kk (fr.valK k) then (delKey kk (fr.valK k) es).map fun es => (.junk, fr, σ.set o (.map es)) else none
   | _ => none
  | _ => none
noncomputable def kv_callM (f : Nat) (args : List X) (cal : Cal) (quiet : Bool) (dst : Option Nat) (fr : Fr) (σ : St) : Option (D × Fr × St) :=
  match fr.promoteAllK σ args with
  | none => none
  | some (ds, fr, σ) => if ds.all D.notL then (cal f ds σ).map fun (r, σ) => (r, fr, σ) else none
noncomputable def kv_loadB (t : Nat) (agg : Bool) (size : Nat) (a : X) (cal : Cal) (quiet : Bool) (dst : Option Nat) (fr : Fr) (σ : St) : Option (D × Fr × St) :=
  if (fr.valK a).inBox t then none else
  if okL (fr.valK a) then
   match cellsAtK fr σ (fr.valK a) with
   | none => none
   | some cs =>
    if agg then (if size ≤ cs.length then some (.agg ((cs.take size).map D.strip), fr, σ) else none)
    else match cs with
     | [] => none
     | d :: _ => some (d.strip, fr, σ)
  else none
noncomputable def kv_loadP (agg : Bool) (size : Nat) (a : X) (cal : Cal) (quiet : Bool) (dst : Option Nat) (fr : Fr) (σ : St) : Option (D × Fr × St) :=
  if okP (fr.valK a) then
   match cellsAtK fr σ (fr.valK a) with
   | none => none
   | some cs =>
    if agg then (if size ≤ cs.length then some (.agg ((cs.take size).map D.strip), fr, σ) else none)
    else match cs with
     | [] => none
     | d :: _ => some (d.strip, fr, σ)
  else none
noncomputable def kv_loadT (agg : Bool) (size : Nat) (a : X) (cal : Cal) (quiet : Bool) (dst : Option Nat) (fr : Fr) (σ : St) : Option (D × Fr × St) :=
  if okT (fr.valK a) then
   match cellsAtK fr σ (fr.valK a) with
   | none => none
   | some cs =>
    if agg then (if size ≤ cs.length then some (.agg ((cs.take size).map D.strip), fr, σ) else none)
    else match cs with
     | [] => none
     | d :: _ => (storeAtK fr σ (fr.valK a) [d.strip]).map fun (fr, σ) => (d, fr, σ)
  else none
noncomputable def kv_loadK (t : Nat) (off : Nat) (_ : Nat) (a : X) (cal : Cal) (quiet : Bool) (dst : Option Nat) (fr : Fr) (σ : St) : Option (D × Fr × St) :=
  if okK t off (fr.valK a) then
   match cellsAtK fr σ (fr.valK a) with
   | none => none
   | some cs =>
    match cs with
     | [] => none
     | d :: _ => (storeAtK fr σ (fr.valK a) [d.strip]).map fun (fr, σ) => (d, fr, σ)
  else none
noncomputable def kv_callvS (x : X) (args : List X) (cal : Cal) (quiet : Bool) (dst : Option Nat) (fr : Fr) (σ : St) : Option (D × Fr × St) :=
  match fr.valK x with
  | .func f caps => if (args.map fr.argK).all D.notL then (doCall cal f (args.map fr.argK ++ caps) σ).map fun (r, σ) => (r, fr, σ) else none
  | _ => none
noncomputable def kv_buildM (e : Nat) (esz : Nat) (n : Nat) (zero : List D) (parts : List (Nat × X)) (cal : Cal) (quiet : Bool) (dst : Option Nat) (fr : Fr) (σ : St) : Option (D × Fr × St) :=
  match fillE (List.replicate n zero) esz (parts.map fun (i, x) => (i, fr.valK x)) with
  | some es => if 0 < n ∧ es.flatten.all calm1 then some (.msl σ.length 0 n esz, fr, σ ++ [.cells es.flatten, .row e]) else none
  | none => none
noncomputable def kv_clear (esz : Nat) (zero : List D) (x : X) (cal : Cal) (quiet : Bool) (dst : Option Nat) (fr : Fr) (σ : St) : Option (D × Fr × St) :=
  match fr.valK x with
  | .sl [] _ => some (.junk, fr, σ)
  | .msl o off n esz' =>
   if n = 0 then some (.junk, fr, σ) else
   if esz' = esz then (storeAtK fr σ (.ptr o off) (List.replicate n (zero.map D.strip)).flatten).map fun (fr, σ) => (.junk, fr, σ) else none
  | _ => none
noncomputable def evalK (op : MOp) : Cal → Bool → Option Nat → Fr → St → Option (D × Fr × St) :=
 MOp.casesOn (motive := fun _ => Cal → Bool → Option Nat → Fr → St → Option (D × Fr × St)) op kv_move kv_assign kv_pick kv_alloc kv_box kv_build kv_buildSlice kv_load kv_store kv_nilCheck kv_bin kv_eqb kv_eqn kv_eqA kv_un kv_conv kv_mkfunc kv_mkmap kv_mkslice kv_slice kv_sliceStr kv_fieldAddr kv_field kv_indexAddr kv_indexArr kv_lookup kv_mapUpdate kv_mapUpdateP kv_extract kv_len kv_append kv_max kv_min kv_bad kv_call kv_callv kv_defer kv_loadA kv_storeR kv_allocR kv_callS kv_indexStr kv_delete kv_loadL kv_callM kv_buildM kv_clear kv_loadB kv_callvS kv_loadP kv_loadT kv_loadK
theorem evalK_eq (cal : Cal) (quiet : Bool) (dst : Option Nat) (op : MOp) (fr : Fr) (σ : St) : evalK op cal quiet dst fr σ = evalOp cal quiet dst op fr σ := by
 have h1 : (fun x => fr.valK x) = fr.val := funext fun x => valK_eq fr x
 have h2 : fr.valK = fr.val := h1
 have h3 : fr.argK = fr.arg := funext fun x => argK_eq fr x
 cases op with
 | len k x =>
  match k with
  | 0 => simp only [evalK, kv_len, evalOp, valK_eq, argK_eq, tKe, nBe, pKe, ownPK_eq, pXe, cAe, sAe, mOe, oVe, putK_eq, wDe, isItK_eq, pAe, getO_eq, sae, atK_eq, setK_eq, bAe, sBe, cKe]; rfl
  | 1 => simp only [evalK, kv_len, evalOp, valK_eq, argK_eq, tKe, nBe, pKe, ownPK_eq, pXe, cAe, sAe, mOe, oVe, putK_eq, wDe, isItK_eq, pAe, getO_eq, sae, atK_eq, setK_eq, bAe, sBe, cKe]; rfl
  | k + 2 => simp only [evalK, kv_len, evalOp, valK_eq, argK_eq, tKe, nBe, pKe, ownPK_eq, pXe, cAe, sAe, mOe, oVe, putK_eq, wDe, isItK_eq, pAe, getO_eq, sae, atK_eq, setK_eq, bAe, sBe, cKe]; rfl
 | _ => first | (simp only [evalK, kv_move, kv_assign, kv_pick, kv_alloc, kv_box, kv_build, kv_buildSlice, kv_load, kv_store, kv_nilCheck, kv_bin, kv_eqb, kv_eqn, kv_eqA, kv_un, kv_conv, kv_mkfunc, kv_mkmap, kv_mkslice, kv_slice, kv_sliceStr, kv_fieldAddr, kv_field, kv_indexAddr, kv_indexArr, kv_lookup, kv_mapUpdate, kv_mapUpdateP, kv_extract, kv_append, kv_max, kv_min, kv_bad, kv_call, kv_callv, kv_defer, kv_loadA, kv_loadL, kv_storeR, kv_allocR, kv_callS, kv_indexStr, kv_delete, kv_callM, kv_loadB, kv_loadP, kv_loadT, kv_loadK, kv_callvS, kv_buildM, kv_clear, evalOp, h2, h3, valK_eq, argK_eq, tKe, nBe, pKe, ownPK_eq, pXe, cAe, sAe, mOe, oVe, putK_eq, wDe, isItK_eq, pAe, getO_eq, sae, atK_eq, setK_eq, bAe, sBe, cKe]; done) | (simp only [evalK, kv_move, kv_assign, kv_pick, kv_alloc, kv_box, kv_build, kv_buildSlice, kv_load, kv_store, kv_nilCheck, kv_bin, kv_eqb, kv_eqn, kv_eqA, kv_un, kv_conv, kv_mkfunc, kv_mkmap, kv_mkslice, kv_slice, kv_sliceStr, kv_fieldAddr, kv_field, kv_indexAddr, kv_indexArr, kv_lookup, kv_mapUpdate, kv_mapUpdateP, kv_extract, kv_append, kv_max, kv_min, kv_bad, kv_call, kv_callv, kv_defer, kv_loadA, kv_loadL, kv_storeR, kv_allocR, kv_callS, kv_indexStr, kv_delete, kv_callM, kv_loadB, kv_loadP, kv_loadT, kv_loadK, kv_callvS, kv_buildM, kv_clear, evalOp, h2, h3, valK_eq, argK_eq, tKe, nBe, pKe, ownPK_eq, pXe, cAe, sAe, mOe, oVe, putK_eq, wDe, isItK_eq, pAe, getO_eq, sae, atK_eq, setK_eq, bAe, sBe, cKe]; rfl)
noncomputable def runOpK (cal : Cal) (quiet : Bool) (o : MOper) (fr : Fr) (σ : St) : Option (Fr × St) :=
 match wantedDK fr o.guard with
 | none => none
 | some false => some (fr.putK o.dst .undef, σ)
 | some true =>
  match evalK o.op cal quiet o.dst fr σ with
  | some (d, fr, σ) => some (fr.putK o.dst d, σ)
  | none => none
noncomputable def runOpsK (cal : Cal) (quiet : Bool) (ops : List MOper) : Fr → St → Option (Fr × St) :=
 List.rec (motive := fun _ => Fr → St → Option (Fr × St)) (fun fr σ => some (fr, σ)) (fun o _ ih fr σ =>
  match runOpK cal quiet o fr σ with
  | some (fr, σ) => ih fr σ
  | none => none) ops
noncomputable def iterK (F : Fr → St → RunR) (keep : List Nat) (n : Nat) : Fr → St → RunR :=
 Nat.rec (motive := fun _ => Fr → St → RunR) (fun _ _ => none) (fun _ ih fr σ =>
  match F (fr.clearK keep) σ with
  | some (.normal, fr, σ) => ih fr σ
  | r => r) n
noncomputable def anyFromK (cal : Cal) (q : Bool) (ms : List MOper) (pre : List (List Nat)) (m : List Bool) (s : Fr × St) : List Nat → AnyLay → Option AnyLay
 | [], L => some L
 | j :: js, L =>
  if anyMay pre m j then
   match ms[j]? with
   | some o =>
    match runOpK cal q o s.1 s.2 with
    | some s' =>
     match anyAdd L (m.set j true) s' with
     | some L' => anyFromK cal q ms pre m s js L'
     | none => none
    | none => none
   | none => none
  else anyFromK cal q ms pre m s js L
noncomputable def anyStepK (cal : Cal) (q : Bool) (ms : List MOper) (pre : List (List Nat)) : AnyLay → AnyLay → Option AnyLay
 | [], L => some L
 | x :: xs, L =>
  match anyFromK cal q ms pre x.1 x.2 (List.range ms.length) L with
  | some L' => anyStepK cal q ms pre xs L'
  | none => none
noncomputable def anyLaysK (cal : Cal) (q : Bool) (ms : List MOper) (pre : List (List Nat)) : Nat → AnyLay → Option (Fr × St)
 | 0, [x] => some x.2
 | 0, _ => none
 | n + 1, L =>
  match anyStepK cal q ms pre L [] with
  | some L' => anyLaysK cal q ms pre n L'
  | none => none
noncomputable def runAnyK (cal : Cal) (q : Bool) (ms : List MOper) (pre : List (List Nat)) (fr : Fr) (σ : St) : Option (Fr × St) :=
 anyLaysK cal q ms pre ms.length [(List.replicate ms.length false, (fr, σ))]
noncomputable def runAltsK (cal : Cal) : List (Bool × List MOper) → Fr → St → Option (Fr × St)
 | [], _, _ => none
 | (q, ops) :: alts, fr, σ =>
  match runOpsK cal q ops fr σ with
  | some r => some r
  | none => runAltsK cal alts fr σ
noncomputable def askMK (cal : Cal) (R : MRange) (n0 : Nat) (b : Bool) (t : List D) (fr : Fr) (σ : St) : Option (Fr × St) :=
 if isItK R n0 (fr.clearK R.keep) then
  match runOpsK cal false [R.ext] ((fr.clearK R.keep).putK (some R.tupN) (.tup (.bool b :: t))) σ with
  | some (fr, σ) =>
   match fr.valK (.tmp R.okT) with
   | .bool b' => if b' = b ∧ isItK R n0 fr = true then some (fr, σ) else none
   | _ => none
  | none => none
 else none
noncomputable def roundsMK (cal : Cal) (F : Fr → St → RunR) (R : MRange) (n0 : Nat) : List (D × D) → Fr → St → RunR
 | [], fr, σ => (askMK cal R n0 false [] fr σ).map fun (fr, σ) => (.normal, fr, σ)
 | e :: p, fr, σ =>
  match askMK cal R n0 true [.junk, .junk] fr σ with
  | none => none
  | some (fr, σ) =>
   match runOpsK cal false R.tail (fr.putK (some R.tupE) (.tup [e.1, e.2])) σ with
   | none => none
   | some (fr, σ) =>
    match F fr σ with
    | none => none
    | some (.normal, fr, σ) => roundsMK cal F R n0 p fr σ
    | some (.exit i, fr, σ) => if i = R.idIn then roundsMK cal F R n0 p fr σ else if i = R.idOut then some (.normal, fr, σ) else some (.exit i, fr, σ)
    | some (.ret, fr, σ) => some (.ret, fr, σ)
noncomputable def runMK (cal : Cal) (body rest : Fr → St → RunR) (R : MRange) (fr : Fr) (σ : St) : RunR :=
  match runOpsK cal false R.pre fr σ with
  | none => none
  | some (fr, σ) =>
   match fr.valK R.m with
   | .map o =>
    match (getO σ (o)) with
    | some (.map es) =>
     allM R o es σ.length rest ((permsOf es).map fun p => roundsMK cal body R σ.length p (fr.putK (some R.it) (.ptr σ.length 0)) (σ.set o (.mapR es) ++ [.dead]))
    | _ => none
   | _ => none
noncomputable def runCK (cal : Cal) (fuel : Nat) (c : MCode) : Fr → St → RunR :=
 MCode.rec (motive := fun _ => Fr → St → RunR)
  (fun fr σ => some (.normal, fr, σ))
  (fun q ops fr σ => (runOpsK cal q ops fr σ).map fun (fr, σ) => (.normal, fr, σ))
  (fun ops pre fr σ => (runAnyK cal false ops pre fr σ).map fun (fr, σ) => (.normal, fr, σ))
  (fun alts ops pre fr σ =>
   match runAltsK cal alts fr σ with
   | some (fr, σ) => some (.normal, fr, σ)
   | none => (runAnyK cal false ops pre fr σ).map fun (fr, σ) => (.normal, fr, σ))
  (fun _ _ iha ihb fr σ =>
   match iha fr σ with
   | some (.normal, fr, σ) => ihb fr σ
   | r => r)
  (fun x _ _ iha ihb fr σ =>
   match fr.valK x with
   | .bool true => iha fr σ
   | .bool false => ihb fr σ
   | _ => none)
  (fun id _ ih fr σ =>
   match ih fr σ with
   | some (.exit i, fr, σ) => if i = id then some (.normal, fr, σ) else some (.exit i, fr, σ)
   | r => r)
  (fun keep _ ih fr σ => iterK ih keep fuel fr σ)
  (fun id fr σ => some (.exit id, fr, σ))
  (fun fr σ => some (.ret, fr, σ))
  (fun R _ _ iha ihb fr σ => runMK cal iha ihb R fr σ)
  (fun N fr σ => N fr σ) c
noncomputable def runDefersK (cal : Cal) : List (D × List D) → St → Option St
 | [], σ => some σ
 | (.func f caps, args) :: ds, σ =>
  if (args ++ caps).all D.notL then
   match cal f (args ++ caps) σ with
   | some (_, σ) => runDefersK cal ds σ
   | none => none
  else none
 | _ :: _, _ => none
noncomputable def runBodyK (cal : Cal) (fuel : Nat) (m : MFunc) (args : List D) (σ : St) : Option (Fr × St) :=
 if args.length = m.nparams ∧ m.nparams ≤ m.ntmps then
  match runCK cal fuel m.body (enterFr m args) σ with
  | some (.exit _, _, _) => none
  | some (_, fr, σ) => some (fr, σ)
  | none => none
 else none
noncomputable def plainNK (T : Table) (cal : Cal) (fuel : Nat) : Cal := fun f args σ =>
 match T f with
 | none => none
 | some m =>
  if m.body.told then none else
  match runBodyK cal fuel m args σ with
  | some (fr, σ) => if fr.defers.isEmpty then resultOf fr σ m.results else none
  | none => none
noncomputable def callNK (T : Table) : Nat → Cal
 | 0, _, _, _ => none
 | n + 1, f, args, σ =>
  match T f with
  | none => none
  | some m =>
   match runBodyK (callNK T n) n m args σ with
   | some (fr, σ) =>
    if fr.defers.isEmpty then resultOf fr σ m.results else
    if m.body.told then none else
    match runDefersK (plainNK T (callNK T n) n) fr.defers σ with
    | some σ => resultOf fr σ m.results
    | none => none
   | none => none
theorem runOpK_eq (cal : Cal) (q : Bool) (o : MOper) (fr : Fr) (σ : St) : runOpK cal q o fr σ = runOp cal q o fr σ := by
 simp only [runOpK, runOp, evalK_eq, wDe, putK_eq]
 rfl
theorem runOpsK_eq (cal : Cal) (q : Bool) : ∀ (ops : List MOper) (fr : Fr) (σ : St), runOpsK cal q ops fr σ = runOps cal q ops fr σ
 | [], _, _ => rfl
 | o :: ops, fr, σ => by
  show (match runOpK cal q o fr σ with | some (fr, σ) => runOpsK cal q ops fr σ | none => none) = _
  simp only [runOps, runOpK_eq, runOpsK_eq cal q ops]
  rfl
theorem anyFromK_eq (cal : Cal) (q : Bool) (ms : List MOper) (pre : List (List Nat)) (m : List Bool) (s : Fr × St) : ∀ (js : List Nat) (L : AnyLay), anyFromK cal q ms pre m s js L = anyFrom cal q ms pre m s js L
 | [], _ => rfl
 | j :: js, L => by
  simp only [anyFromK, anyFrom, runOpK_eq, anyFromK_eq cal q ms pre m s js]
  rfl
theorem anyStepK_eq (cal : Cal) (q : Bool) (ms : List MOper) (pre : List (List Nat)) : ∀ (xs L : AnyLay), anyStepK cal q ms pre xs L = anyStep cal q ms pre xs L
 | [], _ => rfl
 | x :: xs, L => by
  simp only [anyStepK, anyStep, anyFromK_eq, anyStepK_eq cal q ms pre xs]
  rfl
theorem anyLaysK_eq (cal : Cal) (q : Bool) (ms : List MOper) (pre : List (List Nat)) : ∀ (n : Nat) (L : AnyLay), anyLaysK cal q ms pre n L = anyLays cal q ms pre n L
 | 0, [] => rfl
 | 0, [x] => rfl
 | 0, x :: y :: L => rfl
 | n + 1, L => by
  simp only [anyLaysK, anyLays, anyStepK_eq, anyLaysK_eq cal q ms pre n]
  rfl
theorem runAnyK_eq (cal : Cal) (q : Bool) (ms : List MOper) (pre : List (List Nat)) (fr : Fr) (σ : St) : runAnyK cal q ms pre fr σ = runAny cal q ms pre fr σ := anyLaysK_eq ..
theorem runAltsK_eq (cal : Cal) : ∀ (alts : List (Bool × List MOper)) (fr : Fr) (σ : St), runAltsK cal alts fr σ = runAlts cal alts fr σ
 | [], _, _ => rfl
 | (q, ops) :: alts, fr, σ => by
  simp only [runAltsK, runAlts, runOpsK_eq, runAltsK_eq cal alts]
  rfl
theorem askMK_eq (cal : Cal) (R : MRange) (n0 : Nat) (b : Bool) (t : List D) (fr : Fr) (σ : St) : askMK cal R n0 b t fr σ = askM cal R n0 b t fr σ := by
 simp only [askMK, askM, runOpsK_eq, isItK_eq, cKe, putK_eq, valK_eq]
 rfl
theorem roundsMK_eq (cal : Cal) (F : Fr → St → RunR) (R : MRange) (n0 : Nat) : ∀ (p : List (D × D)) (fr : Fr) (σ : St), roundsMK cal F R n0 p fr σ = roundsM cal F R n0 p fr σ
 | [], fr, σ => by simp only [roundsMK, roundsM, askMK_eq]
 | e :: p, fr, σ => by
  simp only [roundsMK, roundsM, askMK_eq, runOpsK_eq, putK_eq, roundsMK_eq cal F R n0 p]
  rfl
theorem iterK_eq (F : Fr → St → RunR) (keep : List Nat) : ∀ (n : Nat) (fr : Fr) (σ : St), iterK F keep n fr σ = iter F keep n fr σ
 | 0, _, _ => rfl
 | n + 1, fr, σ => by
  show (match F (fr.clearK keep) σ with | some (.normal, fr, σ) => iterK F keep n fr σ | r => r) = _
  simp only [iter, cKe, iterK_eq F keep n]
  rfl
theorem runCK_eq (cal : Cal) (fuel : Nat) : ∀ (c : MCode) (fr : Fr) (σ : St), runCK cal fuel c fr σ = runC cal fuel c fr σ
 | .skip, _, _ => rfl
 | .region q ops, fr, σ => by
  show (runOpsK cal q ops fr σ).map _ = _
  simp only [runC, runOpsK_eq]
 | .regionA ops pre, fr, σ => by
  show (runAnyK cal false ops pre fr σ).map _ = _
  simp only [runC, runAnyK_eq]
 | .regionQ alts ops pre, fr, σ => by
  show (match runAltsK cal alts fr σ with | some (fr, σ) => some (AE.normal, fr, σ) | none => (runAnyK cal false ops pre fr σ).map fun (fr, σ) => (AE.normal, fr, σ)) = _
  simp only [runC, runAltsK_eq, runAnyK_eq]
  rfl
 | .seq a b, fr, σ => by
  show (match runCK cal fuel a fr σ with | some (.normal, fr, σ) => runCK cal fuel b fr σ | r => r) = _
  simp only [runC, runCK_eq cal fuel a, runCK_eq cal fuel b]
  rfl
 | .cond x a b, fr, σ => by
  show (match fr.valK x with | .bool true => runCK cal fuel a fr σ | .bool false => runCK cal fuel b fr σ | _ => none) = _
  simp only [runC, valK_eq, runCK_eq cal fuel a, runCK_eq cal fuel b]
  rfl
 | .block id c, fr, σ => by
  show (match runCK cal fuel c fr σ with | some (AE.exit i, fr, σ) => if i = id then some (AE.normal, fr, σ) else some (AE.exit i, fr, σ) | r => r) = _
  simp only [runC, runCK_eq cal fuel c]
  rfl
 | .loop keep c, fr, σ => by
  have h : runCK cal fuel c = runC cal fuel c := funext fun fr => funext fun σ => runCK_eq cal fuel c fr σ
  show iterK (runCK cal fuel c) keep fuel fr σ = _
  simp only [runC, h, iterK_eq]
 | .exit id, _, _ => rfl
 | .ret, _, _ => rfl
 | .rangeM R a b, fr, σ => by
  have h1 : runCK cal fuel a = runC cal fuel a := funext fun fr => funext fun σ => runCK_eq cal fuel a fr σ
  have h2 : runCK cal fuel b = runC cal fuel b := funext fun fr => funext fun σ => runCK_eq cal fuel b fr σ
  show runMK cal (runCK cal fuel a) (runCK cal fuel b) R fr σ = _
  simp only [runMK, runC, h1, h2, runOpsK_eq, roundsMK_eq, putK_eq, getO_eq, valK_eq]
  rfl
 | .nat N, _, _ => rfl
theorem runDefersK_eq (cal : Cal) : ∀ (ds : List (D × List D)) (σ : St), runDefersK cal ds σ = runDefers cal ds σ
 | [], _ => rfl
 | (d, args) :: ds, σ => by
  cases d <;> first | rfl | (simp only [runDefersK, runDefers, runDefersK_eq cal ds]; done) | (simp only [runDefersK, runDefers, runDefersK_eq cal ds]; rfl)
theorem runBodyK_eq (cal : Cal) (fuel : Nat) (m : MFunc) (args : List D) (σ : St) : runBodyK cal fuel m args σ = runBody cal fuel m args σ := by
 simp only [runBodyK, runBody, runCK_eq]
 rfl
theorem plainNK_eq (T : Table) (cal : Cal) (fuel : Nat) : plainNK T cal fuel = plainN T cal fuel := by
 funext f args σ
 simp only [plainNK, plainN, runBodyK_eq]
 rfl
theorem callNK_eq (T : Table) : ∀ (n : Nat), callNK T n = callN T n
 | 0 => rfl
 | n + 1 => by
  funext f args σ
  simp only [callNK, callN, callNK_eq T n, runBodyK_eq, plainNK_eq, runDefersK_eq]
  rfl
theorem callN_of_fast {T : Table} {n f : Nat} {args : List D} {σ σ' : St} {d : D} (h : callNK T n f args σ = some (d, σ')) : callN T n f args σ = some (d, σ') := by
 rw [← callNK_eq]
 exact h
end Go.Abs
