import Derived.Sort.LotA
import Derived.Sort.Walk0
import Derived.Shelf.SlSortCmp.Insertion
set_option linter.unusedVariables false
set_option linter.unusedSimpArgs false
/-
  Rows by rising names: the plain law of what the sorts leave.
-/
namespace Go.Abs.C
open Go Go.Sort Go.Proofs

def ltB (x y : List UInt8) : Bool := Op.bytesLess x y
theorem ltB_eq (x y : List UInt8) : ltB x y = ltStr x y := bytesLess_eq x y
theorem ltB_irrefl (x : List UInt8) : ltB x x = false := by rw [ltB_eq]; exact swo_ltStr.irrefl x
theorem ltB_trans {x y z : List UInt8} (h : ltB x y = true) (k : ltB y z = true) : ltB x z = true := by rw [ltB_eq] at *; exact swo_ltStr.trans x y z h k
theorem ltB_ntrans {x y z : List UInt8} (h : ltB x y = false) (k : ltB y z = false) : ltB x z = false := by rw [ltB_eq] at *; exact swo_ltStr.ntrans x y z h k
theorem ltB_anti {x y : List UInt8} (h : ltB x y = false) (k : ltB y x = false) : x = y := by
  rw [ltB_eq] at *
  simp only [ltStr, decide_eq_false_iff_not, List.not_lt] at h k
  exact List.le_antisymm k h
theorem ltB_asymm {x y : List UInt8} (h : ltB x y = true) : ltB y x = false := by
  cases k : ltB y x with
  | false => rfl
  | true => have := ltB_trans h k; rw [ltB_irrefl] at this; cases this

section
variable {α : Type}
def insK (key : α → List UInt8) (n : α) : List α → List α
  | [] => [n]
  | m :: l => if ltB (key n) (key m) then n :: m :: l else m :: insK key n l
def sortK (key : α → List UInt8) : List α → List α
  | [] => []
  | n :: l => insK key n (sortK key l)
def Rising (key : α → List UInt8) (l : List α) : Prop := l.Pairwise fun a b => ltB (key b) (key a) = false
theorem insK_perm (key : α → List UInt8) (n : α) : ∀ l, (insK key n l).Perm (n :: l)
  | [] => .refl _
  | m :: l => by
    unfold insK
    split
    · exact .refl _
    · exact ((insK_perm key n l).cons m).trans (.swap n m l)
theorem sortK_perm (key : α → List UInt8) : ∀ l, (sortK key l).Perm l
  | [] => .refl _
  | n :: l => (insK_perm key n _).trans ((sortK_perm key l).cons n)
theorem insK_rising {key : α → List UInt8} {n : α} : ∀ {l : List α}, Rising key l → Rising key (insK key n l)
  | [], _ => by simp [insK, Rising]
  | m :: l, h => by
    unfold insK
    have h' := List.pairwise_cons.1 h
    split
    · rename_i hlt
      refine List.pairwise_cons.2 ⟨fun b hb => ?_, h⟩
      rcases List.mem_cons.1 hb with rfl | hb
      · exact ltB_asymm hlt
      · exact ltB_ntrans (h'.1 b hb) (ltB_asymm hlt)
    · rename_i hge
      have hge : ltB (key n) (key m) = false := by simpa using hge
      refine List.pairwise_cons.2 ⟨fun b hb => ?_, insK_rising h'.2⟩
      rcases List.mem_cons.1 ((insK_perm key n l).mem_iff.1 hb) with rfl | hb
      · exact hge
      · exact h'.1 b hb
theorem sortK_rising (key : α → List UInt8) : ∀ l, Rising key (sortK key l)
  | [] => List.Pairwise.nil
  | n :: l => insK_rising (sortK_rising key l)
theorem keys_inj {key : α → List UInt8} : ∀ {l : List α}, (l.map key).Nodup → ∀ {a b : α}, a ∈ l → b ∈ l → key a = key b → a = b
  | [], _, _, _, ha, _, _ => by simp at ha
  | x :: l, hn, a, b, ha, hb, hk => by
    rw [List.map_cons, List.nodup_cons] at hn
    rcases List.mem_cons.1 ha with ha | ha <;> rcases List.mem_cons.1 hb with hb | hb
    · rw [ha, hb]
    · exact absurd (List.mem_map.2 ⟨b, hb, by rw [← hk, ha]⟩) hn.1
    · exact absurd (List.mem_map.2 ⟨a, ha, by rw [hk, hb]⟩) hn.1
    · exact keys_inj hn.2 ha hb hk
/-- There is one such row. -/
theorem rising_unique {key : α → List UInt8} {l l' : List α} (hn : (l.map key).Nodup) (hp : l'.Perm l) (h : Rising key l') (k : Rising key l) : l' = l := by
  refine List.Perm.eq_of_pairwise (le := fun a b => ltB (key b) (key a) = false) (fun a b ha hb h1 h2 => ?_) h k hp
  exact keys_inj hn (hp.mem_iff.1 ha) hb (ltB_anti h2 h1)
theorem sortK_of_sorted [Inhabited α] {key : α → List UInt8} {l : List α} {d d' : Array α} (hn : (l.map key).Nodup) (hl : d.toList.Perm l) (hp : PermIn 0 d.size d d') (hs : SortedIn (fun a b => ltB (key a) (key b)) 0 d.size d') : d'.toList = sortK key l := by
  obtain ⟨hsz, _, hperm⟩ := hp
  have e1 : d'.extract 0 d.size = d' := by rw [← hsz]; exact Array.extract_size
  rw [e1, Array.extract_size] at hperm
  have hp' : d'.toList.Perm (sortK key l) := (hperm.trans hl).trans (sortK_perm key l).symm
  refine rising_unique (((sortK_perm key l).map key).nodup_iff.2 hn) hp' ?_ (sortK_rising key l)
  refine List.pairwise_iff_getElem.2 fun i j hi hj hij => ?_
  have hi' : i < d'.size := by simpa using hi
  have hj' : j < d'.size := by simpa using hj
  have := hs i j (Nat.zero_le _) hij (by omega)
  rw [getElem!_pos d' j hj', getElem!_pos d' i hi'] at this
  simpa using this
end
def cmpB' (x y : List UInt8) : Int := if Op.bytesLess x y then -1 else if Op.bytesLess x y || x == y then 0 else 1
theorem ltOf_cmpB {α : Type} (key : α → List UInt8) : ltOf (fun a b => cmpB' (key a) (key b)) = fun a b => ltB (key a) (key b) := by
  funext a b
  unfold ltOf cmpB' ltB
  have e : ∀ (x : Bool) (y : Bool), decide ((if x = true then (-1 : Int) else if (x || y) = true then 0 else 1) < 0) = x := by decide
  exact e (Op.bytesLess (key a) (key b)) (key a == key b)
theorem swo_key {α : Type} (key : α → List UInt8) : SWO (ltOf (fun a b => cmpB' (key a) (key b))) := by
  rw [ltOf_cmpB]
  exact ⟨fun x => ltB_irrefl _, fun x y z h k => ltB_trans h k, fun x y z h k => ltB_ntrans h k⟩
end Go.Abs.C
