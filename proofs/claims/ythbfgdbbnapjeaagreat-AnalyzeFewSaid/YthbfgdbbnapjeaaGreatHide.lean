/-
  A part of AnalyzeFew's proof.
-/
import Derived.Test.YthbfgdbbnapjeaaGreatFast
import Derived.Test.YthbfgdbbnapjeaaGreatOps17
set_option linter.unusedVariables false
set_option linter.unusedSimpArgs false
namespace Go.Abs
open Go
abbrev Obs := List (Option (List D))
abbrev RunH := Option ((AE × Fr × St) × Obs)
def hideT (t : Nat) (s : Fr × St) : Fr × St := (s.1.setBox t none, s.2)
def obsOf : Option (List D) → Option (List D) → Obs
 | none, none => []
 | a, b => [a, b]
noncomputable def addH (t : Nat) : AnyLay → List Bool → Fr × St → Option (AnyLay × Obs)
 | [], k, s => some ([(k, s)], [])
 | x :: L, k, s => if x.1 == k then (if sameS (hideT t s) (hideT t x.2) then some (x :: L, obsOf (s.1.boxAt t) (x.2.1.boxAt t)) else none) else (addH t L k s).map fun r => (x :: r.1, r.2)
noncomputable def fromH (t : Nat) (cal : Cal) (ms : List MOper) (pre : List (List Nat)) (m : List Bool) (s : Fr × St) : List Nat → AnyLay → Option (AnyLay × Obs)
 | [], L => some (L, [])
 | j :: js, L =>
  if anyMay pre m j then
   match ms[j]? with
   | some o =>
    match runOpK cal false o s.1 s.2 with
    | some s' =>
     match addH t L (m.set j true) s' with
     | some (L', o1) => (fromH t cal ms pre m s js L').map fun r => (r.1, o1 ++ r.2)
     | none => none
    | none => none
   | none => none
  else fromH t cal ms pre m s js L
noncomputable def stepH (t : Nat) (cal : Cal) (ms : List MOper) (pre : List (List Nat)) : AnyLay → AnyLay → Option (AnyLay × Obs)
 | [], L => some (L, [])
 | x :: xs, L =>
  match fromH t cal ms pre x.1 x.2 (List.range ms.length) L with
  | some (L', o1) => (stepH t cal ms pre xs L').map fun r => (r.1, o1 ++ r.2)
  | none => none
noncomputable def laysH (t : Nat) (cal : Cal) (ms : List MOper) (pre : List (List Nat)) : Nat → AnyLay → Option ((Fr × St) × Obs)
 | 0, [x] => some (x.2, [])
 | 0, _ => none
 | n + 1, L =>
  match stepH t cal ms pre L [] with
  | some (L', o1) => (laysH t cal ms pre n L').map fun r => (r.1, o1 ++ r.2)
  | none => none
noncomputable def anyH (t : Nat) (cal : Cal) (ms : List MOper) (pre : List (List Nat)) (fr : Fr) (σ : St) : RunH :=
 (laysH t cal ms pre ms.length [(List.replicate ms.length false, (fr, σ))]).map fun r => ((.normal, r.1.1, r.1.2), r.2)
noncomputable def iterH (F : Fr → St → RunH) (keep : List Nat) (n : Nat) : Fr → St → RunH :=
 Nat.rec (motive := fun _ => Fr → St → RunH) (fun _ _ => none) (fun _ ih fr σ =>
  match F (fr.clearK keep) σ with
  | some ((.normal, fr, σ), o) => (ih fr σ).map fun r => (r.1, o ++ r.2)
  | r => r) n
noncomputable def runCH (t : Nat) (cal : Cal) (fuel : Nat) (c : MCode) : Fr → St → RunH :=
 MCode.rec (motive := fun _ => Fr → St → RunH)
  (fun fr σ => some ((.normal, fr, σ), []))
  (fun q ops fr σ => (runOpsK cal q ops fr σ).map fun (fr, σ) => ((.normal, fr, σ), []))
  (fun ops pre fr σ => anyH t cal ops pre fr σ)
  (fun alts ops pre fr σ =>
   match runAltsK cal alts fr σ with
   | some (fr, σ) => some ((.normal, fr, σ), [])
   | none => anyH t cal ops pre fr σ)
  (fun _ _ iha ihb fr σ =>
   match iha fr σ with
   | some ((.normal, fr, σ), o) => (ihb fr σ).map fun r => (r.1, o ++ r.2)
   | r => r)
  (fun x _ _ iha ihb fr σ =>
   match fr.valK x with
   | .bool true => iha fr σ
   | .bool false => ihb fr σ
   | _ => none)
  (fun id _ ih fr σ =>
   match ih fr σ with
   | some ((.exit i, fr, σ), o) => if i = id then some ((.normal, fr, σ), o) else some ((.exit i, fr, σ), o)
   | r => r)
  (fun keep _ ih fr σ => iterH ih keep fuel fr σ)
  (fun id fr σ => some ((.exit id, fr, σ), []))
  (fun fr σ => some ((.ret, fr, σ), []))
  (fun R a b _ _ fr σ => (runCK cal fuel (.rangeM R a b) fr σ).map fun r => (r, []))
  (fun N fr σ => (N fr σ).map fun r => (r, [])) c
theorem sameL_self {α : Type} {f : α → α → Bool} : ∀ {l : List α}, sameL f l l = true ↔ ∀ x ∈ l, f x x = true
 | [] => by simp [sameL]
 | a :: l => by simp [sameL, sameL_self (l := l)]
section
variable {t : Nat} {cs : List D} {cal : Cal}
theorem sameS_hide {a b : Fr × St} (hc : sameDs cs cs = true) (h : sameS (hideT t a) (hideT t b) = true) (ha : a.1.boxAt t = some cs) (hb : b.1.boxAt t = some cs) : sameS a b = true := by
 have he := sameS_eq _ _ h
 have hbx : ∀ f : Fr, f.boxAt t = some cs → f.boxes[t]? = some (some cs) := fun f hf => by
  unfold Fr.boxAt at hf
  cases hq : f.boxes[t]? with
  | none => rw [hq] at hf; cases hf
  | some y => rw [hq] at hf; simp at hf; rw [hf]
 have h1 := hbx a.1 ha
 have h2 := hbx b.1 hb
 have hab : a = b := by
  obtain ⟨⟨s1, b1, d1⟩, σ1⟩ := a
  obtain ⟨⟨s2, b2, d2⟩, σ2⟩ := b
  simp only [hideT, Fr.setBox, Prod.mk.injEq, Fr.mk.injEq] at he
  obtain ⟨⟨e1, e2, e3⟩, e4⟩ := he
  simp only [Prod.mk.injEq, Fr.mk.injEq]
  refine ⟨⟨e1, ?_, e3⟩, e4⟩
  apply List.ext_getElem?
  intro k
  by_cases hk : k = t
  ·rw [hk]
   exact h1.trans h2.symm
  ·have := congrArg (·[k]?) e2
   simp only [List.getElem?_set_ne (fun e => hk e.symm)] at this
   exact this
 subst hab
 obtain ⟨⟨s1, b1, d1⟩, σ1⟩ := a
 simp only [sameS, sameFr, hideT, Fr.setBox, Bool.and_eq_true] at h ⊢
 refine ⟨⟨⟨h.1.1.1, ?_⟩, h.1.2⟩, h.2⟩
 rw [sameL_self]
 intro x hx
 obtain ⟨k, hk⟩ := List.getElem?_of_mem hx
 by_cases hkt : k = t
 ·subst hkt
  rw [h1] at hk
  cases hk
  exact hc
 ·exact sameL_self.1 h.1.1.2 x (List.mem_of_getElem? (i := k) (by rw [List.getElem?_set_ne (fun e => hkt e.symm)]; exact hk))
theorem sameS_hide0 {a b : Fr × St} (h : sameS (hideT t a) (hideT t b) = true) (ha : a.1.boxAt t = none) (hb : b.1.boxAt t = none) : sameS a b = true := by
 have hbx : ∀ f : Fr, f.boxAt t = none → f.boxes.set t none = f.boxes := fun f hf => by
  apply List.ext_getElem?
  intro k
  rw [List.getElem?_set]
  split
  ·rename_i hk
   subst hk
   unfold Fr.boxAt at hf
   split
   ·cases hq : f.boxes[t]? with
    | none => rename_i hl; rw [List.getElem?_eq_none_iff] at hq; omega
    | some y => rw [hq] at hf; simp at hf; rw [hf]
   ·rename_i hl
    rw [List.getElem?_eq_none_iff.2 om]
  ·rfl
 have e : ∀ s : Fr × St, s.1.boxAt t = none → hideT t s = s := fun s hs => by
  obtain ⟨⟨s1, b1, d1⟩, σ1⟩ := s
  simp only [hideT, Fr.setBox]
  have := hbx _ hs
  simp only at this
  rw [this]
 rw [e a ha, e b hb] at h
 exact h
theorem sameS_obs {a b : Fr × St} (hc : sameDs cs cs = true) (h : sameS (hideT t a) (hideT t b) = true) (ho : ∀ x ∈ obsOf (a.1.boxAt t) (b.1.boxAt t), x = some cs) : sameS a b = true := by
 cases ha : a.1.boxAt t with
 | none =>
  cases hb : b.1.boxAt t with
  | none => exact sameS_hide0 h ha hb
  | some y =>
   rw [ha, hb] at ho
   have := ho none (by simp [obsOf])
   cases this
 | some x =>
  rw [ha] at ho
  have h1 : some x = some cs := ho _ (by simp [obsOf])
  have h2 : b.1.boxAt t = some cs := ho _ (by simp [obsOf])
  exact sameS_hide hc h (ha.trans h1) h2
theorem iterH_ok {F : Fr → St → RunH} {G : Fr → St → RunR} (hF : ∀ fr σ r o, F fr σ = some (r, o) → (∀ b ∈ o, b = some cs) → G fr σ = some r) {keep : List Nat} : ∀ {n : Nat} {fr : Fr} {σ : St} {r : AE × Fr × St} {o : Obs}, iterH F keep n fr σ = some (r, o) → (∀ b ∈ o, b = some cs) → iter G keep n fr σ = some r
 | 0, _, _, _, _, h, _ => by cases h
 | n + 1, fr, σ, r, o, h, ho => by
  have h' : (match F (fr.clearK keep) σ with
   | some ((.normal, fr, σ), o) => (iterH F keep n fr σ).map fun r => (r.1, o ++ r.2)
   | r => r) = some (r, o) := h
  rw [cKe] at h'
  simp only [iter]
  split at h'
  ·rename_i fr1 σ1 o1 h1
   rw [Option.map_eq_some_iff] at h'
   obtain ⟨⟨r2, o2⟩, h2, h3⟩ := h'
   cases h3
   rw [hF _ _ _ _ h1 (fun b hb => ho b (by simp [hb]))]
   exact iterH_ok hF h2 (fun b hb => ho b (by simp [hb]))
  ·rename_i hno
   have hg := hF _ _ _ _ h' ho
   rw [hg]
   obtain ⟨ae, fr1, σ1⟩ := r
   cases ae with
   | normal => exact absurd h' (hno _ _ _)
   | exit i => rfl
   | ret => rfl
theorem addH_ok (hc : sameDs cs cs = true) : ∀ {L : AnyLay} {k : List Bool} {s : Fr × St} {L' : AnyLay} {o : Obs}, addH t L k s = some (L', o) → (∀ b ∈ o, b = some cs) → anyAdd L k s = some L'
 | [], k, s, L', o, h, _ => by
  simp only [addH, Option.some.injEq, Prod.mk.injEq] at h
  rw [← h.1]
  rfl
 | x :: L, k, s, L', o, h, ho => by
  simp only [addH] at h
  simp only [anyAdd]
  split at h
  ·rename_i hk
   rw [if_pos hk]
   split at h
   ·rename_i hs
    cases h
    rw [if_pos (sameS_obs hc hs ho)]
   ·cases h
  ·rename_i hk
   rw [if_neg hk]
   rw [Option.map_eq_some_iff] at h
   obtain ⟨⟨L1, o1⟩, h1, h2⟩ := h
   cases h2
   rw [addH_ok hc h1 ho]
   rfl
theorem fromH_ok (hc : sameDs cs cs = true) {ms : List MOper} {pre : List (List Nat)} {m : List Bool} {s : Fr × St} : ∀ {js : List Nat} {L L' : AnyLay} {o : Obs}, fromH t cal ms pre m s js L = some (L', o) → (∀ b ∈ o, b = some cs) → anyFrom cal false ms pre m s js L = some L'
 | [], L, L', o, h, _ => by
  simp only [fromH, Option.some.injEq, Prod.mk.injEq] at h
  rw [← h.1]
  rfl
 | j :: js, L, L', o, h, ho => by
  simp only [fromH, runOpK_eq] at h
  simp only [anyFrom]
  split at h
  ·rename_i hm
   rw [if_pos hm]
   split at h
   ·rename_i op hop
    split at h
    ·rename_i s' hs
     split at h
     ·rename_i L1 o1 h1
      rw [Option.map_eq_some_iff] at h
      obtain ⟨⟨L2, o2⟩, h2, h3⟩ := h
      cases h3
      simp only [hop, hs, addH_ok hc h1 (fun b hb => ho b (by simp [hb]))]
      exact fromH_ok hc h2 (fun b hb => ho b (by simp [hb]))
     ·cases h
    ·cases h
   ·cases h
  ·rename_i hm
   rw [if_neg hm]
   exact fromH_ok hc h ho
theorem stepH_ok (hc : sameDs cs cs = true) {ms : List MOper} {pre : List (List Nat)} : ∀ {xs L L' : AnyLay} {o : Obs}, stepH t cal ms pre xs L = some (L', o) → (∀ b ∈ o, b = some cs) → anyStep cal false ms pre xs L = some L'
 | [], L, L', o, h, _ => by
  simp only [stepH, Option.some.injEq, Prod.mk.injEq] at h
  rw [← h.1]
  rfl
 | x :: xs, L, L', o, h, ho => by
  simp only [stepH] at h
  simp only [anyStep]
  split at h
  ·rename_i L1 o1 h1
   rw [Option.map_eq_some_iff] at h
   obtain ⟨⟨L2, o2⟩, h2, h3⟩ := h
   cases h3
   simp only [fromH_ok hc h1 (fun b hb => ho b (by simp [hb]))]
   exact stepH_ok hc h2 (fun b hb => ho b (by simp [hb]))
  ·cases h
theorem laysH_ok (hc : sameDs cs cs = true) {ms : List MOper} {pre : List (List Nat)} : ∀ {n : Nat} {L : AnyLay} {r : Fr × St} {o : Obs}, laysH t cal ms pre n L = some (r, o) → (∀ b ∈ o, b = some cs) → anyLays cal false ms pre n L = some r
 | 0, [], r, o, h, _ => by cases h
 | 0, [x], r, o, h, _ => by
  simp only [laysH, Option.some.injEq, Prod.mk.injEq] at h
  rw [← h.1]
  rfl
 | 0, _ :: _ :: _, r, o, h, _ => by cases h
 | n + 1, L, r, o, h, ho => by
  simp only [laysH] at h
  simp only [anyLays]
  split at h
  ·rename_i L1 o1 h1
   rw [Option.map_eq_some_iff] at h
   obtain ⟨⟨L2, o2⟩, h2, h3⟩ := h
   cases h3
   simp only [stepH_ok hc h1 (fun b hb => ho b (by simp [hb]))]
   exact laysH_ok hc h2 (fun b hb => ho b (by simp [hb]))
  ·cases h
theorem anyH_ok (hc : sameDs cs cs = true) {ms : List MOper} {pre : List (List Nat)} {fr : Fr} {σ : St} {r : AE × Fr × St} {o : Obs} (h : anyH t cal ms pre fr σ = some (r, o)) (ho : ∀ b ∈ o, b = some cs) : (runAny cal false ms pre fr σ).map (fun (fr, σ) => (AE.normal, fr, σ)) = some r := by
 unfold anyH at h
 rw [Option.map_eq_some_iff] at h
 obtain ⟨⟨s, o1⟩, h1, h2⟩ := h
 cases h2
 unfold runAny
 rw [laysH_ok hc h1 ho]
 rfl
theorem runCH_ok (hc : sameDs cs cs = true) {fuel : Nat} : ∀ (c : MCode) {fr : Fr} {σ : St} {r : AE × Fr × St} {o : Obs}, runCH t cal fuel c fr σ = some (r, o) → (∀ b ∈ o, b = some cs) → runC cal fuel c fr σ = some r
 | .skip, fr, σ, r, o, h, _ => by cases h; rfl
 | .region q ops, fr, σ, r, o, h, _ => by
  have h' : ((runOpsK cal q ops fr σ).map fun (fr, σ) => ((AE.normal, fr, σ), ([] : Obs))) = some (r, o) := h
  rw [runOpsK_eq, Option.map_eq_some_iff] at h'
  obtain ⟨⟨fr1, σ1⟩, h1, h2⟩ := h'
  cases h2
  simp only [runC, h1, Option.map_some]
 | .regionA ops pre, fr, σ, r, o, h, ho => by
  simp only [runC]
  exact anyH_ok hc h ho
 | .regionQ alts ops pre, fr, σ, r, o, h, ho => by
  have h' : (match runAltsK cal alts fr σ with
   | some (fr, σ) => some ((AE.normal, fr, σ), ([] : Obs))
   | none => anyH t cal ops pre fr σ) = some (r, o) := h
  rw [runAltsK_eq] at h'
  simp only [runC]
  split at h'
  ·rename_i h1
   cases h'
   rw [h1]
  ·rename_i h1
   rw [h1]
   exact anyH_ok hc h' ho
 | .seq a b, fr, σ, r, o, h, ho => by
  have h' : (match runCH t cal fuel a fr σ with
   | some ((.normal, fr, σ), o) => (runCH t cal fuel b fr σ).map fun r => (r.1, o ++ r.2)
   | r => r) = some (r, o) := h
  simp only [runC]
  split at h'
  ·rename_i fr1 σ1 o1 h1
   rw [Option.map_eq_some_iff] at h'
   obtain ⟨⟨r2, o2⟩, h2, h3⟩ := h'
   cases h3
   rw [runCH_ok hc a h1 (fun b hb => ho b (by simp [hb]))]
   exact runCH_ok hc b h2 (fun b hb => ho b (by simp [hb]))
  ·rename_i hno
   rw [runCH_ok hc a h' ho]
   obtain ⟨ae, fr1, σ1⟩ := r
   cases ae with
   | normal => exact absurd h' (hno _ _ _)
   | exit i => rfl
   | ret => rfl
 | .cond x a b, fr, σ, r, o, h, ho => by
  have h' : (match fr.valK x with
   | .bool true => runCH t cal fuel a fr σ
   | .bool false => runCH t cal fuel b fr σ
   | _ => none) = some (r, o) := h
  rw [valK_eq] at h'
  simp only [runC]
  split at h'
  ·rename_i h1
   rw [h1]
   exact runCH_ok hc a h' ho
  ·rename_i h1
   rw [h1]
   exact runCH_ok hc b h' ho
  ·cases h'
 | .block id c, fr, σ, r, o, h, ho => by
  have h' : (match runCH t cal fuel c fr σ with
   | some ((.exit i, fr, σ), o) => if i = id then some ((.normal, fr, σ), o) else some ((.exit i, fr, σ), o)
   | r => r) = some (r, o) := h
  simp only [runC]
  split at h'
  ·rename_i i fr1 σ1 o1 h1
   by_cases hi : i = id
   ·rw [if_pos hi] at h'
    cases h'
    rw [runCH_ok hc c h1 ho]
    exact if_pos hi
   ·rw [if_neg hi] at h'
    cases h'
    rw [runCH_ok hc c h1 ho]
    exact if_neg hi
  ·rename_i hno
   rw [runCH_ok hc c h' ho]
   obtain ⟨ae, fr1, σ1⟩ := r
   cases ae with
   | normal => rfl
   | exit i => exact absurd h' (hno _ _ _ _)
   | ret => rfl
 | .loop keep c, fr, σ, r, o, h, ho => by
  simp only [runC]
  exact iterH_ok (fun _ _ _ _ h1 h2 => runCH_ok hc c h1 h2) h ho
 | .exit id, fr, σ, r, o, h, _ => by cases h; rfl
 | .ret, fr, σ, r, o, h, _ => by cases h; rfl
 | .rangeM R a b, fr, σ, r, o, h, _ => by
  have h' : (runCK cal fuel (.rangeM R a b) fr σ).map (fun r => (r, ([] : Obs))) = some (r, o) := h
  rw [runCK_eq, Option.map_eq_some_iff] at h'
  obtain ⟨r1, h1, h2⟩ := h'
  cases h2
  exact h1
 | .nat N, fr, σ, r, o, h, _ => by
  have h' : (N fr σ).map (fun r => (r, ([] : Obs))) = some (r, o) := h
  rw [Option.map_eq_some_iff] at h'
  obtain ⟨r1, h1, h2⟩ := h'
  cases h2
  simp only [runC, h1]
end
def endR (res : List MRes) : Option (AE × Fr × St) → Option D
 | some (.ret, fr, σ) => match fr.defers with | [] => (resultOf fr σ res).map (·.1) | _ => none
 | _ => none
theorem endR_eq {res : List MRes} {r : Option (AE × Fr × St)} {d : D} (h : endR res r = some d) : ∃ fr σ σ', r = some (.ret, fr, σ) ∧ fr.defers = [] ∧ resultOf fr σ res = some (d, σ') := by
 unfold endR at h
 split at h
 ·rename_i fr σ
  split at h
  ·rename_i hd
   rw [Option.map_eq_some_iff] at h
   obtain ⟨⟨d', σ'⟩, h1, h2⟩ := h
   cases h2
   exact ⟨fr, σ, σ', rfl, hd, h1⟩
  ·cases h
 ·cases h
def endH (res : List MRes) (r : RunH) : Option (D × Obs) := r.bind fun r => (endR res (some r.1)).map fun d => (d, r.2)
theorem endH_ok {t fuel n : Nat} {cs : List D} {T : Table} {k : Nat} {c : MCode} {fr : Fr} {σ : St} {res : List MRes} {d : D} (hc : sameDs cs cs = true) (h : endH res (runCH t (callNK T k) fuel c fr σ) = some (d, List.replicate n (some cs))) : endR res (runC (callN T k) fuel c fr σ) = some d := by
 unfold endH at h
 rw [Option.bind_eq_some_iff] at h
 obtain ⟨⟨r, o⟩, h1, h2⟩ := h
 rw [Option.map_eq_some_iff] at h2
 obtain ⟨d', h2, h3⟩ := h2
 simp only [Prod.mk.injEq] at h3
 obtain ⟨rfl, rfl⟩ := h3
 rw [← callNK_eq]
 rw [runCH_ok hc c h1 (fun b hb => List.eq_of_mem_replicate hb)]
 exact h2
def endZ (res : List MRes) : AE × Fr × St → Option D
 | (.ret, fr, σ) => match fr.defers with | [] => (resultOf fr σ res).bind fun r => freeze r.2 r.1 | _ => none
 | _ => none
def endHZ (res : List MRes) (r : RunH) : Option (D × Obs) := r.bind fun r => (endZ res r.1).map fun d => (d, r.2)
theorem call_endHZ {t k n f : Nat} {cs : List D} {T : Table} {m : MFunc} {args : List D} {d : D} (hm : T f = some m) (hp : args.length = m.nparams) (hp2 : m.nparams ≤ m.ntmps) (hc : sameDs cs cs = true)
  (h : endHZ m.results (runCH t (callNK T k) k m.body (enterFr m args) []) = some (d, List.replicate n (some cs))) : ∃ rm σ, callN T (k + 1) f args [] = some (rm, σ) ∧ freeze σ rm = some d := by
 unfold endHZ at h
 rw [Option.bind_eq_some_iff] at h
 obtain ⟨⟨r, o⟩, h1, h2⟩ := h
 rw [Option.map_eq_some_iff] at h2
 obtain ⟨d', h2, h3⟩ := h2
 simp only [Prod.mk.injEq] at h3
 obtain ⟨rfl, rfl⟩ := h3
 rw [callNK_eq] at h1
 have h4 := runCH_ok hc m.body h1 (fun b hb => List.eq_of_mem_replicate hb)
 obtain ⟨ae, fr, σ⟩ := r
 unfold endZ at h2
 cases ae with
 | normal => cases h2
 | exit i => cases h2
 | ret =>
 simp only [] at h2
 split at h2
 rotate_left
 ·cases h2
 rename_i hd
 rw [Option.bind_eq_some_iff] at h2
 obtain ⟨⟨rm, σ'⟩, h5, h6⟩ := h2
 refine ⟨rm, σ', ?_, h6⟩
 have hb : runBody (callN T k) k m args [] = some (fr, σ) := by
  unfold runBody
  rw [if_pos ⟨hp, hp2⟩, h4]
 simp only [callN, hm, hb, hd, List.isEmpty_nil, if_true]
 exact h5
end Go.Abs
