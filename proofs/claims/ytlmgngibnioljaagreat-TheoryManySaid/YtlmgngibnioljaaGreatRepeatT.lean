import Derived.Test.YtlmgngibnioljaaGreatCodeT
import Derived.Test.YtlmgngibnioljaaGreatOps18
import Derived.Below
import Derived.Shelf.Strings.Repeat
import Derived.KernelRfl
import Derived.Test.YtlmgngibnioljaaGreatRows
set_option linter.unusedVariables false
set_option linter.unusedSimpArgs false
/-
  strings.Repeat, told by what it answers.
-/
namespace Go.Proofs
open Go.Shelf Go.RowKit Go.Lib
def Tryz.laysRepeat_ren : Go.Shelf.Ren := ⟨fun | 105 => 73 | 212 => 103 | 99 => 104 | 165 => 105 | 166 => 106 | 170 => 107 | 169 => 108 | 263 => 149 | 264 => 150 | 206 => 151 | 240 => 152 | 241 => 153 | 276 => 173 | 277 => 174 | n => n, fun | 9 => 9 | 3 => 3 | 4 => 4 | 20 => 20 | 0 => 0 | 46 => 166 | 109 => 196 | 5 => 5 | 72 => 202 | 76 => 206 | 51 => 224 | 146 => 249 | 53 => 226 | 148 => 251 | 70 => 199 | 37 => 200 | 75 => 205 | 127 => 253 | 164 => 269 | 80 => 184 | n => n, fun | n => n⟩
theorem Tryz.laysRepeat : Lays.n105 Tryz.prog Tryz.laysRepeat_ren where
  mixed := by kernel_rfl
  f99 := Tryz.func104.trans (congrArg some (by kernel_rfl))
  f105 := Tryz.func73.trans (congrArg some (by kernel_rfl))
  f165 := Tryz.func105.trans (congrArg some (by kernel_rfl))
  f166 := Tryz.func106.trans (congrArg some (by kernel_rfl))
  f169 := Tryz.func108.trans (congrArg some (by kernel_rfl))
  f170 := Tryz.func107.trans (congrArg some (by kernel_rfl))
  f206 := Tryz.func151.trans (congrArg some (by kernel_rfl))
  f212 := Tryz.func103.trans (congrArg some (by kernel_rfl))
  f240 := Tryz.func152.trans (congrArg some (by kernel_rfl))
  f241 := Tryz.func153.trans (congrArg some (by kernel_rfl))
  f263 := Tryz.func149.trans (congrArg some (by kernel_rfl))
  f264 := Tryz.func150.trans (congrArg some (by kernel_rfl))
  f276 := Tryz.func173.trans (congrArg some (by kernel_rfl))
  f277 := Tryz.func174.trans (congrArg some (by kernel_rfl))
  t0 := Tryz.underlying0
  a0 := Tryz.isAgg0
  z0 := Tryz.sizeOf0
  v0 := Tryz.zeroValue0
  t3 := Tryz.underlying3
  a3 := Tryz.isAgg3
  z3 := Tryz.sizeOf3
  v3 := Tryz.zeroValue3
  t4 := Tryz.underlying4
  a4 := Tryz.isAgg4
  z4 := Tryz.sizeOf4
  v4 := Tryz.zeroValue4
  t5 := Tryz.underlying5
  a5 := Tryz.isAgg5
  z5 := Tryz.sizeOf5
  v5 := Tryz.zeroValue5
  t9 := Tryz.underlying9
  a9 := Tryz.isAgg9
  z9 := Tryz.sizeOf9
  v9 := Tryz.zeroValue9
  t20 := Tryz.underlying20
  a20 := Tryz.isAgg20
  z20 := Tryz.sizeOf20
  v20 := Tryz.zeroValue20
  t37 := Tryz.underlying200
  a37 := Tryz.isAgg200
  z37 := Tryz.sizeOf200
  v37 := Tryz.zeroValue200
  t46 := Tryz.underlying166
  a46 := Tryz.isAgg166
  z46 := Tryz.sizeOf166
  v46 := Tryz.zeroValue166
  t51 := Tryz.underlying224
  a51 := Tryz.isAgg224
  z51 := Tryz.sizeOf224
  v51 := Tryz.zeroValue224
  t53 := Tryz.underlying226
  a53 := Tryz.isAgg226
  z53 := Tryz.sizeOf226
  v53 := Tryz.zeroValue226
  t70 := Tryz.underlying199
  a70 := Tryz.isAgg199
  z70 := Tryz.sizeOf199
  v70 := Tryz.zeroValue199
  t72 := Tryz.underlying202
  a72 := Tryz.isAgg202
  z72 := Tryz.sizeOf202
  v72 := Tryz.zeroValue202
  t75 := Tryz.underlying205
  a75 := Tryz.isAgg205
  z75 := Tryz.sizeOf205
  v75 := Tryz.zeroValue205
  t76 := Tryz.underlying206
  a76 := Tryz.isAgg206
  z76 := Tryz.sizeOf206
  v76 := Tryz.zeroValue206
  t109 := Tryz.underlying196
  a109 := Tryz.isAgg196
  z109 := Tryz.sizeOf196
  v109 := Tryz.zeroValue196
  t127 := Tryz.underlying253
  a127 := Tryz.isAgg253
  z127 := Tryz.sizeOf253
  v127 := Tryz.zeroValue253
  t146 := Tryz.underlying249
  a146 := Tryz.isAgg249
  z146 := Tryz.sizeOf249
  v146 := Tryz.zeroValue249
  t148 := Tryz.underlying251
  a148 := Tryz.isAgg251
  z148 := Tryz.sizeOf251
  v148 := Tryz.zeroValue251
  t164 := Tryz.underlying269
  a164 := Tryz.isAgg269
  z164 := Tryz.sizeOf269
  v164 := Tryz.zeroValue269
theorem Tryz.repeatExtra : Builder.Extra Tryz.prog Tryz.laysRepeat_ren where
  sizeBuilder := by kernel_rfl
  liesBuilder := by kernel_rfl
  t5 := Tryz.laysRepeat.t5
  a5 := Tryz.laysRepeat.a5
  z5 := Tryz.laysRepeat.z5
  v5 := Tryz.laysRepeat.v5
  infoByte := by kernel_rfl
  cellsByte := by kernel_rfl
  sizeByte := by kernel_rfl
  neB5 := by decide
end Go.Proofs
namespace Go.Abs.T
open Go Go.Abs Go.Proofs Go.RowKit
/-- Memory that has grown. -/
theorem gives_below {P : Program} {g : Gh} {w w' : World} {σ : St} {v : Value} {d : D} (hi : HInv P g w σ) (hb : Go.RowKit.Below w.heap.size w w') (hr : Rep g v d) (hn : d.notL = true) (hs : d.strip = d) : Gives P g w w' σ v d := by
  have hk : Keep g w g w' (fun _ => False) := ⟨.refl g, hb.size, fun b hlt _ => ⟨hb.block b hlt, rfl, fun _ => rfl⟩⟩
  have i0 : Inv P g w ⟨[], [], []⟩ σ { tmps := #[], defers := g.base } := ⟨hi, ⟨rfl, rfl, fun t d h => by simp at h, fun t cs h => by simp at h⟩, ⟨[], rfl, rfl, fun k x y h => by simp at h⟩⟩
  have i1 := i0.keep hk (fun _ h => h.elim) (fun _ _ _ => rfl) (fun b off u hu => by
    rw [cell_same (hb.block b (imm_lt hi hu))]
    exact hi.imm b off u hu) rfl
  exact ⟨g, Ext.of_keep hk (fun _ h => h.elim) hb.os hb.tape hb.output, i1.h, hr, hn, .of_ne hs⟩
theorem repeatL_flat (l : List UInt8) : ∀ n, Lib.repeatL l n = (List.replicate n l).flatten
  | 0 => rfl
  | n + 1 => by
    rw [List.replicate_succ, List.flatten_cons, ← repeatL_flat l n]
    rfl
theorem good73 : GoodT Tryz.prog 73 m73 := by
  refine good_told Tryz.func73 (c := (Tryz.f73.body).getD .skip) (by kernel_rfl) (fun ds σ d h => ?_)
  unfold repeatF at h
  split at h
  rotate_left
  · cases h
  rename_i s c
  split at h
  rotate_left
  · cases h
  rename_i hc
  obtain ⟨h0, h1, h2⟩ := hc
  cases h
  refine ⟨rfl, rfl, fun g w vals hi _ hr _ => ?_⟩
  obtain ⟨hl, hr⟩ := hr
  have hv : ∃ (b : ByteArray), b.data.toList = s ∧ vals = #[.string b, .int .i64 c] := by
    match hvl : vals.toList, hl, hr with
    | [v1, v2], _, hr =>
      have r1 := hr 0 v1 _ rfl rfl
      have r2 := hr 1 v2 _ rfl rfl
      have : vals = #[v1, v2] := by
        apply Array.ext'
        rw [hvl]
      obtain ⟨b, q1, q2⟩ := rep_str r1
      subst q1
      cases r2
      exact ⟨b, by first | exact q2 | exact q2.symm, this⟩
    | [], hl, _ => simp at hl
    | [_], hl, _ => simp at hl
    | _ :: _ :: _ :: _, hl, _ => simp at hl
  obtain ⟨b, rfl, rfl⟩ := hv
  obtain ⟨n, rfl⟩ : ∃ n : Nat, c = n := ⟨c.toNat, by omega⟩
  simp only [Int.toNat_natCast] at h1 ⊢
  have hsz : b.size = b.data.toList.length := Lib.size_eq b
  have := Any.strings_Repeat Tryz.laysRepeat Tryz.repeatExtra b n w (by omega) (by rw [hsz]; exact h1)
  refine Calls.mono this ?_
  rintro e w' ⟨rfl, hb⟩
  refine ⟨_, rfl, gives_below hi hb ?_ rfl rfl⟩
  rw [← repeatL_flat]
  exact Rep.str ⟨(Lib.repeatL b.data.toList n).toArray⟩
end Go.Abs.T
