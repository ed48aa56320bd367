/-
  A part of AnalyzeFew's proof.
-/
import Derived.Test.YthbfgdbbnapjeaaGreatCodeW
import Derived.Shelf.Strings.Repeat
import Derived.Test.YthbfgdbbnapjeaaGreatRows
set_option linter.unusedVariables false
set_option linter.unusedSimpArgs false
namespace Go.Proofs
open Go.Shelf Go.RowKit Go.Lib
def Tryz.laysRepeat_ren : Go.Shelf.Ren := ⟨fun | 105 => 95 | 212 => 117 | 99 => 118 | 165 => 119 | 166 => 120 | 170 => 121 | 169 => 122 | 263 => 152 | 264 => 153 | 206 => 154 | 240 => 155 | 241 => 156 | 276 => 168 | 277 => 169 | n => n, fun | 9 => 9 | 3 => 3 | 4 => 4 | 20 => 20 | 0 => 0 | 46 => 41 | 109 => 211 | 5 => 5 | 72 => 217 | 76 => 220 | 51 => 237 | 146 => 251 | 53 => 239 | 148 => 253 | 70 => 214 | 37 => 215 | 75 => 219 | 127 => 255 | 164 => 267 | 80 => 198 | n => n, fun | n => n⟩
theorem Tryz.laysRepeat : Lays.n105 Tryz.prog Tryz.laysRepeat_ren where
 mixed := by kernel_rfl
 f99 := Tryz.func118.trans (congrArg some (by kernel_rfl))
 f105 := Tryz.func95.trans (congrArg some (by kernel_rfl))
 f165 := Tryz.func119.trans (congrArg some (by kernel_rfl))
 f166 := Tryz.func120.trans (congrArg some (by kernel_rfl))
 f169 := Tryz.func122.trans (congrArg some (by kernel_rfl))
 f170 := Tryz.func121.trans (congrArg some (by kernel_rfl))
 f206 := Tryz.func154.trans (congrArg some (by kernel_rfl))
 f212 := Tryz.func117.trans (congrArg some (by kernel_rfl))
 f240 := Tryz.func155.trans (congrArg some (by kernel_rfl))
 f241 := Tryz.func156.trans (congrArg some (by kernel_rfl))
 f263 := Tryz.func152.trans (congrArg some (by kernel_rfl))
 f264 := Tryz.func153.trans (congrArg some (by kernel_rfl))
 f276 := Tryz.func168.trans (congrArg some (by kernel_rfl))
 f277 := Tryz.func169.trans (congrArg some (by kernel_rfl))
 t0 := Tryz.underlying0
 a0 := Tryz.isAgg0
 z0 := Tryz.sizeOf0
 v0 := Tryz.zeroValue0
 t3 := Tryz.underlying3
 a3 := Tryz.isAgg3
 z3 := Tryz.sizeOf3
 v3 := Tryz.zeroValue3
 t4 := Tryz.underlying4
 a4 := Tryz.isAgg4
 z4 := Tryz.sizeOf4
 v4 := Tryz.zeroValue4
 t5 := Tryz.underlying5
 a5 := Tryz.isAgg5
 z5 := Tryz.sizeOf5
 v5 := Tryz.zeroValue5
 t9 := Tryz.underlying9
 a9 := Tryz.isAgg9
 z9 := Tryz.sizeOf9
 v9 := Tryz.zeroValue9
 t20 := Tryz.underlying20
 a20 := Tryz.isAgg20
 z20 := Tryz.sizeOf20
 v20 := Tryz.zeroValue20
 t37 := Tryz.underlying215
 a37 := Tryz.isAgg215
 z37 := Tryz.sizeOf215
 v37 := Tryz.zeroValue215
 t46 := Tryz.underlying41
 a46 := Tryz.isAgg41
 z46 := Tryz.sizeOf41
 v46 := Tryz.zeroValue41
 t51 := Tryz.underlying237
 a51 := Tryz.isAgg237
 z51 := Tryz.sizeOf237
 v51 := Tryz.zeroValue237
 t53 := Tryz.underlying239
 a53 := Tryz.isAgg239
 z53 := Tryz.sizeOf239
 v53 := Tryz.zeroValue239
 t70 := Tryz.underlying214
 a70 := Tryz.isAgg214
 z70 := Tryz.sizeOf214
 v70 := Tryz.zeroValue214
 t72 := Tryz.underlying217
 a72 := Tryz.isAgg217
 z72 := Tryz.sizeOf217
 v72 := Tryz.zeroValue217
 t75 := Tryz.underlying219
 a75 := Tryz.isAgg219
 z75 := Tryz.sizeOf219
 v75 := Tryz.zeroValue219
 t76 := Tryz.underlying220
 a76 := Tryz.isAgg220
 z76 := Tryz.sizeOf220
 v76 := Tryz.zeroValue220
 t109 := Tryz.underlying211
 a109 := Tryz.isAgg211
 z109 := Tryz.sizeOf211
 v109 := Tryz.zeroValue211
 t127 := Tryz.underlying255
 a127 := Tryz.isAgg255
 z127 := Tryz.sizeOf255
 v127 := Tryz.zeroValue255
 t146 := Tryz.underlying251
 a146 := Tryz.isAgg251
 z146 := Tryz.sizeOf251
 v146 := Tryz.zeroValue251
 t148 := Tryz.underlying253
 a148 := Tryz.isAgg253
 z148 := Tryz.sizeOf253
 v148 := Tryz.zeroValue253
 t164 := Tryz.underlying267
 a164 := Tryz.isAgg267
 z164 := Tryz.sizeOf267
 v164 := Tryz.zeroValue267
theorem Tryz.repeatExtra : Builder.Extra Tryz.prog Tryz.laysRepeat_ren where
 sizeBuilder := by kernel_rfl
 liesBuilder := by kernel_rfl
 t5 := Tryz.laysRepeat.t5
 a5 := Tryz.laysRepeat.a5
 z5 := Tryz.laysRepeat.z5
 v5 := Tryz.laysRepeat.v5
 infoByte := by kernel_rfl
 cellsByte := by kernel_rfl
 sizeByte := by kernel_rfl
 neB5 := by decide
end Go.Proofs
namespace Go.Abs.W
open Go Go.Abs Go.Proofs Go.RowKit
theorem gives_below {P : Program} {g : Gh} {w w' : World} {σ : St} {v : Value} {d : D} (hi : HInv P g w σ) (hb : Go.RowKit.Below w.heap.size w w') (hr : Rep g v d) (hn : d.notL = true) (hs : d.strip = d) : Gives P g w w' σ v d := by
 have hk : Keep g w g w' (fun _ => False) := ⟨.refl g, hb.size, fun b hlt _ => ⟨hb.block b hlt, rfl, fun _ => rfl⟩⟩
 have i0 : Inv P g w ⟨[], [], []⟩ σ { tmps := #[], defers := g.base } := ⟨hi, ⟨rfl, rfl, fun t d h => by simp at h, fun t cs h => by simp at h⟩, ⟨[], rfl, rfl, fun k x y h => by simp at h⟩⟩
 have i1 := i0.keep hk (fun _ h => h.elim) (fun _ _ _ => rfl) (fun b off u hu => by
  rw [cell_same (hb.block b (imm_lt hi hu))]
  exact hi.imm b off u hu) rfl
 exact ⟨g, Ext.of_keep hk (fun _ h => h.elim) hb.os hb.tape hb.output, i1.h, hr, hn, .of_ne hs⟩
theorem repeatL_flat (l : List UInt8) : ∀ n, Lib.repeatL l n = (List.replicate n l).flatten
 | 0 => rfl
 | n + 1 => by
  rw [List.replicate_succ, List.flatten_cons, ← repeatL_flat l n]
  rfl
theorem good95 : GoodT Tryz.prog 95 m95 := by
 refine good_told Tryz.func95 (c := (Tryz.f95.body).getD .skip) (by kernel_rfl) (fun ds σ d h => ?_)
 unfold repeatF at h
 split at h
 rotate_left
 ·cases h
 rename_i s c
 split at h
 rotate_left
 ·cases h
 rename_i hc
 obtain ⟨h0, h1, h2⟩ := hc
 cases h
 refine ⟨rfl, rfl, fun g w vals hi _ hr _ => ?_⟩
 obtain ⟨hl, hr⟩ := hr
 have hv : ∃ (b : ByteArray), b.data.toList = s ∧ vals = #[.string b, .int .i64 c] := by
  match hvl : vals.toList, hl, hr with
  | [v1, v2], _, hr =>
   have r1 := hr 0 v1 _ rfl rfl
   have r2 := hr 1 v2 _ rfl rfl
   have : vals = #[v1, v2] := by
    apply Array.ext'
    rw [hvl]
   obtain ⟨b, q1, q2⟩ := rep_str r1
   subst q1
   cases r2
   exact ⟨b, by first | exact q2 | exact q2.symm, this⟩
  | [], hl, _ => simp at hl
  | [_], hl, _ => simp at hl
  | _ :: _ :: _ :: _, hl, _ => simp at hl
 obtain ⟨b, rfl, rfl⟩ := hv
 obtain ⟨n, rfl⟩ : ∃ n : Nat, c = n := ⟨c.toNat, by omega⟩
 simp only [Int.toNat_natCast] at h1 ⊢
 have hsz : b.size = b.data.toList.length := Lib.size_eq b
 have := Any.strings_Repeat Tryz.laysRepeat Tryz.repeatExtra b n w (by omega) (by rw [hsz]; exact h1)
 refine Calls.mono this ?_
 rintro e w' ⟨rfl, hb⟩
 refine ⟨_, rfl, gives_below hi hb ?_ rfl rfl⟩
 rw [← repeatL_flat]
 exact Rep.str ⟨(Lib.repeatL b.data.toList n).toArray⟩
end Go.Abs.W
