/-
  A part of AnalyzeFew's proof.
-/
import Derived.Test.YthbfgdbbnapjeaaGreatSem
set_option linter.unusedVariables false
set_option linter.unusedSimpArgs false
namespace Go.Abs.W
open Go Go.Abs
instance (n : Nat) : OfNat X n := ⟨.tmp n⟩
abbrev _root_.Go.Abs.MCode.reg (l : List MOper) : MCode := .region false l
abbrev oo (a : Nat) (m : MOp) : MOper := ⟨some a, m, none⟩
abbrev vv (m : MOp) : MOper := ⟨none, m, none⟩
abbrev mv (a : Nat) (x : X) := oo a (.move x false)
abbrev ld (a : Nat) (x : X) := oo a (.load false 1 x false)
abbrev lt (a n : Nat) (x : X) := oo a (.load true n x false)
abbrev fa (a n : Nat) (x : X) := oo a (.fieldAddr n x)
abbrev sg (a : Nat) (x : X) := oo a (.assign x)
abbrev nc (a : Nat) (x : X) := oo a (.nilCheck x)
abbrev ln (a : Nat) (x : X) := oo a (.len 0 x)
abbrev ca (a f : Nat) (l : List X) := oo a (.call f l)
abbrev z0 : List D := [.int .i64 0, .int .i64 0, .sl [] (some 69)]
abbrev z1 : List D := [.int .i64 0, .bool false, .str [], .str [], .str [], .str [], .str [], .str [], .int .i64 0, .bool false, .int .i64 0, .str [], .str [], .str [], .sl [] (some 46), .sl [] (some 9), .sl [] (some 157)]
abbrev z2 : List D := [.str [], .bool false, .int .i64 0, .str [], .str [], .str [], .bool false, .sl [] (some 43), .int .i64 0, .str [], .str [], .str [], .bool false, .sl [] (some 43), .int .i64 0, .str [], .str [], .str [], .bool false, .sl [] (some 43), .sl [] (some 59)]
abbrev z3 : List D := [.int .i64 0, .bool false, .int .i64 0, .str [], .str [], .str [], .nils 46, .nils 9]
abbrev z4 : List D := [.int .i64 0, .bool false, .str [], .str [], .str [], .str [], .str [], .str [], .int .i64 0, .bool false, .int .i64 0, .str [], .str [], .str [], .nils 46, .nils 9, .nils 157]
abbrev z5 : List D := [.int .i64 0, .bool false, .int .i64 0, .str [], .str [], .str [], .sl [] (some 46), .sl [] (some 9)]
abbrev z6 : List D := [.str [], .bool false, .int .i64 0, .str [], .str [], .str [], .bool false, .nils 43, .int .i64 0, .str [], .str [], .str [], .bool false, .nils 43, .int .i64 0, .str [], .str [], .str [], .bool false, .nils 43, .nils 59]
abbrev z7 : List D := [.int .i64 0, .str [], .str [], .str [], .str [], .str [], .str []]
abbrev z8 : List D := [.int .i64 0, .int .i64 0, .bool false, .int .i64 0, .str [], .str [], .str [], .sl [] (some 46), .sl [] (some 9), .str [], .sl [] (some 57), .sl [] (some 9)]
abbrev z9 : List D := [.int .i64 0, .int .i64 0, .bool false, .int .i64 0, .str [], .str [], .str [], .nils 46, .nils 9, .str [], .nils 57, .nils 9]
abbrev z10 : List D := [.int .i64 0, .int .i64 0, .nils 69]
abbrev z11 : List D := [.str [], .sl [] (some 9), .sl [] (some 9), .sl [] (some 9), .sl [] (some 32)]
abbrev z12 : List D := [.bool false, .int .i64 0, .int .i64 0, .bool false, .int .i64 0, .str [], .str [], .str [], .sl [] (some 46), .sl [] (some 9), .str [], .sl [] (some 57), .sl [] (some 9)]
abbrev z13 : List D := [.str [], .int .i64 0, .str [], .sl [] (some 30), .sl [] (some 32), .bool false]
abbrev z14 : List D := [.bool false, .int .i64 0, .int .i64 0, .bool false, .int .i64 0, .str [], .str [], .str [], .nils 46, .nils 9, .str [], .nils 57, .nils 9]
abbrev z15 : List D := [.str [], .str [], .sl [] (some 43), .int .i64 0, .bool false, .int .i64 0, .str [], .str [], .str [], .sl [] (some 46), .sl [] (some 9)]
abbrev z16 : List D := [.int .i64 0, .str [], .str [], .str []]
abbrev z17 : List D := [.nils 26, .nils 34, .nils 65, .nilf, .int .i64 0]
abbrev z18 : List D := [.sl [] (some 69), .sl [] (some 115), .int .i64 0, .int .i64 0, .sl [] (some 69)]
abbrev z19 : List D := [.str [], .sl [] (some 9), .sl [] (some 32)]
abbrev z20 : List D := [.int .i64 0, .sl [] (some 4), .sl [] (some 210), .int .i64 0]
abbrev z21 : List D := [.nils 69, .nils 115, .int .i64 0, .int .i64 0, .nils 69]
abbrev z22 : List D := [.str [], .nils 9, .nils 9, .nils 9, .nils 32]
end Go.Abs.W
