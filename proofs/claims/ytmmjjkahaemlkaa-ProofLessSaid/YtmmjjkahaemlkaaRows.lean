/-
  No cell of these rows narrows 'for every input' (looked for: loops, veiled, ifaces, maps, wideKeys, modest, calm, conditions, laid).
  DERIVED. THE GIVEN ROWS OF THIS SEAT. 9 by the template 'for every input the law returns true; each argument reads behind the call as it read before'; 0 by the template 'total and deterministic' (their statements: YtmmjjkahaemlkaaTotals.lean).
  GIVEN WITH THE SEED: the statements are not yours to turn. If you find one false, say at which input.
  Laid BY PROGRAM, IN A SANDBOX (cutbox-rows.mjs): the forced cells as the released guide's own fill.sh prints them over the translation a36daee732f5e442… (all of the seat's roots in one cut). By AI agents, Wed Nov 11 2026. No macro, syntax, notation, axiom, sorry.
-/
import Derived.Test.YtmmjjkahaemlkaaChecked
import GoSem.Claim
import GoSem.ClaimJoined
import GoSem.ClaimMapViews
import Derived.JoinedTies
import Derived.KernelRfl
namespace Go.Proofs.Ytmmjjkahaemlkaa
/- THE CELL 'sum', in the pinned program and in every row, IS THE sha256 OF THE DUMP (.gsa) THAT YtmmjjkahaemlkaaProg.lean LOADS. Nothing in Lean hashes anything: it is a label: what it is worth is what the hold of that sum in a sandbox is worth. -/
noncomputable def Try.pinned : Pinned := { name := "ytmmjjkahaemlkaa", sum := "a36daee732f5e4425fddf07ddad36dea00cfd05f0181fa167302ca4cf17f90f3", checked := Try.checked }
namespace Rows
def none {H : Type} : Left H := { results := [], args := [] }

/-- 'chamberlainlaw21.ProofChecks': WHATEVER THE INPUT: true; the input reads as it did. -/
def proofChecksSpec : ChangeSpec := { name := "proofChecks", fn := fun _ => fun
  | [d1, d2] => { results := [.lit (.bool true)], args := [d1, d2] }
  | _ => none }
def proofChecksRow : OpenClaim := { program := "ytmmjjkahaemlkaa", sum := "a36daee732f5e4425fddf07ddad36dea00cfd05f0181fa167302ca4cf17f90f3", func := "chamberlain/chamberlainlaw21.ProofChecks", spec := "proofChecks", unfollowed := true, recurses := true, apart := false }
def ProofChecksSaid : Prop := proofChecksRow.holds Try.pinned (OpenSpec.ofChange proofChecksSpec)

/-- ITS FALSE NEIGHBOUR: 'it returns false'. Refute it at one input. -/
def proofChecksWrong : ChangeSpec := { name := "proofChecks", fn := fun _ => fun
  | [d1, d2] => { results := [.lit (.bool false)], args := [d1, d2] }
  | _ => none }
def ProofChecksWrongFalsely : Prop := proofChecksRow.holds Try.pinned (OpenSpec.ofChange proofChecksWrong)

/-- 'chamberlainlaw21.ProofSound': WHATEVER THE INPUT: true; the input reads as it did. -/
def proofSoundSpec : ChangeSpec := { name := "proofSound", fn := fun _ => fun
  | [d1, d2, d3] => { results := [.lit (.bool true)], args := [d1, d2, d3] }
  | _ => none }
def proofSoundRow : OpenClaim := { program := "ytmmjjkahaemlkaa", sum := "a36daee732f5e4425fddf07ddad36dea00cfd05f0181fa167302ca4cf17f90f3", func := "chamberlain/chamberlainlaw21.ProofSound", spec := "proofSound", unfollowed := true, recurses := true, apart := false }
def ProofSoundSaid : Prop := proofSoundRow.holds Try.pinned (OpenSpec.ofChange proofSoundSpec)

/-- ITS FALSE NEIGHBOUR: 'it returns false'. Refute it at one input. -/
def proofSoundWrong : ChangeSpec := { name := "proofSound", fn := fun _ => fun
  | [d1, d2, d3] => { results := [.lit (.bool false)], args := [d1, d2, d3] }
  | _ => none }
def ProofSoundWrongFalsely : Prop := proofSoundRow.holds Try.pinned (OpenSpec.ofChange proofSoundWrong)

/-- 'chamberlainlaw21.ProofMakes': WHATEVER THE INPUT: true; the input reads as it did. -/
def proofMakesSpec : ChangeSpec := { name := "proofMakes", fn := fun _ => fun
  | [d1, d2, d3] => { results := [.lit (.bool true)], args := [d1, d2, d3] }
  | _ => none }
def proofMakesRow : OpenClaim := { program := "ytmmjjkahaemlkaa", sum := "a36daee732f5e4425fddf07ddad36dea00cfd05f0181fa167302ca4cf17f90f3", func := "chamberlain/chamberlainlaw21.ProofMakes", spec := "proofMakes", unfollowed := true, recurses := true, apart := false }
def ProofMakesSaid : Prop := proofMakesRow.holds Try.pinned (OpenSpec.ofChange proofMakesSpec)

/-- ITS FALSE NEIGHBOUR: 'it returns false'. Refute it at one input. -/
def proofMakesWrong : ChangeSpec := { name := "proofMakes", fn := fun _ => fun
  | [d1, d2, d3] => { results := [.lit (.bool false)], args := [d1, d2, d3] }
  | _ => none }
def ProofMakesWrongFalsely : Prop := proofMakesRow.holds Try.pinned (OpenSpec.ofChange proofMakesWrong)

/-- 'chamberlainlaw20.SolveChecks': WHATEVER THE INPUT: true; the input reads as it did. -/
def solveChecksSpec : ChangeSpec := { name := "solveChecks", fn := fun _ => fun
  | [d1, d2] => { results := [.lit (.bool true)], args := [d1, d2] }
  | _ => none }
def solveChecksRow : OpenClaim := { program := "ytmmjjkahaemlkaa", sum := "a36daee732f5e4425fddf07ddad36dea00cfd05f0181fa167302ca4cf17f90f3", func := "chamberlain/chamberlainlaw20.SolveChecks", spec := "solveChecks", unfollowed := true, recurses := true, apart := false }
def SolveChecksSaid : Prop := solveChecksRow.holds Try.pinned (OpenSpec.ofChange solveChecksSpec)

/-- ITS FALSE NEIGHBOUR: 'it returns false'. Refute it at one input. -/
def solveChecksWrong : ChangeSpec := { name := "solveChecks", fn := fun _ => fun
  | [d1, d2] => { results := [.lit (.bool false)], args := [d1, d2] }
  | _ => none }
def SolveChecksWrongFalsely : Prop := solveChecksRow.holds Try.pinned (OpenSpec.ofChange solveChecksWrong)

/-- 'chamberlainlaw20.SolveAnswers': WHATEVER THE INPUT: true; the input reads as it did. -/
def solveAnswersSpec : ChangeSpec := { name := "solveAnswers", fn := fun _ => fun
  | [d1, d2, d3] => { results := [.lit (.bool true)], args := [d1, d2, d3] }
  | _ => none }
def solveAnswersRow : OpenClaim := { program := "ytmmjjkahaemlkaa", sum := "a36daee732f5e4425fddf07ddad36dea00cfd05f0181fa167302ca4cf17f90f3", func := "chamberlain/chamberlainlaw20.SolveAnswers", spec := "solveAnswers", unfollowed := true, recurses := true, apart := false }
def SolveAnswersSaid : Prop := solveAnswersRow.holds Try.pinned (OpenSpec.ofChange solveAnswersSpec)

/-- ITS FALSE NEIGHBOUR: 'it returns false'. Refute it at one input. -/
def solveAnswersWrong : ChangeSpec := { name := "solveAnswers", fn := fun _ => fun
  | [d1, d2, d3] => { results := [.lit (.bool false)], args := [d1, d2, d3] }
  | _ => none }
def SolveAnswersWrongFalsely : Prop := solveAnswersRow.holds Try.pinned (OpenSpec.ofChange solveAnswersWrong)

/-- 'chamberlainlaw20.SolveTrue': WHATEVER THE INPUT: true; the input reads as it did. -/
def solveTrueSpec : ChangeSpec := { name := "solveTrue", fn := fun _ => fun
  | [d1, d2, d3] => { results := [.lit (.bool true)], args := [d1, d2, d3] }
  | _ => none }
def solveTrueRow : OpenClaim := { program := "ytmmjjkahaemlkaa", sum := "a36daee732f5e4425fddf07ddad36dea00cfd05f0181fa167302ca4cf17f90f3", func := "chamberlain/chamberlainlaw20.SolveTrue", spec := "solveTrue", unfollowed := true, recurses := true, apart := false }
def SolveTrueSaid : Prop := solveTrueRow.holds Try.pinned (OpenSpec.ofChange solveTrueSpec)

/-- ITS FALSE NEIGHBOUR: 'it returns false'. Refute it at one input. -/
def solveTrueWrong : ChangeSpec := { name := "solveTrue", fn := fun _ => fun
  | [d1, d2, d3] => { results := [.lit (.bool false)], args := [d1, d2, d3] }
  | _ => none }
def SolveTrueWrongFalsely : Prop := solveTrueRow.holds Try.pinned (OpenSpec.ofChange solveTrueWrong)

/-- 'chamberlainlaw20.SolveUnits': WHATEVER THE INPUT: true; the input reads as it did. -/
def solveUnitsSpec : ChangeSpec := { name := "solveUnits", fn := fun _ => fun
  | [d1, d2] => { results := [.lit (.bool true)], args := [d1, d2] }
  | _ => none }
def solveUnitsRow : OpenClaim := { program := "ytmmjjkahaemlkaa", sum := "a36daee732f5e4425fddf07ddad36dea00cfd05f0181fa167302ca4cf17f90f3", func := "chamberlain/chamberlainlaw20.SolveUnits", spec := "solveUnits", unfollowed := true, recurses := true, apart := false }
def SolveUnitsSaid : Prop := solveUnitsRow.holds Try.pinned (OpenSpec.ofChange solveUnitsSpec)

/-- ITS FALSE NEIGHBOUR: 'it returns false'. Refute it at one input. -/
def solveUnitsWrong : ChangeSpec := { name := "solveUnits", fn := fun _ => fun
  | [d1, d2] => { results := [.lit (.bool false)], args := [d1, d2] }
  | _ => none }
def SolveUnitsWrongFalsely : Prop := solveUnitsRow.holds Try.pinned (OpenSpec.ofChange solveUnitsWrong)

/-- 'chamberlainlaw21.ProofSolved': WHATEVER THE INPUT: true; the input reads as it did. -/
def proofSolvedSpec : ChangeSpec := { name := "proofSolved", fn := fun _ => fun
  | [d1, d2] => { results := [.lit (.bool true)], args := [d1, d2] }
  | _ => none }
def proofSolvedRow : OpenClaim := { program := "ytmmjjkahaemlkaa", sum := "a36daee732f5e4425fddf07ddad36dea00cfd05f0181fa167302ca4cf17f90f3", func := "chamberlain/chamberlainlaw21.ProofSolved", spec := "proofSolved", unfollowed := true, recurses := true, apart := false }
def ProofSolvedSaid : Prop := proofSolvedRow.holds Try.pinned (OpenSpec.ofChange proofSolvedSpec)

/-- ITS FALSE NEIGHBOUR: 'it returns false'. Refute it at one input. -/
def proofSolvedWrong : ChangeSpec := { name := "proofSolved", fn := fun _ => fun
  | [d1, d2] => { results := [.lit (.bool false)], args := [d1, d2] }
  | _ => none }
def ProofSolvedWrongFalsely : Prop := proofSolvedRow.holds Try.pinned (OpenSpec.ofChange proofSolvedWrong)

/-- 'chamberlainlaw21.ProofLess': WHATEVER THE INPUT: true; the input reads as it did. -/
def proofLessSpec : ChangeSpec := { name := "proofLess", fn := fun _ => fun
  | [d1, d2, d3] => { results := [.lit (.bool true)], args := [d1, d2, d3] }
  | _ => none }
def proofLessRow : OpenClaim := { program := "ytmmjjkahaemlkaa", sum := "a36daee732f5e4425fddf07ddad36dea00cfd05f0181fa167302ca4cf17f90f3", func := "chamberlain/chamberlainlaw21.ProofLess", spec := "proofLess", unfollowed := true, recurses := true, apart := false }
def ProofLessSaid : Prop := proofLessRow.holds Try.pinned (OpenSpec.ofChange proofLessSpec)

/-- ITS FALSE NEIGHBOUR: 'it returns false'. Refute it at one input. -/
def proofLessWrong : ChangeSpec := { name := "proofLess", fn := fun _ => fun
  | [d1, d2, d3] => { results := [.lit (.bool false)], args := [d1, d2, d3] }
  | _ => none }
def ProofLessWrongFalsely : Prop := proofLessRow.holds Try.pinned (OpenSpec.ofChange proofLessWrong)

/- THE SECOND FORM. 'bulk': how many values and letters a reading holds, each counted each time it is reached (what is shared counts as often as it is met; a slice's spare places count too). A statement '..UptoSaid' is the law's where the arguments, and the package variables that the reading takes, are together of bulk at most 1048576: NARROWER than '..Said'. Prove '..Said' where nothing that the law and all that it calls make is longer than what came in: it says more and counts as full. Else prove '..UptoSaid'. A law counts once. -/
mutual
def uptoBulk {H : Type} : DataW H → Nat
  | .lit (.string bytes) => bytes.length + 1
  | .lit _ => 1
  | .nil => 1
  | .ptr d => uptoBulk d + 1
  | .slice elems spare => uptoBulkAll elems + uptoBulkAll spare + 1
  | .agg parts => uptoBulkAll parts + 1
  | .iface _ d => uptoBulk d + 1
  | .map entries => uptoBulkEntries entries + 1
  | .held _ => 1
def uptoBulkAll {H : Type} : List (DataW H) → Nat
  | [] => 0
  | d :: r => uptoBulk d + uptoBulkAll r
def uptoBulkEntries {H : Type} : List (Lit × DataW H) → Nat
  | [] => 0
  | x :: r => uptoBulkEntry x + uptoBulkEntries r
def uptoBulkEntry {H : Type} : Lit × DataW H → Nat
  | (.string bytes, d) => bytes.length + uptoBulk d + 1
  | (_, d) => uptoBulk d + 1
 end
def uptoSmall : (H : Type) → List (DataW H) → Bool := fun _ ds => decide (uptoBulkAll ds ≤ 1048576)
def OpenSpec.upto (s : _root_.Go.ChangeSpec) : _root_.Go.OpenSpec := { _root_.Go.OpenSpec.ofChange s with cond := some uptoSmall }

/-- 'chamberlainlaw21.ProofChecks', WHERE WHAT IT READS IS OF BULK AT MOST 1048576: true; the input reads as it did. -/
def proofChecksUptoRow : OpenClaim := { program := "ytmmjjkahaemlkaa", sum := "a36daee732f5e4425fddf07ddad36dea00cfd05f0181fa167302ca4cf17f90f3", func := "chamberlain/chamberlainlaw21.ProofChecks", spec := "proofChecks", unfollowed := true, recurses := true, apart := false, narrowed := true }
def ProofChecksUptoSaid : Prop := proofChecksUptoRow.holds Try.pinned (OpenSpec.upto proofChecksSpec)

/-- 'chamberlainlaw21.ProofSound', WHERE WHAT IT READS IS OF BULK AT MOST 1048576: true; the input reads as it did. -/
def proofSoundUptoRow : OpenClaim := { program := "ytmmjjkahaemlkaa", sum := "a36daee732f5e4425fddf07ddad36dea00cfd05f0181fa167302ca4cf17f90f3", func := "chamberlain/chamberlainlaw21.ProofSound", spec := "proofSound", unfollowed := true, recurses := true, apart := false, narrowed := true }
def ProofSoundUptoSaid : Prop := proofSoundUptoRow.holds Try.pinned (OpenSpec.upto proofSoundSpec)

/-- 'chamberlainlaw21.ProofMakes', WHERE WHAT IT READS IS OF BULK AT MOST 1048576: true; the input reads as it did. -/
def proofMakesUptoRow : OpenClaim := { program := "ytmmjjkahaemlkaa", sum := "a36daee732f5e4425fddf07ddad36dea00cfd05f0181fa167302ca4cf17f90f3", func := "chamberlain/chamberlainlaw21.ProofMakes", spec := "proofMakes", unfollowed := true, recurses := true, apart := false, narrowed := true }
def ProofMakesUptoSaid : Prop := proofMakesUptoRow.holds Try.pinned (OpenSpec.upto proofMakesSpec)

/-- 'chamberlainlaw20.SolveChecks', WHERE WHAT IT READS IS OF BULK AT MOST 1048576: true; the input reads as it did. -/
def solveChecksUptoRow : OpenClaim := { program := "ytmmjjkahaemlkaa", sum := "a36daee732f5e4425fddf07ddad36dea00cfd05f0181fa167302ca4cf17f90f3", func := "chamberlain/chamberlainlaw20.SolveChecks", spec := "solveChecks", unfollowed := true, recurses := true, apart := false, narrowed := true }
def SolveChecksUptoSaid : Prop := solveChecksUptoRow.holds Try.pinned (OpenSpec.upto solveChecksSpec)

/-- 'chamberlainlaw20.SolveAnswers', WHERE WHAT IT READS IS OF BULK AT MOST 1048576: true; the input reads as it did. -/
def solveAnswersUptoRow : OpenClaim := { program := "ytmmjjkahaemlkaa", sum := "a36daee732f5e4425fddf07ddad36dea00cfd05f0181fa167302ca4cf17f90f3", func := "chamberlain/chamberlainlaw20.SolveAnswers", spec := "solveAnswers", unfollowed := true, recurses := true, apart := false, narrowed := true }
def SolveAnswersUptoSaid : Prop := solveAnswersUptoRow.holds Try.pinned (OpenSpec.upto solveAnswersSpec)

/-- 'chamberlainlaw20.SolveTrue', WHERE WHAT IT READS IS OF BULK AT MOST 1048576: true; the input reads as it did. -/
def solveTrueUptoRow : OpenClaim := { program := "ytmmjjkahaemlkaa", sum := "a36daee732f5e4425fddf07ddad36dea00cfd05f0181fa167302ca4cf17f90f3", func := "chamberlain/chamberlainlaw20.SolveTrue", spec := "solveTrue", unfollowed := true, recurses := true, apart := false, narrowed := true }
def SolveTrueUptoSaid : Prop := solveTrueUptoRow.holds Try.pinned (OpenSpec.upto solveTrueSpec)

/-- 'chamberlainlaw20.SolveUnits', WHERE WHAT IT READS IS OF BULK AT MOST 1048576: true; the input reads as it did. -/
def solveUnitsUptoRow : OpenClaim := { program := "ytmmjjkahaemlkaa", sum := "a36daee732f5e4425fddf07ddad36dea00cfd05f0181fa167302ca4cf17f90f3", func := "chamberlain/chamberlainlaw20.SolveUnits", spec := "solveUnits", unfollowed := true, recurses := true, apart := false, narrowed := true }
def SolveUnitsUptoSaid : Prop := solveUnitsUptoRow.holds Try.pinned (OpenSpec.upto solveUnitsSpec)

/-- 'chamberlainlaw21.ProofSolved', WHERE WHAT IT READS IS OF BULK AT MOST 1048576: true; the input reads as it did. -/
def proofSolvedUptoRow : OpenClaim := { program := "ytmmjjkahaemlkaa", sum := "a36daee732f5e4425fddf07ddad36dea00cfd05f0181fa167302ca4cf17f90f3", func := "chamberlain/chamberlainlaw21.ProofSolved", spec := "proofSolved", unfollowed := true, recurses := true, apart := false, narrowed := true }
def ProofSolvedUptoSaid : Prop := proofSolvedUptoRow.holds Try.pinned (OpenSpec.upto proofSolvedSpec)

/-- 'chamberlainlaw21.ProofLess', WHERE WHAT IT READS IS OF BULK AT MOST 1048576: true; the input reads as it did. -/
def proofLessUptoRow : OpenClaim := { program := "ytmmjjkahaemlkaa", sum := "a36daee732f5e4425fddf07ddad36dea00cfd05f0181fa167302ca4cf17f90f3", func := "chamberlain/chamberlainlaw21.ProofLess", spec := "proofLess", unfollowed := true, recurses := true, apart := false, narrowed := true }
def ProofLessUptoSaid : Prop := proofLessUptoRow.holds Try.pinned (OpenSpec.upto proofLessSpec)

end Rows
end Go.Proofs.Ytmmjjkahaemlkaa
