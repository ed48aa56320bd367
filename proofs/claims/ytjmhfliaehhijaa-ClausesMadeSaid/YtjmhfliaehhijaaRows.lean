/-
  NARROWER THAN 'FOR EVERY INPUT', by the rows' own cells (each row's printed sentence says how): LogicChecks: loops · LogicEvals: loops · LogicSimple: loops · LogicTurned: loops · ClausesMade: loops · ClausesTrue: loops.
  DERIVED. THE GIVEN ROWS OF THIS SEAT. 9 by the template 'for every input the law returns true; each argument reads behind the call as it read before'; 0 by the template 'total and deterministic' (their statements: YtjmhfliaehhijaaTotals.lean).
  GIVEN WITH THE SEED: the statements are not yours to turn. If you find one false, say at which input.
  Laid BY PROGRAM, IN A SANDBOX (cutbox-rows.mjs): the forced cells as the released guide's own fill.sh prints them over the translation c43028ea2ce830e9… (all of the seat's roots in one cut). By AI agents, Wed Nov 11 2026. No macro, syntax, notation, axiom, sorry.
-/
import Derived.Test.YtjmhfliaehhijaaChecked
import GoSem.Claim
import GoSem.ClaimJoined
import GoSem.ClaimMapViews
import Derived.JoinedTies
import Derived.KernelRfl
namespace Go.Proofs.Ytjmhfliaehhijaa
/- THE CELL 'sum', in the pinned program and in every row, IS THE sha256 OF THE DUMP (.gsa) THAT YtjmhfliaehhijaaProg.lean LOADS. Nothing in Lean hashes anything: it is a label: what it is worth is what the hold of that sum in a sandbox is worth. -/
noncomputable def Try.pinned : Pinned := { name := "ytjmhfliaehhijaa", sum := "c43028ea2ce830e9b3747b28e90d0522ce243c3e94f250b49d611407d3e2bea0", checked := Try.checked }
namespace Rows
def none {H : Type} : Left H := { results := [], args := [] }

/-- 'chamberlainlaw18.LogicChecks': WHATEVER THE INPUT: true; the input reads as it did. -/
def logicChecksSpec : ChangeSpec := { name := "logicChecks", fn := fun _ => fun
  | [d1, d2] => { results := [.lit (.bool true)], args := [d1, d2] }
  | _ => none }
def logicChecksRow : OpenClaim := { program := "ytjmhfliaehhijaa", sum := "c43028ea2ce830e9b3747b28e90d0522ce243c3e94f250b49d611407d3e2bea0", func := "chamberlain/chamberlainlaw18.LogicChecks", spec := "logicChecks", unfollowed := true, recurses := true, loops := true, apart := false }
def LogicChecksSaid : Prop := logicChecksRow.holds Try.pinned (OpenSpec.ofChange logicChecksSpec)

/-- ITS FALSE NEIGHBOUR: 'it returns false'. Refute it at one input. -/
def logicChecksWrong : ChangeSpec := { name := "logicChecks", fn := fun _ => fun
  | [d1, d2] => { results := [.lit (.bool false)], args := [d1, d2] }
  | _ => none }
def LogicChecksWrongFalsely : Prop := logicChecksRow.holds Try.pinned (OpenSpec.ofChange logicChecksWrong)

/-- 'chamberlainlaw18.LogicEvals': WHATEVER THE INPUT: true; the input reads as it did. -/
def logicEvalsSpec : ChangeSpec := { name := "logicEvals", fn := fun _ => fun
  | [d1, d2] => { results := [.lit (.bool true)], args := [d1, d2] }
  | _ => none }
def logicEvalsRow : OpenClaim := { program := "ytjmhfliaehhijaa", sum := "c43028ea2ce830e9b3747b28e90d0522ce243c3e94f250b49d611407d3e2bea0", func := "chamberlain/chamberlainlaw18.LogicEvals", spec := "logicEvals", unfollowed := true, recurses := true, loops := true, apart := false }
def LogicEvalsSaid : Prop := logicEvalsRow.holds Try.pinned (OpenSpec.ofChange logicEvalsSpec)

/-- ITS FALSE NEIGHBOUR: 'it returns false'. Refute it at one input. -/
def logicEvalsWrong : ChangeSpec := { name := "logicEvals", fn := fun _ => fun
  | [d1, d2] => { results := [.lit (.bool false)], args := [d1, d2] }
  | _ => none }
def LogicEvalsWrongFalsely : Prop := logicEvalsRow.holds Try.pinned (OpenSpec.ofChange logicEvalsWrong)

/-- 'chamberlainlaw18.LogicSimple': WHATEVER THE INPUT: true; the input reads as it did. -/
def logicSimpleSpec : ChangeSpec := { name := "logicSimple", fn := fun _ => fun
  | [d1, d2] => { results := [.lit (.bool true)], args := [d1, d2] }
  | _ => none }
def logicSimpleRow : OpenClaim := { program := "ytjmhfliaehhijaa", sum := "c43028ea2ce830e9b3747b28e90d0522ce243c3e94f250b49d611407d3e2bea0", func := "chamberlain/chamberlainlaw18.LogicSimple", spec := "logicSimple", unfollowed := true, recurses := true, loops := true, apart := false }
def LogicSimpleSaid : Prop := logicSimpleRow.holds Try.pinned (OpenSpec.ofChange logicSimpleSpec)

/-- ITS FALSE NEIGHBOUR: 'it returns false'. Refute it at one input. -/
def logicSimpleWrong : ChangeSpec := { name := "logicSimple", fn := fun _ => fun
  | [d1, d2] => { results := [.lit (.bool false)], args := [d1, d2] }
  | _ => none }
def LogicSimpleWrongFalsely : Prop := logicSimpleRow.holds Try.pinned (OpenSpec.ofChange logicSimpleWrong)

/-- 'chamberlainlaw18.LogicTurned': WHATEVER THE INPUT: true; the input reads as it did. -/
def logicTurnedSpec : ChangeSpec := { name := "logicTurned", fn := fun _ => fun
  | [d1, d2, d3] => { results := [.lit (.bool true)], args := [d1, d2, d3] }
  | _ => none }
def logicTurnedRow : OpenClaim := { program := "ytjmhfliaehhijaa", sum := "c43028ea2ce830e9b3747b28e90d0522ce243c3e94f250b49d611407d3e2bea0", func := "chamberlain/chamberlainlaw18.LogicTurned", spec := "logicTurned", unfollowed := true, recurses := true, loops := true, apart := false }
def LogicTurnedSaid : Prop := logicTurnedRow.holds Try.pinned (OpenSpec.ofChange logicTurnedSpec)

/-- ITS FALSE NEIGHBOUR: 'it returns false'. Refute it at one input. -/
def logicTurnedWrong : ChangeSpec := { name := "logicTurned", fn := fun _ => fun
  | [d1, d2, d3] => { results := [.lit (.bool false)], args := [d1, d2, d3] }
  | _ => none }
def LogicTurnedWrongFalsely : Prop := logicTurnedRow.holds Try.pinned (OpenSpec.ofChange logicTurnedWrong)

/-- 'chamberlainlaw18.LogicMany': WHATEVER THE INPUT: true; the input reads as it did. -/
def logicManySpec : ChangeSpec := { name := "logicMany", fn := fun _ => fun
  | [d1, d2, d3] => { results := [.lit (.bool true)], args := [d1, d2, d3] }
  | _ => none }
def logicManyRow : OpenClaim := { program := "ytjmhfliaehhijaa", sum := "c43028ea2ce830e9b3747b28e90d0522ce243c3e94f250b49d611407d3e2bea0", func := "chamberlain/chamberlainlaw18.LogicMany", spec := "logicMany", unfollowed := true, recurses := true, apart := false }
def LogicManySaid : Prop := logicManyRow.holds Try.pinned (OpenSpec.ofChange logicManySpec)

/-- ITS FALSE NEIGHBOUR: 'it returns false'. Refute it at one input. -/
def logicManyWrong : ChangeSpec := { name := "logicMany", fn := fun _ => fun
  | [d1, d2, d3] => { results := [.lit (.bool false)], args := [d1, d2, d3] }
  | _ => none }
def LogicManyWrongFalsely : Prop := logicManyRow.holds Try.pinned (OpenSpec.ofChange logicManyWrong)

/-- 'chamberlainlaw19.ClausesMade': WHATEVER THE INPUT: true; the input reads as it did. -/
def clausesMadeSpec : ChangeSpec := { name := "clausesMade", fn := fun _ => fun
  | [d1, d2] => { results := [.lit (.bool true)], args := [d1, d2] }
  | _ => none }
def clausesMadeRow : OpenClaim := { program := "ytjmhfliaehhijaa", sum := "c43028ea2ce830e9b3747b28e90d0522ce243c3e94f250b49d611407d3e2bea0", func := "chamberlain/chamberlainlaw19.ClausesMade", spec := "clausesMade", unfollowed := true, recurses := true, loops := true, apart := false }
def ClausesMadeSaid : Prop := clausesMadeRow.holds Try.pinned (OpenSpec.ofChange clausesMadeSpec)

/-- ITS FALSE NEIGHBOUR: 'it returns false'. Refute it at one input. -/
def clausesMadeWrong : ChangeSpec := { name := "clausesMade", fn := fun _ => fun
  | [d1, d2] => { results := [.lit (.bool false)], args := [d1, d2] }
  | _ => none }
def ClausesMadeWrongFalsely : Prop := clausesMadeRow.holds Try.pinned (OpenSpec.ofChange clausesMadeWrong)

/-- 'chamberlainlaw19.ClausesMet': WHATEVER THE INPUT: true; the input reads as it did. -/
def clausesMetSpec : ChangeSpec := { name := "clausesMet", fn := fun _ => fun
  | [d1, d2] => { results := [.lit (.bool true)], args := [d1, d2] }
  | _ => none }
def clausesMetRow : OpenClaim := { program := "ytjmhfliaehhijaa", sum := "c43028ea2ce830e9b3747b28e90d0522ce243c3e94f250b49d611407d3e2bea0", func := "chamberlain/chamberlainlaw19.ClausesMet", spec := "clausesMet", unfollowed := true, recurses := true, apart := false }
def ClausesMetSaid : Prop := clausesMetRow.holds Try.pinned (OpenSpec.ofChange clausesMetSpec)

/-- ITS FALSE NEIGHBOUR: 'it returns false'. Refute it at one input. -/
def clausesMetWrong : ChangeSpec := { name := "clausesMet", fn := fun _ => fun
  | [d1, d2] => { results := [.lit (.bool false)], args := [d1, d2] }
  | _ => none }
def ClausesMetWrongFalsely : Prop := clausesMetRow.holds Try.pinned (OpenSpec.ofChange clausesMetWrong)

/-- 'chamberlainlaw19.ClausesTrue': WHATEVER THE INPUT: true; the input reads as it did. -/
def clausesTrueSpec : ChangeSpec := { name := "clausesTrue", fn := fun _ => fun
  | [d1, d2] => { results := [.lit (.bool true)], args := [d1, d2] }
  | _ => none }
def clausesTrueRow : OpenClaim := { program := "ytjmhfliaehhijaa", sum := "c43028ea2ce830e9b3747b28e90d0522ce243c3e94f250b49d611407d3e2bea0", func := "chamberlain/chamberlainlaw19.ClausesTrue", spec := "clausesTrue", unfollowed := true, recurses := true, loops := true, apart := false }
def ClausesTrueSaid : Prop := clausesTrueRow.holds Try.pinned (OpenSpec.ofChange clausesTrueSpec)

/-- ITS FALSE NEIGHBOUR: 'it returns false'. Refute it at one input. -/
def clausesTrueWrong : ChangeSpec := { name := "clausesTrue", fn := fun _ => fun
  | [d1, d2] => { results := [.lit (.bool false)], args := [d1, d2] }
  | _ => none }
def ClausesTrueWrongFalsely : Prop := clausesTrueRow.holds Try.pinned (OpenSpec.ofChange clausesTrueWrong)

/-- 'chamberlainlaw19.ClausesLiterals': WHATEVER THE INPUT: true; the input reads as it did. -/
def clausesLiteralsSpec : ChangeSpec := { name := "clausesLiterals", fn := fun _ => fun
  | [d1, d2, d3] => { results := [.lit (.bool true)], args := [d1, d2, d3] }
  | _ => none }
def clausesLiteralsRow : OpenClaim := { program := "ytjmhfliaehhijaa", sum := "c43028ea2ce830e9b3747b28e90d0522ce243c3e94f250b49d611407d3e2bea0", func := "chamberlain/chamberlainlaw19.ClausesLiterals", spec := "clausesLiterals", unfollowed := true, recurses := true, apart := false }
def ClausesLiteralsSaid : Prop := clausesLiteralsRow.holds Try.pinned (OpenSpec.ofChange clausesLiteralsSpec)

/-- ITS FALSE NEIGHBOUR: 'it returns false'. Refute it at one input. -/
def clausesLiteralsWrong : ChangeSpec := { name := "clausesLiterals", fn := fun _ => fun
  | [d1, d2, d3] => { results := [.lit (.bool false)], args := [d1, d2, d3] }
  | _ => none }
def ClausesLiteralsWrongFalsely : Prop := clausesLiteralsRow.holds Try.pinned (OpenSpec.ofChange clausesLiteralsWrong)

/- THE SECOND FORM. 'bulk': how many values and letters a reading holds, each counted each time it is reached (what is shared counts as often as it is met; a slice's spare places count too). A statement '..UptoSaid' is the law's where the arguments, and the package variables that the reading takes, are together of bulk at most 1048576: NARROWER than '..Said'. Prove '..Said' where nothing that the law and all that it calls make is longer than what came in: it says more and counts as full. Else prove '..UptoSaid'. A law counts once. -/
mutual
def uptoBulk {H : Type} : DataW H → Nat
  | .lit (.string bytes) => bytes.length + 1
  | .lit _ => 1
  | .nil => 1
  | .ptr d => uptoBulk d + 1
  | .slice elems spare => uptoBulkAll elems + uptoBulkAll spare + 1
  | .agg parts => uptoBulkAll parts + 1
  | .iface _ d => uptoBulk d + 1
  | .map entries => uptoBulkEntries entries + 1
  | .held _ => 1
def uptoBulkAll {H : Type} : List (DataW H) → Nat
  | [] => 0
  | d :: r => uptoBulk d + uptoBulkAll r
def uptoBulkEntries {H : Type} : List (Lit × DataW H) → Nat
  | [] => 0
  | x :: r => uptoBulkEntry x + uptoBulkEntries r
def uptoBulkEntry {H : Type} : Lit × DataW H → Nat
  | (.string bytes, d) => bytes.length + uptoBulk d + 1
  | (_, d) => uptoBulk d + 1
 end
def uptoSmall : (H : Type) → List (DataW H) → Bool := fun _ ds => decide (uptoBulkAll ds ≤ 1048576)
def OpenSpec.upto (s : _root_.Go.ChangeSpec) : _root_.Go.OpenSpec := { _root_.Go.OpenSpec.ofChange s with cond := some uptoSmall }

/-- 'chamberlainlaw18.LogicChecks', WHERE WHAT IT READS IS OF BULK AT MOST 1048576: true; the input reads as it did. -/
def logicChecksUptoRow : OpenClaim := { program := "ytjmhfliaehhijaa", sum := "c43028ea2ce830e9b3747b28e90d0522ce243c3e94f250b49d611407d3e2bea0", func := "chamberlain/chamberlainlaw18.LogicChecks", spec := "logicChecks", unfollowed := true, recurses := true, loops := true, apart := false, narrowed := true }
def LogicChecksUptoSaid : Prop := logicChecksUptoRow.holds Try.pinned (OpenSpec.upto logicChecksSpec)

/-- 'chamberlainlaw18.LogicEvals', WHERE WHAT IT READS IS OF BULK AT MOST 1048576: true; the input reads as it did. -/
def logicEvalsUptoRow : OpenClaim := { program := "ytjmhfliaehhijaa", sum := "c43028ea2ce830e9b3747b28e90d0522ce243c3e94f250b49d611407d3e2bea0", func := "chamberlain/chamberlainlaw18.LogicEvals", spec := "logicEvals", unfollowed := true, recurses := true, loops := true, apart := false, narrowed := true }
def LogicEvalsUptoSaid : Prop := logicEvalsUptoRow.holds Try.pinned (OpenSpec.upto logicEvalsSpec)

/-- 'chamberlainlaw18.LogicSimple', WHERE WHAT IT READS IS OF BULK AT MOST 1048576: true; the input reads as it did. -/
def logicSimpleUptoRow : OpenClaim := { program := "ytjmhfliaehhijaa", sum := "c43028ea2ce830e9b3747b28e90d0522ce243c3e94f250b49d611407d3e2bea0", func := "chamberlain/chamberlainlaw18.LogicSimple", spec := "logicSimple", unfollowed := true, recurses := true, loops := true, apart := false, narrowed := true }
def LogicSimpleUptoSaid : Prop := logicSimpleUptoRow.holds Try.pinned (OpenSpec.upto logicSimpleSpec)

/-- 'chamberlainlaw18.LogicTurned', WHERE WHAT IT READS IS OF BULK AT MOST 1048576: true; the input reads as it did. -/
def logicTurnedUptoRow : OpenClaim := { program := "ytjmhfliaehhijaa", sum := "c43028ea2ce830e9b3747b28e90d0522ce243c3e94f250b49d611407d3e2bea0", func := "chamberlain/chamberlainlaw18.LogicTurned", spec := "logicTurned", unfollowed := true, recurses := true, loops := true, apart := false, narrowed := true }
def LogicTurnedUptoSaid : Prop := logicTurnedUptoRow.holds Try.pinned (OpenSpec.upto logicTurnedSpec)

/-- 'chamberlainlaw18.LogicMany', WHERE WHAT IT READS IS OF BULK AT MOST 1048576: true; the input reads as it did. -/
def logicManyUptoRow : OpenClaim := { program := "ytjmhfliaehhijaa", sum := "c43028ea2ce830e9b3747b28e90d0522ce243c3e94f250b49d611407d3e2bea0", func := "chamberlain/chamberlainlaw18.LogicMany", spec := "logicMany", unfollowed := true, recurses := true, apart := false, narrowed := true }
def LogicManyUptoSaid : Prop := logicManyUptoRow.holds Try.pinned (OpenSpec.upto logicManySpec)

/-- 'chamberlainlaw19.ClausesMade', WHERE WHAT IT READS IS OF BULK AT MOST 1048576: true; the input reads as it did. -/
def clausesMadeUptoRow : OpenClaim := { program := "ytjmhfliaehhijaa", sum := "c43028ea2ce830e9b3747b28e90d0522ce243c3e94f250b49d611407d3e2bea0", func := "chamberlain/chamberlainlaw19.ClausesMade", spec := "clausesMade", unfollowed := true, recurses := true, loops := true, apart := false, narrowed := true }
def ClausesMadeUptoSaid : Prop := clausesMadeUptoRow.holds Try.pinned (OpenSpec.upto clausesMadeSpec)

/-- 'chamberlainlaw19.ClausesMet', WHERE WHAT IT READS IS OF BULK AT MOST 1048576: true; the input reads as it did. -/
def clausesMetUptoRow : OpenClaim := { program := "ytjmhfliaehhijaa", sum := "c43028ea2ce830e9b3747b28e90d0522ce243c3e94f250b49d611407d3e2bea0", func := "chamberlain/chamberlainlaw19.ClausesMet", spec := "clausesMet", unfollowed := true, recurses := true, apart := false, narrowed := true }
def ClausesMetUptoSaid : Prop := clausesMetUptoRow.holds Try.pinned (OpenSpec.upto clausesMetSpec)

/-- 'chamberlainlaw19.ClausesTrue', WHERE WHAT IT READS IS OF BULK AT MOST 1048576: true; the input reads as it did. -/
def clausesTrueUptoRow : OpenClaim := { program := "ytjmhfliaehhijaa", sum := "c43028ea2ce830e9b3747b28e90d0522ce243c3e94f250b49d611407d3e2bea0", func := "chamberlain/chamberlainlaw19.ClausesTrue", spec := "clausesTrue", unfollowed := true, recurses := true, loops := true, apart := false, narrowed := true }
def ClausesTrueUptoSaid : Prop := clausesTrueUptoRow.holds Try.pinned (OpenSpec.upto clausesTrueSpec)

/-- 'chamberlainlaw19.ClausesLiterals', WHERE WHAT IT READS IS OF BULK AT MOST 1048576: true; the input reads as it did. -/
def clausesLiteralsUptoRow : OpenClaim := { program := "ytjmhfliaehhijaa", sum := "c43028ea2ce830e9b3747b28e90d0522ce243c3e94f250b49d611407d3e2bea0", func := "chamberlain/chamberlainlaw19.ClausesLiterals", spec := "clausesLiterals", unfollowed := true, recurses := true, apart := false, narrowed := true }
def ClausesLiteralsUptoSaid : Prop := clausesLiteralsUptoRow.holds Try.pinned (OpenSpec.upto clausesLiteralsSpec)

end Rows
end Go.Proofs.Ytjmhfliaehhijaa
