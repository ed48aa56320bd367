/-
  No cell of these rows narrows 'for every input' (looked for: loops, veiled, ifaces, maps, wideKeys, modest, calm, conditions, laid).
  DERIVED. THE GIVEN ROWS OF THIS SEAT. 6 by the template 'for every input the law returns true; each argument reads behind the call as it read before'; 0 by the template 'total and deterministic' (their statements: YtnjoledlgacpeaaTotals.lean).
  GIVEN WITH THE SEED: the statements are not yours to turn. If you find one false, say at which input.
  Laid BY PROGRAM, IN A SANDBOX (cutbox-rows.mjs): the forced cells as the released guide's own fill.sh prints them over the translation f2bee347bdf9af45… (all of the seat's roots in one cut). By AI agents, Wed Nov 11 2026. No macro, syntax, notation, axiom, sorry.
-/
import Derived.Test.YtnjoledlgacpeaaChecked
import GoSem.Claim
import GoSem.ClaimJoined
import GoSem.ClaimMapViews
import Derived.JoinedTies
import Derived.KernelRfl
namespace Go.Proofs.Ytnjoledlgacpeaa
/- THE CELL 'sum', in the pinned program and in every row, IS THE sha256 OF THE DUMP (.gsa) THAT YtnjoledlgacpeaaProg.lean LOADS. Nothing in Lean hashes anything: it is a label: what it is worth is what the hold of that sum in a sandbox is worth. -/
noncomputable def Try.pinned : Pinned := { name := "ytnjoledlgacpeaa", sum := "f2bee347bdf9af453a8ea1359e6d4b2c6d093157cc91c6858c703d44e1512abf", checked := Try.checked }
namespace Rows
def none {H : Type} : Left H := { results := [], args := [] }

/-- 'chamberlainlaw24.QuotaPlays': WHATEVER THE INPUT: true; the input reads as it did. -/
def quotaPlaysSpec : ChangeSpec := { name := "quotaPlays", fn := fun _ => fun
  | [d] => { results := [.lit (.bool true)], args := [d] }
  | _ => none }
def quotaPlaysRow : OpenClaim := { program := "ytnjoledlgacpeaa", sum := "f2bee347bdf9af453a8ea1359e6d4b2c6d093157cc91c6858c703d44e1512abf", func := "chamberlain/chamberlainlaw24.QuotaPlays", spec := "quotaPlays", unfollowed := true, recurses := true, apart := false }
def QuotaPlaysSaid : Prop := quotaPlaysRow.holds Try.pinned (OpenSpec.ofChange quotaPlaysSpec)

/-- ITS FALSE NEIGHBOUR: 'it returns false'. Refute it at one input. -/
def quotaPlaysWrong : ChangeSpec := { name := "quotaPlays", fn := fun _ => fun
  | [d] => { results := [.lit (.bool false)], args := [d] }
  | _ => none }
def QuotaPlaysWrongFalsely : Prop := quotaPlaysRow.holds Try.pinned (OpenSpec.ofChange quotaPlaysWrong)

/-- 'chamberlainlaw24.QuotaSums': WHATEVER THE INPUT: true; the input reads as it did. -/
def quotaSumsSpec : ChangeSpec := { name := "quotaSums", fn := fun _ => fun
  | [d] => { results := [.lit (.bool true)], args := [d] }
  | _ => none }
def quotaSumsRow : OpenClaim := { program := "ytnjoledlgacpeaa", sum := "f2bee347bdf9af453a8ea1359e6d4b2c6d093157cc91c6858c703d44e1512abf", func := "chamberlain/chamberlainlaw24.QuotaSums", spec := "quotaSums", unfollowed := true, recurses := true, apart := false }
def QuotaSumsSaid : Prop := quotaSumsRow.holds Try.pinned (OpenSpec.ofChange quotaSumsSpec)

/-- ITS FALSE NEIGHBOUR: 'it returns false'. Refute it at one input. -/
def quotaSumsWrong : ChangeSpec := { name := "quotaSums", fn := fun _ => fun
  | [d] => { results := [.lit (.bool false)], args := [d] }
  | _ => none }
def QuotaSumsWrongFalsely : Prop := quotaSumsRow.holds Try.pinned (OpenSpec.ofChange quotaSumsWrong)

/-- 'chamberlainlaw24.QuotaBack': WHATEVER THE INPUT: true; the input reads as it did. -/
def quotaBackSpec : ChangeSpec := { name := "quotaBack", fn := fun _ => fun
  | [d1, d2, d3] => { results := [.lit (.bool true)], args := [d1, d2, d3] }
  | _ => none }
def quotaBackRow : OpenClaim := { program := "ytnjoledlgacpeaa", sum := "f2bee347bdf9af453a8ea1359e6d4b2c6d093157cc91c6858c703d44e1512abf", func := "chamberlain/chamberlainlaw24.QuotaBack", spec := "quotaBack", unfollowed := true, recurses := true, apart := false }
def QuotaBackSaid : Prop := quotaBackRow.holds Try.pinned (OpenSpec.ofChange quotaBackSpec)

/-- ITS FALSE NEIGHBOUR: 'it returns false'. Refute it at one input. -/
def quotaBackWrong : ChangeSpec := { name := "quotaBack", fn := fun _ => fun
  | [d1, d2, d3] => { results := [.lit (.bool false)], args := [d1, d2, d3] }
  | _ => none }
def QuotaBackWrongFalsely : Prop := quotaBackRow.holds Try.pinned (OpenSpec.ofChange quotaBackWrong)

/-- 'chamberlainlaw24.QuotaLines': WHATEVER THE INPUT: true; the input reads as it did. -/
def quotaLinesSpec : ChangeSpec := { name := "quotaLines", fn := fun _ => fun
  | [d1, d2] => { results := [.lit (.bool true)], args := [d1, d2] }
  | _ => none }
def quotaLinesRow : OpenClaim := { program := "ytnjoledlgacpeaa", sum := "f2bee347bdf9af453a8ea1359e6d4b2c6d093157cc91c6858c703d44e1512abf", func := "chamberlain/chamberlainlaw24.QuotaLines", spec := "quotaLines", unfollowed := true, recurses := true, apart := false }
def QuotaLinesSaid : Prop := quotaLinesRow.holds Try.pinned (OpenSpec.ofChange quotaLinesSpec)

/-- ITS FALSE NEIGHBOUR: 'it returns false'. Refute it at one input. -/
def quotaLinesWrong : ChangeSpec := { name := "quotaLines", fn := fun _ => fun
  | [d1, d2] => { results := [.lit (.bool false)], args := [d1, d2] }
  | _ => none }
def QuotaLinesWrongFalsely : Prop := quotaLinesRow.holds Try.pinned (OpenSpec.ofChange quotaLinesWrong)

/-- 'chamberlainlaw24.QuotaCopies': WHATEVER THE INPUT: true; the input reads as it did. -/
def quotaCopiesSpec : ChangeSpec := { name := "quotaCopies", fn := fun _ => fun
  | [d1, d2] => { results := [.lit (.bool true)], args := [d1, d2] }
  | _ => none }
def quotaCopiesRow : OpenClaim := { program := "ytnjoledlgacpeaa", sum := "f2bee347bdf9af453a8ea1359e6d4b2c6d093157cc91c6858c703d44e1512abf", func := "chamberlain/chamberlainlaw24.QuotaCopies", spec := "quotaCopies", inPlace := ["maps.clone"], unfollowed := true, recurses := true, apart := false }
def QuotaCopiesSaid : Prop := quotaCopiesRow.holds Try.pinned (OpenSpec.ofChange quotaCopiesSpec)

/-- ITS FALSE NEIGHBOUR: 'it returns false'. Refute it at one input. -/
def quotaCopiesWrong : ChangeSpec := { name := "quotaCopies", fn := fun _ => fun
  | [d1, d2] => { results := [.lit (.bool false)], args := [d1, d2] }
  | _ => none }
def QuotaCopiesWrongFalsely : Prop := quotaCopiesRow.holds Try.pinned (OpenSpec.ofChange quotaCopiesWrong)

/-- 'chamberlainlaw24.QuotaRefuses': WHATEVER THE INPUT: true; the input reads as it did. -/
def quotaRefusesSpec : ChangeSpec := { name := "quotaRefuses", fn := fun _ => fun
  | [d1, d2] => { results := [.lit (.bool true)], args := [d1, d2] }
  | _ => none }
def quotaRefusesRow : OpenClaim := { program := "ytnjoledlgacpeaa", sum := "f2bee347bdf9af453a8ea1359e6d4b2c6d093157cc91c6858c703d44e1512abf", func := "chamberlain/chamberlainlaw24.QuotaRefuses", spec := "quotaRefuses", inPlace := ["maps.clone"], unfollowed := true, recurses := true, apart := false }
def QuotaRefusesSaid : Prop := quotaRefusesRow.holds Try.pinned (OpenSpec.ofChange quotaRefusesSpec)

/-- ITS FALSE NEIGHBOUR: 'it returns false'. Refute it at one input. -/
def quotaRefusesWrong : ChangeSpec := { name := "quotaRefuses", fn := fun _ => fun
  | [d1, d2] => { results := [.lit (.bool false)], args := [d1, d2] }
  | _ => none }
def QuotaRefusesWrongFalsely : Prop := quotaRefusesRow.holds Try.pinned (OpenSpec.ofChange quotaRefusesWrong)

/- THE SECOND FORM. 'bulk': how many values and letters a reading holds, each counted each time it is reached (what is shared counts as often as it is met; a slice's spare places count too). A statement '..UptoSaid' is the law's where the arguments, and the package variables that the reading takes, are together of bulk at most 1048576: NARROWER than '..Said'. Prove '..Said' where nothing that the law and all that it calls make is longer than what came in: it says more and counts as full. Else prove '..UptoSaid'. A law counts once. -/
mutual
def uptoBulk {H : Type} : DataW H → Nat
  | .lit (.string bytes) => bytes.length + 1
  | .lit _ => 1
  | .nil => 1
  | .ptr d => uptoBulk d + 1
  | .slice elems spare => uptoBulkAll elems + uptoBulkAll spare + 1
  | .agg parts => uptoBulkAll parts + 1
  | .iface _ d => uptoBulk d + 1
  | .map entries => uptoBulkEntries entries + 1
  | .held _ => 1
def uptoBulkAll {H : Type} : List (DataW H) → Nat
  | [] => 0
  | d :: r => uptoBulk d + uptoBulkAll r
def uptoBulkEntries {H : Type} : List (Lit × DataW H) → Nat
  | [] => 0
  | x :: r => uptoBulkEntry x + uptoBulkEntries r
def uptoBulkEntry {H : Type} : Lit × DataW H → Nat
  | (.string bytes, d) => bytes.length + uptoBulk d + 1
  | (_, d) => uptoBulk d + 1
 end
def uptoSmall : (H : Type) → List (DataW H) → Bool := fun _ ds => decide (uptoBulkAll ds ≤ 1048576)
def OpenSpec.upto (s : _root_.Go.ChangeSpec) : _root_.Go.OpenSpec := { _root_.Go.OpenSpec.ofChange s with cond := some uptoSmall }

/-- 'chamberlainlaw24.QuotaPlays', WHERE WHAT IT READS IS OF BULK AT MOST 1048576: true; the input reads as it did. -/
def quotaPlaysUptoRow : OpenClaim := { program := "ytnjoledlgacpeaa", sum := "f2bee347bdf9af453a8ea1359e6d4b2c6d093157cc91c6858c703d44e1512abf", func := "chamberlain/chamberlainlaw24.QuotaPlays", spec := "quotaPlays", unfollowed := true, recurses := true, apart := false, narrowed := true }
def QuotaPlaysUptoSaid : Prop := quotaPlaysUptoRow.holds Try.pinned (OpenSpec.upto quotaPlaysSpec)

/-- 'chamberlainlaw24.QuotaSums', WHERE WHAT IT READS IS OF BULK AT MOST 1048576: true; the input reads as it did. -/
def quotaSumsUptoRow : OpenClaim := { program := "ytnjoledlgacpeaa", sum := "f2bee347bdf9af453a8ea1359e6d4b2c6d093157cc91c6858c703d44e1512abf", func := "chamberlain/chamberlainlaw24.QuotaSums", spec := "quotaSums", unfollowed := true, recurses := true, apart := false, narrowed := true }
def QuotaSumsUptoSaid : Prop := quotaSumsUptoRow.holds Try.pinned (OpenSpec.upto quotaSumsSpec)

/-- 'chamberlainlaw24.QuotaBack', WHERE WHAT IT READS IS OF BULK AT MOST 1048576: true; the input reads as it did. -/
def quotaBackUptoRow : OpenClaim := { program := "ytnjoledlgacpeaa", sum := "f2bee347bdf9af453a8ea1359e6d4b2c6d093157cc91c6858c703d44e1512abf", func := "chamberlain/chamberlainlaw24.QuotaBack", spec := "quotaBack", unfollowed := true, recurses := true, apart := false, narrowed := true }
def QuotaBackUptoSaid : Prop := quotaBackUptoRow.holds Try.pinned (OpenSpec.upto quotaBackSpec)

/-- 'chamberlainlaw24.QuotaLines', WHERE WHAT IT READS IS OF BULK AT MOST 1048576: true; the input reads as it did. -/
def quotaLinesUptoRow : OpenClaim := { program := "ytnjoledlgacpeaa", sum := "f2bee347bdf9af453a8ea1359e6d4b2c6d093157cc91c6858c703d44e1512abf", func := "chamberlain/chamberlainlaw24.QuotaLines", spec := "quotaLines", unfollowed := true, recurses := true, apart := false, narrowed := true }
def QuotaLinesUptoSaid : Prop := quotaLinesUptoRow.holds Try.pinned (OpenSpec.upto quotaLinesSpec)

/-- 'chamberlainlaw24.QuotaCopies', WHERE WHAT IT READS IS OF BULK AT MOST 1048576: true; the input reads as it did. -/
def quotaCopiesUptoRow : OpenClaim := { program := "ytnjoledlgacpeaa", sum := "f2bee347bdf9af453a8ea1359e6d4b2c6d093157cc91c6858c703d44e1512abf", func := "chamberlain/chamberlainlaw24.QuotaCopies", spec := "quotaCopies", inPlace := ["maps.clone"], unfollowed := true, recurses := true, apart := false, narrowed := true }
def QuotaCopiesUptoSaid : Prop := quotaCopiesUptoRow.holds Try.pinned (OpenSpec.upto quotaCopiesSpec)

/-- 'chamberlainlaw24.QuotaRefuses', WHERE WHAT IT READS IS OF BULK AT MOST 1048576: true; the input reads as it did. -/
def quotaRefusesUptoRow : OpenClaim := { program := "ytnjoledlgacpeaa", sum := "f2bee347bdf9af453a8ea1359e6d4b2c6d093157cc91c6858c703d44e1512abf", func := "chamberlain/chamberlainlaw24.QuotaRefuses", spec := "quotaRefuses", inPlace := ["maps.clone"], unfollowed := true, recurses := true, apart := false, narrowed := true }
def QuotaRefusesUptoSaid : Prop := quotaRefusesUptoRow.holds Try.pinned (OpenSpec.upto quotaRefusesSpec)

end Rows
end Go.Proofs.Ytnjoledlgacpeaa
