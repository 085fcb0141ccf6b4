/-
  No cell of these rows narrows 'for every input' (looked for: loops, veiled, ifaces, maps, wideKeys, modest, calm, conditions, laid).
  DERIVED. THE GIVEN ROWS OF THIS SEAT. 9 by the template 'for every input the law returns true; each argument reads behind the call as it read before'; 0 by the template 'total and deterministic' (their statements: YtcliklgiamlpeaaTotals.lean).
  GIVEN WITH THE SEED: the statements are not yours to turn. If you find one false, say at which input.
  Laid BY PROGRAM, IN A SANDBOX (cutbox-rows.mjs): the forced cells as the released guide's own fill.sh prints them over the translation 3dde8998c34a8141… (all of the seat's roots in one cut). By AI agents, Wed Nov 11 2026. No macro, syntax, notation, axiom, sorry.
-/
import Derived.Test.YtcliklgiamlpeaaChecked
import GoSem.Claim
import GoSem.ClaimJoined
import GoSem.ClaimMapViews
import Derived.JoinedTies
import Derived.KernelRfl
namespace Go.Proofs.Ytcliklgiamlpeaa
/- THE CELL 'sum', in the pinned program and in every row, IS THE sha256 OF THE DUMP (.gsa) THAT YtcliklgiamlpeaaProg.lean LOADS. Nothing in Lean hashes anything: it is a label: what it is worth is what the hold of that sum in a sandbox is worth. -/
noncomputable def Try.pinned : Pinned := { name := "ytcliklgiamlpeaa", sum := "3dde8998c34a8141ff5f1f545f40c6dba9e715bd0356e718936bd328a95302f2", checked := Try.checked }
namespace Rows
def none {H : Type} : Left H := { results := [], args := [] }

/-- 'parlancelaw08.LexMoved': WHATEVER THE INPUT: true; the input reads as it did. -/
def lexMovedSpec : ChangeSpec := { name := "lexMoved", fn := fun _ => fun
  | [d1, d2] => { results := [.lit (.bool true)], args := [d1, d2] }
  | _ => none }
def lexMovedRow : OpenClaim := { program := "ytcliklgiamlpeaa", sum := "3dde8998c34a8141ff5f1f545f40c6dba9e715bd0356e718936bd328a95302f2", func := "parlance/parlancelaw08.LexMoved", spec := "lexMoved", inPlace := ["internal/bytealg.IndexByteString"], apart := false }
def LexMovedSaid : Prop := lexMovedRow.holds Try.pinned (OpenSpec.ofChange lexMovedSpec)

/-- ITS FALSE NEIGHBOUR: 'it returns false'. Refute it at one input. -/
def lexMovedWrong : ChangeSpec := { name := "lexMoved", fn := fun _ => fun
  | [d1, d2] => { results := [.lit (.bool false)], args := [d1, d2] }
  | _ => none }
def LexMovedWrongFalsely : Prop := lexMovedRow.holds Try.pinned (OpenSpec.ofChange lexMovedWrong)

/-- 'parlancelaw08.LexAgain': WHATEVER THE INPUT: true; the input reads as it did. -/
def lexAgainSpec : ChangeSpec := { name := "lexAgain", fn := fun _ => fun
  | [d] => { results := [.lit (.bool true)], args := [d] }
  | _ => none }
def lexAgainRow : OpenClaim := { program := "ytcliklgiamlpeaa", sum := "3dde8998c34a8141ff5f1f545f40c6dba9e715bd0356e718936bd328a95302f2", func := "parlance/parlancelaw08.LexAgain", spec := "lexAgain", inPlace := ["internal/bytealg.IndexByteString"], apart := false }
def LexAgainSaid : Prop := lexAgainRow.holds Try.pinned (OpenSpec.ofChange lexAgainSpec)

/-- ITS FALSE NEIGHBOUR: 'it returns false'. Refute it at one input. -/
def lexAgainWrong : ChangeSpec := { name := "lexAgain", fn := fun _ => fun
  | [d] => { results := [.lit (.bool false)], args := [d] }
  | _ => none }
def LexAgainWrongFalsely : Prop := lexAgainRow.holds Try.pinned (OpenSpec.ofChange lexAgainWrong)

/-- 'parlancelaw08.LexMunch': WHATEVER THE INPUT: true; the input reads as it did. -/
def lexMunchSpec : ChangeSpec := { name := "lexMunch", fn := fun _ => fun
  | [d] => { results := [.lit (.bool true)], args := [d] }
  | _ => none }
def lexMunchRow : OpenClaim := { program := "ytcliklgiamlpeaa", sum := "3dde8998c34a8141ff5f1f545f40c6dba9e715bd0356e718936bd328a95302f2", func := "parlance/parlancelaw08.LexMunch", spec := "lexMunch", inPlace := ["internal/bytealg.IndexByteString"], apart := false }
def LexMunchSaid : Prop := lexMunchRow.holds Try.pinned (OpenSpec.ofChange lexMunchSpec)

/-- ITS FALSE NEIGHBOUR: 'it returns false'. Refute it at one input. -/
def lexMunchWrong : ChangeSpec := { name := "lexMunch", fn := fun _ => fun
  | [d] => { results := [.lit (.bool false)], args := [d] }
  | _ => none }
def LexMunchWrongFalsely : Prop := lexMunchRow.holds Try.pinned (OpenSpec.ofChange lexMunchWrong)

/-- 'parlancelaw08.LexWords': WHATEVER THE INPUT: true; the input reads as it did. -/
def lexWordsSpec : ChangeSpec := { name := "lexWords", fn := fun _ => fun
  | [d1, d2, d3] => { results := [.lit (.bool true)], args := [d1, d2, d3] }
  | _ => none }
def lexWordsRow : OpenClaim := { program := "ytcliklgiamlpeaa", sum := "3dde8998c34a8141ff5f1f545f40c6dba9e715bd0356e718936bd328a95302f2", func := "parlance/parlancelaw08.LexWords", spec := "lexWords", inPlace := ["internal/bytealg.IndexByteString"], apart := false }
def LexWordsSaid : Prop := lexWordsRow.holds Try.pinned (OpenSpec.ofChange lexWordsSpec)

/-- ITS FALSE NEIGHBOUR: 'it returns false'. Refute it at one input. -/
def lexWordsWrong : ChangeSpec := { name := "lexWords", fn := fun _ => fun
  | [d1, d2, d3] => { results := [.lit (.bool false)], args := [d1, d2, d3] }
  | _ => none }
def LexWordsWrongFalsely : Prop := lexWordsRow.holds Try.pinned (OpenSpec.ofChange lexWordsWrong)

/-- 'parlancelaw09.RelexEdits': WHATEVER THE INPUT: true; the input reads as it did. -/
def relexEditsSpec : ChangeSpec := { name := "relexEdits", fn := fun _ => fun
  | [d1, d2, d3, d4] => { results := [.lit (.bool true)], args := [d1, d2, d3, d4] }
  | _ => none }
def relexEditsRow : OpenClaim := { program := "ytcliklgiamlpeaa", sum := "3dde8998c34a8141ff5f1f545f40c6dba9e715bd0356e718936bd328a95302f2", func := "parlance/parlancelaw09.RelexEdits", spec := "relexEdits", inPlace := ["internal/bytealg.IndexByteString"], unfollowed := true, recurses := true, apart := false }
def RelexEditsSaid : Prop := relexEditsRow.holds Try.pinned (OpenSpec.ofChange relexEditsSpec)

/-- ITS FALSE NEIGHBOUR: 'it returns false'. Refute it at one input. -/
def relexEditsWrong : ChangeSpec := { name := "relexEdits", fn := fun _ => fun
  | [d1, d2, d3, d4] => { results := [.lit (.bool false)], args := [d1, d2, d3, d4] }
  | _ => none }
def RelexEditsWrongFalsely : Prop := relexEditsRow.holds Try.pinned (OpenSpec.ofChange relexEditsWrong)

/-- 'parlancelaw09.RelexRows': WHATEVER THE INPUT: true; the input reads as it did. -/
def relexRowsSpec : ChangeSpec := { name := "relexRows", fn := fun _ => fun
  | [d1, d2] => { results := [.lit (.bool true)], args := [d1, d2] }
  | _ => none }
def relexRowsRow : OpenClaim := { program := "ytcliklgiamlpeaa", sum := "3dde8998c34a8141ff5f1f545f40c6dba9e715bd0356e718936bd328a95302f2", func := "parlance/parlancelaw09.RelexRows", spec := "relexRows", inPlace := ["internal/bytealg.IndexByteString"], unfollowed := true, recurses := true, apart := false }
def RelexRowsSaid : Prop := relexRowsRow.holds Try.pinned (OpenSpec.ofChange relexRowsSpec)

/-- ITS FALSE NEIGHBOUR: 'it returns false'. Refute it at one input. -/
def relexRowsWrong : ChangeSpec := { name := "relexRows", fn := fun _ => fun
  | [d1, d2] => { results := [.lit (.bool false)], args := [d1, d2] }
  | _ => none }
def RelexRowsWrongFalsely : Prop := relexRowsRow.holds Try.pinned (OpenSpec.ofChange relexRowsWrong)

/-- 'parlancelaw09.RelexNothing': WHATEVER THE INPUT: true; the input reads as it did. -/
def relexNothingSpec : ChangeSpec := { name := "relexNothing", fn := fun _ => fun
  | [d1, d2, d3] => { results := [.lit (.bool true)], args := [d1, d2, d3] }
  | _ => none }
def relexNothingRow : OpenClaim := { program := "ytcliklgiamlpeaa", sum := "3dde8998c34a8141ff5f1f545f40c6dba9e715bd0356e718936bd328a95302f2", func := "parlance/parlancelaw09.RelexNothing", spec := "relexNothing", inPlace := ["internal/bytealg.IndexByteString"], unfollowed := true, recurses := true, apart := false }
def RelexNothingSaid : Prop := relexNothingRow.holds Try.pinned (OpenSpec.ofChange relexNothingSpec)

/-- ITS FALSE NEIGHBOUR: 'it returns false'. Refute it at one input. -/
def relexNothingWrong : ChangeSpec := { name := "relexNothing", fn := fun _ => fun
  | [d1, d2, d3] => { results := [.lit (.bool false)], args := [d1, d2, d3] }
  | _ => none }
def RelexNothingWrongFalsely : Prop := relexNothingRow.holds Try.pinned (OpenSpec.ofChange relexNothingWrong)

/-- 'parlancelaw09.RelexSpans': WHATEVER THE INPUT: true; the input reads as it did. -/
def relexSpansSpec : ChangeSpec := { name := "relexSpans", fn := fun _ => fun
  | [d1, d2] => { results := [.lit (.bool true)], args := [d1, d2] }
  | _ => none }
def relexSpansRow : OpenClaim := { program := "ytcliklgiamlpeaa", sum := "3dde8998c34a8141ff5f1f545f40c6dba9e715bd0356e718936bd328a95302f2", func := "parlance/parlancelaw09.RelexSpans", spec := "relexSpans", inPlace := ["internal/bytealg.IndexByteString"], unfollowed := true, recurses := true, apart := false }
def RelexSpansSaid : Prop := relexSpansRow.holds Try.pinned (OpenSpec.ofChange relexSpansSpec)

/-- ITS FALSE NEIGHBOUR: 'it returns false'. Refute it at one input. -/
def relexSpansWrong : ChangeSpec := { name := "relexSpans", fn := fun _ => fun
  | [d1, d2] => { results := [.lit (.bool false)], args := [d1, d2] }
  | _ => none }
def RelexSpansWrongFalsely : Prop := relexSpansRow.holds Try.pinned (OpenSpec.ofChange relexSpansWrong)

/-- 'parlancelaw09.RelexApart': WHATEVER THE INPUT: true; the input reads as it did. -/
def relexApartSpec : ChangeSpec := { name := "relexApart", fn := fun _ => fun
  | [d] => { results := [.lit (.bool true)], args := [d] }
  | _ => none }
def relexApartRow : OpenClaim := { program := "ytcliklgiamlpeaa", sum := "3dde8998c34a8141ff5f1f545f40c6dba9e715bd0356e718936bd328a95302f2", func := "parlance/parlancelaw09.RelexApart", spec := "relexApart", inPlace := ["internal/bytealg.IndexByteString"], unfollowed := true, recurses := true, apart := false }
def RelexApartSaid : Prop := relexApartRow.holds Try.pinned (OpenSpec.ofChange relexApartSpec)

/-- ITS FALSE NEIGHBOUR: 'it returns false'. Refute it at one input. -/
def relexApartWrong : ChangeSpec := { name := "relexApart", fn := fun _ => fun
  | [d] => { results := [.lit (.bool false)], args := [d] }
  | _ => none }
def RelexApartWrongFalsely : Prop := relexApartRow.holds Try.pinned (OpenSpec.ofChange relexApartWrong)

/- THE SECOND FORM. 'bulk': how many values and letters a reading holds, each counted each time it is reached (what is shared counts as often as it is met; a slice's spare places count too). A statement '..UptoSaid' is the law's where the arguments, and the package variables that the reading takes, are together of bulk at most 1048576: NARROWER than '..Said'. Prove '..Said' where nothing that the law and all that it calls make is longer than what came in: it says more and counts as full. Else prove '..UptoSaid'. A law counts once. -/
mutual
def uptoBulk {H : Type} : DataW H → Nat
  | .lit (.string bytes) => bytes.length + 1
  | .lit _ => 1
  | .nil => 1
  | .ptr d => uptoBulk d + 1
  | .slice elems spare => uptoBulkAll elems + uptoBulkAll spare + 1
  | .agg parts => uptoBulkAll parts + 1
  | .iface _ d => uptoBulk d + 1
  | .map entries => uptoBulkEntries entries + 1
  | .held _ => 1
def uptoBulkAll {H : Type} : List (DataW H) → Nat
  | [] => 0
  | d :: r => uptoBulk d + uptoBulkAll r
def uptoBulkEntries {H : Type} : List (Lit × DataW H) → Nat
  | [] => 0
  | x :: r => uptoBulkEntry x + uptoBulkEntries r
def uptoBulkEntry {H : Type} : Lit × DataW H → Nat
  | (.string bytes, d) => bytes.length + uptoBulk d + 1
  | (_, d) => uptoBulk d + 1
 end
def uptoSmall : (H : Type) → List (DataW H) → Bool := fun _ ds => decide (uptoBulkAll ds ≤ 1048576)
def OpenSpec.upto (s : _root_.Go.ChangeSpec) : _root_.Go.OpenSpec := { _root_.Go.OpenSpec.ofChange s with cond := some uptoSmall }

/-- 'parlancelaw08.LexMoved', WHERE WHAT IT READS IS OF BULK AT MOST 1048576: true; the input reads as it did. -/
def lexMovedUptoRow : OpenClaim := { program := "ytcliklgiamlpeaa", sum := "3dde8998c34a8141ff5f1f545f40c6dba9e715bd0356e718936bd328a95302f2", func := "parlance/parlancelaw08.LexMoved", spec := "lexMoved", inPlace := ["internal/bytealg.IndexByteString"], apart := false, narrowed := true }
def LexMovedUptoSaid : Prop := lexMovedUptoRow.holds Try.pinned (OpenSpec.upto lexMovedSpec)

/-- 'parlancelaw08.LexAgain', WHERE WHAT IT READS IS OF BULK AT MOST 1048576: true; the input reads as it did. -/
def lexAgainUptoRow : OpenClaim := { program := "ytcliklgiamlpeaa", sum := "3dde8998c34a8141ff5f1f545f40c6dba9e715bd0356e718936bd328a95302f2", func := "parlance/parlancelaw08.LexAgain", spec := "lexAgain", inPlace := ["internal/bytealg.IndexByteString"], apart := false, narrowed := true }
def LexAgainUptoSaid : Prop := lexAgainUptoRow.holds Try.pinned (OpenSpec.upto lexAgainSpec)

/-- 'parlancelaw08.LexMunch', WHERE WHAT IT READS IS OF BULK AT MOST 1048576: true; the input reads as it did. -/
def lexMunchUptoRow : OpenClaim := { program := "ytcliklgiamlpeaa", sum := "3dde8998c34a8141ff5f1f545f40c6dba9e715bd0356e718936bd328a95302f2", func := "parlance/parlancelaw08.LexMunch", spec := "lexMunch", inPlace := ["internal/bytealg.IndexByteString"], apart := false, narrowed := true }
def LexMunchUptoSaid : Prop := lexMunchUptoRow.holds Try.pinned (OpenSpec.upto lexMunchSpec)

/-- 'parlancelaw08.LexWords', WHERE WHAT IT READS IS OF BULK AT MOST 1048576: true; the input reads as it did. -/
def lexWordsUptoRow : OpenClaim := { program := "ytcliklgiamlpeaa", sum := "3dde8998c34a8141ff5f1f545f40c6dba9e715bd0356e718936bd328a95302f2", func := "parlance/parlancelaw08.LexWords", spec := "lexWords", inPlace := ["internal/bytealg.IndexByteString"], apart := false, narrowed := true }
def LexWordsUptoSaid : Prop := lexWordsUptoRow.holds Try.pinned (OpenSpec.upto lexWordsSpec)

/-- 'parlancelaw09.RelexEdits', WHERE WHAT IT READS IS OF BULK AT MOST 1048576: true; the input reads as it did. -/
def relexEditsUptoRow : OpenClaim := { program := "ytcliklgiamlpeaa", sum := "3dde8998c34a8141ff5f1f545f40c6dba9e715bd0356e718936bd328a95302f2", func := "parlance/parlancelaw09.RelexEdits", spec := "relexEdits", inPlace := ["internal/bytealg.IndexByteString"], unfollowed := true, recurses := true, apart := false, narrowed := true }
def RelexEditsUptoSaid : Prop := relexEditsUptoRow.holds Try.pinned (OpenSpec.upto relexEditsSpec)

/-- 'parlancelaw09.RelexRows', WHERE WHAT IT READS IS OF BULK AT MOST 1048576: true; the input reads as it did. -/
def relexRowsUptoRow : OpenClaim := { program := "ytcliklgiamlpeaa", sum := "3dde8998c34a8141ff5f1f545f40c6dba9e715bd0356e718936bd328a95302f2", func := "parlance/parlancelaw09.RelexRows", spec := "relexRows", inPlace := ["internal/bytealg.IndexByteString"], unfollowed := true, recurses := true, apart := false, narrowed := true }
def RelexRowsUptoSaid : Prop := relexRowsUptoRow.holds Try.pinned (OpenSpec.upto relexRowsSpec)

/-- 'parlancelaw09.RelexNothing', WHERE WHAT IT READS IS OF BULK AT MOST 1048576: true; the input reads as it did. -/
def relexNothingUptoRow : OpenClaim := { program := "ytcliklgiamlpeaa", sum := "3dde8998c34a8141ff5f1f545f40c6dba9e715bd0356e718936bd328a95302f2", func := "parlance/parlancelaw09.RelexNothing", spec := "relexNothing", inPlace := ["internal/bytealg.IndexByteString"], unfollowed := true, recurses := true, apart := false, narrowed := true }
def RelexNothingUptoSaid : Prop := relexNothingUptoRow.holds Try.pinned (OpenSpec.upto relexNothingSpec)

/-- 'parlancelaw09.RelexSpans', WHERE WHAT IT READS IS OF BULK AT MOST 1048576: true; the input reads as it did. -/
def relexSpansUptoRow : OpenClaim := { program := "ytcliklgiamlpeaa", sum := "3dde8998c34a8141ff5f1f545f40c6dba9e715bd0356e718936bd328a95302f2", func := "parlance/parlancelaw09.RelexSpans", spec := "relexSpans", inPlace := ["internal/bytealg.IndexByteString"], unfollowed := true, recurses := true, apart := false, narrowed := true }
def RelexSpansUptoSaid : Prop := relexSpansUptoRow.holds Try.pinned (OpenSpec.upto relexSpansSpec)

/-- 'parlancelaw09.RelexApart', WHERE WHAT IT READS IS OF BULK AT MOST 1048576: true; the input reads as it did. -/
def relexApartUptoRow : OpenClaim := { program := "ytcliklgiamlpeaa", sum := "3dde8998c34a8141ff5f1f545f40c6dba9e715bd0356e718936bd328a95302f2", func := "parlance/parlancelaw09.RelexApart", spec := "relexApart", inPlace := ["internal/bytealg.IndexByteString"], unfollowed := true, recurses := true, apart := false, narrowed := true }
def RelexApartUptoSaid : Prop := relexApartUptoRow.holds Try.pinned (OpenSpec.upto relexApartSpec)

end Rows
end Go.Proofs.Ytcliklgiamlpeaa
