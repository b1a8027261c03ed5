/-
  NARROWER THAN 'FOR EVERY INPUT', by the rows' own cells (each row's printed sentence says how): RunsEncodes: laid · RunsThere: laid · RunsFit: laid · RunsStill: laid.
  DERIVED. THE GIVEN ROWS OF THIS SEAT. 4 by the template 'for every input the law returns true; each argument reads behind the call as it read before'; 0 by the template 'total and deterministic' (their statements: YtnnekdefncfeeaaDoorTotals.lean).
  GIVEN WITH THE SEED: the statements are not yours to turn. If you find one false, say at which input.
  Laid BY PROGRAM, IN A SANDBOX (cutbox-rows.mjs): the forced cells as the released guide's own fill.sh prints them over the translation 13a64e0d1fef1e72… (all of the seat's roots in one cut). By AI agents, Wed Nov 11 2026. No macro, syntax, notation, axiom, sorry.
-/
import Derived.Test.YtnnekdefncfeeaaDoorChecked
import GoSem.Claim
import GoSem.ClaimJoined
import GoSem.ClaimMapViews
import Derived.JoinedTies
import Derived.KernelRfl
namespace Go.Proofs.YtnnekdefncfeeaaDoor
/- THE CELL 'sum', in the pinned program and in every row, IS THE sha256 OF THE DUMP (.gsa) THAT YtnnekdefncfeeaaDoorProg.lean LOADS. Nothing in Lean hashes anything: it is a label: what it is worth is what the hold of that sum in a sandbox is worth. -/
noncomputable def Tryd.pinned : Pinned := { name := "ytnnekdefncfeeaadoor", sum := "13a64e0d1fef1e720bc84ac98623c13d1f7adbdb2ea89886e3d8911d6744de4b", checked := Tryd.checked }
namespace Rows
def none {H : Type} : Left H := { results := [], args := [] }

/- WHAT THE LISTED PACKAGE-LEVEL VARIABLES READ AS WHEN THE CALL BEGINS. Each datum BY PROGRAM (the guide's laid-datum.mjs) off the statement by which the dump's own 'gosem.cut.vars' lays the variable. In a bare row this is a premise. The card (YtnnekdefncfeeaaDoorCards.lean) ties it to the program's text. -/
def laid_spyglass_utf_none {H : Type} : DataW H := .agg [.agg [.lit (.int .i32 768), .lit (.int .i32 879)], .agg [.lit (.int .i32 8203), .lit (.int .i32 8207)], .agg [.lit (.int .i32 65024), .lit (.int .i32 65039)]]
def laid_spyglass_utf_wide {H : Type} : DataW H := .agg [.agg [.lit (.int .i32 4352), .lit (.int .i32 4447)], .agg [.lit (.int .i32 11904), .lit (.int .i32 12350)], .agg [.lit (.int .i32 12353), .lit (.int .i32 42191)], .agg [.lit (.int .i32 44032), .lit (.int .i32 55203)], .agg [.lit (.int .i32 63744), .lit (.int .i32 64255)], .agg [.lit (.int .i32 65072), .lit (.int .i32 65135)], .agg [.lit (.int .i32 65280), .lit (.int .i32 65376)], .agg [.lit (.int .i32 65504), .lit (.int .i32 65510)], .agg [.lit (.int .i32 127744), .lit (.int .i32 128591)], .agg [.lit (.int .i32 131072), .lit (.int .i32 262141)]]

/-- 'spyglasslaw17.RunsEncodes': WHATEVER THE INPUT: true; the input reads as it did. -/
def runsEncodesSpec : ChangeSpec := { name := "runsEncodes", fn := fun _ => fun
  | [d1, d2] => { results := [.lit (.bool true)], args := [d1, d2] }
  | _ => none }
def runsEncodesRow : OpenClaim := { program := "ytnnekdefncfeeaadoor", sum := "13a64e0d1fef1e720bc84ac98623c13d1f7adbdb2ea89886e3d8911d6744de4b", func := "spyglass/spyglasslaw17.RunsEncodes", spec := "runsEncodes", unfollowed := true, recurses := true, named := ["spyglass/utf.none", "spyglass/utf.wide"], apart := false, laid := [("spyglass/utf.none", laid_spyglass_utf_none), ("spyglass/utf.wide", laid_spyglass_utf_wide)] }
def RunsEncodesSaid : Prop := runsEncodesRow.holds Tryd.pinned (OpenSpec.ofChange runsEncodesSpec)

/-- ITS FALSE NEIGHBOUR: 'it returns false'. Refute it at one input. -/
def runsEncodesWrong : ChangeSpec := { name := "runsEncodes", fn := fun _ => fun
  | [d1, d2] => { results := [.lit (.bool false)], args := [d1, d2] }
  | _ => none }
def RunsEncodesWrongFalsely : Prop := runsEncodesRow.holds Tryd.pinned (OpenSpec.ofChange runsEncodesWrong)

/-- 'spyglasslaw17.RunsThere': WHATEVER THE INPUT: true; the input reads as it did. -/
def runsThereSpec : ChangeSpec := { name := "runsThere", fn := fun _ => fun
  | [d1, d2] => { results := [.lit (.bool true)], args := [d1, d2] }
  | _ => none }
def runsThereRow : OpenClaim := { program := "ytnnekdefncfeeaadoor", sum := "13a64e0d1fef1e720bc84ac98623c13d1f7adbdb2ea89886e3d8911d6744de4b", func := "spyglass/spyglasslaw17.RunsThere", spec := "runsThere", unfollowed := true, recurses := true, named := ["spyglass/utf.none", "spyglass/utf.wide"], apart := false, laid := [("spyglass/utf.none", laid_spyglass_utf_none), ("spyglass/utf.wide", laid_spyglass_utf_wide)] }
def RunsThereSaid : Prop := runsThereRow.holds Tryd.pinned (OpenSpec.ofChange runsThereSpec)

/-- ITS FALSE NEIGHBOUR: 'it returns false'. Refute it at one input. -/
def runsThereWrong : ChangeSpec := { name := "runsThere", fn := fun _ => fun
  | [d1, d2] => { results := [.lit (.bool false)], args := [d1, d2] }
  | _ => none }
def RunsThereWrongFalsely : Prop := runsThereRow.holds Tryd.pinned (OpenSpec.ofChange runsThereWrong)

/-- 'spyglasslaw17.RunsFit': WHATEVER THE INPUT: true; the input reads as it did. -/
def runsFitSpec : ChangeSpec := { name := "runsFit", fn := fun _ => fun
  | [d1, d2] => { results := [.lit (.bool true)], args := [d1, d2] }
  | _ => none }
def runsFitRow : OpenClaim := { program := "ytnnekdefncfeeaadoor", sum := "13a64e0d1fef1e720bc84ac98623c13d1f7adbdb2ea89886e3d8911d6744de4b", func := "spyglass/spyglasslaw17.RunsFit", spec := "runsFit", unfollowed := true, recurses := true, named := ["spyglass/utf.none", "spyglass/utf.wide"], apart := false, laid := [("spyglass/utf.none", laid_spyglass_utf_none), ("spyglass/utf.wide", laid_spyglass_utf_wide)] }
def RunsFitSaid : Prop := runsFitRow.holds Tryd.pinned (OpenSpec.ofChange runsFitSpec)

/-- ITS FALSE NEIGHBOUR: 'it returns false'. Refute it at one input. -/
def runsFitWrong : ChangeSpec := { name := "runsFit", fn := fun _ => fun
  | [d1, d2] => { results := [.lit (.bool false)], args := [d1, d2] }
  | _ => none }
def RunsFitWrongFalsely : Prop := runsFitRow.holds Tryd.pinned (OpenSpec.ofChange runsFitWrong)

/-- 'spyglasslaw17.RunsStill': WHATEVER THE INPUT: true; the input reads as it did. -/
def runsStillSpec : ChangeSpec := { name := "runsStill", fn := fun _ => fun
  | [d] => { results := [.lit (.bool true)], args := [d] }
  | _ => none }
def runsStillRow : OpenClaim := { program := "ytnnekdefncfeeaadoor", sum := "13a64e0d1fef1e720bc84ac98623c13d1f7adbdb2ea89886e3d8911d6744de4b", func := "spyglass/spyglasslaw17.RunsStill", spec := "runsStill", unfollowed := true, recurses := true, named := ["spyglass/utf.none", "spyglass/utf.wide"], apart := false, laid := [("spyglass/utf.none", laid_spyglass_utf_none), ("spyglass/utf.wide", laid_spyglass_utf_wide)] }
def RunsStillSaid : Prop := runsStillRow.holds Tryd.pinned (OpenSpec.ofChange runsStillSpec)

/-- ITS FALSE NEIGHBOUR: 'it returns false'. Refute it at one input. -/
def runsStillWrong : ChangeSpec := { name := "runsStill", fn := fun _ => fun
  | [d] => { results := [.lit (.bool false)], args := [d] }
  | _ => none }
def RunsStillWrongFalsely : Prop := runsStillRow.holds Tryd.pinned (OpenSpec.ofChange runsStillWrong)

/- THE SECOND FORM. 'bulk': how many values and letters a reading holds, each counted each time it is reached (what is shared counts as often as it is met; a slice's spare places count too). A statement '..UptoSaid' is the law's where the arguments, and the package variables that the reading takes, are together of bulk at most 1048576: NARROWER than '..Said'. Prove '..Said' where nothing that the law and all that it calls make is longer than what came in: it says more and counts as full. Else prove '..UptoSaid'. A law counts once. -/
mutual
def uptoBulk {H : Type} : DataW H → Nat
  | .lit (.string bytes) => bytes.length + 1
  | .lit _ => 1
  | .nil => 1
  | .ptr d => uptoBulk d + 1
  | .slice elems spare => uptoBulkAll elems + uptoBulkAll spare + 1
  | .agg parts => uptoBulkAll parts + 1
  | .iface _ d => uptoBulk d + 1
  | .map entries => uptoBulkEntries entries + 1
  | .held _ => 1
def uptoBulkAll {H : Type} : List (DataW H) → Nat
  | [] => 0
  | d :: r => uptoBulk d + uptoBulkAll r
def uptoBulkEntries {H : Type} : List (Lit × DataW H) → Nat
  | [] => 0
  | x :: r => uptoBulkEntry x + uptoBulkEntries r
def uptoBulkEntry {H : Type} : Lit × DataW H → Nat
  | (.string bytes, d) => bytes.length + uptoBulk d + 1
  | (_, d) => uptoBulk d + 1
 end
def uptoSmall : (H : Type) → List (DataW H) → Bool := fun _ ds => decide (uptoBulkAll ds ≤ 1048576)
def OpenSpec.upto (s : _root_.Go.ChangeSpec) : _root_.Go.OpenSpec := { _root_.Go.OpenSpec.ofChange s with cond := some uptoSmall }

/-- 'spyglasslaw17.RunsEncodes', WHERE WHAT IT READS IS OF BULK AT MOST 1048576: true; the input reads as it did. -/
def runsEncodesUptoRow : OpenClaim := { program := "ytnnekdefncfeeaadoor", sum := "13a64e0d1fef1e720bc84ac98623c13d1f7adbdb2ea89886e3d8911d6744de4b", func := "spyglass/spyglasslaw17.RunsEncodes", spec := "runsEncodes", unfollowed := true, recurses := true, named := ["spyglass/utf.none", "spyglass/utf.wide"], apart := false, laid := [("spyglass/utf.none", laid_spyglass_utf_none), ("spyglass/utf.wide", laid_spyglass_utf_wide)], narrowed := true }
def RunsEncodesUptoSaid : Prop := runsEncodesUptoRow.holds Tryd.pinned (OpenSpec.upto runsEncodesSpec)

/-- 'spyglasslaw17.RunsThere', WHERE WHAT IT READS IS OF BULK AT MOST 1048576: true; the input reads as it did. -/
def runsThereUptoRow : OpenClaim := { program := "ytnnekdefncfeeaadoor", sum := "13a64e0d1fef1e720bc84ac98623c13d1f7adbdb2ea89886e3d8911d6744de4b", func := "spyglass/spyglasslaw17.RunsThere", spec := "runsThere", unfollowed := true, recurses := true, named := ["spyglass/utf.none", "spyglass/utf.wide"], apart := false, laid := [("spyglass/utf.none", laid_spyglass_utf_none), ("spyglass/utf.wide", laid_spyglass_utf_wide)], narrowed := true }
def RunsThereUptoSaid : Prop := runsThereUptoRow.holds Tryd.pinned (OpenSpec.upto runsThereSpec)

/-- 'spyglasslaw17.RunsFit', WHERE WHAT IT READS IS OF BULK AT MOST 1048576: true; the input reads as it did. -/
def runsFitUptoRow : OpenClaim := { program := "ytnnekdefncfeeaadoor", sum := "13a64e0d1fef1e720bc84ac98623c13d1f7adbdb2ea89886e3d8911d6744de4b", func := "spyglass/spyglasslaw17.RunsFit", spec := "runsFit", unfollowed := true, recurses := true, named := ["spyglass/utf.none", "spyglass/utf.wide"], apart := false, laid := [("spyglass/utf.none", laid_spyglass_utf_none), ("spyglass/utf.wide", laid_spyglass_utf_wide)], narrowed := true }
def RunsFitUptoSaid : Prop := runsFitUptoRow.holds Tryd.pinned (OpenSpec.upto runsFitSpec)

/-- 'spyglasslaw17.RunsStill', WHERE WHAT IT READS IS OF BULK AT MOST 1048576: true; the input reads as it did. -/
def runsStillUptoRow : OpenClaim := { program := "ytnnekdefncfeeaadoor", sum := "13a64e0d1fef1e720bc84ac98623c13d1f7adbdb2ea89886e3d8911d6744de4b", func := "spyglass/spyglasslaw17.RunsStill", spec := "runsStill", unfollowed := true, recurses := true, named := ["spyglass/utf.none", "spyglass/utf.wide"], apart := false, laid := [("spyglass/utf.none", laid_spyglass_utf_none), ("spyglass/utf.wide", laid_spyglass_utf_wide)], narrowed := true }
def RunsStillUptoSaid : Prop := runsStillUptoRow.holds Tryd.pinned (OpenSpec.upto runsStillSpec)

end Rows
end Go.Proofs.YtnnekdefncfeeaaDoor
