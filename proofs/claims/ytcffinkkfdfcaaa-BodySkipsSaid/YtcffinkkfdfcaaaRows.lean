/-
  NARROWER THAN 'FOR EVERY INPUT', by the rows' own cells (each row's printed sentence says how): BodySkips: loops.
  DERIVED. THE GIVEN ROWS OF THIS SEAT. 6 by the template 'for every input the law returns true; each argument reads behind the call as it read before'; 0 by the template 'total and deterministic' (their statements: YtcffinkkfdfcaaaTotals.lean).
  GIVEN WITH THE SEED: the statements are not yours to turn. If you find one false, say at which input.
  Laid BY PROGRAM, IN A SANDBOX (cutbox-rows.mjs): the forced cells as the released guide's own fill.sh prints them over the translation 1fe242d5bc9f1838… (all of the seat's roots in one cut). By AI agents, Wed Nov 11 2026. No macro, syntax, notation, axiom, sorry.
-/
import Derived.Test.YtcffinkkfdfcaaaChecked
import GoSem.Claim
import GoSem.ClaimJoined
import GoSem.ClaimMapViews
import Derived.JoinedTies
import Derived.KernelRfl
namespace Go.Proofs.Ytcffinkkfdfcaaa
/- THE CELL 'sum', in the pinned program and in every row, IS THE sha256 OF THE DUMP (.gsa) THAT YtcffinkkfdfcaaaProg.lean LOADS. Nothing in Lean hashes anything: it is a label: what it is worth is what the hold of that sum in a sandbox is worth. -/
noncomputable def Try.pinned : Pinned := { name := "ytcffinkkfdfcaaa", sum := "1fe242d5bc9f1838f33237ca4ffddc09e5fd9b7cd0cc11359b3440c01417c7fc", checked := Try.checked }
namespace Rows
def none {H : Type} : Left H := { results := [], args := [] }

/-- 'spyglasslaw21.BodyData': WHATEVER THE INPUT: true; the input reads as it did. -/
def bodyDataSpec : ChangeSpec := { name := "bodyData", fn := fun _ => fun
  | [d1, d2] => { results := [.lit (.bool true)], args := [d1, d2] }
  | _ => none }
def bodyDataRow : OpenClaim := { program := "ytcffinkkfdfcaaa", sum := "1fe242d5bc9f1838f33237ca4ffddc09e5fd9b7cd0cc11359b3440c01417c7fc", func := "spyglass/spyglasslaw21.BodyData", spec := "bodyData", unfollowed := true, recurses := true, apart := false }
def BodyDataSaid : Prop := bodyDataRow.holds Try.pinned (OpenSpec.ofChange bodyDataSpec)

/-- ITS FALSE NEIGHBOUR: 'it returns false'. Refute it at one input. -/
def bodyDataWrong : ChangeSpec := { name := "bodyData", fn := fun _ => fun
  | [d1, d2] => { results := [.lit (.bool false)], args := [d1, d2] }
  | _ => none }
def BodyDataWrongFalsely : Prop := bodyDataRow.holds Try.pinned (OpenSpec.ofChange bodyDataWrong)

/-- 'spyglasslaw21.BodyPuts': WHATEVER THE INPUT: true; the input reads as it did. -/
def bodyPutsSpec : ChangeSpec := { name := "bodyPuts", fn := fun _ => fun
  | [d1, d2, d3] => { results := [.lit (.bool true)], args := [d1, d2, d3] }
  | _ => none }
def bodyPutsRow : OpenClaim := { program := "ytcffinkkfdfcaaa", sum := "1fe242d5bc9f1838f33237ca4ffddc09e5fd9b7cd0cc11359b3440c01417c7fc", func := "spyglass/spyglasslaw21.BodyPuts", spec := "bodyPuts", unfollowed := true, recurses := true, apart := false }
def BodyPutsSaid : Prop := bodyPutsRow.holds Try.pinned (OpenSpec.ofChange bodyPutsSpec)

/-- ITS FALSE NEIGHBOUR: 'it returns false'. Refute it at one input. -/
def bodyPutsWrong : ChangeSpec := { name := "bodyPuts", fn := fun _ => fun
  | [d1, d2, d3] => { results := [.lit (.bool false)], args := [d1, d2, d3] }
  | _ => none }
def BodyPutsWrongFalsely : Prop := bodyPutsRow.holds Try.pinned (OpenSpec.ofChange bodyPutsWrong)

/-- 'spyglasslaw21.BodyGets': WHATEVER THE INPUT: true; the input reads as it did. -/
def bodyGetsSpec : ChangeSpec := { name := "bodyGets", fn := fun _ => fun
  | [d] => { results := [.lit (.bool true)], args := [d] }
  | _ => none }
def bodyGetsRow : OpenClaim := { program := "ytcffinkkfdfcaaa", sum := "1fe242d5bc9f1838f33237ca4ffddc09e5fd9b7cd0cc11359b3440c01417c7fc", func := "spyglass/spyglasslaw21.BodyGets", spec := "bodyGets", unfollowed := true, recurses := true, apart := false }
def BodyGetsSaid : Prop := bodyGetsRow.holds Try.pinned (OpenSpec.ofChange bodyGetsSpec)

/-- ITS FALSE NEIGHBOUR: 'it returns false'. Refute it at one input. -/
def bodyGetsWrong : ChangeSpec := { name := "bodyGets", fn := fun _ => fun
  | [d] => { results := [.lit (.bool false)], args := [d] }
  | _ => none }
def BodyGetsWrongFalsely : Prop := bodyGetsRow.holds Try.pinned (OpenSpec.ofChange bodyGetsWrong)

/-- 'spyglasslaw21.BodyReads': WHATEVER THE INPUT: true; the input reads as it did. -/
def bodyReadsSpec : ChangeSpec := { name := "bodyReads", fn := fun _ => fun
  | [d1, d2] => { results := [.lit (.bool true)], args := [d1, d2] }
  | _ => none }
def bodyReadsRow : OpenClaim := { program := "ytcffinkkfdfcaaa", sum := "1fe242d5bc9f1838f33237ca4ffddc09e5fd9b7cd0cc11359b3440c01417c7fc", func := "spyglass/spyglasslaw21.BodyReads", spec := "bodyReads", unfollowed := true, recurses := true, apart := false }
def BodyReadsSaid : Prop := bodyReadsRow.holds Try.pinned (OpenSpec.ofChange bodyReadsSpec)

/-- ITS FALSE NEIGHBOUR: 'it returns false'. Refute it at one input. -/
def bodyReadsWrong : ChangeSpec := { name := "bodyReads", fn := fun _ => fun
  | [d1, d2] => { results := [.lit (.bool false)], args := [d1, d2] }
  | _ => none }
def BodyReadsWrongFalsely : Prop := bodyReadsRow.holds Try.pinned (OpenSpec.ofChange bodyReadsWrong)

/-- 'spyglasslaw21.BodySkips': WHATEVER THE INPUT: true; the input reads as it did. -/
def bodySkipsSpec : ChangeSpec := { name := "bodySkips", fn := fun _ => fun
  | [d1, d2, d3, d4] => { results := [.lit (.bool true)], args := [d1, d2, d3, d4] }
  | _ => none }
def bodySkipsRow : OpenClaim := { program := "ytcffinkkfdfcaaa", sum := "1fe242d5bc9f1838f33237ca4ffddc09e5fd9b7cd0cc11359b3440c01417c7fc", func := "spyglass/spyglasslaw21.BodySkips", spec := "bodySkips", unfollowed := true, recurses := true, loops := true, apart := false }
def BodySkipsSaid : Prop := bodySkipsRow.holds Try.pinned (OpenSpec.ofChange bodySkipsSpec)

/-- ITS FALSE NEIGHBOUR: 'it returns false'. Refute it at one input. -/
def bodySkipsWrong : ChangeSpec := { name := "bodySkips", fn := fun _ => fun
  | [d1, d2, d3, d4] => { results := [.lit (.bool false)], args := [d1, d2, d3, d4] }
  | _ => none }
def BodySkipsWrongFalsely : Prop := bodySkipsRow.holds Try.pinned (OpenSpec.ofChange bodySkipsWrong)

/-- 'spyglasslaw21.BodyBack': WHATEVER THE INPUT: true; the input reads as it did. -/
def bodyBackSpec : ChangeSpec := { name := "bodyBack", fn := fun _ => fun
  | [d1, d2, d3, d4] => { results := [.lit (.bool true)], args := [d1, d2, d3, d4] }
  | _ => none }
def bodyBackRow : OpenClaim := { program := "ytcffinkkfdfcaaa", sum := "1fe242d5bc9f1838f33237ca4ffddc09e5fd9b7cd0cc11359b3440c01417c7fc", func := "spyglass/spyglasslaw21.BodyBack", spec := "bodyBack", unfollowed := true, recurses := true, apart := false }
def BodyBackSaid : Prop := bodyBackRow.holds Try.pinned (OpenSpec.ofChange bodyBackSpec)

/-- ITS FALSE NEIGHBOUR: 'it returns false'. Refute it at one input. -/
def bodyBackWrong : ChangeSpec := { name := "bodyBack", fn := fun _ => fun
  | [d1, d2, d3, d4] => { results := [.lit (.bool false)], args := [d1, d2, d3, d4] }
  | _ => none }
def BodyBackWrongFalsely : Prop := bodyBackRow.holds Try.pinned (OpenSpec.ofChange bodyBackWrong)

/- THE SECOND FORM. 'bulk': how many values and letters a reading holds, each counted each time it is reached (what is shared counts as often as it is met; a slice's spare places count too). A statement '..UptoSaid' is the law's where the arguments, and the package variables that the reading takes, are together of bulk at most 1048576: NARROWER than '..Said'. Prove '..Said' where nothing that the law and all that it calls make is longer than what came in: it says more and counts as full. Else prove '..UptoSaid'. A law counts once. -/
mutual
def uptoBulk {H : Type} : DataW H → Nat
  | .lit (.string bytes) => bytes.length + 1
  | .lit _ => 1
  | .nil => 1
  | .ptr d => uptoBulk d + 1
  | .slice elems spare => uptoBulkAll elems + uptoBulkAll spare + 1
  | .agg parts => uptoBulkAll parts + 1
  | .iface _ d => uptoBulk d + 1
  | .map entries => uptoBulkEntries entries + 1
  | .held _ => 1
def uptoBulkAll {H : Type} : List (DataW H) → Nat
  | [] => 0
  | d :: r => uptoBulk d + uptoBulkAll r
def uptoBulkEntries {H : Type} : List (Lit × DataW H) → Nat
  | [] => 0
  | x :: r => uptoBulkEntry x + uptoBulkEntries r
def uptoBulkEntry {H : Type} : Lit × DataW H → Nat
  | (.string bytes, d) => bytes.length + uptoBulk d + 1
  | (_, d) => uptoBulk d + 1
 end
def uptoSmall : (H : Type) → List (DataW H) → Bool := fun _ ds => decide (uptoBulkAll ds ≤ 1048576)
def OpenSpec.upto (s : _root_.Go.ChangeSpec) : _root_.Go.OpenSpec := { _root_.Go.OpenSpec.ofChange s with cond := some uptoSmall }

/-- 'spyglasslaw21.BodyData', WHERE WHAT IT READS IS OF BULK AT MOST 1048576: true; the input reads as it did. -/
def bodyDataUptoRow : OpenClaim := { program := "ytcffinkkfdfcaaa", sum := "1fe242d5bc9f1838f33237ca4ffddc09e5fd9b7cd0cc11359b3440c01417c7fc", func := "spyglass/spyglasslaw21.BodyData", spec := "bodyData", unfollowed := true, recurses := true, apart := false, narrowed := true }
def BodyDataUptoSaid : Prop := bodyDataUptoRow.holds Try.pinned (OpenSpec.upto bodyDataSpec)

/-- 'spyglasslaw21.BodyPuts', WHERE WHAT IT READS IS OF BULK AT MOST 1048576: true; the input reads as it did. -/
def bodyPutsUptoRow : OpenClaim := { program := "ytcffinkkfdfcaaa", sum := "1fe242d5bc9f1838f33237ca4ffddc09e5fd9b7cd0cc11359b3440c01417c7fc", func := "spyglass/spyglasslaw21.BodyPuts", spec := "bodyPuts", unfollowed := true, recurses := true, apart := false, narrowed := true }
def BodyPutsUptoSaid : Prop := bodyPutsUptoRow.holds Try.pinned (OpenSpec.upto bodyPutsSpec)

/-- 'spyglasslaw21.BodyGets', WHERE WHAT IT READS IS OF BULK AT MOST 1048576: true; the input reads as it did. -/
def bodyGetsUptoRow : OpenClaim := { program := "ytcffinkkfdfcaaa", sum := "1fe242d5bc9f1838f33237ca4ffddc09e5fd9b7cd0cc11359b3440c01417c7fc", func := "spyglass/spyglasslaw21.BodyGets", spec := "bodyGets", unfollowed := true, recurses := true, apart := false, narrowed := true }
def BodyGetsUptoSaid : Prop := bodyGetsUptoRow.holds Try.pinned (OpenSpec.upto bodyGetsSpec)

/-- 'spyglasslaw21.BodyReads', WHERE WHAT IT READS IS OF BULK AT MOST 1048576: true; the input reads as it did. -/
def bodyReadsUptoRow : OpenClaim := { program := "ytcffinkkfdfcaaa", sum := "1fe242d5bc9f1838f33237ca4ffddc09e5fd9b7cd0cc11359b3440c01417c7fc", func := "spyglass/spyglasslaw21.BodyReads", spec := "bodyReads", unfollowed := true, recurses := true, apart := false, narrowed := true }
def BodyReadsUptoSaid : Prop := bodyReadsUptoRow.holds Try.pinned (OpenSpec.upto bodyReadsSpec)

/-- 'spyglasslaw21.BodySkips', WHERE WHAT IT READS IS OF BULK AT MOST 1048576: true; the input reads as it did. -/
def bodySkipsUptoRow : OpenClaim := { program := "ytcffinkkfdfcaaa", sum := "1fe242d5bc9f1838f33237ca4ffddc09e5fd9b7cd0cc11359b3440c01417c7fc", func := "spyglass/spyglasslaw21.BodySkips", spec := "bodySkips", unfollowed := true, recurses := true, loops := true, apart := false, narrowed := true }
def BodySkipsUptoSaid : Prop := bodySkipsUptoRow.holds Try.pinned (OpenSpec.upto bodySkipsSpec)

/-- 'spyglasslaw21.BodyBack', WHERE WHAT IT READS IS OF BULK AT MOST 1048576: true; the input reads as it did. -/
def bodyBackUptoRow : OpenClaim := { program := "ytcffinkkfdfcaaa", sum := "1fe242d5bc9f1838f33237ca4ffddc09e5fd9b7cd0cc11359b3440c01417c7fc", func := "spyglass/spyglasslaw21.BodyBack", spec := "bodyBack", unfollowed := true, recurses := true, apart := false, narrowed := true }
def BodyBackUptoSaid : Prop := bodyBackUptoRow.holds Try.pinned (OpenSpec.upto bodyBackSpec)

end Rows
end Go.Proofs.Ytcffinkkfdfcaaa
