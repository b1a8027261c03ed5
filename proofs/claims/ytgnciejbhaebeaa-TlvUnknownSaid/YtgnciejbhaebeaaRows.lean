/-
  NARROWER THAN 'FOR EVERY INPUT', by the rows' own cells (each row's printed sentence says how): TlvEncodes: loops · TlvBack: loops · TlvUnknown: loops · TlvPicks: loops.
  DERIVED. THE GIVEN ROWS OF THIS SEAT. 13 by the template 'for every input the law returns true; each argument reads behind the call as it read before'; 0 by the template 'total and deterministic' (their statements: YtgnciejbhaebeaaTotals.lean).
  GIVEN WITH THE SEED: the statements are not yours to turn. If you find one false, say at which input.
  Laid BY PROGRAM, IN A SANDBOX (cutbox-rows.mjs): the forced cells as the released guide's own fill.sh prints them over the translation 0ce3b5ac6836c712… (all of the seat's roots in one cut). By AI agents, Wed Nov 11 2026. No macro, syntax, notation, axiom, sorry.
-/
import Derived.Test.YtgnciejbhaebeaaChecked
import GoSem.Claim
import GoSem.ClaimJoined
import GoSem.ClaimMapViews
import Derived.JoinedTies
import Derived.KernelRfl
namespace Go.Proofs.Ytgnciejbhaebeaa
/- THE CELL 'sum', in the pinned program and in every row, IS THE sha256 OF THE DUMP (.gsa) THAT YtgnciejbhaebeaaProg.lean LOADS. Nothing in Lean hashes anything: it is a label: what it is worth is what the hold of that sum in a sandbox is worth. -/
noncomputable def Try.pinned : Pinned := { name := "ytgnciejbhaebeaa", sum := "0ce3b5ac6836c712b90765340d4b3dc7c86bc0c075e417e3639a562ac88c5bca", checked := Try.checked }
namespace Rows
def none {H : Type} : Left H := { results := [], args := [] }

/-- 'spyglasslaw24.KeysEncodes': WHATEVER THE INPUT: true; the input reads as it did. -/
def keysEncodesSpec : ChangeSpec := { name := "keysEncodes", fn := fun _ => fun
  | [d1, d2, d3] => { results := [.lit (.bool true)], args := [d1, d2, d3] }
  | _ => none }
def keysEncodesRow : OpenClaim := { program := "ytgnciejbhaebeaa", sum := "0ce3b5ac6836c712b90765340d4b3dc7c86bc0c075e417e3639a562ac88c5bca", func := "spyglass/spyglasslaw24.KeysEncodes", spec := "keysEncodes", unfollowed := true, recurses := true, apart := false }
def KeysEncodesSaid : Prop := keysEncodesRow.holds Try.pinned (OpenSpec.ofChange keysEncodesSpec)

/-- ITS FALSE NEIGHBOUR: 'it returns false'. Refute it at one input. -/
def keysEncodesWrong : ChangeSpec := { name := "keysEncodes", fn := fun _ => fun
  | [d1, d2, d3] => { results := [.lit (.bool false)], args := [d1, d2, d3] }
  | _ => none }
def KeysEncodesWrongFalsely : Prop := keysEncodesRow.holds Try.pinned (OpenSpec.ofChange keysEncodesWrong)

/-- 'spyglasslaw24.KeysFull': WHATEVER THE INPUT: true; the input reads as it did. -/
def keysFullSpec : ChangeSpec := { name := "keysFull", fn := fun _ => fun
  | [d1, d2] => { results := [.lit (.bool true)], args := [d1, d2] }
  | _ => none }
def keysFullRow : OpenClaim := { program := "ytgnciejbhaebeaa", sum := "0ce3b5ac6836c712b90765340d4b3dc7c86bc0c075e417e3639a562ac88c5bca", func := "spyglass/spyglasslaw24.KeysFull", spec := "keysFull", unfollowed := true, recurses := true, apart := false }
def KeysFullSaid : Prop := keysFullRow.holds Try.pinned (OpenSpec.ofChange keysFullSpec)

/-- ITS FALSE NEIGHBOUR: 'it returns false'. Refute it at one input. -/
def keysFullWrong : ChangeSpec := { name := "keysFull", fn := fun _ => fun
  | [d1, d2] => { results := [.lit (.bool false)], args := [d1, d2] }
  | _ => none }
def KeysFullWrongFalsely : Prop := keysFullRow.holds Try.pinned (OpenSpec.ofChange keysFullWrong)

/-- 'spyglasslaw24.KeysPlays': WHATEVER THE INPUT: true; the input reads as it did. -/
def keysPlaysSpec : ChangeSpec := { name := "keysPlays", fn := fun _ => fun
  | [d] => { results := [.lit (.bool true)], args := [d] }
  | _ => none }
def keysPlaysRow : OpenClaim := { program := "ytgnciejbhaebeaa", sum := "0ce3b5ac6836c712b90765340d4b3dc7c86bc0c075e417e3639a562ac88c5bca", func := "spyglass/spyglasslaw24.KeysPlays", spec := "keysPlays", unfollowed := true, recurses := true, apart := false }
def KeysPlaysSaid : Prop := keysPlaysRow.holds Try.pinned (OpenSpec.ofChange keysPlaysSpec)

/-- ITS FALSE NEIGHBOUR: 'it returns false'. Refute it at one input. -/
def keysPlaysWrong : ChangeSpec := { name := "keysPlays", fn := fun _ => fun
  | [d] => { results := [.lit (.bool false)], args := [d] }
  | _ => none }
def KeysPlaysWrongFalsely : Prop := keysPlaysRow.holds Try.pinned (OpenSpec.ofChange keysPlaysWrong)

/-- 'spyglasslaw24.KeysPrefix': WHATEVER THE INPUT: true; the input reads as it did. -/
def keysPrefixSpec : ChangeSpec := { name := "keysPrefix", fn := fun _ => fun
  | [d] => { results := [.lit (.bool true)], args := [d] }
  | _ => none }
def keysPrefixRow : OpenClaim := { program := "ytgnciejbhaebeaa", sum := "0ce3b5ac6836c712b90765340d4b3dc7c86bc0c075e417e3639a562ac88c5bca", func := "spyglass/spyglasslaw24.KeysPrefix", spec := "keysPrefix", unfollowed := true, recurses := true, apart := false }
def KeysPrefixSaid : Prop := keysPrefixRow.holds Try.pinned (OpenSpec.ofChange keysPrefixSpec)

/-- ITS FALSE NEIGHBOUR: 'it returns false'. Refute it at one input. -/
def keysPrefixWrong : ChangeSpec := { name := "keysPrefix", fn := fun _ => fun
  | [d] => { results := [.lit (.bool false)], args := [d] }
  | _ => none }
def KeysPrefixWrongFalsely : Prop := keysPrefixRow.holds Try.pinned (OpenSpec.ofChange keysPrefixWrong)

/-- 'spyglasslaw24.KeysNil': WHATEVER THE INPUT: true; the input reads as it did. -/
def keysNilSpec : ChangeSpec := { name := "keysNil", fn := fun _ => fun
  | [d1, d2] => { results := [.lit (.bool true)], args := [d1, d2] }
  | _ => none }
def keysNilRow : OpenClaim := { program := "ytgnciejbhaebeaa", sum := "0ce3b5ac6836c712b90765340d4b3dc7c86bc0c075e417e3639a562ac88c5bca", func := "spyglass/spyglasslaw24.KeysNil", spec := "keysNil", unfollowed := true, recurses := true, apart := false }
def KeysNilSaid : Prop := keysNilRow.holds Try.pinned (OpenSpec.ofChange keysNilSpec)

/-- ITS FALSE NEIGHBOUR: 'it returns false'. Refute it at one input. -/
def keysNilWrong : ChangeSpec := { name := "keysNil", fn := fun _ => fun
  | [d1, d2] => { results := [.lit (.bool false)], args := [d1, d2] }
  | _ => none }
def KeysNilWrongFalsely : Prop := keysNilRow.holds Try.pinned (OpenSpec.ofChange keysNilWrong)

/-- 'spyglasslaw02.TlvEncodes': WHATEVER THE INPUT: true; the input reads as it did. -/
def tlvEncodesSpec : ChangeSpec := { name := "tlvEncodes", fn := fun _ => fun
  | [d] => { results := [.lit (.bool true)], args := [d] }
  | _ => none }
def tlvEncodesRow : OpenClaim := { program := "ytgnciejbhaebeaa", sum := "0ce3b5ac6836c712b90765340d4b3dc7c86bc0c075e417e3639a562ac88c5bca", func := "spyglass/spyglasslaw02.TlvEncodes", spec := "tlvEncodes", unfollowed := true, recurses := true, loops := true, apart := false }
def TlvEncodesSaid : Prop := tlvEncodesRow.holds Try.pinned (OpenSpec.ofChange tlvEncodesSpec)

/-- ITS FALSE NEIGHBOUR: 'it returns false'. Refute it at one input. -/
def tlvEncodesWrong : ChangeSpec := { name := "tlvEncodes", fn := fun _ => fun
  | [d] => { results := [.lit (.bool false)], args := [d] }
  | _ => none }
def TlvEncodesWrongFalsely : Prop := tlvEncodesRow.holds Try.pinned (OpenSpec.ofChange tlvEncodesWrong)

/-- 'spyglasslaw02.TlvDecodes': WHATEVER THE INPUT: true; the input reads as it did. -/
def tlvDecodesSpec : ChangeSpec := { name := "tlvDecodes", fn := fun _ => fun
  | [d] => { results := [.lit (.bool true)], args := [d] }
  | _ => none }
def tlvDecodesRow : OpenClaim := { program := "ytgnciejbhaebeaa", sum := "0ce3b5ac6836c712b90765340d4b3dc7c86bc0c075e417e3639a562ac88c5bca", func := "spyglass/spyglasslaw02.TlvDecodes", spec := "tlvDecodes", unfollowed := true, recurses := true, apart := false }
def TlvDecodesSaid : Prop := tlvDecodesRow.holds Try.pinned (OpenSpec.ofChange tlvDecodesSpec)

/-- ITS FALSE NEIGHBOUR: 'it returns false'. Refute it at one input. -/
def tlvDecodesWrong : ChangeSpec := { name := "tlvDecodes", fn := fun _ => fun
  | [d] => { results := [.lit (.bool false)], args := [d] }
  | _ => none }
def TlvDecodesWrongFalsely : Prop := tlvDecodesRow.holds Try.pinned (OpenSpec.ofChange tlvDecodesWrong)

/-- 'spyglasslaw02.TlvBack': WHATEVER THE INPUT: true; the input reads as it did. -/
def tlvBackSpec : ChangeSpec := { name := "tlvBack", fn := fun _ => fun
  | [d] => { results := [.lit (.bool true)], args := [d] }
  | _ => none }
def tlvBackRow : OpenClaim := { program := "ytgnciejbhaebeaa", sum := "0ce3b5ac6836c712b90765340d4b3dc7c86bc0c075e417e3639a562ac88c5bca", func := "spyglass/spyglasslaw02.TlvBack", spec := "tlvBack", unfollowed := true, recurses := true, loops := true, apart := false }
def TlvBackSaid : Prop := tlvBackRow.holds Try.pinned (OpenSpec.ofChange tlvBackSpec)

/-- ITS FALSE NEIGHBOUR: 'it returns false'. Refute it at one input. -/
def tlvBackWrong : ChangeSpec := { name := "tlvBack", fn := fun _ => fun
  | [d] => { results := [.lit (.bool false)], args := [d] }
  | _ => none }
def TlvBackWrongFalsely : Prop := tlvBackRow.holds Try.pinned (OpenSpec.ofChange tlvBackWrong)

/-- 'spyglasslaw02.TlvOne': WHATEVER THE INPUT: true; the input reads as it did. -/
def tlvOneSpec : ChangeSpec := { name := "tlvOne", fn := fun _ => fun
  | [d] => { results := [.lit (.bool true)], args := [d] }
  | _ => none }
def tlvOneRow : OpenClaim := { program := "ytgnciejbhaebeaa", sum := "0ce3b5ac6836c712b90765340d4b3dc7c86bc0c075e417e3639a562ac88c5bca", func := "spyglass/spyglasslaw02.TlvOne", spec := "tlvOne", unfollowed := true, recurses := true, apart := false }
def TlvOneSaid : Prop := tlvOneRow.holds Try.pinned (OpenSpec.ofChange tlvOneSpec)

/-- ITS FALSE NEIGHBOUR: 'it returns false'. Refute it at one input. -/
def tlvOneWrong : ChangeSpec := { name := "tlvOne", fn := fun _ => fun
  | [d] => { results := [.lit (.bool false)], args := [d] }
  | _ => none }
def TlvOneWrongFalsely : Prop := tlvOneRow.holds Try.pinned (OpenSpec.ofChange tlvOneWrong)

/-- 'spyglasslaw02.TlvUnknown': WHATEVER THE INPUT: true; the input reads as it did. -/
def tlvUnknownSpec : ChangeSpec := { name := "tlvUnknown", fn := fun _ => fun
  | [d1, d2, d3, d4] => { results := [.lit (.bool true)], args := [d1, d2, d3, d4] }
  | _ => none }
def tlvUnknownRow : OpenClaim := { program := "ytgnciejbhaebeaa", sum := "0ce3b5ac6836c712b90765340d4b3dc7c86bc0c075e417e3639a562ac88c5bca", func := "spyglass/spyglasslaw02.TlvUnknown", spec := "tlvUnknown", unfollowed := true, recurses := true, loops := true, apart := false }
def TlvUnknownSaid : Prop := tlvUnknownRow.holds Try.pinned (OpenSpec.ofChange tlvUnknownSpec)

/-- ITS FALSE NEIGHBOUR: 'it returns false'. Refute it at one input. -/
def tlvUnknownWrong : ChangeSpec := { name := "tlvUnknown", fn := fun _ => fun
  | [d1, d2, d3, d4] => { results := [.lit (.bool false)], args := [d1, d2, d3, d4] }
  | _ => none }
def TlvUnknownWrongFalsely : Prop := tlvUnknownRow.holds Try.pinned (OpenSpec.ofChange tlvUnknownWrong)

/-- 'spyglasslaw02.TlvPicks': WHATEVER THE INPUT: true; the input reads as it did. -/
def tlvPicksSpec : ChangeSpec := { name := "tlvPicks", fn := fun _ => fun
  | [d1, d2, d3] => { results := [.lit (.bool true)], args := [d1, d2, d3] }
  | _ => none }
def tlvPicksRow : OpenClaim := { program := "ytgnciejbhaebeaa", sum := "0ce3b5ac6836c712b90765340d4b3dc7c86bc0c075e417e3639a562ac88c5bca", func := "spyglass/spyglasslaw02.TlvPicks", spec := "tlvPicks", unfollowed := true, recurses := true, loops := true, apart := false }
def TlvPicksSaid : Prop := tlvPicksRow.holds Try.pinned (OpenSpec.ofChange tlvPicksSpec)

/-- ITS FALSE NEIGHBOUR: 'it returns false'. Refute it at one input. -/
def tlvPicksWrong : ChangeSpec := { name := "tlvPicks", fn := fun _ => fun
  | [d1, d2, d3] => { results := [.lit (.bool false)], args := [d1, d2, d3] }
  | _ => none }
def TlvPicksWrongFalsely : Prop := tlvPicksRow.holds Try.pinned (OpenSpec.ofChange tlvPicksWrong)

/-- 'spyglasslaw24.KeysDecodes': WHATEVER THE INPUT: true; the input reads as it did. -/
def keysDecodesSpec : ChangeSpec := { name := "keysDecodes", fn := fun _ => fun
  | [d1, d2] => { results := [.lit (.bool true)], args := [d1, d2] }
  | _ => none }
def keysDecodesRow : OpenClaim := { program := "ytgnciejbhaebeaa", sum := "0ce3b5ac6836c712b90765340d4b3dc7c86bc0c075e417e3639a562ac88c5bca", func := "spyglass/spyglasslaw24.KeysDecodes", spec := "keysDecodes", unfollowed := true, recurses := true, apart := false }
def KeysDecodesSaid : Prop := keysDecodesRow.holds Try.pinned (OpenSpec.ofChange keysDecodesSpec)

/-- ITS FALSE NEIGHBOUR: 'it returns false'. Refute it at one input. -/
def keysDecodesWrong : ChangeSpec := { name := "keysDecodes", fn := fun _ => fun
  | [d1, d2] => { results := [.lit (.bool false)], args := [d1, d2] }
  | _ => none }
def KeysDecodesWrongFalsely : Prop := keysDecodesRow.holds Try.pinned (OpenSpec.ofChange keysDecodesWrong)

/-- 'spyglasslaw24.KeysBack': WHATEVER THE INPUT: true; the input reads as it did. -/
def keysBackSpec : ChangeSpec := { name := "keysBack", fn := fun _ => fun
  | [d1, d2, d3, d4] => { results := [.lit (.bool true)], args := [d1, d2, d3, d4] }
  | _ => none }
def keysBackRow : OpenClaim := { program := "ytgnciejbhaebeaa", sum := "0ce3b5ac6836c712b90765340d4b3dc7c86bc0c075e417e3639a562ac88c5bca", func := "spyglass/spyglasslaw24.KeysBack", spec := "keysBack", unfollowed := true, recurses := true, apart := false }
def KeysBackSaid : Prop := keysBackRow.holds Try.pinned (OpenSpec.ofChange keysBackSpec)

/-- ITS FALSE NEIGHBOUR: 'it returns false'. Refute it at one input. -/
def keysBackWrong : ChangeSpec := { name := "keysBack", fn := fun _ => fun
  | [d1, d2, d3, d4] => { results := [.lit (.bool false)], args := [d1, d2, d3, d4] }
  | _ => none }
def KeysBackWrongFalsely : Prop := keysBackRow.holds Try.pinned (OpenSpec.ofChange keysBackWrong)

/- THE SECOND FORM. 'bulk': how many values and letters a reading holds, each counted each time it is reached (what is shared counts as often as it is met; a slice's spare places count too). A statement '..UptoSaid' is the law's where the arguments, and the package variables that the reading takes, are together of bulk at most 1048576: NARROWER than '..Said'. Prove '..Said' where nothing that the law and all that it calls make is longer than what came in: it says more and counts as full. Else prove '..UptoSaid'. A law counts once. -/
mutual
def uptoBulk {H : Type} : DataW H → Nat
  | .lit (.string bytes) => bytes.length + 1
  | .lit _ => 1
  | .nil => 1
  | .ptr d => uptoBulk d + 1
  | .slice elems spare => uptoBulkAll elems + uptoBulkAll spare + 1
  | .agg parts => uptoBulkAll parts + 1
  | .iface _ d => uptoBulk d + 1
  | .map entries => uptoBulkEntries entries + 1
  | .held _ => 1
def uptoBulkAll {H : Type} : List (DataW H) → Nat
  | [] => 0
  | d :: r => uptoBulk d + uptoBulkAll r
def uptoBulkEntries {H : Type} : List (Lit × DataW H) → Nat
  | [] => 0
  | x :: r => uptoBulkEntry x + uptoBulkEntries r
def uptoBulkEntry {H : Type} : Lit × DataW H → Nat
  | (.string bytes, d) => bytes.length + uptoBulk d + 1
  | (_, d) => uptoBulk d + 1
 end
def uptoSmall : (H : Type) → List (DataW H) → Bool := fun _ ds => decide (uptoBulkAll ds ≤ 1048576)
def OpenSpec.upto (s : _root_.Go.ChangeSpec) : _root_.Go.OpenSpec := { _root_.Go.OpenSpec.ofChange s with cond := some uptoSmall }

/-- 'spyglasslaw24.KeysEncodes', WHERE WHAT IT READS IS OF BULK AT MOST 1048576: true; the input reads as it did. -/
def keysEncodesUptoRow : OpenClaim := { program := "ytgnciejbhaebeaa", sum := "0ce3b5ac6836c712b90765340d4b3dc7c86bc0c075e417e3639a562ac88c5bca", func := "spyglass/spyglasslaw24.KeysEncodes", spec := "keysEncodes", unfollowed := true, recurses := true, apart := false, narrowed := true }
def KeysEncodesUptoSaid : Prop := keysEncodesUptoRow.holds Try.pinned (OpenSpec.upto keysEncodesSpec)

/-- 'spyglasslaw24.KeysFull', WHERE WHAT IT READS IS OF BULK AT MOST 1048576: true; the input reads as it did. -/
def keysFullUptoRow : OpenClaim := { program := "ytgnciejbhaebeaa", sum := "0ce3b5ac6836c712b90765340d4b3dc7c86bc0c075e417e3639a562ac88c5bca", func := "spyglass/spyglasslaw24.KeysFull", spec := "keysFull", unfollowed := true, recurses := true, apart := false, narrowed := true }
def KeysFullUptoSaid : Prop := keysFullUptoRow.holds Try.pinned (OpenSpec.upto keysFullSpec)

/-- 'spyglasslaw24.KeysPlays', WHERE WHAT IT READS IS OF BULK AT MOST 1048576: true; the input reads as it did. -/
def keysPlaysUptoRow : OpenClaim := { program := "ytgnciejbhaebeaa", sum := "0ce3b5ac6836c712b90765340d4b3dc7c86bc0c075e417e3639a562ac88c5bca", func := "spyglass/spyglasslaw24.KeysPlays", spec := "keysPlays", unfollowed := true, recurses := true, apart := false, narrowed := true }
def KeysPlaysUptoSaid : Prop := keysPlaysUptoRow.holds Try.pinned (OpenSpec.upto keysPlaysSpec)

/-- 'spyglasslaw24.KeysPrefix', WHERE WHAT IT READS IS OF BULK AT MOST 1048576: true; the input reads as it did. -/
def keysPrefixUptoRow : OpenClaim := { program := "ytgnciejbhaebeaa", sum := "0ce3b5ac6836c712b90765340d4b3dc7c86bc0c075e417e3639a562ac88c5bca", func := "spyglass/spyglasslaw24.KeysPrefix", spec := "keysPrefix", unfollowed := true, recurses := true, apart := false, narrowed := true }
def KeysPrefixUptoSaid : Prop := keysPrefixUptoRow.holds Try.pinned (OpenSpec.upto keysPrefixSpec)

/-- 'spyglasslaw24.KeysNil', WHERE WHAT IT READS IS OF BULK AT MOST 1048576: true; the input reads as it did. -/
def keysNilUptoRow : OpenClaim := { program := "ytgnciejbhaebeaa", sum := "0ce3b5ac6836c712b90765340d4b3dc7c86bc0c075e417e3639a562ac88c5bca", func := "spyglass/spyglasslaw24.KeysNil", spec := "keysNil", unfollowed := true, recurses := true, apart := false, narrowed := true }
def KeysNilUptoSaid : Prop := keysNilUptoRow.holds Try.pinned (OpenSpec.upto keysNilSpec)

/-- 'spyglasslaw02.TlvEncodes', WHERE WHAT IT READS IS OF BULK AT MOST 1048576: true; the input reads as it did. -/
def tlvEncodesUptoRow : OpenClaim := { program := "ytgnciejbhaebeaa", sum := "0ce3b5ac6836c712b90765340d4b3dc7c86bc0c075e417e3639a562ac88c5bca", func := "spyglass/spyglasslaw02.TlvEncodes", spec := "tlvEncodes", unfollowed := true, recurses := true, loops := true, apart := false, narrowed := true }
def TlvEncodesUptoSaid : Prop := tlvEncodesUptoRow.holds Try.pinned (OpenSpec.upto tlvEncodesSpec)

/-- 'spyglasslaw02.TlvDecodes', WHERE WHAT IT READS IS OF BULK AT MOST 1048576: true; the input reads as it did. -/
def tlvDecodesUptoRow : OpenClaim := { program := "ytgnciejbhaebeaa", sum := "0ce3b5ac6836c712b90765340d4b3dc7c86bc0c075e417e3639a562ac88c5bca", func := "spyglass/spyglasslaw02.TlvDecodes", spec := "tlvDecodes", unfollowed := true, recurses := true, apart := false, narrowed := true }
def TlvDecodesUptoSaid : Prop := tlvDecodesUptoRow.holds Try.pinned (OpenSpec.upto tlvDecodesSpec)

/-- 'spyglasslaw02.TlvBack', WHERE WHAT IT READS IS OF BULK AT MOST 1048576: true; the input reads as it did. -/
def tlvBackUptoRow : OpenClaim := { program := "ytgnciejbhaebeaa", sum := "0ce3b5ac6836c712b90765340d4b3dc7c86bc0c075e417e3639a562ac88c5bca", func := "spyglass/spyglasslaw02.TlvBack", spec := "tlvBack", unfollowed := true, recurses := true, loops := true, apart := false, narrowed := true }
def TlvBackUptoSaid : Prop := tlvBackUptoRow.holds Try.pinned (OpenSpec.upto tlvBackSpec)

/-- 'spyglasslaw02.TlvOne', WHERE WHAT IT READS IS OF BULK AT MOST 1048576: true; the input reads as it did. -/
def tlvOneUptoRow : OpenClaim := { program := "ytgnciejbhaebeaa", sum := "0ce3b5ac6836c712b90765340d4b3dc7c86bc0c075e417e3639a562ac88c5bca", func := "spyglass/spyglasslaw02.TlvOne", spec := "tlvOne", unfollowed := true, recurses := true, apart := false, narrowed := true }
def TlvOneUptoSaid : Prop := tlvOneUptoRow.holds Try.pinned (OpenSpec.upto tlvOneSpec)

/-- 'spyglasslaw02.TlvUnknown', WHERE WHAT IT READS IS OF BULK AT MOST 1048576: true; the input reads as it did. -/
def tlvUnknownUptoRow : OpenClaim := { program := "ytgnciejbhaebeaa", sum := "0ce3b5ac6836c712b90765340d4b3dc7c86bc0c075e417e3639a562ac88c5bca", func := "spyglass/spyglasslaw02.TlvUnknown", spec := "tlvUnknown", unfollowed := true, recurses := true, loops := true, apart := false, narrowed := true }
def TlvUnknownUptoSaid : Prop := tlvUnknownUptoRow.holds Try.pinned (OpenSpec.upto tlvUnknownSpec)

/-- 'spyglasslaw02.TlvPicks', WHERE WHAT IT READS IS OF BULK AT MOST 1048576: true; the input reads as it did. -/
def tlvPicksUptoRow : OpenClaim := { program := "ytgnciejbhaebeaa", sum := "0ce3b5ac6836c712b90765340d4b3dc7c86bc0c075e417e3639a562ac88c5bca", func := "spyglass/spyglasslaw02.TlvPicks", spec := "tlvPicks", unfollowed := true, recurses := true, loops := true, apart := false, narrowed := true }
def TlvPicksUptoSaid : Prop := tlvPicksUptoRow.holds Try.pinned (OpenSpec.upto tlvPicksSpec)

/-- 'spyglasslaw24.KeysDecodes', WHERE WHAT IT READS IS OF BULK AT MOST 1048576: true; the input reads as it did. -/
def keysDecodesUptoRow : OpenClaim := { program := "ytgnciejbhaebeaa", sum := "0ce3b5ac6836c712b90765340d4b3dc7c86bc0c075e417e3639a562ac88c5bca", func := "spyglass/spyglasslaw24.KeysDecodes", spec := "keysDecodes", unfollowed := true, recurses := true, apart := false, narrowed := true }
def KeysDecodesUptoSaid : Prop := keysDecodesUptoRow.holds Try.pinned (OpenSpec.upto keysDecodesSpec)

/-- 'spyglasslaw24.KeysBack', WHERE WHAT IT READS IS OF BULK AT MOST 1048576: true; the input reads as it did. -/
def keysBackUptoRow : OpenClaim := { program := "ytgnciejbhaebeaa", sum := "0ce3b5ac6836c712b90765340d4b3dc7c86bc0c075e417e3639a562ac88c5bca", func := "spyglass/spyglasslaw24.KeysBack", spec := "keysBack", unfollowed := true, recurses := true, apart := false, narrowed := true }
def KeysBackUptoSaid : Prop := keysBackUptoRow.holds Try.pinned (OpenSpec.upto keysBackSpec)

end Rows
end Go.Proofs.Ytgnciejbhaebeaa
