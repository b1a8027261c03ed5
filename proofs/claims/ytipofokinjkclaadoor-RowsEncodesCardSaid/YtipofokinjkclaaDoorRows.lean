/-
  NARROWER THAN 'FOR EVERY INPUT', by the rows' own cells (each row's printed sentence says how): RowsEncodes: laid · RowsStill: laid · ProjectShows: laid · ProjectRight: laid · ProjectTwice: laid · ProjectPlain: laid · ProjectBlank: laid · RunsEncodes: laid · RowsApplies: laid · RowsThere: laid · RowsFit: laid · RunsThere: laid · RunsFit: laid · RunsStill: laid.
  DERIVED. THE GIVEN ROWS OF THIS SEAT. 14 by the template 'for every input the law returns true; each argument reads behind the call as it read before'; 0 by the template 'total and deterministic' (their statements: YtipofokinjkclaaDoorTotals.lean).
  GIVEN WITH THE SEED: the statements are not yours to turn. If you find one false, say at which input.
  Laid BY PROGRAM, IN A SANDBOX (cutbox-rows.mjs): the forced cells as the released guide's own fill.sh prints them over the translation de44a83f11c4f8b5… (all of the seat's roots in one cut). By AI agents, Wed Nov 11 2026. No macro, syntax, notation, axiom, sorry.
-/
import Derived.Test.YtipofokinjkclaaDoorChecked
import GoSem.Claim
import GoSem.ClaimJoined
import GoSem.ClaimMapViews
import Derived.JoinedTies
import Derived.KernelRfl
namespace Go.Proofs.YtipofokinjkclaaDoor
/- THE CELL 'sum', in the pinned program and in every row, IS THE sha256 OF THE DUMP (.gsa) THAT YtipofokinjkclaaDoorProg.lean LOADS. Nothing in Lean hashes anything: it is a label: what it is worth is what the hold of that sum in a sandbox is worth. -/
noncomputable def Tryd.pinned : Pinned := { name := "ytipofokinjkclaadoor", sum := "de44a83f11c4f8b588d5915559fcc23a1fed4d0d20467fbcfe2638948079f501", checked := Tryd.checked }
namespace Rows
def none {H : Type} : Left H := { results := [], args := [] }

/- WHAT THE LISTED PACKAGE-LEVEL VARIABLES READ AS WHEN THE CALL BEGINS. Each datum BY PROGRAM (the guide's laid-datum.mjs) off the statement by which the dump's own 'gosem.cut.vars' lays the variable. In a bare row this is a premise. The card (YtipofokinjkclaaDoorCards.lean) ties it to the program's text. -/
def laid_spyglass_utf_none {H : Type} : DataW H := .agg [.agg [.lit (.int .i32 768), .lit (.int .i32 879)], .agg [.lit (.int .i32 8203), .lit (.int .i32 8207)], .agg [.lit (.int .i32 65024), .lit (.int .i32 65039)]]
def laid_spyglass_utf_wide {H : Type} : DataW H := .agg [.agg [.lit (.int .i32 4352), .lit (.int .i32 4447)], .agg [.lit (.int .i32 11904), .lit (.int .i32 12350)], .agg [.lit (.int .i32 12353), .lit (.int .i32 42191)], .agg [.lit (.int .i32 44032), .lit (.int .i32 55203)], .agg [.lit (.int .i32 63744), .lit (.int .i32 64255)], .agg [.lit (.int .i32 65072), .lit (.int .i32 65135)], .agg [.lit (.int .i32 65280), .lit (.int .i32 65376)], .agg [.lit (.int .i32 65504), .lit (.int .i32 65510)], .agg [.lit (.int .i32 127744), .lit (.int .i32 128591)], .agg [.lit (.int .i32 131072), .lit (.int .i32 262141)]]
def laid_spyglass_color_first {H : Type} : DataW H := .agg [.agg [.lit (.int .u8 0), .lit (.int .u8 0), .lit (.int .u8 0)], .agg [.lit (.int .u8 205), .lit (.int .u8 0), .lit (.int .u8 0)], .agg [.lit (.int .u8 0), .lit (.int .u8 205), .lit (.int .u8 0)], .agg [.lit (.int .u8 205), .lit (.int .u8 205), .lit (.int .u8 0)], .agg [.lit (.int .u8 0), .lit (.int .u8 0), .lit (.int .u8 238)], .agg [.lit (.int .u8 205), .lit (.int .u8 0), .lit (.int .u8 205)], .agg [.lit (.int .u8 0), .lit (.int .u8 205), .lit (.int .u8 205)], .agg [.lit (.int .u8 229), .lit (.int .u8 229), .lit (.int .u8 229)], .agg [.lit (.int .u8 127), .lit (.int .u8 127), .lit (.int .u8 127)], .agg [.lit (.int .u8 255), .lit (.int .u8 0), .lit (.int .u8 0)], .agg [.lit (.int .u8 0), .lit (.int .u8 255), .lit (.int .u8 0)], .agg [.lit (.int .u8 255), .lit (.int .u8 255), .lit (.int .u8 0)], .agg [.lit (.int .u8 92), .lit (.int .u8 92), .lit (.int .u8 255)], .agg [.lit (.int .u8 255), .lit (.int .u8 0), .lit (.int .u8 255)], .agg [.lit (.int .u8 0), .lit (.int .u8 255), .lit (.int .u8 255)], .agg [.lit (.int .u8 255), .lit (.int .u8 255), .lit (.int .u8 255)]]
def laid_spyglass_color_levels {H : Type} : DataW H := .agg [.lit (.int .i64 0), .lit (.int .i64 95), .lit (.int .i64 135), .lit (.int .i64 175), .lit (.int .i64 215), .lit (.int .i64 255)]

/-- 'spyglasslaw16.RowsEncodes': WHATEVER THE INPUT: true; the input reads as it did. -/
def rowsEncodesSpec : ChangeSpec := { name := "rowsEncodes", fn := fun _ => fun
  | [d1, d2] => { results := [.lit (.bool true)], args := [d1, d2] }
  | _ => none }
def rowsEncodesRow : OpenClaim := { program := "ytipofokinjkclaadoor", sum := "de44a83f11c4f8b588d5915559fcc23a1fed4d0d20467fbcfe2638948079f501", func := "spyglass/spyglasslaw16.RowsEncodes", spec := "rowsEncodes", unfollowed := true, recurses := true, named := ["spyglass/utf.none", "spyglass/utf.wide"], apart := false, laid := [("spyglass/utf.none", laid_spyglass_utf_none), ("spyglass/utf.wide", laid_spyglass_utf_wide)] }
def RowsEncodesSaid : Prop := rowsEncodesRow.holds Tryd.pinned (OpenSpec.ofChange rowsEncodesSpec)

/-- ITS FALSE NEIGHBOUR: 'it returns false'. Refute it at one input. -/
def rowsEncodesWrong : ChangeSpec := { name := "rowsEncodes", fn := fun _ => fun
  | [d1, d2] => { results := [.lit (.bool false)], args := [d1, d2] }
  | _ => none }
def RowsEncodesWrongFalsely : Prop := rowsEncodesRow.holds Tryd.pinned (OpenSpec.ofChange rowsEncodesWrong)

/-- 'spyglasslaw16.RowsStill': WHATEVER THE INPUT: true; the input reads as it did. -/
def rowsStillSpec : ChangeSpec := { name := "rowsStill", fn := fun _ => fun
  | [d1, d2, d3, d4] => { results := [.lit (.bool true)], args := [d1, d2, d3, d4] }
  | _ => none }
def rowsStillRow : OpenClaim := { program := "ytipofokinjkclaadoor", sum := "de44a83f11c4f8b588d5915559fcc23a1fed4d0d20467fbcfe2638948079f501", func := "spyglass/spyglasslaw16.RowsStill", spec := "rowsStill", unfollowed := true, recurses := true, named := ["spyglass/utf.none", "spyglass/utf.wide"], apart := false, laid := [("spyglass/utf.none", laid_spyglass_utf_none), ("spyglass/utf.wide", laid_spyglass_utf_wide)] }
def RowsStillSaid : Prop := rowsStillRow.holds Tryd.pinned (OpenSpec.ofChange rowsStillSpec)

/-- ITS FALSE NEIGHBOUR: 'it returns false'. Refute it at one input. -/
def rowsStillWrong : ChangeSpec := { name := "rowsStill", fn := fun _ => fun
  | [d1, d2, d3, d4] => { results := [.lit (.bool false)], args := [d1, d2, d3, d4] }
  | _ => none }
def RowsStillWrongFalsely : Prop := rowsStillRow.holds Tryd.pinned (OpenSpec.ofChange rowsStillWrong)

/-- 'spyglasslaw15.ProjectShows': WHATEVER THE INPUT: true; the input reads as it did. -/
def projectShowsSpec : ChangeSpec := { name := "projectShows", fn := fun _ => fun
  | [d1, d2] => { results := [.lit (.bool true)], args := [d1, d2] }
  | _ => none }
def projectShowsRow : OpenClaim := { program := "ytipofokinjkclaadoor", sum := "de44a83f11c4f8b588d5915559fcc23a1fed4d0d20467fbcfe2638948079f501", func := "spyglass/spyglasslaw15.ProjectShows", spec := "projectShows", unfollowed := true, recurses := true, named := ["spyglass/utf.none", "spyglass/utf.wide", "spyglass/color.first", "spyglass/color.levels"], apart := false, laid := [("spyglass/utf.none", laid_spyglass_utf_none), ("spyglass/utf.wide", laid_spyglass_utf_wide), ("spyglass/color.first", laid_spyglass_color_first), ("spyglass/color.levels", laid_spyglass_color_levels)] }
def ProjectShowsSaid : Prop := projectShowsRow.holds Tryd.pinned (OpenSpec.ofChange projectShowsSpec)

/-- ITS FALSE NEIGHBOUR: 'it returns false'. Refute it at one input. -/
def projectShowsWrong : ChangeSpec := { name := "projectShows", fn := fun _ => fun
  | [d1, d2] => { results := [.lit (.bool false)], args := [d1, d2] }
  | _ => none }
def ProjectShowsWrongFalsely : Prop := projectShowsRow.holds Tryd.pinned (OpenSpec.ofChange projectShowsWrong)

/-- 'spyglasslaw15.ProjectRight': WHATEVER THE INPUT: true; the input reads as it did. -/
def projectRightSpec : ChangeSpec := { name := "projectRight", fn := fun _ => fun
  | [d1, d2] => { results := [.lit (.bool true)], args := [d1, d2] }
  | _ => none }
def projectRightRow : OpenClaim := { program := "ytipofokinjkclaadoor", sum := "de44a83f11c4f8b588d5915559fcc23a1fed4d0d20467fbcfe2638948079f501", func := "spyglass/spyglasslaw15.ProjectRight", spec := "projectRight", unfollowed := true, recurses := true, named := ["spyglass/utf.none", "spyglass/utf.wide", "spyglass/color.first", "spyglass/color.levels"], apart := false, laid := [("spyglass/utf.none", laid_spyglass_utf_none), ("spyglass/utf.wide", laid_spyglass_utf_wide), ("spyglass/color.first", laid_spyglass_color_first), ("spyglass/color.levels", laid_spyglass_color_levels)] }
def ProjectRightSaid : Prop := projectRightRow.holds Tryd.pinned (OpenSpec.ofChange projectRightSpec)

/-- ITS FALSE NEIGHBOUR: 'it returns false'. Refute it at one input. -/
def projectRightWrong : ChangeSpec := { name := "projectRight", fn := fun _ => fun
  | [d1, d2] => { results := [.lit (.bool false)], args := [d1, d2] }
  | _ => none }
def ProjectRightWrongFalsely : Prop := projectRightRow.holds Tryd.pinned (OpenSpec.ofChange projectRightWrong)

/-- 'spyglasslaw15.ProjectTwice': WHATEVER THE INPUT: true; the input reads as it did. -/
def projectTwiceSpec : ChangeSpec := { name := "projectTwice", fn := fun _ => fun
  | [d1, d2, d3] => { results := [.lit (.bool true)], args := [d1, d2, d3] }
  | _ => none }
def projectTwiceRow : OpenClaim := { program := "ytipofokinjkclaadoor", sum := "de44a83f11c4f8b588d5915559fcc23a1fed4d0d20467fbcfe2638948079f501", func := "spyglass/spyglasslaw15.ProjectTwice", spec := "projectTwice", unfollowed := true, recurses := true, named := ["spyglass/utf.none", "spyglass/utf.wide", "spyglass/color.first", "spyglass/color.levels"], apart := false, laid := [("spyglass/utf.none", laid_spyglass_utf_none), ("spyglass/utf.wide", laid_spyglass_utf_wide), ("spyglass/color.first", laid_spyglass_color_first), ("spyglass/color.levels", laid_spyglass_color_levels)] }
def ProjectTwiceSaid : Prop := projectTwiceRow.holds Tryd.pinned (OpenSpec.ofChange projectTwiceSpec)

/-- ITS FALSE NEIGHBOUR: 'it returns false'. Refute it at one input. -/
def projectTwiceWrong : ChangeSpec := { name := "projectTwice", fn := fun _ => fun
  | [d1, d2, d3] => { results := [.lit (.bool false)], args := [d1, d2, d3] }
  | _ => none }
def ProjectTwiceWrongFalsely : Prop := projectTwiceRow.holds Tryd.pinned (OpenSpec.ofChange projectTwiceWrong)

/-- 'spyglasslaw15.ProjectPlain': WHATEVER THE INPUT: true; the input reads as it did. -/
def projectPlainSpec : ChangeSpec := { name := "projectPlain", fn := fun _ => fun
  | [d1, d2] => { results := [.lit (.bool true)], args := [d1, d2] }
  | _ => none }
def projectPlainRow : OpenClaim := { program := "ytipofokinjkclaadoor", sum := "de44a83f11c4f8b588d5915559fcc23a1fed4d0d20467fbcfe2638948079f501", func := "spyglass/spyglasslaw15.ProjectPlain", spec := "projectPlain", unfollowed := true, recurses := true, named := ["spyglass/utf.none", "spyglass/utf.wide", "spyglass/color.first", "spyglass/color.levels"], apart := false, laid := [("spyglass/utf.none", laid_spyglass_utf_none), ("spyglass/utf.wide", laid_spyglass_utf_wide), ("spyglass/color.first", laid_spyglass_color_first), ("spyglass/color.levels", laid_spyglass_color_levels)] }
def ProjectPlainSaid : Prop := projectPlainRow.holds Tryd.pinned (OpenSpec.ofChange projectPlainSpec)

/-- ITS FALSE NEIGHBOUR: 'it returns false'. Refute it at one input. -/
def projectPlainWrong : ChangeSpec := { name := "projectPlain", fn := fun _ => fun
  | [d1, d2] => { results := [.lit (.bool false)], args := [d1, d2] }
  | _ => none }
def ProjectPlainWrongFalsely : Prop := projectPlainRow.holds Tryd.pinned (OpenSpec.ofChange projectPlainWrong)

/-- 'spyglasslaw15.ProjectBlank': WHATEVER THE INPUT: true; the input reads as it did. -/
def projectBlankSpec : ChangeSpec := { name := "projectBlank", fn := fun _ => fun
  | [d1, d2, d3] => { results := [.lit (.bool true)], args := [d1, d2, d3] }
  | _ => none }
def projectBlankRow : OpenClaim := { program := "ytipofokinjkclaadoor", sum := "de44a83f11c4f8b588d5915559fcc23a1fed4d0d20467fbcfe2638948079f501", func := "spyglass/spyglasslaw15.ProjectBlank", spec := "projectBlank", unfollowed := true, recurses := true, named := ["spyglass/utf.none", "spyglass/utf.wide", "spyglass/color.first", "spyglass/color.levels"], apart := false, laid := [("spyglass/utf.none", laid_spyglass_utf_none), ("spyglass/utf.wide", laid_spyglass_utf_wide), ("spyglass/color.first", laid_spyglass_color_first), ("spyglass/color.levels", laid_spyglass_color_levels)] }
def ProjectBlankSaid : Prop := projectBlankRow.holds Tryd.pinned (OpenSpec.ofChange projectBlankSpec)

/-- ITS FALSE NEIGHBOUR: 'it returns false'. Refute it at one input. -/
def projectBlankWrong : ChangeSpec := { name := "projectBlank", fn := fun _ => fun
  | [d1, d2, d3] => { results := [.lit (.bool false)], args := [d1, d2, d3] }
  | _ => none }
def ProjectBlankWrongFalsely : Prop := projectBlankRow.holds Tryd.pinned (OpenSpec.ofChange projectBlankWrong)

/-- 'spyglasslaw17.RunsEncodes': WHATEVER THE INPUT: true; the input reads as it did. -/
def runsEncodesSpec : ChangeSpec := { name := "runsEncodes", fn := fun _ => fun
  | [d1, d2] => { results := [.lit (.bool true)], args := [d1, d2] }
  | _ => none }
def runsEncodesRow : OpenClaim := { program := "ytipofokinjkclaadoor", sum := "de44a83f11c4f8b588d5915559fcc23a1fed4d0d20467fbcfe2638948079f501", func := "spyglass/spyglasslaw17.RunsEncodes", spec := "runsEncodes", unfollowed := true, recurses := true, named := ["spyglass/utf.none", "spyglass/utf.wide"], apart := false, laid := [("spyglass/utf.none", laid_spyglass_utf_none), ("spyglass/utf.wide", laid_spyglass_utf_wide)] }
def RunsEncodesSaid : Prop := runsEncodesRow.holds Tryd.pinned (OpenSpec.ofChange runsEncodesSpec)

/-- ITS FALSE NEIGHBOUR: 'it returns false'. Refute it at one input. -/
def runsEncodesWrong : ChangeSpec := { name := "runsEncodes", fn := fun _ => fun
  | [d1, d2] => { results := [.lit (.bool false)], args := [d1, d2] }
  | _ => none }
def RunsEncodesWrongFalsely : Prop := runsEncodesRow.holds Tryd.pinned (OpenSpec.ofChange runsEncodesWrong)

/-- 'spyglasslaw16.RowsApplies': WHATEVER THE INPUT: true; the input reads as it did. -/
def rowsAppliesSpec : ChangeSpec := { name := "rowsApplies", fn := fun _ => fun
  | [d1, d2] => { results := [.lit (.bool true)], args := [d1, d2] }
  | _ => none }
def rowsAppliesRow : OpenClaim := { program := "ytipofokinjkclaadoor", sum := "de44a83f11c4f8b588d5915559fcc23a1fed4d0d20467fbcfe2638948079f501", func := "spyglass/spyglasslaw16.RowsApplies", spec := "rowsApplies", unfollowed := true, recurses := true, named := ["spyglass/utf.none", "spyglass/utf.wide"], apart := false, laid := [("spyglass/utf.none", laid_spyglass_utf_none), ("spyglass/utf.wide", laid_spyglass_utf_wide)] }
def RowsAppliesSaid : Prop := rowsAppliesRow.holds Tryd.pinned (OpenSpec.ofChange rowsAppliesSpec)

/-- ITS FALSE NEIGHBOUR: 'it returns false'. Refute it at one input. -/
def rowsAppliesWrong : ChangeSpec := { name := "rowsApplies", fn := fun _ => fun
  | [d1, d2] => { results := [.lit (.bool false)], args := [d1, d2] }
  | _ => none }
def RowsAppliesWrongFalsely : Prop := rowsAppliesRow.holds Tryd.pinned (OpenSpec.ofChange rowsAppliesWrong)

/-- 'spyglasslaw16.RowsThere': WHATEVER THE INPUT: true; the input reads as it did. -/
def rowsThereSpec : ChangeSpec := { name := "rowsThere", fn := fun _ => fun
  | [d1, d2] => { results := [.lit (.bool true)], args := [d1, d2] }
  | _ => none }
def rowsThereRow : OpenClaim := { program := "ytipofokinjkclaadoor", sum := "de44a83f11c4f8b588d5915559fcc23a1fed4d0d20467fbcfe2638948079f501", func := "spyglass/spyglasslaw16.RowsThere", spec := "rowsThere", unfollowed := true, recurses := true, named := ["spyglass/utf.none", "spyglass/utf.wide"], apart := false, laid := [("spyglass/utf.none", laid_spyglass_utf_none), ("spyglass/utf.wide", laid_spyglass_utf_wide)] }
def RowsThereSaid : Prop := rowsThereRow.holds Tryd.pinned (OpenSpec.ofChange rowsThereSpec)

/-- ITS FALSE NEIGHBOUR: 'it returns false'. Refute it at one input. -/
def rowsThereWrong : ChangeSpec := { name := "rowsThere", fn := fun _ => fun
  | [d1, d2] => { results := [.lit (.bool false)], args := [d1, d2] }
  | _ => none }
def RowsThereWrongFalsely : Prop := rowsThereRow.holds Tryd.pinned (OpenSpec.ofChange rowsThereWrong)

/-- 'spyglasslaw16.RowsFit': WHATEVER THE INPUT: true; the input reads as it did. -/
def rowsFitSpec : ChangeSpec := { name := "rowsFit", fn := fun _ => fun
  | [d1, d2, d3] => { results := [.lit (.bool true)], args := [d1, d2, d3] }
  | _ => none }
def rowsFitRow : OpenClaim := { program := "ytipofokinjkclaadoor", sum := "de44a83f11c4f8b588d5915559fcc23a1fed4d0d20467fbcfe2638948079f501", func := "spyglass/spyglasslaw16.RowsFit", spec := "rowsFit", unfollowed := true, recurses := true, named := ["spyglass/utf.none", "spyglass/utf.wide"], apart := false, laid := [("spyglass/utf.none", laid_spyglass_utf_none), ("spyglass/utf.wide", laid_spyglass_utf_wide)] }
def RowsFitSaid : Prop := rowsFitRow.holds Tryd.pinned (OpenSpec.ofChange rowsFitSpec)

/-- ITS FALSE NEIGHBOUR: 'it returns false'. Refute it at one input. -/
def rowsFitWrong : ChangeSpec := { name := "rowsFit", fn := fun _ => fun
  | [d1, d2, d3] => { results := [.lit (.bool false)], args := [d1, d2, d3] }
  | _ => none }
def RowsFitWrongFalsely : Prop := rowsFitRow.holds Tryd.pinned (OpenSpec.ofChange rowsFitWrong)

/-- 'spyglasslaw17.RunsThere': WHATEVER THE INPUT: true; the input reads as it did. -/
def runsThereSpec : ChangeSpec := { name := "runsThere", fn := fun _ => fun
  | [d1, d2] => { results := [.lit (.bool true)], args := [d1, d2] }
  | _ => none }
def runsThereRow : OpenClaim := { program := "ytipofokinjkclaadoor", sum := "de44a83f11c4f8b588d5915559fcc23a1fed4d0d20467fbcfe2638948079f501", func := "spyglass/spyglasslaw17.RunsThere", spec := "runsThere", unfollowed := true, recurses := true, named := ["spyglass/utf.none", "spyglass/utf.wide"], apart := false, laid := [("spyglass/utf.none", laid_spyglass_utf_none), ("spyglass/utf.wide", laid_spyglass_utf_wide)] }
def RunsThereSaid : Prop := runsThereRow.holds Tryd.pinned (OpenSpec.ofChange runsThereSpec)

/-- ITS FALSE NEIGHBOUR: 'it returns false'. Refute it at one input. -/
def runsThereWrong : ChangeSpec := { name := "runsThere", fn := fun _ => fun
  | [d1, d2] => { results := [.lit (.bool false)], args := [d1, d2] }
  | _ => none }
def RunsThereWrongFalsely : Prop := runsThereRow.holds Tryd.pinned (OpenSpec.ofChange runsThereWrong)

/-- 'spyglasslaw17.RunsFit': WHATEVER THE INPUT: true; the input reads as it did. -/
def runsFitSpec : ChangeSpec := { name := "runsFit", fn := fun _ => fun
  | [d1, d2] => { results := [.lit (.bool true)], args := [d1, d2] }
  | _ => none }
def runsFitRow : OpenClaim := { program := "ytipofokinjkclaadoor", sum := "de44a83f11c4f8b588d5915559fcc23a1fed4d0d20467fbcfe2638948079f501", func := "spyglass/spyglasslaw17.RunsFit", spec := "runsFit", unfollowed := true, recurses := true, named := ["spyglass/utf.none", "spyglass/utf.wide"], apart := false, laid := [("spyglass/utf.none", laid_spyglass_utf_none), ("spyglass/utf.wide", laid_spyglass_utf_wide)] }
def RunsFitSaid : Prop := runsFitRow.holds Tryd.pinned (OpenSpec.ofChange runsFitSpec)

/-- ITS FALSE NEIGHBOUR: 'it returns false'. Refute it at one input. -/
def runsFitWrong : ChangeSpec := { name := "runsFit", fn := fun _ => fun
  | [d1, d2] => { results := [.lit (.bool false)], args := [d1, d2] }
  | _ => none }
def RunsFitWrongFalsely : Prop := runsFitRow.holds Tryd.pinned (OpenSpec.ofChange runsFitWrong)

/-- 'spyglasslaw17.RunsStill': WHATEVER THE INPUT: true; the input reads as it did. -/
def runsStillSpec : ChangeSpec := { name := "runsStill", fn := fun _ => fun
  | [d] => { results := [.lit (.bool true)], args := [d] }
  | _ => none }
def runsStillRow : OpenClaim := { program := "ytipofokinjkclaadoor", sum := "de44a83f11c4f8b588d5915559fcc23a1fed4d0d20467fbcfe2638948079f501", func := "spyglass/spyglasslaw17.RunsStill", spec := "runsStill", unfollowed := true, recurses := true, named := ["spyglass/utf.none", "spyglass/utf.wide"], apart := false, laid := [("spyglass/utf.none", laid_spyglass_utf_none), ("spyglass/utf.wide", laid_spyglass_utf_wide)] }
def RunsStillSaid : Prop := runsStillRow.holds Tryd.pinned (OpenSpec.ofChange runsStillSpec)

/-- ITS FALSE NEIGHBOUR: 'it returns false'. Refute it at one input. -/
def runsStillWrong : ChangeSpec := { name := "runsStill", fn := fun _ => fun
  | [d] => { results := [.lit (.bool false)], args := [d] }
  | _ => none }
def RunsStillWrongFalsely : Prop := runsStillRow.holds Tryd.pinned (OpenSpec.ofChange runsStillWrong)

/- THE SECOND FORM. 'bulk': how many values and letters a reading holds, each counted each time it is reached (what is shared counts as often as it is met; a slice's spare places count too). A statement '..UptoSaid' is the law's where the arguments, and the package variables that the reading takes, are together of bulk at most 1048576: NARROWER than '..Said'. Prove '..Said' where nothing that the law and all that it calls make is longer than what came in: it says more and counts as full. Else prove '..UptoSaid'. A law counts once. -/
mutual
def uptoBulk {H : Type} : DataW H → Nat
  | .lit (.string bytes) => bytes.length + 1
  | .lit _ => 1
  | .nil => 1
  | .ptr d => uptoBulk d + 1
  | .slice elems spare => uptoBulkAll elems + uptoBulkAll spare + 1
  | .agg parts => uptoBulkAll parts + 1
  | .iface _ d => uptoBulk d + 1
  | .map entries => uptoBulkEntries entries + 1
  | .held _ => 1
def uptoBulkAll {H : Type} : List (DataW H) → Nat
  | [] => 0
  | d :: r => uptoBulk d + uptoBulkAll r
def uptoBulkEntries {H : Type} : List (Lit × DataW H) → Nat
  | [] => 0
  | x :: r => uptoBulkEntry x + uptoBulkEntries r
def uptoBulkEntry {H : Type} : Lit × DataW H → Nat
  | (.string bytes, d) => bytes.length + uptoBulk d + 1
  | (_, d) => uptoBulk d + 1
 end
def uptoSmall : (H : Type) → List (DataW H) → Bool := fun _ ds => decide (uptoBulkAll ds ≤ 1048576)
def OpenSpec.upto (s : _root_.Go.ChangeSpec) : _root_.Go.OpenSpec := { _root_.Go.OpenSpec.ofChange s with cond := some uptoSmall }

/-- 'spyglasslaw16.RowsEncodes', WHERE WHAT IT READS IS OF BULK AT MOST 1048576: true; the input reads as it did. -/
def rowsEncodesUptoRow : OpenClaim := { program := "ytipofokinjkclaadoor", sum := "de44a83f11c4f8b588d5915559fcc23a1fed4d0d20467fbcfe2638948079f501", func := "spyglass/spyglasslaw16.RowsEncodes", spec := "rowsEncodes", unfollowed := true, recurses := true, named := ["spyglass/utf.none", "spyglass/utf.wide"], apart := false, laid := [("spyglass/utf.none", laid_spyglass_utf_none), ("spyglass/utf.wide", laid_spyglass_utf_wide)], narrowed := true }
def RowsEncodesUptoSaid : Prop := rowsEncodesUptoRow.holds Tryd.pinned (OpenSpec.upto rowsEncodesSpec)

/-- 'spyglasslaw16.RowsStill', WHERE WHAT IT READS IS OF BULK AT MOST 1048576: true; the input reads as it did. -/
def rowsStillUptoRow : OpenClaim := { program := "ytipofokinjkclaadoor", sum := "de44a83f11c4f8b588d5915559fcc23a1fed4d0d20467fbcfe2638948079f501", func := "spyglass/spyglasslaw16.RowsStill", spec := "rowsStill", unfollowed := true, recurses := true, named := ["spyglass/utf.none", "spyglass/utf.wide"], apart := false, laid := [("spyglass/utf.none", laid_spyglass_utf_none), ("spyglass/utf.wide", laid_spyglass_utf_wide)], narrowed := true }
def RowsStillUptoSaid : Prop := rowsStillUptoRow.holds Tryd.pinned (OpenSpec.upto rowsStillSpec)

/-- 'spyglasslaw15.ProjectShows', WHERE WHAT IT READS IS OF BULK AT MOST 1048576: true; the input reads as it did. -/
def projectShowsUptoRow : OpenClaim := { program := "ytipofokinjkclaadoor", sum := "de44a83f11c4f8b588d5915559fcc23a1fed4d0d20467fbcfe2638948079f501", func := "spyglass/spyglasslaw15.ProjectShows", spec := "projectShows", unfollowed := true, recurses := true, named := ["spyglass/utf.none", "spyglass/utf.wide", "spyglass/color.first", "spyglass/color.levels"], apart := false, laid := [("spyglass/utf.none", laid_spyglass_utf_none), ("spyglass/utf.wide", laid_spyglass_utf_wide), ("spyglass/color.first", laid_spyglass_color_first), ("spyglass/color.levels", laid_spyglass_color_levels)], narrowed := true }
def ProjectShowsUptoSaid : Prop := projectShowsUptoRow.holds Tryd.pinned (OpenSpec.upto projectShowsSpec)

/-- 'spyglasslaw15.ProjectRight', WHERE WHAT IT READS IS OF BULK AT MOST 1048576: true; the input reads as it did. -/
def projectRightUptoRow : OpenClaim := { program := "ytipofokinjkclaadoor", sum := "de44a83f11c4f8b588d5915559fcc23a1fed4d0d20467fbcfe2638948079f501", func := "spyglass/spyglasslaw15.ProjectRight", spec := "projectRight", unfollowed := true, recurses := true, named := ["spyglass/utf.none", "spyglass/utf.wide", "spyglass/color.first", "spyglass/color.levels"], apart := false, laid := [("spyglass/utf.none", laid_spyglass_utf_none), ("spyglass/utf.wide", laid_spyglass_utf_wide), ("spyglass/color.first", laid_spyglass_color_first), ("spyglass/color.levels", laid_spyglass_color_levels)], narrowed := true }
def ProjectRightUptoSaid : Prop := projectRightUptoRow.holds Tryd.pinned (OpenSpec.upto projectRightSpec)

/-- 'spyglasslaw15.ProjectTwice', WHERE WHAT IT READS IS OF BULK AT MOST 1048576: true; the input reads as it did. -/
def projectTwiceUptoRow : OpenClaim := { program := "ytipofokinjkclaadoor", sum := "de44a83f11c4f8b588d5915559fcc23a1fed4d0d20467fbcfe2638948079f501", func := "spyglass/spyglasslaw15.ProjectTwice", spec := "projectTwice", unfollowed := true, recurses := true, named := ["spyglass/utf.none", "spyglass/utf.wide", "spyglass/color.first", "spyglass/color.levels"], apart := false, laid := [("spyglass/utf.none", laid_spyglass_utf_none), ("spyglass/utf.wide", laid_spyglass_utf_wide), ("spyglass/color.first", laid_spyglass_color_first), ("spyglass/color.levels", laid_spyglass_color_levels)], narrowed := true }
def ProjectTwiceUptoSaid : Prop := projectTwiceUptoRow.holds Tryd.pinned (OpenSpec.upto projectTwiceSpec)

/-- 'spyglasslaw15.ProjectPlain', WHERE WHAT IT READS IS OF BULK AT MOST 1048576: true; the input reads as it did. -/
def projectPlainUptoRow : OpenClaim := { program := "ytipofokinjkclaadoor", sum := "de44a83f11c4f8b588d5915559fcc23a1fed4d0d20467fbcfe2638948079f501", func := "spyglass/spyglasslaw15.ProjectPlain", spec := "projectPlain", unfollowed := true, recurses := true, named := ["spyglass/utf.none", "spyglass/utf.wide", "spyglass/color.first", "spyglass/color.levels"], apart := false, laid := [("spyglass/utf.none", laid_spyglass_utf_none), ("spyglass/utf.wide", laid_spyglass_utf_wide), ("spyglass/color.first", laid_spyglass_color_first), ("spyglass/color.levels", laid_spyglass_color_levels)], narrowed := true }
def ProjectPlainUptoSaid : Prop := projectPlainUptoRow.holds Tryd.pinned (OpenSpec.upto projectPlainSpec)

/-- 'spyglasslaw15.ProjectBlank', WHERE WHAT IT READS IS OF BULK AT MOST 1048576: true; the input reads as it did. -/
def projectBlankUptoRow : OpenClaim := { program := "ytipofokinjkclaadoor", sum := "de44a83f11c4f8b588d5915559fcc23a1fed4d0d20467fbcfe2638948079f501", func := "spyglass/spyglasslaw15.ProjectBlank", spec := "projectBlank", unfollowed := true, recurses := true, named := ["spyglass/utf.none", "spyglass/utf.wide", "spyglass/color.first", "spyglass/color.levels"], apart := false, laid := [("spyglass/utf.none", laid_spyglass_utf_none), ("spyglass/utf.wide", laid_spyglass_utf_wide), ("spyglass/color.first", laid_spyglass_color_first), ("spyglass/color.levels", laid_spyglass_color_levels)], narrowed := true }
def ProjectBlankUptoSaid : Prop := projectBlankUptoRow.holds Tryd.pinned (OpenSpec.upto projectBlankSpec)

/-- 'spyglasslaw17.RunsEncodes', WHERE WHAT IT READS IS OF BULK AT MOST 1048576: true; the input reads as it did. -/
def runsEncodesUptoRow : OpenClaim := { program := "ytipofokinjkclaadoor", sum := "de44a83f11c4f8b588d5915559fcc23a1fed4d0d20467fbcfe2638948079f501", func := "spyglass/spyglasslaw17.RunsEncodes", spec := "runsEncodes", unfollowed := true, recurses := true, named := ["spyglass/utf.none", "spyglass/utf.wide"], apart := false, laid := [("spyglass/utf.none", laid_spyglass_utf_none), ("spyglass/utf.wide", laid_spyglass_utf_wide)], narrowed := true }
def RunsEncodesUptoSaid : Prop := runsEncodesUptoRow.holds Tryd.pinned (OpenSpec.upto runsEncodesSpec)

/-- 'spyglasslaw16.RowsApplies', WHERE WHAT IT READS IS OF BULK AT MOST 1048576: true; the input reads as it did. -/
def rowsAppliesUptoRow : OpenClaim := { program := "ytipofokinjkclaadoor", sum := "de44a83f11c4f8b588d5915559fcc23a1fed4d0d20467fbcfe2638948079f501", func := "spyglass/spyglasslaw16.RowsApplies", spec := "rowsApplies", unfollowed := true, recurses := true, named := ["spyglass/utf.none", "spyglass/utf.wide"], apart := false, laid := [("spyglass/utf.none", laid_spyglass_utf_none), ("spyglass/utf.wide", laid_spyglass_utf_wide)], narrowed := true }
def RowsAppliesUptoSaid : Prop := rowsAppliesUptoRow.holds Tryd.pinned (OpenSpec.upto rowsAppliesSpec)

/-- 'spyglasslaw16.RowsThere', WHERE WHAT IT READS IS OF BULK AT MOST 1048576: true; the input reads as it did. -/
def rowsThereUptoRow : OpenClaim := { program := "ytipofokinjkclaadoor", sum := "de44a83f11c4f8b588d5915559fcc23a1fed4d0d20467fbcfe2638948079f501", func := "spyglass/spyglasslaw16.RowsThere", spec := "rowsThere", unfollowed := true, recurses := true, named := ["spyglass/utf.none", "spyglass/utf.wide"], apart := false, laid := [("spyglass/utf.none", laid_spyglass_utf_none), ("spyglass/utf.wide", laid_spyglass_utf_wide)], narrowed := true }
def RowsThereUptoSaid : Prop := rowsThereUptoRow.holds Tryd.pinned (OpenSpec.upto rowsThereSpec)

/-- 'spyglasslaw16.RowsFit', WHERE WHAT IT READS IS OF BULK AT MOST 1048576: true; the input reads as it did. -/
def rowsFitUptoRow : OpenClaim := { program := "ytipofokinjkclaadoor", sum := "de44a83f11c4f8b588d5915559fcc23a1fed4d0d20467fbcfe2638948079f501", func := "spyglass/spyglasslaw16.RowsFit", spec := "rowsFit", unfollowed := true, recurses := true, named := ["spyglass/utf.none", "spyglass/utf.wide"], apart := false, laid := [("spyglass/utf.none", laid_spyglass_utf_none), ("spyglass/utf.wide", laid_spyglass_utf_wide)], narrowed := true }
def RowsFitUptoSaid : Prop := rowsFitUptoRow.holds Tryd.pinned (OpenSpec.upto rowsFitSpec)

/-- 'spyglasslaw17.RunsThere', WHERE WHAT IT READS IS OF BULK AT MOST 1048576: true; the input reads as it did. -/
def runsThereUptoRow : OpenClaim := { program := "ytipofokinjkclaadoor", sum := "de44a83f11c4f8b588d5915559fcc23a1fed4d0d20467fbcfe2638948079f501", func := "spyglass/spyglasslaw17.RunsThere", spec := "runsThere", unfollowed := true, recurses := true, named := ["spyglass/utf.none", "spyglass/utf.wide"], apart := false, laid := [("spyglass/utf.none", laid_spyglass_utf_none), ("spyglass/utf.wide", laid_spyglass_utf_wide)], narrowed := true }
def RunsThereUptoSaid : Prop := runsThereUptoRow.holds Tryd.pinned (OpenSpec.upto runsThereSpec)

/-- 'spyglasslaw17.RunsFit', WHERE WHAT IT READS IS OF BULK AT MOST 1048576: true; the input reads as it did. -/
def runsFitUptoRow : OpenClaim := { program := "ytipofokinjkclaadoor", sum := "de44a83f11c4f8b588d5915559fcc23a1fed4d0d20467fbcfe2638948079f501", func := "spyglass/spyglasslaw17.RunsFit", spec := "runsFit", unfollowed := true, recurses := true, named := ["spyglass/utf.none", "spyglass/utf.wide"], apart := false, laid := [("spyglass/utf.none", laid_spyglass_utf_none), ("spyglass/utf.wide", laid_spyglass_utf_wide)], narrowed := true }
def RunsFitUptoSaid : Prop := runsFitUptoRow.holds Tryd.pinned (OpenSpec.upto runsFitSpec)

/-- 'spyglasslaw17.RunsStill', WHERE WHAT IT READS IS OF BULK AT MOST 1048576: true; the input reads as it did. -/
def runsStillUptoRow : OpenClaim := { program := "ytipofokinjkclaadoor", sum := "de44a83f11c4f8b588d5915559fcc23a1fed4d0d20467fbcfe2638948079f501", func := "spyglass/spyglasslaw17.RunsStill", spec := "runsStill", unfollowed := true, recurses := true, named := ["spyglass/utf.none", "spyglass/utf.wide"], apart := false, laid := [("spyglass/utf.none", laid_spyglass_utf_none), ("spyglass/utf.wide", laid_spyglass_utf_wide)], narrowed := true }
def RunsStillUptoSaid : Prop := runsStillUptoRow.holds Tryd.pinned (OpenSpec.upto runsStillSpec)

end Rows
end Go.Proofs.YtipofokinjkclaaDoor
