/-
  NARROWER THAN 'FOR EVERY INPUT', by the rows' own cells (each row's printed sentence says how): FileKeeps: laid · ReachNeeds: laid · ReachJoins: laid · ReachLacks: laid · ReachMaps: laid · ReachCloses: laid · ReachOrders: laid · ReachKeeps: laid · FileNothing: laid · FilePuts: laid · FileDrops: laid · FileCut: laid · FileCleans: laid · FilePlays: laid.
  DERIVED. THE GIVEN ROWS OF THIS SEAT. 14 by the template 'for every input the law returns true; each argument reads behind the call as it read before'; 0 by the template 'total and deterministic' (their statements: YteeeggphkhimcaaGreatDoorTotals.lean).
  GIVEN WITH THE SEED: the statements are not yours to turn. If you find one false, say at which input.
  Laid BY PROGRAM, IN A SANDBOX (cutbox-rows.mjs): the forced cells as the released guide's own fill.sh prints them over the translation b7f477fa52319040… (all of the seat's roots in one cut). By AI agents, Wed Nov 11 2026. No macro, syntax, notation, axiom, sorry.
-/
import Derived.Test.YteeeggphkhimcaaGreatDoorChecked
import GoSem.PinnedTables
import GoSem.Claim
import GoSem.ClaimJoined
import GoSem.ClaimMapViews
import Derived.JoinedTies
import Derived.KernelRfl
namespace Go.Proofs.YteeeggphkhimcaaGreatDoor
/- THE CELL 'sum', in the pinned program and in every row, IS THE sha256 OF THE DUMP (.gsa) THAT YteeeggphkhimcaaGreatDoorProg.lean LOADS. Nothing in Lean hashes anything: it is a label: what it is worth is what the hold of that sum in a sandbox is worth. -/
noncomputable def Tryz.pinned : Pinned := { name := "yteeeggphkhimcaagreatdoor", sum := "b7f477fa5231904052eaeca37aff986d85a0c4655baad0e511be8eaad9ac19f9", checked := Tryz.checked }
namespace Rows
def none {H : Type} : Left H := { results := [], args := [] }

/- WHAT THE LISTED PACKAGE-LEVEL VARIABLES READ AS WHEN THE CALL BEGINS. Each datum BY PROGRAM (the guide's laid-datum.mjs) off the statement by which the dump's own 'gosem.cut.vars' lays the variable. In a bare row this is a premise. The card (YteeeggphkhimcaaGreatDoorCards.lean) ties it to the program's text. -/
def laid_errors_errorType {H : Type} : DataW H := .iface "internal/reflectlite.rtype" (.agg [.ptr (.lit (.string [101, 114, 114, 111, 114]))])
def laid_unicode_utf8_acceptRanges {H : Type} : DataW H := .agg [.agg [.lit (.int .u8 128), .lit (.int .u8 191)], .agg [.lit (.int .u8 160), .lit (.int .u8 191)], .agg [.lit (.int .u8 128), .lit (.int .u8 159)], .agg [.lit (.int .u8 144), .lit (.int .u8 191)], .agg [.lit (.int .u8 128), .lit (.int .u8 143)], .agg [.lit (.int .u8 0), .lit (.int .u8 0)], .agg [.lit (.int .u8 0), .lit (.int .u8 0)], .agg [.lit (.int .u8 0), .lit (.int .u8 0)], .agg [.lit (.int .u8 0), .lit (.int .u8 0)], .agg [.lit (.int .u8 0), .lit (.int .u8 0)], .agg [.lit (.int .u8 0), .lit (.int .u8 0)], .agg [.lit (.int .u8 0), .lit (.int .u8 0)], .agg [.lit (.int .u8 0), .lit (.int .u8 0)], .agg [.lit (.int .u8 0), .lit (.int .u8 0)], .agg [.lit (.int .u8 0), .lit (.int .u8 0)], .agg [.lit (.int .u8 0), .lit (.int .u8 0)]]
/-- One of Go's own tables, pinned by name: the form's constant. -/
def laid_unicode_utf8_first : DataW Unit := Go.Pinned.utf8First

/-- 'freightlaw6.FileKeeps': WHATEVER THE INPUT: true; the input reads as it did. -/
def fileKeepsSpec : ChangeSpec := { name := "fileKeeps", fn := fun _ => fun
  | [d1, d2] => { results := [.lit (.bool true)], args := [d1, d2] }
  | _ => none }
def fileKeepsRow : OpenClaim := { program := "yteeeggphkhimcaagreatdoor", sum := "b7f477fa5231904052eaeca37aff986d85a0c4655baad0e511be8eaad9ac19f9", func := "freight/freightlaw6.FileKeeps", spec := "fileKeeps", inPlace := ["internal/bytealg.IndexByteString", "internal/reflectlite.TypeOf", "maps.clone", "internal/reflectlite.ValueOf", "(internal/reflectlite.Value).Type", "(internal/reflectlite.Value).IsNil", "(internal/reflectlite.Value).Elem", "(internal/reflectlite.Value).Set"], unfollowed := true, recurses := true, named := ["errors.errorType"], plainKeys := false, apart := false, laid := [("errors.errorType", laid_errors_errorType)] }
def FileKeepsSaid : Prop := fileKeepsRow.holds Tryz.pinned (OpenSpec.ofChange fileKeepsSpec)

/-- ITS FALSE NEIGHBOUR: 'it returns false'. Refute it at one input. -/
def fileKeepsWrong : ChangeSpec := { name := "fileKeeps", fn := fun _ => fun
  | [d1, d2] => { results := [.lit (.bool false)], args := [d1, d2] }
  | _ => none }
def FileKeepsWrongFalsely : Prop := fileKeepsRow.holds Tryz.pinned (OpenSpec.ofChange fileKeepsWrong)

/-- 'freightlaw9.ReachNeeds': WHATEVER THE INPUT: true; the input reads as it did. -/
def reachNeedsSpec : ChangeSpec := { name := "reachNeeds", fn := fun _ => fun
  | [d1, d2, d3] => { results := [.lit (.bool true)], args := [d1, d2, d3] }
  | _ => none }
def reachNeedsRow : OpenClaim := { program := "yteeeggphkhimcaagreatdoor", sum := "b7f477fa5231904052eaeca37aff986d85a0c4655baad0e511be8eaad9ac19f9", func := "freight/freightlaw9.ReachNeeds", spec := "reachNeeds", inPlace := ["internal/reflectlite.ValueOf", "(internal/reflectlite.Value).Type", "(internal/reflectlite.Value).IsNil", "internal/reflectlite.TypeOf", "(internal/reflectlite.Value).Elem", "(internal/reflectlite.Value).Set"], unfollowed := true, recurses := true, named := ["unicode/utf8.first", "unicode/utf8.acceptRanges", "errors.errorType"], plainKeys := false, apart := false, laid := [("unicode/utf8.acceptRanges", laid_unicode_utf8_acceptRanges), ("errors.errorType", laid_errors_errorType), ("unicode/utf8.first", laid_unicode_utf8_first)] }
def ReachNeedsSaid : Prop := reachNeedsRow.holds Tryz.pinned (OpenSpec.ofChange reachNeedsSpec)

/-- ITS FALSE NEIGHBOUR: 'it returns false'. Refute it at one input. -/
def reachNeedsWrong : ChangeSpec := { name := "reachNeeds", fn := fun _ => fun
  | [d1, d2, d3] => { results := [.lit (.bool false)], args := [d1, d2, d3] }
  | _ => none }
def ReachNeedsWrongFalsely : Prop := reachNeedsRow.holds Tryz.pinned (OpenSpec.ofChange reachNeedsWrong)

/-- 'freightlaw9.ReachJoins': WHATEVER THE INPUT: true; the input reads as it did. -/
def reachJoinsSpec : ChangeSpec := { name := "reachJoins", fn := fun _ => fun
  | [d1, d2, d3] => { results := [.lit (.bool true)], args := [d1, d2, d3] }
  | _ => none }
def reachJoinsRow : OpenClaim := { program := "yteeeggphkhimcaagreatdoor", sum := "b7f477fa5231904052eaeca37aff986d85a0c4655baad0e511be8eaad9ac19f9", func := "freight/freightlaw9.ReachJoins", spec := "reachJoins", inPlace := ["internal/reflectlite.ValueOf", "(internal/reflectlite.Value).Type", "(internal/reflectlite.Value).IsNil", "internal/reflectlite.TypeOf", "(internal/reflectlite.Value).Elem", "(internal/reflectlite.Value).Set"], unfollowed := true, recurses := true, named := ["unicode/utf8.first", "unicode/utf8.acceptRanges", "errors.errorType"], plainKeys := false, apart := false, laid := [("unicode/utf8.acceptRanges", laid_unicode_utf8_acceptRanges), ("errors.errorType", laid_errors_errorType), ("unicode/utf8.first", laid_unicode_utf8_first)] }
def ReachJoinsSaid : Prop := reachJoinsRow.holds Tryz.pinned (OpenSpec.ofChange reachJoinsSpec)

/-- ITS FALSE NEIGHBOUR: 'it returns false'. Refute it at one input. -/
def reachJoinsWrong : ChangeSpec := { name := "reachJoins", fn := fun _ => fun
  | [d1, d2, d3] => { results := [.lit (.bool false)], args := [d1, d2, d3] }
  | _ => none }
def ReachJoinsWrongFalsely : Prop := reachJoinsRow.holds Tryz.pinned (OpenSpec.ofChange reachJoinsWrong)

/-- 'freightlaw9.ReachLacks': WHATEVER THE INPUT: true; the input reads as it did. -/
def reachLacksSpec : ChangeSpec := { name := "reachLacks", fn := fun _ => fun
  | [d1, d2, d3] => { results := [.lit (.bool true)], args := [d1, d2, d3] }
  | _ => none }
def reachLacksRow : OpenClaim := { program := "yteeeggphkhimcaagreatdoor", sum := "b7f477fa5231904052eaeca37aff986d85a0c4655baad0e511be8eaad9ac19f9", func := "freight/freightlaw9.ReachLacks", spec := "reachLacks", inPlace := ["internal/reflectlite.ValueOf", "(internal/reflectlite.Value).Type", "(internal/reflectlite.Value).IsNil", "internal/reflectlite.TypeOf", "(internal/reflectlite.Value).Elem", "(internal/reflectlite.Value).Set"], unfollowed := true, recurses := true, named := ["unicode/utf8.first", "unicode/utf8.acceptRanges", "errors.errorType"], plainKeys := false, apart := false, laid := [("unicode/utf8.acceptRanges", laid_unicode_utf8_acceptRanges), ("errors.errorType", laid_errors_errorType), ("unicode/utf8.first", laid_unicode_utf8_first)] }
def ReachLacksSaid : Prop := reachLacksRow.holds Tryz.pinned (OpenSpec.ofChange reachLacksSpec)

/-- ITS FALSE NEIGHBOUR: 'it returns false'. Refute it at one input. -/
def reachLacksWrong : ChangeSpec := { name := "reachLacks", fn := fun _ => fun
  | [d1, d2, d3] => { results := [.lit (.bool false)], args := [d1, d2, d3] }
  | _ => none }
def ReachLacksWrongFalsely : Prop := reachLacksRow.holds Tryz.pinned (OpenSpec.ofChange reachLacksWrong)

/-- 'freightlaw9.ReachMaps': WHATEVER THE INPUT: true; the input reads as it did. -/
def reachMapsSpec : ChangeSpec := { name := "reachMaps", fn := fun _ => fun
  | [d1, d2, d3] => { results := [.lit (.bool true)], args := [d1, d2, d3] }
  | _ => none }
def reachMapsRow : OpenClaim := { program := "yteeeggphkhimcaagreatdoor", sum := "b7f477fa5231904052eaeca37aff986d85a0c4655baad0e511be8eaad9ac19f9", func := "freight/freightlaw9.ReachMaps", spec := "reachMaps", inPlace := ["internal/reflectlite.ValueOf", "(internal/reflectlite.Value).Type", "(internal/reflectlite.Value).IsNil", "internal/reflectlite.TypeOf", "(internal/reflectlite.Value).Elem", "(internal/reflectlite.Value).Set"], unfollowed := true, recurses := true, named := ["unicode/utf8.first", "unicode/utf8.acceptRanges", "errors.errorType"], plainKeys := false, apart := false, laid := [("unicode/utf8.acceptRanges", laid_unicode_utf8_acceptRanges), ("errors.errorType", laid_errors_errorType), ("unicode/utf8.first", laid_unicode_utf8_first)] }
def ReachMapsSaid : Prop := reachMapsRow.holds Tryz.pinned (OpenSpec.ofChange reachMapsSpec)

/-- ITS FALSE NEIGHBOUR: 'it returns false'. Refute it at one input. -/
def reachMapsWrong : ChangeSpec := { name := "reachMaps", fn := fun _ => fun
  | [d1, d2, d3] => { results := [.lit (.bool false)], args := [d1, d2, d3] }
  | _ => none }
def ReachMapsWrongFalsely : Prop := reachMapsRow.holds Tryz.pinned (OpenSpec.ofChange reachMapsWrong)

/-- 'freightlaw9.ReachCloses': WHATEVER THE INPUT: true; the input reads as it did. -/
def reachClosesSpec : ChangeSpec := { name := "reachCloses", fn := fun _ => fun
  | [d1, d2, d3, d4] => { results := [.lit (.bool true)], args := [d1, d2, d3, d4] }
  | _ => none }
def reachClosesRow : OpenClaim := { program := "yteeeggphkhimcaagreatdoor", sum := "b7f477fa5231904052eaeca37aff986d85a0c4655baad0e511be8eaad9ac19f9", func := "freight/freightlaw9.ReachCloses", spec := "reachCloses", inPlace := ["internal/reflectlite.ValueOf", "(internal/reflectlite.Value).Type", "(internal/reflectlite.Value).IsNil", "internal/reflectlite.TypeOf", "(internal/reflectlite.Value).Elem", "(internal/reflectlite.Value).Set"], unfollowed := true, recurses := true, named := ["unicode/utf8.first", "unicode/utf8.acceptRanges", "errors.errorType"], plainKeys := false, apart := false, laid := [("unicode/utf8.acceptRanges", laid_unicode_utf8_acceptRanges), ("errors.errorType", laid_errors_errorType), ("unicode/utf8.first", laid_unicode_utf8_first)] }
def ReachClosesSaid : Prop := reachClosesRow.holds Tryz.pinned (OpenSpec.ofChange reachClosesSpec)

/-- ITS FALSE NEIGHBOUR: 'it returns false'. Refute it at one input. -/
def reachClosesWrong : ChangeSpec := { name := "reachCloses", fn := fun _ => fun
  | [d1, d2, d3, d4] => { results := [.lit (.bool false)], args := [d1, d2, d3, d4] }
  | _ => none }
def ReachClosesWrongFalsely : Prop := reachClosesRow.holds Tryz.pinned (OpenSpec.ofChange reachClosesWrong)

/-- 'freightlaw9.ReachOrders': WHATEVER THE INPUT: true; the input reads as it did. -/
def reachOrdersSpec : ChangeSpec := { name := "reachOrders", fn := fun _ => fun
  | [d1, d2, d3] => { results := [.lit (.bool true)], args := [d1, d2, d3] }
  | _ => none }
def reachOrdersRow : OpenClaim := { program := "yteeeggphkhimcaagreatdoor", sum := "b7f477fa5231904052eaeca37aff986d85a0c4655baad0e511be8eaad9ac19f9", func := "freight/freightlaw9.ReachOrders", spec := "reachOrders", inPlace := ["internal/reflectlite.ValueOf", "(internal/reflectlite.Value).Type", "(internal/reflectlite.Value).IsNil", "internal/reflectlite.TypeOf", "(internal/reflectlite.Value).Elem", "(internal/reflectlite.Value).Set"], unfollowed := true, recurses := true, named := ["unicode/utf8.first", "unicode/utf8.acceptRanges", "errors.errorType"], plainKeys := false, apart := false, laid := [("unicode/utf8.acceptRanges", laid_unicode_utf8_acceptRanges), ("errors.errorType", laid_errors_errorType), ("unicode/utf8.first", laid_unicode_utf8_first)] }
def ReachOrdersSaid : Prop := reachOrdersRow.holds Tryz.pinned (OpenSpec.ofChange reachOrdersSpec)

/-- ITS FALSE NEIGHBOUR: 'it returns false'. Refute it at one input. -/
def reachOrdersWrong : ChangeSpec := { name := "reachOrders", fn := fun _ => fun
  | [d1, d2, d3] => { results := [.lit (.bool false)], args := [d1, d2, d3] }
  | _ => none }
def ReachOrdersWrongFalsely : Prop := reachOrdersRow.holds Tryz.pinned (OpenSpec.ofChange reachOrdersWrong)

/-- 'freightlaw9.ReachKeeps': WHATEVER THE INPUT: true; the input reads as it did. -/
def reachKeepsSpec : ChangeSpec := { name := "reachKeeps", fn := fun _ => fun
  | [d1, d2, d3] => { results := [.lit (.bool true)], args := [d1, d2, d3] }
  | _ => none }
def reachKeepsRow : OpenClaim := { program := "yteeeggphkhimcaagreatdoor", sum := "b7f477fa5231904052eaeca37aff986d85a0c4655baad0e511be8eaad9ac19f9", func := "freight/freightlaw9.ReachKeeps", spec := "reachKeeps", inPlace := ["internal/reflectlite.ValueOf", "(internal/reflectlite.Value).Type", "(internal/reflectlite.Value).IsNil", "internal/reflectlite.TypeOf", "(internal/reflectlite.Value).Elem", "(internal/reflectlite.Value).Set"], unfollowed := true, recurses := true, named := ["unicode/utf8.first", "unicode/utf8.acceptRanges", "errors.errorType"], plainKeys := false, apart := false, laid := [("unicode/utf8.acceptRanges", laid_unicode_utf8_acceptRanges), ("errors.errorType", laid_errors_errorType), ("unicode/utf8.first", laid_unicode_utf8_first)] }
def ReachKeepsSaid : Prop := reachKeepsRow.holds Tryz.pinned (OpenSpec.ofChange reachKeepsSpec)

/-- ITS FALSE NEIGHBOUR: 'it returns false'. Refute it at one input. -/
def reachKeepsWrong : ChangeSpec := { name := "reachKeeps", fn := fun _ => fun
  | [d1, d2, d3] => { results := [.lit (.bool false)], args := [d1, d2, d3] }
  | _ => none }
def ReachKeepsWrongFalsely : Prop := reachKeepsRow.holds Tryz.pinned (OpenSpec.ofChange reachKeepsWrong)

/-- 'freightlaw6.FileNothing': WHATEVER THE INPUT: true; the input reads as it did. -/
def fileNothingSpec : ChangeSpec := { name := "fileNothing", fn := fun _ => fun
  | [d1, d2] => { results := [.lit (.bool true)], args := [d1, d2] }
  | _ => none }
def fileNothingRow : OpenClaim := { program := "yteeeggphkhimcaagreatdoor", sum := "b7f477fa5231904052eaeca37aff986d85a0c4655baad0e511be8eaad9ac19f9", func := "freight/freightlaw6.FileNothing", spec := "fileNothing", inPlace := ["internal/bytealg.IndexByteString", "internal/reflectlite.TypeOf", "maps.clone", "internal/reflectlite.ValueOf", "(internal/reflectlite.Value).Type", "(internal/reflectlite.Value).IsNil", "(internal/reflectlite.Value).Elem", "(internal/reflectlite.Value).Set"], unfollowed := true, recurses := true, named := ["errors.errorType"], plainKeys := false, apart := false, laid := [("errors.errorType", laid_errors_errorType)] }
def FileNothingSaid : Prop := fileNothingRow.holds Tryz.pinned (OpenSpec.ofChange fileNothingSpec)

/-- ITS FALSE NEIGHBOUR: 'it returns false'. Refute it at one input. -/
def fileNothingWrong : ChangeSpec := { name := "fileNothing", fn := fun _ => fun
  | [d1, d2] => { results := [.lit (.bool false)], args := [d1, d2] }
  | _ => none }
def FileNothingWrongFalsely : Prop := fileNothingRow.holds Tryz.pinned (OpenSpec.ofChange fileNothingWrong)

/-- 'freightlaw6.FilePuts': WHATEVER THE INPUT: true; the input reads as it did. -/
def filePutsSpec : ChangeSpec := { name := "filePuts", fn := fun _ => fun
  | [d1, d2, d3, d4, d5, d6] => { results := [.lit (.bool true)], args := [d1, d2, d3, d4, d5, d6] }
  | _ => none }
def filePutsRow : OpenClaim := { program := "yteeeggphkhimcaagreatdoor", sum := "b7f477fa5231904052eaeca37aff986d85a0c4655baad0e511be8eaad9ac19f9", func := "freight/freightlaw6.FilePuts", spec := "filePuts", inPlace := ["internal/bytealg.IndexByteString", "internal/reflectlite.TypeOf", "maps.clone", "internal/reflectlite.ValueOf", "(internal/reflectlite.Value).Type", "(internal/reflectlite.Value).IsNil", "(internal/reflectlite.Value).Elem", "(internal/reflectlite.Value).Set"], unfollowed := true, recurses := true, named := ["errors.errorType"], plainKeys := false, apart := false, laid := [("errors.errorType", laid_errors_errorType)] }
def FilePutsSaid : Prop := filePutsRow.holds Tryz.pinned (OpenSpec.ofChange filePutsSpec)

/-- ITS FALSE NEIGHBOUR: 'it returns false'. Refute it at one input. -/
def filePutsWrong : ChangeSpec := { name := "filePuts", fn := fun _ => fun
  | [d1, d2, d3, d4, d5, d6] => { results := [.lit (.bool false)], args := [d1, d2, d3, d4, d5, d6] }
  | _ => none }
def FilePutsWrongFalsely : Prop := filePutsRow.holds Tryz.pinned (OpenSpec.ofChange filePutsWrong)

/-- 'freightlaw6.FileDrops': WHATEVER THE INPUT: true; the input reads as it did. -/
def fileDropsSpec : ChangeSpec := { name := "fileDrops", fn := fun _ => fun
  | [d1, d2, d3, d4] => { results := [.lit (.bool true)], args := [d1, d2, d3, d4] }
  | _ => none }
def fileDropsRow : OpenClaim := { program := "yteeeggphkhimcaagreatdoor", sum := "b7f477fa5231904052eaeca37aff986d85a0c4655baad0e511be8eaad9ac19f9", func := "freight/freightlaw6.FileDrops", spec := "fileDrops", inPlace := ["internal/bytealg.IndexByteString", "internal/reflectlite.TypeOf", "maps.clone", "internal/reflectlite.ValueOf", "(internal/reflectlite.Value).Type", "(internal/reflectlite.Value).IsNil", "(internal/reflectlite.Value).Elem", "(internal/reflectlite.Value).Set"], unfollowed := true, recurses := true, named := ["errors.errorType"], plainKeys := false, apart := false, laid := [("errors.errorType", laid_errors_errorType)] }
def FileDropsSaid : Prop := fileDropsRow.holds Tryz.pinned (OpenSpec.ofChange fileDropsSpec)

/-- ITS FALSE NEIGHBOUR: 'it returns false'. Refute it at one input. -/
def fileDropsWrong : ChangeSpec := { name := "fileDrops", fn := fun _ => fun
  | [d1, d2, d3, d4] => { results := [.lit (.bool false)], args := [d1, d2, d3, d4] }
  | _ => none }
def FileDropsWrongFalsely : Prop := fileDropsRow.holds Tryz.pinned (OpenSpec.ofChange fileDropsWrong)

/-- 'freightlaw6.FileCut': WHATEVER THE INPUT: true; the input reads as it did. -/
def fileCutSpec : ChangeSpec := { name := "fileCut", fn := fun _ => fun
  | [d1, d2, d3, d4, d5, d6] => { results := [.lit (.bool true)], args := [d1, d2, d3, d4, d5, d6] }
  | _ => none }
def fileCutRow : OpenClaim := { program := "yteeeggphkhimcaagreatdoor", sum := "b7f477fa5231904052eaeca37aff986d85a0c4655baad0e511be8eaad9ac19f9", func := "freight/freightlaw6.FileCut", spec := "fileCut", inPlace := ["internal/bytealg.IndexByteString", "internal/reflectlite.TypeOf", "maps.clone", "internal/reflectlite.ValueOf", "(internal/reflectlite.Value).Type", "(internal/reflectlite.Value).IsNil", "(internal/reflectlite.Value).Elem", "(internal/reflectlite.Value).Set"], unfollowed := true, recurses := true, named := ["errors.errorType"], plainKeys := false, apart := false, laid := [("errors.errorType", laid_errors_errorType)] }
def FileCutSaid : Prop := fileCutRow.holds Tryz.pinned (OpenSpec.ofChange fileCutSpec)

/-- ITS FALSE NEIGHBOUR: 'it returns false'. Refute it at one input. -/
def fileCutWrong : ChangeSpec := { name := "fileCut", fn := fun _ => fun
  | [d1, d2, d3, d4, d5, d6] => { results := [.lit (.bool false)], args := [d1, d2, d3, d4, d5, d6] }
  | _ => none }
def FileCutWrongFalsely : Prop := fileCutRow.holds Tryz.pinned (OpenSpec.ofChange fileCutWrong)

/-- 'freightlaw6.FileCleans': WHATEVER THE INPUT: true; the input reads as it did. -/
def fileCleansSpec : ChangeSpec := { name := "fileCleans", fn := fun _ => fun
  | [d1, d2, d3, d4] => { results := [.lit (.bool true)], args := [d1, d2, d3, d4] }
  | _ => none }
def fileCleansRow : OpenClaim := { program := "yteeeggphkhimcaagreatdoor", sum := "b7f477fa5231904052eaeca37aff986d85a0c4655baad0e511be8eaad9ac19f9", func := "freight/freightlaw6.FileCleans", spec := "fileCleans", inPlace := ["internal/bytealg.IndexByteString", "internal/reflectlite.TypeOf", "maps.clone", "internal/reflectlite.ValueOf", "(internal/reflectlite.Value).Type", "(internal/reflectlite.Value).IsNil", "(internal/reflectlite.Value).Elem", "(internal/reflectlite.Value).Set"], unfollowed := true, recurses := true, named := ["errors.errorType"], plainKeys := false, apart := false, laid := [("errors.errorType", laid_errors_errorType)] }
def FileCleansSaid : Prop := fileCleansRow.holds Tryz.pinned (OpenSpec.ofChange fileCleansSpec)

/-- ITS FALSE NEIGHBOUR: 'it returns false'. Refute it at one input. -/
def fileCleansWrong : ChangeSpec := { name := "fileCleans", fn := fun _ => fun
  | [d1, d2, d3, d4] => { results := [.lit (.bool false)], args := [d1, d2, d3, d4] }
  | _ => none }
def FileCleansWrongFalsely : Prop := fileCleansRow.holds Tryz.pinned (OpenSpec.ofChange fileCleansWrong)

/-- 'freightlaw6.FilePlays': WHATEVER THE INPUT: true; the input reads as it did. -/
def filePlaysSpec : ChangeSpec := { name := "filePlays", fn := fun _ => fun
  | [d1, d2] => { results := [.lit (.bool true)], args := [d1, d2] }
  | _ => none }
def filePlaysRow : OpenClaim := { program := "yteeeggphkhimcaagreatdoor", sum := "b7f477fa5231904052eaeca37aff986d85a0c4655baad0e511be8eaad9ac19f9", func := "freight/freightlaw6.FilePlays", spec := "filePlays", inPlace := ["internal/bytealg.IndexByteString", "internal/reflectlite.TypeOf", "maps.clone", "internal/reflectlite.ValueOf", "(internal/reflectlite.Value).Type", "(internal/reflectlite.Value).IsNil", "(internal/reflectlite.Value).Elem", "(internal/reflectlite.Value).Set"], unfollowed := true, recurses := true, named := ["errors.errorType"], plainKeys := false, apart := false, laid := [("errors.errorType", laid_errors_errorType)] }
def FilePlaysSaid : Prop := filePlaysRow.holds Tryz.pinned (OpenSpec.ofChange filePlaysSpec)

/-- ITS FALSE NEIGHBOUR: 'it returns false'. Refute it at one input. -/
def filePlaysWrong : ChangeSpec := { name := "filePlays", fn := fun _ => fun
  | [d1, d2] => { results := [.lit (.bool false)], args := [d1, d2] }
  | _ => none }
def FilePlaysWrongFalsely : Prop := filePlaysRow.holds Tryz.pinned (OpenSpec.ofChange filePlaysWrong)

/- THE SECOND FORM. 'bulk': how many values and letters a reading holds, each counted each time it is reached (what is shared counts as often as it is met; a slice's spare places count too). A statement '..UptoSaid' is the law's where the arguments, and the package variables that the reading takes, are together of bulk at most 1048576: NARROWER than '..Said'. Prove '..Said' where nothing that the law and all that it calls make is longer than what came in: it says more and counts as full. Else prove '..UptoSaid'. A law counts once. -/
mutual
def uptoBulk {H : Type} : DataW H → Nat
  | .lit (.string bytes) => bytes.length + 1
  | .lit _ => 1
  | .nil => 1
  | .ptr d => uptoBulk d + 1
  | .slice elems spare => uptoBulkAll elems + uptoBulkAll spare + 1
  | .agg parts => uptoBulkAll parts + 1
  | .iface _ d => uptoBulk d + 1
  | .map entries => uptoBulkEntries entries + 1
  | .held _ => 1
def uptoBulkAll {H : Type} : List (DataW H) → Nat
  | [] => 0
  | d :: r => uptoBulk d + uptoBulkAll r
def uptoBulkEntries {H : Type} : List (Lit × DataW H) → Nat
  | [] => 0
  | x :: r => uptoBulkEntry x + uptoBulkEntries r
def uptoBulkEntry {H : Type} : Lit × DataW H → Nat
  | (.string bytes, d) => bytes.length + uptoBulk d + 1
  | (_, d) => uptoBulk d + 1
 end
def uptoSmall : (H : Type) → List (DataW H) → Bool := fun _ ds => decide (uptoBulkAll ds ≤ 1048576)
def OpenSpec.upto (s : _root_.Go.ChangeSpec) : _root_.Go.OpenSpec := { _root_.Go.OpenSpec.ofChange s with cond := some uptoSmall }

/-- 'freightlaw6.FileKeeps', WHERE WHAT IT READS IS OF BULK AT MOST 1048576: true; the input reads as it did. -/
def fileKeepsUptoRow : OpenClaim := { program := "yteeeggphkhimcaagreatdoor", sum := "b7f477fa5231904052eaeca37aff986d85a0c4655baad0e511be8eaad9ac19f9", func := "freight/freightlaw6.FileKeeps", spec := "fileKeeps", inPlace := ["internal/bytealg.IndexByteString", "internal/reflectlite.TypeOf", "maps.clone", "internal/reflectlite.ValueOf", "(internal/reflectlite.Value).Type", "(internal/reflectlite.Value).IsNil", "(internal/reflectlite.Value).Elem", "(internal/reflectlite.Value).Set"], unfollowed := true, recurses := true, named := ["errors.errorType"], plainKeys := false, apart := false, laid := [("errors.errorType", laid_errors_errorType)], narrowed := true }
def FileKeepsUptoSaid : Prop := fileKeepsUptoRow.holds Tryz.pinned (OpenSpec.upto fileKeepsSpec)

/-- 'freightlaw9.ReachNeeds', WHERE WHAT IT READS IS OF BULK AT MOST 1048576: true; the input reads as it did. -/
def reachNeedsUptoRow : OpenClaim := { program := "yteeeggphkhimcaagreatdoor", sum := "b7f477fa5231904052eaeca37aff986d85a0c4655baad0e511be8eaad9ac19f9", func := "freight/freightlaw9.ReachNeeds", spec := "reachNeeds", inPlace := ["internal/reflectlite.ValueOf", "(internal/reflectlite.Value).Type", "(internal/reflectlite.Value).IsNil", "internal/reflectlite.TypeOf", "(internal/reflectlite.Value).Elem", "(internal/reflectlite.Value).Set"], unfollowed := true, recurses := true, named := ["unicode/utf8.first", "unicode/utf8.acceptRanges", "errors.errorType"], plainKeys := false, apart := false, laid := [("unicode/utf8.acceptRanges", laid_unicode_utf8_acceptRanges), ("errors.errorType", laid_errors_errorType), ("unicode/utf8.first", laid_unicode_utf8_first)], narrowed := true }
def ReachNeedsUptoSaid : Prop := reachNeedsUptoRow.holds Tryz.pinned (OpenSpec.upto reachNeedsSpec)

/-- 'freightlaw9.ReachJoins', WHERE WHAT IT READS IS OF BULK AT MOST 1048576: true; the input reads as it did. -/
def reachJoinsUptoRow : OpenClaim := { program := "yteeeggphkhimcaagreatdoor", sum := "b7f477fa5231904052eaeca37aff986d85a0c4655baad0e511be8eaad9ac19f9", func := "freight/freightlaw9.ReachJoins", spec := "reachJoins", inPlace := ["internal/reflectlite.ValueOf", "(internal/reflectlite.Value).Type", "(internal/reflectlite.Value).IsNil", "internal/reflectlite.TypeOf", "(internal/reflectlite.Value).Elem", "(internal/reflectlite.Value).Set"], unfollowed := true, recurses := true, named := ["unicode/utf8.first", "unicode/utf8.acceptRanges", "errors.errorType"], plainKeys := false, apart := false, laid := [("unicode/utf8.acceptRanges", laid_unicode_utf8_acceptRanges), ("errors.errorType", laid_errors_errorType), ("unicode/utf8.first", laid_unicode_utf8_first)], narrowed := true }
def ReachJoinsUptoSaid : Prop := reachJoinsUptoRow.holds Tryz.pinned (OpenSpec.upto reachJoinsSpec)

/-- 'freightlaw9.ReachLacks', WHERE WHAT IT READS IS OF BULK AT MOST 1048576: true; the input reads as it did. -/
def reachLacksUptoRow : OpenClaim := { program := "yteeeggphkhimcaagreatdoor", sum := "b7f477fa5231904052eaeca37aff986d85a0c4655baad0e511be8eaad9ac19f9", func := "freight/freightlaw9.ReachLacks", spec := "reachLacks", inPlace := ["internal/reflectlite.ValueOf", "(internal/reflectlite.Value).Type", "(internal/reflectlite.Value).IsNil", "internal/reflectlite.TypeOf", "(internal/reflectlite.Value).Elem", "(internal/reflectlite.Value).Set"], unfollowed := true, recurses := true, named := ["unicode/utf8.first", "unicode/utf8.acceptRanges", "errors.errorType"], plainKeys := false, apart := false, laid := [("unicode/utf8.acceptRanges", laid_unicode_utf8_acceptRanges), ("errors.errorType", laid_errors_errorType), ("unicode/utf8.first", laid_unicode_utf8_first)], narrowed := true }
def ReachLacksUptoSaid : Prop := reachLacksUptoRow.holds Tryz.pinned (OpenSpec.upto reachLacksSpec)

/-- 'freightlaw9.ReachMaps', WHERE WHAT IT READS IS OF BULK AT MOST 1048576: true; the input reads as it did. -/
def reachMapsUptoRow : OpenClaim := { program := "yteeeggphkhimcaagreatdoor", sum := "b7f477fa5231904052eaeca37aff986d85a0c4655baad0e511be8eaad9ac19f9", func := "freight/freightlaw9.ReachMaps", spec := "reachMaps", inPlace := ["internal/reflectlite.ValueOf", "(internal/reflectlite.Value).Type", "(internal/reflectlite.Value).IsNil", "internal/reflectlite.TypeOf", "(internal/reflectlite.Value).Elem", "(internal/reflectlite.Value).Set"], unfollowed := true, recurses := true, named := ["unicode/utf8.first", "unicode/utf8.acceptRanges", "errors.errorType"], plainKeys := false, apart := false, laid := [("unicode/utf8.acceptRanges", laid_unicode_utf8_acceptRanges), ("errors.errorType", laid_errors_errorType), ("unicode/utf8.first", laid_unicode_utf8_first)], narrowed := true }
def ReachMapsUptoSaid : Prop := reachMapsUptoRow.holds Tryz.pinned (OpenSpec.upto reachMapsSpec)

/-- 'freightlaw9.ReachCloses', WHERE WHAT IT READS IS OF BULK AT MOST 1048576: true; the input reads as it did. -/
def reachClosesUptoRow : OpenClaim := { program := "yteeeggphkhimcaagreatdoor", sum := "b7f477fa5231904052eaeca37aff986d85a0c4655baad0e511be8eaad9ac19f9", func := "freight/freightlaw9.ReachCloses", spec := "reachCloses", inPlace := ["internal/reflectlite.ValueOf", "(internal/reflectlite.Value).Type", "(internal/reflectlite.Value).IsNil", "internal/reflectlite.TypeOf", "(internal/reflectlite.Value).Elem", "(internal/reflectlite.Value).Set"], unfollowed := true, recurses := true, named := ["unicode/utf8.first", "unicode/utf8.acceptRanges", "errors.errorType"], plainKeys := false, apart := false, laid := [("unicode/utf8.acceptRanges", laid_unicode_utf8_acceptRanges), ("errors.errorType", laid_errors_errorType), ("unicode/utf8.first", laid_unicode_utf8_first)], narrowed := true }
def ReachClosesUptoSaid : Prop := reachClosesUptoRow.holds Tryz.pinned (OpenSpec.upto reachClosesSpec)

/-- 'freightlaw9.ReachOrders', WHERE WHAT IT READS IS OF BULK AT MOST 1048576: true; the input reads as it did. -/
def reachOrdersUptoRow : OpenClaim := { program := "yteeeggphkhimcaagreatdoor", sum := "b7f477fa5231904052eaeca37aff986d85a0c4655baad0e511be8eaad9ac19f9", func := "freight/freightlaw9.ReachOrders", spec := "reachOrders", inPlace := ["internal/reflectlite.ValueOf", "(internal/reflectlite.Value).Type", "(internal/reflectlite.Value).IsNil", "internal/reflectlite.TypeOf", "(internal/reflectlite.Value).Elem", "(internal/reflectlite.Value).Set"], unfollowed := true, recurses := true, named := ["unicode/utf8.first", "unicode/utf8.acceptRanges", "errors.errorType"], plainKeys := false, apart := false, laid := [("unicode/utf8.acceptRanges", laid_unicode_utf8_acceptRanges), ("errors.errorType", laid_errors_errorType), ("unicode/utf8.first", laid_unicode_utf8_first)], narrowed := true }
def ReachOrdersUptoSaid : Prop := reachOrdersUptoRow.holds Tryz.pinned (OpenSpec.upto reachOrdersSpec)

/-- 'freightlaw9.ReachKeeps', WHERE WHAT IT READS IS OF BULK AT MOST 1048576: true; the input reads as it did. -/
def reachKeepsUptoRow : OpenClaim := { program := "yteeeggphkhimcaagreatdoor", sum := "b7f477fa5231904052eaeca37aff986d85a0c4655baad0e511be8eaad9ac19f9", func := "freight/freightlaw9.ReachKeeps", spec := "reachKeeps", inPlace := ["internal/reflectlite.ValueOf", "(internal/reflectlite.Value).Type", "(internal/reflectlite.Value).IsNil", "internal/reflectlite.TypeOf", "(internal/reflectlite.Value).Elem", "(internal/reflectlite.Value).Set"], unfollowed := true, recurses := true, named := ["unicode/utf8.first", "unicode/utf8.acceptRanges", "errors.errorType"], plainKeys := false, apart := false, laid := [("unicode/utf8.acceptRanges", laid_unicode_utf8_acceptRanges), ("errors.errorType", laid_errors_errorType), ("unicode/utf8.first", laid_unicode_utf8_first)], narrowed := true }
def ReachKeepsUptoSaid : Prop := reachKeepsUptoRow.holds Tryz.pinned (OpenSpec.upto reachKeepsSpec)

/-- 'freightlaw6.FileNothing', WHERE WHAT IT READS IS OF BULK AT MOST 1048576: true; the input reads as it did. -/
def fileNothingUptoRow : OpenClaim := { program := "yteeeggphkhimcaagreatdoor", sum := "b7f477fa5231904052eaeca37aff986d85a0c4655baad0e511be8eaad9ac19f9", func := "freight/freightlaw6.FileNothing", spec := "fileNothing", inPlace := ["internal/bytealg.IndexByteString", "internal/reflectlite.TypeOf", "maps.clone", "internal/reflectlite.ValueOf", "(internal/reflectlite.Value).Type", "(internal/reflectlite.Value).IsNil", "(internal/reflectlite.Value).Elem", "(internal/reflectlite.Value).Set"], unfollowed := true, recurses := true, named := ["errors.errorType"], plainKeys := false, apart := false, laid := [("errors.errorType", laid_errors_errorType)], narrowed := true }
def FileNothingUptoSaid : Prop := fileNothingUptoRow.holds Tryz.pinned (OpenSpec.upto fileNothingSpec)

/-- 'freightlaw6.FilePuts', WHERE WHAT IT READS IS OF BULK AT MOST 1048576: true; the input reads as it did. -/
def filePutsUptoRow : OpenClaim := { program := "yteeeggphkhimcaagreatdoor", sum := "b7f477fa5231904052eaeca37aff986d85a0c4655baad0e511be8eaad9ac19f9", func := "freight/freightlaw6.FilePuts", spec := "filePuts", inPlace := ["internal/bytealg.IndexByteString", "internal/reflectlite.TypeOf", "maps.clone", "internal/reflectlite.ValueOf", "(internal/reflectlite.Value).Type", "(internal/reflectlite.Value).IsNil", "(internal/reflectlite.Value).Elem", "(internal/reflectlite.Value).Set"], unfollowed := true, recurses := true, named := ["errors.errorType"], plainKeys := false, apart := false, laid := [("errors.errorType", laid_errors_errorType)], narrowed := true }
def FilePutsUptoSaid : Prop := filePutsUptoRow.holds Tryz.pinned (OpenSpec.upto filePutsSpec)

/-- 'freightlaw6.FileDrops', WHERE WHAT IT READS IS OF BULK AT MOST 1048576: true; the input reads as it did. -/
def fileDropsUptoRow : OpenClaim := { program := "yteeeggphkhimcaagreatdoor", sum := "b7f477fa5231904052eaeca37aff986d85a0c4655baad0e511be8eaad9ac19f9", func := "freight/freightlaw6.FileDrops", spec := "fileDrops", inPlace := ["internal/bytealg.IndexByteString", "internal/reflectlite.TypeOf", "maps.clone", "internal/reflectlite.ValueOf", "(internal/reflectlite.Value).Type", "(internal/reflectlite.Value).IsNil", "(internal/reflectlite.Value).Elem", "(internal/reflectlite.Value).Set"], unfollowed := true, recurses := true, named := ["errors.errorType"], plainKeys := false, apart := false, laid := [("errors.errorType", laid_errors_errorType)], narrowed := true }
def FileDropsUptoSaid : Prop := fileDropsUptoRow.holds Tryz.pinned (OpenSpec.upto fileDropsSpec)

/-- 'freightlaw6.FileCut', WHERE WHAT IT READS IS OF BULK AT MOST 1048576: true; the input reads as it did. -/
def fileCutUptoRow : OpenClaim := { program := "yteeeggphkhimcaagreatdoor", sum := "b7f477fa5231904052eaeca37aff986d85a0c4655baad0e511be8eaad9ac19f9", func := "freight/freightlaw6.FileCut", spec := "fileCut", inPlace := ["internal/bytealg.IndexByteString", "internal/reflectlite.TypeOf", "maps.clone", "internal/reflectlite.ValueOf", "(internal/reflectlite.Value).Type", "(internal/reflectlite.Value).IsNil", "(internal/reflectlite.Value).Elem", "(internal/reflectlite.Value).Set"], unfollowed := true, recurses := true, named := ["errors.errorType"], plainKeys := false, apart := false, laid := [("errors.errorType", laid_errors_errorType)], narrowed := true }
def FileCutUptoSaid : Prop := fileCutUptoRow.holds Tryz.pinned (OpenSpec.upto fileCutSpec)

/-- 'freightlaw6.FileCleans', WHERE WHAT IT READS IS OF BULK AT MOST 1048576: true; the input reads as it did. -/
def fileCleansUptoRow : OpenClaim := { program := "yteeeggphkhimcaagreatdoor", sum := "b7f477fa5231904052eaeca37aff986d85a0c4655baad0e511be8eaad9ac19f9", func := "freight/freightlaw6.FileCleans", spec := "fileCleans", inPlace := ["internal/bytealg.IndexByteString", "internal/reflectlite.TypeOf", "maps.clone", "internal/reflectlite.ValueOf", "(internal/reflectlite.Value).Type", "(internal/reflectlite.Value).IsNil", "(internal/reflectlite.Value).Elem", "(internal/reflectlite.Value).Set"], unfollowed := true, recurses := true, named := ["errors.errorType"], plainKeys := false, apart := false, laid := [("errors.errorType", laid_errors_errorType)], narrowed := true }
def FileCleansUptoSaid : Prop := fileCleansUptoRow.holds Tryz.pinned (OpenSpec.upto fileCleansSpec)

/-- 'freightlaw6.FilePlays', WHERE WHAT IT READS IS OF BULK AT MOST 1048576: true; the input reads as it did. -/
def filePlaysUptoRow : OpenClaim := { program := "yteeeggphkhimcaagreatdoor", sum := "b7f477fa5231904052eaeca37aff986d85a0c4655baad0e511be8eaad9ac19f9", func := "freight/freightlaw6.FilePlays", spec := "filePlays", inPlace := ["internal/bytealg.IndexByteString", "internal/reflectlite.TypeOf", "maps.clone", "internal/reflectlite.ValueOf", "(internal/reflectlite.Value).Type", "(internal/reflectlite.Value).IsNil", "(internal/reflectlite.Value).Elem", "(internal/reflectlite.Value).Set"], unfollowed := true, recurses := true, named := ["errors.errorType"], plainKeys := false, apart := false, laid := [("errors.errorType", laid_errors_errorType)], narrowed := true }
def FilePlaysUptoSaid : Prop := filePlaysUptoRow.holds Tryz.pinned (OpenSpec.upto filePlaysSpec)

end Rows
end Go.Proofs.YteeeggphkhimcaaGreatDoor
