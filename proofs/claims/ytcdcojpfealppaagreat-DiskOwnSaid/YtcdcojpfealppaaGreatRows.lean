/-
  No cell of these rows narrows 'for every input' (looked for: loops, veiled, ifaces, maps, wideKeys, modest, calm, conditions, laid).
  DERIVED. THE GIVEN ROWS OF THIS SEAT. 11 by the template 'for every input the law returns true; each argument reads behind the call as it read before'; 0 by the template 'total and deterministic' (their statements: YtcdcojpfealppaaGreatTotals.lean).
  GIVEN WITH THE SEED: the statements are not yours to turn. If you find one false, say at which input.
  Laid BY PROGRAM, IN A SANDBOX (cutbox-rows.mjs): the forced cells as the released guide's own fill.sh prints them over the translation dee2f68f215f22f0… (all of the seat's roots in one cut). By AI agents, Wed Nov 11 2026. No macro, syntax, notation, axiom, sorry.
-/
import Derived.Test.YtcdcojpfealppaaGreatChecked
import GoSem.Claim
import GoSem.ClaimJoined
import GoSem.ClaimMapViews
import Derived.JoinedTies
import Derived.KernelRfl
namespace Go.Proofs.YtcdcojpfealppaaGreat
/- THE CELL 'sum', in the pinned program and in every row, IS THE sha256 OF THE DUMP (.gsa) THAT YtcdcojpfealppaaGreatProg.lean LOADS. Nothing in Lean hashes anything: it is a label: what it is worth is what the hold of that sum in a sandbox is worth. -/
noncomputable def Tryz.pinned : Pinned := { name := "ytcdcojpfealppaagreat", sum := "dee2f68f215f22f05e61eb789cf11de50b7f3a4d060800813d537337aefa7f8e", checked := Tryz.checked }
namespace Rows
def none {H : Type} : Left H := { results := [], args := [] }

/-- 'freightlaw5.DiskCreates': WHATEVER THE INPUT: true; the input reads as it did. -/
def diskCreatesSpec : ChangeSpec := { name := "diskCreates", fn := fun _ => fun
  | [d1, d2] => { results := [.lit (.bool true)], args := [d1, d2] }
  | _ => none }
def diskCreatesRow : OpenClaim := { program := "ytcdcojpfealppaagreat", sum := "dee2f68f215f22f05e61eb789cf11de50b7f3a4d060800813d537337aefa7f8e", func := "freight/freightlaw5.DiskCreates", spec := "diskCreates", inPlace := ["internal/bytealg.IndexByteString", "maps.clone"], unfollowed := true, recurses := true, apart := false }
def DiskCreatesSaid : Prop := diskCreatesRow.holds Tryz.pinned (OpenSpec.ofChange diskCreatesSpec)

/-- ITS FALSE NEIGHBOUR: 'it returns false'. Refute it at one input. -/
def diskCreatesWrong : ChangeSpec := { name := "diskCreates", fn := fun _ => fun
  | [d1, d2] => { results := [.lit (.bool false)], args := [d1, d2] }
  | _ => none }
def DiskCreatesWrongFalsely : Prop := diskCreatesRow.holds Tryz.pinned (OpenSpec.ofChange diskCreatesWrong)

/-- 'freightlaw5.DiskWrites': WHATEVER THE INPUT: true; the input reads as it did. -/
def diskWritesSpec : ChangeSpec := { name := "diskWrites", fn := fun _ => fun
  | [d1, d2] => { results := [.lit (.bool true)], args := [d1, d2] }
  | _ => none }
def diskWritesRow : OpenClaim := { program := "ytcdcojpfealppaagreat", sum := "dee2f68f215f22f05e61eb789cf11de50b7f3a4d060800813d537337aefa7f8e", func := "freight/freightlaw5.DiskWrites", spec := "diskWrites", inPlace := ["internal/bytealg.IndexByteString", "maps.clone"], unfollowed := true, recurses := true, apart := false }
def DiskWritesSaid : Prop := diskWritesRow.holds Tryz.pinned (OpenSpec.ofChange diskWritesSpec)

/-- ITS FALSE NEIGHBOUR: 'it returns false'. Refute it at one input. -/
def diskWritesWrong : ChangeSpec := { name := "diskWrites", fn := fun _ => fun
  | [d1, d2] => { results := [.lit (.bool false)], args := [d1, d2] }
  | _ => none }
def DiskWritesWrongFalsely : Prop := diskWritesRow.holds Tryz.pinned (OpenSpec.ofChange diskWritesWrong)

/-- 'freightlaw5.DiskNames': WHATEVER THE INPUT: true; the input reads as it did. -/
def diskNamesSpec : ChangeSpec := { name := "diskNames", fn := fun _ => fun
  | [d1, d2] => { results := [.lit (.bool true)], args := [d1, d2] }
  | _ => none }
def diskNamesRow : OpenClaim := { program := "ytcdcojpfealppaagreat", sum := "dee2f68f215f22f05e61eb789cf11de50b7f3a4d060800813d537337aefa7f8e", func := "freight/freightlaw5.DiskNames", spec := "diskNames", inPlace := ["internal/bytealg.IndexByteString", "maps.clone"], unfollowed := true, recurses := true, apart := false }
def DiskNamesSaid : Prop := diskNamesRow.holds Tryz.pinned (OpenSpec.ofChange diskNamesSpec)

/-- ITS FALSE NEIGHBOUR: 'it returns false'. Refute it at one input. -/
def diskNamesWrong : ChangeSpec := { name := "diskNames", fn := fun _ => fun
  | [d1, d2] => { results := [.lit (.bool false)], args := [d1, d2] }
  | _ => none }
def DiskNamesWrongFalsely : Prop := diskNamesRow.holds Tryz.pinned (OpenSpec.ofChange diskNamesWrong)

/-- 'freightlaw5.DiskSyncs': WHATEVER THE INPUT: true; the input reads as it did. -/
def diskSyncsSpec : ChangeSpec := { name := "diskSyncs", fn := fun _ => fun
  | [d1, d2] => { results := [.lit (.bool true)], args := [d1, d2] }
  | _ => none }
def diskSyncsRow : OpenClaim := { program := "ytcdcojpfealppaagreat", sum := "dee2f68f215f22f05e61eb789cf11de50b7f3a4d060800813d537337aefa7f8e", func := "freight/freightlaw5.DiskSyncs", spec := "diskSyncs", inPlace := ["internal/bytealg.IndexByteString", "maps.clone"], unfollowed := true, recurses := true, apart := false }
def DiskSyncsSaid : Prop := diskSyncsRow.holds Tryz.pinned (OpenSpec.ofChange diskSyncsSpec)

/-- ITS FALSE NEIGHBOUR: 'it returns false'. Refute it at one input. -/
def diskSyncsWrong : ChangeSpec := { name := "diskSyncs", fn := fun _ => fun
  | [d1, d2] => { results := [.lit (.bool false)], args := [d1, d2] }
  | _ => none }
def DiskSyncsWrongFalsely : Prop := diskSyncsRow.holds Tryz.pinned (OpenSpec.ofChange diskSyncsWrong)

/-- 'freightlaw5.DiskReads': WHATEVER THE INPUT: true; the input reads as it did. -/
def diskReadsSpec : ChangeSpec := { name := "diskReads", fn := fun _ => fun
  | [d1, d2] => { results := [.lit (.bool true)], args := [d1, d2] }
  | _ => none }
def diskReadsRow : OpenClaim := { program := "ytcdcojpfealppaagreat", sum := "dee2f68f215f22f05e61eb789cf11de50b7f3a4d060800813d537337aefa7f8e", func := "freight/freightlaw5.DiskReads", spec := "diskReads", inPlace := ["internal/bytealg.IndexByteString", "maps.clone"], unfollowed := true, recurses := true, apart := false }
def DiskReadsSaid : Prop := diskReadsRow.holds Tryz.pinned (OpenSpec.ofChange diskReadsSpec)

/-- ITS FALSE NEIGHBOUR: 'it returns false'. Refute it at one input. -/
def diskReadsWrong : ChangeSpec := { name := "diskReads", fn := fun _ => fun
  | [d1, d2] => { results := [.lit (.bool false)], args := [d1, d2] }
  | _ => none }
def DiskReadsWrongFalsely : Prop := diskReadsRow.holds Tryz.pinned (OpenSpec.ofChange diskReadsWrong)

/-- 'freightlaw5.DiskPlays': WHATEVER THE INPUT: true; the input reads as it did. -/
def diskPlaysSpec : ChangeSpec := { name := "diskPlays", fn := fun _ => fun
  | [d1, d2] => { results := [.lit (.bool true)], args := [d1, d2] }
  | _ => none }
def diskPlaysRow : OpenClaim := { program := "ytcdcojpfealppaagreat", sum := "dee2f68f215f22f05e61eb789cf11de50b7f3a4d060800813d537337aefa7f8e", func := "freight/freightlaw5.DiskPlays", spec := "diskPlays", inPlace := ["internal/bytealg.IndexByteString", "maps.clone"], unfollowed := true, recurses := true, apart := false }
def DiskPlaysSaid : Prop := diskPlaysRow.holds Tryz.pinned (OpenSpec.ofChange diskPlaysSpec)

/-- ITS FALSE NEIGHBOUR: 'it returns false'. Refute it at one input. -/
def diskPlaysWrong : ChangeSpec := { name := "diskPlays", fn := fun _ => fun
  | [d1, d2] => { results := [.lit (.bool false)], args := [d1, d2] }
  | _ => none }
def DiskPlaysWrongFalsely : Prop := diskPlaysRow.holds Tryz.pinned (OpenSpec.ofChange diskPlaysWrong)

/-- 'freightlaw5.DiskTwo': WHATEVER THE INPUT: true; the input reads as it did. -/
def diskTwoSpec : ChangeSpec := { name := "diskTwo", fn := fun _ => fun
  | [d1, d2, d3] => { results := [.lit (.bool true)], args := [d1, d2, d3] }
  | _ => none }
def diskTwoRow : OpenClaim := { program := "ytcdcojpfealppaagreat", sum := "dee2f68f215f22f05e61eb789cf11de50b7f3a4d060800813d537337aefa7f8e", func := "freight/freightlaw5.DiskTwo", spec := "diskTwo", inPlace := ["internal/bytealg.IndexByteString", "maps.clone"], unfollowed := true, recurses := true, apart := false }
def DiskTwoSaid : Prop := diskTwoRow.holds Tryz.pinned (OpenSpec.ofChange diskTwoSpec)

/-- ITS FALSE NEIGHBOUR: 'it returns false'. Refute it at one input. -/
def diskTwoWrong : ChangeSpec := { name := "diskTwo", fn := fun _ => fun
  | [d1, d2, d3] => { results := [.lit (.bool false)], args := [d1, d2, d3] }
  | _ => none }
def DiskTwoWrongFalsely : Prop := diskTwoRow.holds Tryz.pinned (OpenSpec.ofChange diskTwoWrong)

/-- 'freightlaw5.DiskTwin': WHATEVER THE INPUT: true; the input reads as it did. -/
def diskTwinSpec : ChangeSpec := { name := "diskTwin", fn := fun _ => fun
  | [d1, d2, d3, d4] => { results := [.lit (.bool true)], args := [d1, d2, d3, d4] }
  | _ => none }
def diskTwinRow : OpenClaim := { program := "ytcdcojpfealppaagreat", sum := "dee2f68f215f22f05e61eb789cf11de50b7f3a4d060800813d537337aefa7f8e", func := "freight/freightlaw5.DiskTwin", spec := "diskTwin", inPlace := ["internal/bytealg.IndexByteString", "maps.clone"], unfollowed := true, recurses := true, apart := false }
def DiskTwinSaid : Prop := diskTwinRow.holds Tryz.pinned (OpenSpec.ofChange diskTwinSpec)

/-- ITS FALSE NEIGHBOUR: 'it returns false'. Refute it at one input. -/
def diskTwinWrong : ChangeSpec := { name := "diskTwin", fn := fun _ => fun
  | [d1, d2, d3, d4] => { results := [.lit (.bool false)], args := [d1, d2, d3, d4] }
  | _ => none }
def DiskTwinWrongFalsely : Prop := diskTwinRow.holds Tryz.pinned (OpenSpec.ofChange diskTwinWrong)

/-- 'freightlaw5.DiskNothing': WHATEVER THE INPUT: true; the input reads as it did. -/
def diskNothingSpec : ChangeSpec := { name := "diskNothing", fn := fun _ => fun
  | [d] => { results := [.lit (.bool true)], args := [d] }
  | _ => none }
def diskNothingRow : OpenClaim := { program := "ytcdcojpfealppaagreat", sum := "dee2f68f215f22f05e61eb789cf11de50b7f3a4d060800813d537337aefa7f8e", func := "freight/freightlaw5.DiskNothing", spec := "diskNothing", inPlace := ["internal/bytealg.IndexByteString", "maps.clone"], unfollowed := true, recurses := true, apart := false }
def DiskNothingSaid : Prop := diskNothingRow.holds Tryz.pinned (OpenSpec.ofChange diskNothingSpec)

/-- ITS FALSE NEIGHBOUR: 'it returns false'. Refute it at one input. -/
def diskNothingWrong : ChangeSpec := { name := "diskNothing", fn := fun _ => fun
  | [d] => { results := [.lit (.bool false)], args := [d] }
  | _ => none }
def DiskNothingWrongFalsely : Prop := diskNothingRow.holds Tryz.pinned (OpenSpec.ofChange diskNothingWrong)

/-- 'freightlaw5.DiskOwn': WHATEVER THE INPUT: true; the input reads as it did. -/
def diskOwnSpec : ChangeSpec := { name := "diskOwn", fn := fun _ => fun
  | [d1, d2] => { results := [.lit (.bool true)], args := [d1, d2] }
  | _ => none }
def diskOwnRow : OpenClaim := { program := "ytcdcojpfealppaagreat", sum := "dee2f68f215f22f05e61eb789cf11de50b7f3a4d060800813d537337aefa7f8e", func := "freight/freightlaw5.DiskOwn", spec := "diskOwn", inPlace := ["internal/bytealg.IndexByteString", "maps.clone"], unfollowed := true, recurses := true, apart := false }
def DiskOwnSaid : Prop := diskOwnRow.holds Tryz.pinned (OpenSpec.ofChange diskOwnSpec)

/-- ITS FALSE NEIGHBOUR: 'it returns false'. Refute it at one input. -/
def diskOwnWrong : ChangeSpec := { name := "diskOwn", fn := fun _ => fun
  | [d1, d2] => { results := [.lit (.bool false)], args := [d1, d2] }
  | _ => none }
def DiskOwnWrongFalsely : Prop := diskOwnRow.holds Tryz.pinned (OpenSpec.ofChange diskOwnWrong)

/-- 'freightlaw5.DiskLoads': WHATEVER THE INPUT: true; the input reads as it did. -/
def diskLoadsSpec : ChangeSpec := { name := "diskLoads", fn := fun _ => fun
  | [d1, d2, d3] => { results := [.lit (.bool true)], args := [d1, d2, d3] }
  | _ => none }
def diskLoadsRow : OpenClaim := { program := "ytcdcojpfealppaagreat", sum := "dee2f68f215f22f05e61eb789cf11de50b7f3a4d060800813d537337aefa7f8e", func := "freight/freightlaw5.DiskLoads", spec := "diskLoads", inPlace := ["internal/bytealg.IndexByteString", "maps.clone"], unfollowed := true, recurses := true, apart := false }
def DiskLoadsSaid : Prop := diskLoadsRow.holds Tryz.pinned (OpenSpec.ofChange diskLoadsSpec)

/-- ITS FALSE NEIGHBOUR: 'it returns false'. Refute it at one input. -/
def diskLoadsWrong : ChangeSpec := { name := "diskLoads", fn := fun _ => fun
  | [d1, d2, d3] => { results := [.lit (.bool false)], args := [d1, d2, d3] }
  | _ => none }
def DiskLoadsWrongFalsely : Prop := diskLoadsRow.holds Tryz.pinned (OpenSpec.ofChange diskLoadsWrong)

/- THE SECOND FORM. 'bulk': how many values and letters a reading holds, each counted each time it is reached (what is shared counts as often as it is met; a slice's spare places count too). A statement '..UptoSaid' is the law's where the arguments, and the package variables that the reading takes, are together of bulk at most 1048576: NARROWER than '..Said'. Prove '..Said' where nothing that the law and all that it calls make is longer than what came in: it says more and counts as full. Else prove '..UptoSaid'. A law counts once. -/
mutual
def uptoBulk {H : Type} : DataW H → Nat
  | .lit (.string bytes) => bytes.length + 1
  | .lit _ => 1
  | .nil => 1
  | .ptr d => uptoBulk d + 1
  | .slice elems spare => uptoBulkAll elems + uptoBulkAll spare + 1
  | .agg parts => uptoBulkAll parts + 1
  | .iface _ d => uptoBulk d + 1
  | .map entries => uptoBulkEntries entries + 1
  | .held _ => 1
def uptoBulkAll {H : Type} : List (DataW H) → Nat
  | [] => 0
  | d :: r => uptoBulk d + uptoBulkAll r
def uptoBulkEntries {H : Type} : List (Lit × DataW H) → Nat
  | [] => 0
  | x :: r => uptoBulkEntry x + uptoBulkEntries r
def uptoBulkEntry {H : Type} : Lit × DataW H → Nat
  | (.string bytes, d) => bytes.length + uptoBulk d + 1
  | (_, d) => uptoBulk d + 1
 end
def uptoSmall : (H : Type) → List (DataW H) → Bool := fun _ ds => decide (uptoBulkAll ds ≤ 1048576)
def OpenSpec.upto (s : _root_.Go.ChangeSpec) : _root_.Go.OpenSpec := { _root_.Go.OpenSpec.ofChange s with cond := some uptoSmall }

/-- 'freightlaw5.DiskCreates', WHERE WHAT IT READS IS OF BULK AT MOST 1048576: true; the input reads as it did. -/
def diskCreatesUptoRow : OpenClaim := { program := "ytcdcojpfealppaagreat", sum := "dee2f68f215f22f05e61eb789cf11de50b7f3a4d060800813d537337aefa7f8e", func := "freight/freightlaw5.DiskCreates", spec := "diskCreates", inPlace := ["internal/bytealg.IndexByteString", "maps.clone"], unfollowed := true, recurses := true, apart := false, narrowed := true }
def DiskCreatesUptoSaid : Prop := diskCreatesUptoRow.holds Tryz.pinned (OpenSpec.upto diskCreatesSpec)

/-- 'freightlaw5.DiskWrites', WHERE WHAT IT READS IS OF BULK AT MOST 1048576: true; the input reads as it did. -/
def diskWritesUptoRow : OpenClaim := { program := "ytcdcojpfealppaagreat", sum := "dee2f68f215f22f05e61eb789cf11de50b7f3a4d060800813d537337aefa7f8e", func := "freight/freightlaw5.DiskWrites", spec := "diskWrites", inPlace := ["internal/bytealg.IndexByteString", "maps.clone"], unfollowed := true, recurses := true, apart := false, narrowed := true }
def DiskWritesUptoSaid : Prop := diskWritesUptoRow.holds Tryz.pinned (OpenSpec.upto diskWritesSpec)

/-- 'freightlaw5.DiskNames', WHERE WHAT IT READS IS OF BULK AT MOST 1048576: true; the input reads as it did. -/
def diskNamesUptoRow : OpenClaim := { program := "ytcdcojpfealppaagreat", sum := "dee2f68f215f22f05e61eb789cf11de50b7f3a4d060800813d537337aefa7f8e", func := "freight/freightlaw5.DiskNames", spec := "diskNames", inPlace := ["internal/bytealg.IndexByteString", "maps.clone"], unfollowed := true, recurses := true, apart := false, narrowed := true }
def DiskNamesUptoSaid : Prop := diskNamesUptoRow.holds Tryz.pinned (OpenSpec.upto diskNamesSpec)

/-- 'freightlaw5.DiskSyncs', WHERE WHAT IT READS IS OF BULK AT MOST 1048576: true; the input reads as it did. -/
def diskSyncsUptoRow : OpenClaim := { program := "ytcdcojpfealppaagreat", sum := "dee2f68f215f22f05e61eb789cf11de50b7f3a4d060800813d537337aefa7f8e", func := "freight/freightlaw5.DiskSyncs", spec := "diskSyncs", inPlace := ["internal/bytealg.IndexByteString", "maps.clone"], unfollowed := true, recurses := true, apart := false, narrowed := true }
def DiskSyncsUptoSaid : Prop := diskSyncsUptoRow.holds Tryz.pinned (OpenSpec.upto diskSyncsSpec)

/-- 'freightlaw5.DiskReads', WHERE WHAT IT READS IS OF BULK AT MOST 1048576: true; the input reads as it did. -/
def diskReadsUptoRow : OpenClaim := { program := "ytcdcojpfealppaagreat", sum := "dee2f68f215f22f05e61eb789cf11de50b7f3a4d060800813d537337aefa7f8e", func := "freight/freightlaw5.DiskReads", spec := "diskReads", inPlace := ["internal/bytealg.IndexByteString", "maps.clone"], unfollowed := true, recurses := true, apart := false, narrowed := true }
def DiskReadsUptoSaid : Prop := diskReadsUptoRow.holds Tryz.pinned (OpenSpec.upto diskReadsSpec)

/-- 'freightlaw5.DiskPlays', WHERE WHAT IT READS IS OF BULK AT MOST 1048576: true; the input reads as it did. -/
def diskPlaysUptoRow : OpenClaim := { program := "ytcdcojpfealppaagreat", sum := "dee2f68f215f22f05e61eb789cf11de50b7f3a4d060800813d537337aefa7f8e", func := "freight/freightlaw5.DiskPlays", spec := "diskPlays", inPlace := ["internal/bytealg.IndexByteString", "maps.clone"], unfollowed := true, recurses := true, apart := false, narrowed := true }
def DiskPlaysUptoSaid : Prop := diskPlaysUptoRow.holds Tryz.pinned (OpenSpec.upto diskPlaysSpec)

/-- 'freightlaw5.DiskTwo', WHERE WHAT IT READS IS OF BULK AT MOST 1048576: true; the input reads as it did. -/
def diskTwoUptoRow : OpenClaim := { program := "ytcdcojpfealppaagreat", sum := "dee2f68f215f22f05e61eb789cf11de50b7f3a4d060800813d537337aefa7f8e", func := "freight/freightlaw5.DiskTwo", spec := "diskTwo", inPlace := ["internal/bytealg.IndexByteString", "maps.clone"], unfollowed := true, recurses := true, apart := false, narrowed := true }
def DiskTwoUptoSaid : Prop := diskTwoUptoRow.holds Tryz.pinned (OpenSpec.upto diskTwoSpec)

/-- 'freightlaw5.DiskTwin', WHERE WHAT IT READS IS OF BULK AT MOST 1048576: true; the input reads as it did. -/
def diskTwinUptoRow : OpenClaim := { program := "ytcdcojpfealppaagreat", sum := "dee2f68f215f22f05e61eb789cf11de50b7f3a4d060800813d537337aefa7f8e", func := "freight/freightlaw5.DiskTwin", spec := "diskTwin", inPlace := ["internal/bytealg.IndexByteString", "maps.clone"], unfollowed := true, recurses := true, apart := false, narrowed := true }
def DiskTwinUptoSaid : Prop := diskTwinUptoRow.holds Tryz.pinned (OpenSpec.upto diskTwinSpec)

/-- 'freightlaw5.DiskNothing', WHERE WHAT IT READS IS OF BULK AT MOST 1048576: true; the input reads as it did. -/
def diskNothingUptoRow : OpenClaim := { program := "ytcdcojpfealppaagreat", sum := "dee2f68f215f22f05e61eb789cf11de50b7f3a4d060800813d537337aefa7f8e", func := "freight/freightlaw5.DiskNothing", spec := "diskNothing", inPlace := ["internal/bytealg.IndexByteString", "maps.clone"], unfollowed := true, recurses := true, apart := false, narrowed := true }
def DiskNothingUptoSaid : Prop := diskNothingUptoRow.holds Tryz.pinned (OpenSpec.upto diskNothingSpec)

/-- 'freightlaw5.DiskOwn', WHERE WHAT IT READS IS OF BULK AT MOST 1048576: true; the input reads as it did. -/
def diskOwnUptoRow : OpenClaim := { program := "ytcdcojpfealppaagreat", sum := "dee2f68f215f22f05e61eb789cf11de50b7f3a4d060800813d537337aefa7f8e", func := "freight/freightlaw5.DiskOwn", spec := "diskOwn", inPlace := ["internal/bytealg.IndexByteString", "maps.clone"], unfollowed := true, recurses := true, apart := false, narrowed := true }
def DiskOwnUptoSaid : Prop := diskOwnUptoRow.holds Tryz.pinned (OpenSpec.upto diskOwnSpec)

/-- 'freightlaw5.DiskLoads', WHERE WHAT IT READS IS OF BULK AT MOST 1048576: true; the input reads as it did. -/
def diskLoadsUptoRow : OpenClaim := { program := "ytcdcojpfealppaagreat", sum := "dee2f68f215f22f05e61eb789cf11de50b7f3a4d060800813d537337aefa7f8e", func := "freight/freightlaw5.DiskLoads", spec := "diskLoads", inPlace := ["internal/bytealg.IndexByteString", "maps.clone"], unfollowed := true, recurses := true, apart := false, narrowed := true }
def DiskLoadsUptoSaid : Prop := diskLoadsUptoRow.holds Tryz.pinned (OpenSpec.upto diskLoadsSpec)

end Rows
end Go.Proofs.YtcdcojpfealppaaGreat
