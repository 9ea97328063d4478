/-
  No cell of these rows narrows 'for every input' (looked for: loops, veiled, ifaces, maps, wideKeys, modest, calm, conditions, laid).
  DERIVED. THE GIVEN ROWS OF THIS SEAT. 11 by the template 'for every input the law returns true; each argument reads behind the call as it read before'; 0 by the template 'total and deterministic' (their statements: YtanknokhbfijdaaTotals.lean).
  GIVEN WITH THE SEED: the statements are not yours to turn. If you find one false, say at which input.
  Laid BY PROGRAM, IN A SANDBOX (cutbox-rows.mjs): the forced cells as the released guide's own fill.sh prints them over the translation fddba8e35e9a8a6c… (all of the seat's roots in one cut). By AI agents, Wed Nov 11 2026. No macro, syntax, notation, axiom, sorry.
-/
import Derived.Test.YtanknokhbfijdaaChecked
import GoSem.Claim
import GoSem.ClaimJoined
import GoSem.ClaimMapViews
import Derived.JoinedTies
import Derived.KernelRfl
namespace Go.Proofs.Ytanknokhbfijdaa
/- THE CELL 'sum', in the pinned program and in every row, IS THE sha256 OF THE DUMP (.gsa) THAT YtanknokhbfijdaaProg.lean LOADS. Nothing in Lean hashes anything: it is a label: what it is worth is what the hold of that sum in a sandbox is worth. -/
noncomputable def Try.pinned : Pinned := { name := "ytanknokhbfijdaa", sum := "fddba8e35e9a8a6cad06babca91d351b7f9068067132d092665d4d1ad3c3bb17", checked := Try.checked }
namespace Rows
def none {H : Type} : Left H := { results := [], args := [] }

/-- 'spillwaylaw21.DiskSynced': WHATEVER THE INPUT: true; the input reads as it did. -/
def diskSyncedSpec : ChangeSpec := { name := "diskSynced", fn := fun _ => fun
  | [d1, d2, d3] => { results := [.lit (.bool true)], args := [d1, d2, d3] }
  | _ => none }
def diskSyncedRow : OpenClaim := { program := "ytanknokhbfijdaa", sum := "fddba8e35e9a8a6cad06babca91d351b7f9068067132d092665d4d1ad3c3bb17", func := "spillway/spillwaylaw21.DiskSynced", spec := "diskSynced", unfollowed := true, recurses := true, apart := false }
def DiskSyncedSaid : Prop := diskSyncedRow.holds Try.pinned (OpenSpec.ofChange diskSyncedSpec)

/-- ITS FALSE NEIGHBOUR: 'it returns false'. Refute it at one input. -/
def diskSyncedWrong : ChangeSpec := { name := "diskSynced", fn := fun _ => fun
  | [d1, d2, d3] => { results := [.lit (.bool false)], args := [d1, d2, d3] }
  | _ => none }
def DiskSyncedWrongFalsely : Prop := diskSyncedRow.holds Try.pinned (OpenSpec.ofChange diskSyncedWrong)

/-- 'spillwaylaw21.DiskFull': WHATEVER THE INPUT: true; the input reads as it did. -/
def diskFullSpec : ChangeSpec := { name := "diskFull", fn := fun _ => fun
  | [d1, d2] => { results := [.lit (.bool true)], args := [d1, d2] }
  | _ => none }
def diskFullRow : OpenClaim := { program := "ytanknokhbfijdaa", sum := "fddba8e35e9a8a6cad06babca91d351b7f9068067132d092665d4d1ad3c3bb17", func := "spillway/spillwaylaw21.DiskFull", spec := "diskFull", unfollowed := true, recurses := true, apart := false }
def DiskFullSaid : Prop := diskFullRow.holds Try.pinned (OpenSpec.ofChange diskFullSpec)

/-- ITS FALSE NEIGHBOUR: 'it returns false'. Refute it at one input. -/
def diskFullWrong : ChangeSpec := { name := "diskFull", fn := fun _ => fun
  | [d1, d2] => { results := [.lit (.bool false)], args := [d1, d2] }
  | _ => none }
def DiskFullWrongFalsely : Prop := diskFullRow.holds Try.pinned (OpenSpec.ofChange diskFullWrong)

/-- 'spillwaylaw21.DiskPowers': WHATEVER THE INPUT: true; the input reads as it did. -/
def diskPowersSpec : ChangeSpec := { name := "diskPowers", fn := fun _ => fun
  | [d1, d2] => { results := [.lit (.bool true)], args := [d1, d2] }
  | _ => none }
def diskPowersRow : OpenClaim := { program := "ytanknokhbfijdaa", sum := "fddba8e35e9a8a6cad06babca91d351b7f9068067132d092665d4d1ad3c3bb17", func := "spillway/spillwaylaw21.DiskPowers", spec := "diskPowers", unfollowed := true, recurses := true, apart := false }
def DiskPowersSaid : Prop := diskPowersRow.holds Try.pinned (OpenSpec.ofChange diskPowersSpec)

/-- ITS FALSE NEIGHBOUR: 'it returns false'. Refute it at one input. -/
def diskPowersWrong : ChangeSpec := { name := "diskPowers", fn := fun _ => fun
  | [d1, d2] => { results := [.lit (.bool false)], args := [d1, d2] }
  | _ => none }
def DiskPowersWrongFalsely : Prop := diskPowersRow.holds Try.pinned (OpenSpec.ofChange diskPowersWrong)

/-- 'spillwaylaw21.DiskRenames': WHATEVER THE INPUT: true; the input reads as it did. -/
def diskRenamesSpec : ChangeSpec := { name := "diskRenames", fn := fun _ => fun
  | [d1, d2, d3, d4] => { results := [.lit (.bool true)], args := [d1, d2, d3, d4] }
  | _ => none }
def diskRenamesRow : OpenClaim := { program := "ytanknokhbfijdaa", sum := "fddba8e35e9a8a6cad06babca91d351b7f9068067132d092665d4d1ad3c3bb17", func := "spillway/spillwaylaw21.DiskRenames", spec := "diskRenames", unfollowed := true, recurses := true, apart := false }
def DiskRenamesSaid : Prop := diskRenamesRow.holds Try.pinned (OpenSpec.ofChange diskRenamesSpec)

/-- ITS FALSE NEIGHBOUR: 'it returns false'. Refute it at one input. -/
def diskRenamesWrong : ChangeSpec := { name := "diskRenames", fn := fun _ => fun
  | [d1, d2, d3, d4] => { results := [.lit (.bool false)], args := [d1, d2, d3, d4] }
  | _ => none }
def DiskRenamesWrongFalsely : Prop := diskRenamesRow.holds Try.pinned (OpenSpec.ofChange diskRenamesWrong)

/-- 'spillwaylaw21.DiskPlays': WHATEVER THE INPUT: true; the input reads as it did. -/
def diskPlaysSpec : ChangeSpec := { name := "diskPlays", fn := fun _ => fun
  | [d1, d2] => { results := [.lit (.bool true)], args := [d1, d2] }
  | _ => none }
def diskPlaysRow : OpenClaim := { program := "ytanknokhbfijdaa", sum := "fddba8e35e9a8a6cad06babca91d351b7f9068067132d092665d4d1ad3c3bb17", func := "spillway/spillwaylaw21.DiskPlays", spec := "diskPlays", unfollowed := true, recurses := true, apart := false }
def DiskPlaysSaid : Prop := diskPlaysRow.holds Try.pinned (OpenSpec.ofChange diskPlaysSpec)

/-- ITS FALSE NEIGHBOUR: 'it returns false'. Refute it at one input. -/
def diskPlaysWrong : ChangeSpec := { name := "diskPlays", fn := fun _ => fun
  | [d1, d2] => { results := [.lit (.bool false)], args := [d1, d2] }
  | _ => none }
def DiskPlaysWrongFalsely : Prop := diskPlaysRow.holds Try.pinned (OpenSpec.ofChange diskPlaysWrong)

/-- 'spillwaylaw22.WalFrames': WHATEVER THE INPUT: true; the input reads as it did. -/
def walFramesSpec : ChangeSpec := { name := "walFrames", fn := fun _ => fun
  | [d1, d2] => { results := [.lit (.bool true)], args := [d1, d2] }
  | _ => none }
def walFramesRow : OpenClaim := { program := "ytanknokhbfijdaa", sum := "fddba8e35e9a8a6cad06babca91d351b7f9068067132d092665d4d1ad3c3bb17", func := "spillway/spillwaylaw22.WalFrames", spec := "walFrames", unfollowed := true, recurses := true, apart := false }
def WalFramesSaid : Prop := walFramesRow.holds Try.pinned (OpenSpec.ofChange walFramesSpec)

/-- ITS FALSE NEIGHBOUR: 'it returns false'. Refute it at one input. -/
def walFramesWrong : ChangeSpec := { name := "walFrames", fn := fun _ => fun
  | [d1, d2] => { results := [.lit (.bool false)], args := [d1, d2] }
  | _ => none }
def WalFramesWrongFalsely : Prop := walFramesRow.holds Try.pinned (OpenSpec.ofChange walFramesWrong)

/-- 'spillwaylaw22.WalTorn': WHATEVER THE INPUT: true; the input reads as it did. -/
def walTornSpec : ChangeSpec := { name := "walTorn", fn := fun _ => fun
  | [d1, d2, d3] => { results := [.lit (.bool true)], args := [d1, d2, d3] }
  | _ => none }
def walTornRow : OpenClaim := { program := "ytanknokhbfijdaa", sum := "fddba8e35e9a8a6cad06babca91d351b7f9068067132d092665d4d1ad3c3bb17", func := "spillway/spillwaylaw22.WalTorn", spec := "walTorn", unfollowed := true, recurses := true, apart := false }
def WalTornSaid : Prop := walTornRow.holds Try.pinned (OpenSpec.ofChange walTornSpec)

/-- ITS FALSE NEIGHBOUR: 'it returns false'. Refute it at one input. -/
def walTornWrong : ChangeSpec := { name := "walTorn", fn := fun _ => fun
  | [d1, d2, d3] => { results := [.lit (.bool false)], args := [d1, d2, d3] }
  | _ => none }
def WalTornWrongFalsely : Prop := walTornRow.holds Try.pinned (OpenSpec.ofChange walTornWrong)

/-- 'spillwaylaw22.WalFull': WHATEVER THE INPUT: true; the input reads as it did. -/
def walFullSpec : ChangeSpec := { name := "walFull", fn := fun _ => fun
  | [d1, d2] => { results := [.lit (.bool true)], args := [d1, d2] }
  | _ => none }
def walFullRow : OpenClaim := { program := "ytanknokhbfijdaa", sum := "fddba8e35e9a8a6cad06babca91d351b7f9068067132d092665d4d1ad3c3bb17", func := "spillway/spillwaylaw22.WalFull", spec := "walFull", unfollowed := true, recurses := true, apart := false }
def WalFullSaid : Prop := walFullRow.holds Try.pinned (OpenSpec.ofChange walFullSpec)

/-- ITS FALSE NEIGHBOUR: 'it returns false'. Refute it at one input. -/
def walFullWrong : ChangeSpec := { name := "walFull", fn := fun _ => fun
  | [d1, d2] => { results := [.lit (.bool false)], args := [d1, d2] }
  | _ => none }
def WalFullWrongFalsely : Prop := walFullRow.holds Try.pinned (OpenSpec.ofChange walFullWrong)

/-- 'spillwaylaw22.WalRows': WHATEVER THE INPUT: true; the input reads as it did. -/
def walRowsSpec : ChangeSpec := { name := "walRows", fn := fun _ => fun
  | [d1, d2] => { results := [.lit (.bool true)], args := [d1, d2] }
  | _ => none }
def walRowsRow : OpenClaim := { program := "ytanknokhbfijdaa", sum := "fddba8e35e9a8a6cad06babca91d351b7f9068067132d092665d4d1ad3c3bb17", func := "spillway/spillwaylaw22.WalRows", spec := "walRows", unfollowed := true, recurses := true, apart := false }
def WalRowsSaid : Prop := walRowsRow.holds Try.pinned (OpenSpec.ofChange walRowsSpec)

/-- ITS FALSE NEIGHBOUR: 'it returns false'. Refute it at one input. -/
def walRowsWrong : ChangeSpec := { name := "walRows", fn := fun _ => fun
  | [d1, d2] => { results := [.lit (.bool false)], args := [d1, d2] }
  | _ => none }
def WalRowsWrongFalsely : Prop := walRowsRow.holds Try.pinned (OpenSpec.ofChange walRowsWrong)

/-- 'spillwaylaw22.WalTurned': WHATEVER THE INPUT: true; the input reads as it did. -/
def walTurnedSpec : ChangeSpec := { name := "walTurned", fn := fun _ => fun
  | [d1, d2, d3, d4] => { results := [.lit (.bool true)], args := [d1, d2, d3, d4] }
  | _ => none }
def walTurnedRow : OpenClaim := { program := "ytanknokhbfijdaa", sum := "fddba8e35e9a8a6cad06babca91d351b7f9068067132d092665d4d1ad3c3bb17", func := "spillway/spillwaylaw22.WalTurned", spec := "walTurned", unfollowed := true, recurses := true, apart := false }
def WalTurnedSaid : Prop := walTurnedRow.holds Try.pinned (OpenSpec.ofChange walTurnedSpec)

/-- ITS FALSE NEIGHBOUR: 'it returns false'. Refute it at one input. -/
def walTurnedWrong : ChangeSpec := { name := "walTurned", fn := fun _ => fun
  | [d1, d2, d3, d4] => { results := [.lit (.bool false)], args := [d1, d2, d3, d4] }
  | _ => none }
def WalTurnedWrongFalsely : Prop := walTurnedRow.holds Try.pinned (OpenSpec.ofChange walTurnedWrong)

/-- 'spillwaylaw22.WalMakes': WHATEVER THE INPUT: true; the input reads as it did. -/
def walMakesSpec : ChangeSpec := { name := "walMakes", fn := fun _ => fun
  | [d1, d2, d3] => { results := [.lit (.bool true)], args := [d1, d2, d3] }
  | _ => none }
def walMakesRow : OpenClaim := { program := "ytanknokhbfijdaa", sum := "fddba8e35e9a8a6cad06babca91d351b7f9068067132d092665d4d1ad3c3bb17", func := "spillway/spillwaylaw22.WalMakes", spec := "walMakes", unfollowed := true, recurses := true, apart := false }
def WalMakesSaid : Prop := walMakesRow.holds Try.pinned (OpenSpec.ofChange walMakesSpec)

/-- ITS FALSE NEIGHBOUR: 'it returns false'. Refute it at one input. -/
def walMakesWrong : ChangeSpec := { name := "walMakes", fn := fun _ => fun
  | [d1, d2, d3] => { results := [.lit (.bool false)], args := [d1, d2, d3] }
  | _ => none }
def WalMakesWrongFalsely : Prop := walMakesRow.holds Try.pinned (OpenSpec.ofChange walMakesWrong)

/- THE SECOND FORM. 'bulk': how many values and letters a reading holds, each counted each time it is reached (what is shared counts as often as it is met; a slice's spare places count too). A statement '..UptoSaid' is the law's where the arguments, and the package variables that the reading takes, are together of bulk at most 1048576: NARROWER than '..Said'. Prove '..Said' where nothing that the law and all that it calls make is longer than what came in: it says more and counts as full. Else prove '..UptoSaid'. A law counts once. -/
mutual
def uptoBulk {H : Type} : DataW H → Nat
  | .lit (.string bytes) => bytes.length + 1
  | .lit _ => 1
  | .nil => 1
  | .ptr d => uptoBulk d + 1
  | .slice elems spare => uptoBulkAll elems + uptoBulkAll spare + 1
  | .agg parts => uptoBulkAll parts + 1
  | .iface _ d => uptoBulk d + 1
  | .map entries => uptoBulkEntries entries + 1
  | .held _ => 1
def uptoBulkAll {H : Type} : List (DataW H) → Nat
  | [] => 0
  | d :: r => uptoBulk d + uptoBulkAll r
def uptoBulkEntries {H : Type} : List (Lit × DataW H) → Nat
  | [] => 0
  | x :: r => uptoBulkEntry x + uptoBulkEntries r
def uptoBulkEntry {H : Type} : Lit × DataW H → Nat
  | (.string bytes, d) => bytes.length + uptoBulk d + 1
  | (_, d) => uptoBulk d + 1
 end
def uptoSmall : (H : Type) → List (DataW H) → Bool := fun _ ds => decide (uptoBulkAll ds ≤ 1048576)
def OpenSpec.upto (s : _root_.Go.ChangeSpec) : _root_.Go.OpenSpec := { _root_.Go.OpenSpec.ofChange s with cond := some uptoSmall }

/-- 'spillwaylaw21.DiskSynced', WHERE WHAT IT READS IS OF BULK AT MOST 1048576: true; the input reads as it did. -/
def diskSyncedUptoRow : OpenClaim := { program := "ytanknokhbfijdaa", sum := "fddba8e35e9a8a6cad06babca91d351b7f9068067132d092665d4d1ad3c3bb17", func := "spillway/spillwaylaw21.DiskSynced", spec := "diskSynced", unfollowed := true, recurses := true, apart := false, narrowed := true }
def DiskSyncedUptoSaid : Prop := diskSyncedUptoRow.holds Try.pinned (OpenSpec.upto diskSyncedSpec)

/-- 'spillwaylaw21.DiskFull', WHERE WHAT IT READS IS OF BULK AT MOST 1048576: true; the input reads as it did. -/
def diskFullUptoRow : OpenClaim := { program := "ytanknokhbfijdaa", sum := "fddba8e35e9a8a6cad06babca91d351b7f9068067132d092665d4d1ad3c3bb17", func := "spillway/spillwaylaw21.DiskFull", spec := "diskFull", unfollowed := true, recurses := true, apart := false, narrowed := true }
def DiskFullUptoSaid : Prop := diskFullUptoRow.holds Try.pinned (OpenSpec.upto diskFullSpec)

/-- 'spillwaylaw21.DiskPowers', WHERE WHAT IT READS IS OF BULK AT MOST 1048576: true; the input reads as it did. -/
def diskPowersUptoRow : OpenClaim := { program := "ytanknokhbfijdaa", sum := "fddba8e35e9a8a6cad06babca91d351b7f9068067132d092665d4d1ad3c3bb17", func := "spillway/spillwaylaw21.DiskPowers", spec := "diskPowers", unfollowed := true, recurses := true, apart := false, narrowed := true }
def DiskPowersUptoSaid : Prop := diskPowersUptoRow.holds Try.pinned (OpenSpec.upto diskPowersSpec)

/-- 'spillwaylaw21.DiskRenames', WHERE WHAT IT READS IS OF BULK AT MOST 1048576: true; the input reads as it did. -/
def diskRenamesUptoRow : OpenClaim := { program := "ytanknokhbfijdaa", sum := "fddba8e35e9a8a6cad06babca91d351b7f9068067132d092665d4d1ad3c3bb17", func := "spillway/spillwaylaw21.DiskRenames", spec := "diskRenames", unfollowed := true, recurses := true, apart := false, narrowed := true }
def DiskRenamesUptoSaid : Prop := diskRenamesUptoRow.holds Try.pinned (OpenSpec.upto diskRenamesSpec)

/-- 'spillwaylaw21.DiskPlays', WHERE WHAT IT READS IS OF BULK AT MOST 1048576: true; the input reads as it did. -/
def diskPlaysUptoRow : OpenClaim := { program := "ytanknokhbfijdaa", sum := "fddba8e35e9a8a6cad06babca91d351b7f9068067132d092665d4d1ad3c3bb17", func := "spillway/spillwaylaw21.DiskPlays", spec := "diskPlays", unfollowed := true, recurses := true, apart := false, narrowed := true }
def DiskPlaysUptoSaid : Prop := diskPlaysUptoRow.holds Try.pinned (OpenSpec.upto diskPlaysSpec)

/-- 'spillwaylaw22.WalFrames', WHERE WHAT IT READS IS OF BULK AT MOST 1048576: true; the input reads as it did. -/
def walFramesUptoRow : OpenClaim := { program := "ytanknokhbfijdaa", sum := "fddba8e35e9a8a6cad06babca91d351b7f9068067132d092665d4d1ad3c3bb17", func := "spillway/spillwaylaw22.WalFrames", spec := "walFrames", unfollowed := true, recurses := true, apart := false, narrowed := true }
def WalFramesUptoSaid : Prop := walFramesUptoRow.holds Try.pinned (OpenSpec.upto walFramesSpec)

/-- 'spillwaylaw22.WalTorn', WHERE WHAT IT READS IS OF BULK AT MOST 1048576: true; the input reads as it did. -/
def walTornUptoRow : OpenClaim := { program := "ytanknokhbfijdaa", sum := "fddba8e35e9a8a6cad06babca91d351b7f9068067132d092665d4d1ad3c3bb17", func := "spillway/spillwaylaw22.WalTorn", spec := "walTorn", unfollowed := true, recurses := true, apart := false, narrowed := true }
def WalTornUptoSaid : Prop := walTornUptoRow.holds Try.pinned (OpenSpec.upto walTornSpec)

/-- 'spillwaylaw22.WalFull', WHERE WHAT IT READS IS OF BULK AT MOST 1048576: true; the input reads as it did. -/
def walFullUptoRow : OpenClaim := { program := "ytanknokhbfijdaa", sum := "fddba8e35e9a8a6cad06babca91d351b7f9068067132d092665d4d1ad3c3bb17", func := "spillway/spillwaylaw22.WalFull", spec := "walFull", unfollowed := true, recurses := true, apart := false, narrowed := true }
def WalFullUptoSaid : Prop := walFullUptoRow.holds Try.pinned (OpenSpec.upto walFullSpec)

/-- 'spillwaylaw22.WalRows', WHERE WHAT IT READS IS OF BULK AT MOST 1048576: true; the input reads as it did. -/
def walRowsUptoRow : OpenClaim := { program := "ytanknokhbfijdaa", sum := "fddba8e35e9a8a6cad06babca91d351b7f9068067132d092665d4d1ad3c3bb17", func := "spillway/spillwaylaw22.WalRows", spec := "walRows", unfollowed := true, recurses := true, apart := false, narrowed := true }
def WalRowsUptoSaid : Prop := walRowsUptoRow.holds Try.pinned (OpenSpec.upto walRowsSpec)

/-- 'spillwaylaw22.WalTurned', WHERE WHAT IT READS IS OF BULK AT MOST 1048576: true; the input reads as it did. -/
def walTurnedUptoRow : OpenClaim := { program := "ytanknokhbfijdaa", sum := "fddba8e35e9a8a6cad06babca91d351b7f9068067132d092665d4d1ad3c3bb17", func := "spillway/spillwaylaw22.WalTurned", spec := "walTurned", unfollowed := true, recurses := true, apart := false, narrowed := true }
def WalTurnedUptoSaid : Prop := walTurnedUptoRow.holds Try.pinned (OpenSpec.upto walTurnedSpec)

/-- 'spillwaylaw22.WalMakes', WHERE WHAT IT READS IS OF BULK AT MOST 1048576: true; the input reads as it did. -/
def walMakesUptoRow : OpenClaim := { program := "ytanknokhbfijdaa", sum := "fddba8e35e9a8a6cad06babca91d351b7f9068067132d092665d4d1ad3c3bb17", func := "spillway/spillwaylaw22.WalMakes", spec := "walMakes", unfollowed := true, recurses := true, apart := false, narrowed := true }
def WalMakesUptoSaid : Prop := walMakesUptoRow.holds Try.pinned (OpenSpec.upto walMakesSpec)

end Rows
end Go.Proofs.Ytanknokhbfijdaa
