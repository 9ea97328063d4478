/-
  No cell of these rows narrows 'for every input' (looked for: loops, veiled, ifaces, maps, wideKeys, modest, calm, conditions, laid).
  DERIVED. THE GIVEN ROWS OF THIS SEAT. 4 by the template 'for every input the law returns true; each argument reads behind the call as it read before'; 0 by the template 'total and deterministic' (their statements: YtjlhkbikconboaaTotals.lean).
  GIVEN WITH THE SEED: the statements are not yours to turn. If you find one false, say at which input.
  Laid BY PROGRAM, IN A SANDBOX (cutbox-rows.mjs): the forced cells as the released guide's own fill.sh prints them over the translation 128fe793ded5fbeb… (all of the seat's roots in one cut). By AI agents, Wed Nov 11 2026. No macro, syntax, notation, axiom, sorry.
-/
import Derived.Test.YtjlhkbikconboaaChecked
import GoSem.Claim
import GoSem.ClaimJoined
import GoSem.ClaimMapViews
import Derived.JoinedTies
import Derived.KernelRfl
namespace Go.Proofs.Ytjlhkbikconboaa
/- THE CELL 'sum', in the pinned program and in every row, IS THE sha256 OF THE DUMP (.gsa) THAT YtjlhkbikconboaaProg.lean LOADS. Nothing in Lean hashes anything: it is a label: what it is worth is what the hold of that sum in a sandbox is worth. -/
noncomputable def Try.pinned : Pinned := { name := "ytjlhkbikconboaa", sum := "128fe793ded5fbebeb9f18eac9f35f9b7dbe090b28ea36acbf7a0ff16d49f277", checked := Try.checked }
namespace Rows
def none {H : Type} : Left H := { results := [], args := [] }

/-- 'spillwaylaw25.ReceiverPlays': WHATEVER THE INPUT: true; the input reads as it did. -/
def receiverPlaysSpec : ChangeSpec := { name := "receiverPlays", fn := fun _ => fun
  | [d] => { results := [.lit (.bool true)], args := [d] }
  | _ => none }
def receiverPlaysRow : OpenClaim := { program := "ytjlhkbikconboaa", sum := "128fe793ded5fbebeb9f18eac9f35f9b7dbe090b28ea36acbf7a0ff16d49f277", func := "spillway/spillwaylaw25.ReceiverPlays", spec := "receiverPlays", inPlace := ["internal/bytealg.IndexByteString", "internal/bytealg.abigen_runtime_cmpstring"], unfollowed := true, recurses := true, apart := false }
def ReceiverPlaysSaid : Prop := receiverPlaysRow.holds Try.pinned (OpenSpec.ofChange receiverPlaysSpec)

/-- ITS FALSE NEIGHBOUR: 'it returns false'. Refute it at one input. -/
def receiverPlaysWrong : ChangeSpec := { name := "receiverPlays", fn := fun _ => fun
  | [d] => { results := [.lit (.bool false)], args := [d] }
  | _ => none }
def ReceiverPlaysWrongFalsely : Prop := receiverPlaysRow.holds Try.pinned (OpenSpec.ofChange receiverPlaysWrong)

/-- 'spillwaylaw25.ReceiverFirst': WHATEVER THE INPUT: true; the input reads as it did. -/
def receiverFirstSpec : ChangeSpec := { name := "receiverFirst", fn := fun _ => fun
  | [d] => { results := [.lit (.bool true)], args := [d] }
  | _ => none }
def receiverFirstRow : OpenClaim := { program := "ytjlhkbikconboaa", sum := "128fe793ded5fbebeb9f18eac9f35f9b7dbe090b28ea36acbf7a0ff16d49f277", func := "spillway/spillwaylaw25.ReceiverFirst", spec := "receiverFirst", inPlace := ["internal/bytealg.IndexByteString", "internal/bytealg.abigen_runtime_cmpstring"], unfollowed := true, recurses := true, apart := false }
def ReceiverFirstSaid : Prop := receiverFirstRow.holds Try.pinned (OpenSpec.ofChange receiverFirstSpec)

/-- ITS FALSE NEIGHBOUR: 'it returns false'. Refute it at one input. -/
def receiverFirstWrong : ChangeSpec := { name := "receiverFirst", fn := fun _ => fun
  | [d] => { results := [.lit (.bool false)], args := [d] }
  | _ => none }
def ReceiverFirstWrongFalsely : Prop := receiverFirstRow.holds Try.pinned (OpenSpec.ofChange receiverFirstWrong)

/-- 'spillwaylaw25.ReceiverMark': WHATEVER THE INPUT: true; the input reads as it did. -/
def receiverMarkSpec : ChangeSpec := { name := "receiverMark", fn := fun _ => fun
  | [d1, d2, d3] => { results := [.lit (.bool true)], args := [d1, d2, d3] }
  | _ => none }
def receiverMarkRow : OpenClaim := { program := "ytjlhkbikconboaa", sum := "128fe793ded5fbebeb9f18eac9f35f9b7dbe090b28ea36acbf7a0ff16d49f277", func := "spillway/spillwaylaw25.ReceiverMark", spec := "receiverMark", inPlace := ["internal/bytealg.IndexByteString", "internal/bytealg.abigen_runtime_cmpstring"], unfollowed := true, recurses := true, apart := false }
def ReceiverMarkSaid : Prop := receiverMarkRow.holds Try.pinned (OpenSpec.ofChange receiverMarkSpec)

/-- ITS FALSE NEIGHBOUR: 'it returns false'. Refute it at one input. -/
def receiverMarkWrong : ChangeSpec := { name := "receiverMark", fn := fun _ => fun
  | [d1, d2, d3] => { results := [.lit (.bool false)], args := [d1, d2, d3] }
  | _ => none }
def ReceiverMarkWrongFalsely : Prop := receiverMarkRow.holds Try.pinned (OpenSpec.ofChange receiverMarkWrong)

/-- 'spillwaylaw25.ReceiverRefuses': WHATEVER THE INPUT: true; the input reads as it did. -/
def receiverRefusesSpec : ChangeSpec := { name := "receiverRefuses", fn := fun _ => fun
  | [d1, d2] => { results := [.lit (.bool true)], args := [d1, d2] }
  | _ => none }
def receiverRefusesRow : OpenClaim := { program := "ytjlhkbikconboaa", sum := "128fe793ded5fbebeb9f18eac9f35f9b7dbe090b28ea36acbf7a0ff16d49f277", func := "spillway/spillwaylaw25.ReceiverRefuses", spec := "receiverRefuses", inPlace := ["internal/bytealg.IndexByteString", "internal/bytealg.abigen_runtime_cmpstring"], unfollowed := true, recurses := true, apart := false }
def ReceiverRefusesSaid : Prop := receiverRefusesRow.holds Try.pinned (OpenSpec.ofChange receiverRefusesSpec)

/-- ITS FALSE NEIGHBOUR: 'it returns false'. Refute it at one input. -/
def receiverRefusesWrong : ChangeSpec := { name := "receiverRefuses", fn := fun _ => fun
  | [d1, d2] => { results := [.lit (.bool false)], args := [d1, d2] }
  | _ => none }
def ReceiverRefusesWrongFalsely : Prop := receiverRefusesRow.holds Try.pinned (OpenSpec.ofChange receiverRefusesWrong)

/- THE SECOND FORM. 'bulk': how many values and letters a reading holds, each counted each time it is reached (what is shared counts as often as it is met; a slice's spare places count too). A statement '..UptoSaid' is the law's where the arguments, and the package variables that the reading takes, are together of bulk at most 1048576: NARROWER than '..Said'. Prove '..Said' where nothing that the law and all that it calls make is longer than what came in: it says more and counts as full. Else prove '..UptoSaid'. A law counts once. -/
mutual
def uptoBulk {H : Type} : DataW H → Nat
  | .lit (.string bytes) => bytes.length + 1
  | .lit _ => 1
  | .nil => 1
  | .ptr d => uptoBulk d + 1
  | .slice elems spare => uptoBulkAll elems + uptoBulkAll spare + 1
  | .agg parts => uptoBulkAll parts + 1
  | .iface _ d => uptoBulk d + 1
  | .map entries => uptoBulkEntries entries + 1
  | .held _ => 1
def uptoBulkAll {H : Type} : List (DataW H) → Nat
  | [] => 0
  | d :: r => uptoBulk d + uptoBulkAll r
def uptoBulkEntries {H : Type} : List (Lit × DataW H) → Nat
  | [] => 0
  | x :: r => uptoBulkEntry x + uptoBulkEntries r
def uptoBulkEntry {H : Type} : Lit × DataW H → Nat
  | (.string bytes, d) => bytes.length + uptoBulk d + 1
  | (_, d) => uptoBulk d + 1
 end
def uptoSmall : (H : Type) → List (DataW H) → Bool := fun _ ds => decide (uptoBulkAll ds ≤ 1048576)
def OpenSpec.upto (s : _root_.Go.ChangeSpec) : _root_.Go.OpenSpec := { _root_.Go.OpenSpec.ofChange s with cond := some uptoSmall }

/-- 'spillwaylaw25.ReceiverPlays', WHERE WHAT IT READS IS OF BULK AT MOST 1048576: true; the input reads as it did. -/
def receiverPlaysUptoRow : OpenClaim := { program := "ytjlhkbikconboaa", sum := "128fe793ded5fbebeb9f18eac9f35f9b7dbe090b28ea36acbf7a0ff16d49f277", func := "spillway/spillwaylaw25.ReceiverPlays", spec := "receiverPlays", inPlace := ["internal/bytealg.IndexByteString", "internal/bytealg.abigen_runtime_cmpstring"], unfollowed := true, recurses := true, apart := false, narrowed := true }
def ReceiverPlaysUptoSaid : Prop := receiverPlaysUptoRow.holds Try.pinned (OpenSpec.upto receiverPlaysSpec)

/-- 'spillwaylaw25.ReceiverFirst', WHERE WHAT IT READS IS OF BULK AT MOST 1048576: true; the input reads as it did. -/
def receiverFirstUptoRow : OpenClaim := { program := "ytjlhkbikconboaa", sum := "128fe793ded5fbebeb9f18eac9f35f9b7dbe090b28ea36acbf7a0ff16d49f277", func := "spillway/spillwaylaw25.ReceiverFirst", spec := "receiverFirst", inPlace := ["internal/bytealg.IndexByteString", "internal/bytealg.abigen_runtime_cmpstring"], unfollowed := true, recurses := true, apart := false, narrowed := true }
def ReceiverFirstUptoSaid : Prop := receiverFirstUptoRow.holds Try.pinned (OpenSpec.upto receiverFirstSpec)

/-- 'spillwaylaw25.ReceiverMark', WHERE WHAT IT READS IS OF BULK AT MOST 1048576: true; the input reads as it did. -/
def receiverMarkUptoRow : OpenClaim := { program := "ytjlhkbikconboaa", sum := "128fe793ded5fbebeb9f18eac9f35f9b7dbe090b28ea36acbf7a0ff16d49f277", func := "spillway/spillwaylaw25.ReceiverMark", spec := "receiverMark", inPlace := ["internal/bytealg.IndexByteString", "internal/bytealg.abigen_runtime_cmpstring"], unfollowed := true, recurses := true, apart := false, narrowed := true }
def ReceiverMarkUptoSaid : Prop := receiverMarkUptoRow.holds Try.pinned (OpenSpec.upto receiverMarkSpec)

/-- 'spillwaylaw25.ReceiverRefuses', WHERE WHAT IT READS IS OF BULK AT MOST 1048576: true; the input reads as it did. -/
def receiverRefusesUptoRow : OpenClaim := { program := "ytjlhkbikconboaa", sum := "128fe793ded5fbebeb9f18eac9f35f9b7dbe090b28ea36acbf7a0ff16d49f277", func := "spillway/spillwaylaw25.ReceiverRefuses", spec := "receiverRefuses", inPlace := ["internal/bytealg.IndexByteString", "internal/bytealg.abigen_runtime_cmpstring"], unfollowed := true, recurses := true, apart := false, narrowed := true }
def ReceiverRefusesUptoSaid : Prop := receiverRefusesUptoRow.holds Try.pinned (OpenSpec.upto receiverRefusesSpec)

end Rows
end Go.Proofs.Ytjlhkbikconboaa
