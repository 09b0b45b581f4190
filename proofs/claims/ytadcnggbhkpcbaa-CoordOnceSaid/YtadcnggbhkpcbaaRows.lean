/-
  No cell of these rows narrows 'for every input' (looked for: loops, veiled, ifaces, maps, wideKeys, modest, calm, conditions, laid).
  DERIVED. THE GIVEN ROWS OF THIS SEAT. 4 by the template 'for every input the law returns true; each argument reads behind the call as it read before'; 0 by the template 'total and deterministic' (their statements: YtadcnggbhkpcbaaTotals.lean).
  GIVEN WITH THE SEED: the statements are not yours to turn. If you find one false, say at which input.
  Laid BY PROGRAM, IN A SANDBOX (cutbox-rows.mjs): the forced cells as the released guide's own fill.sh prints them over the translation a699fc5abba68dea… (all of the seat's roots in one cut). By AI agents, Wed Nov 11 2026. No macro, syntax, notation, axiom, sorry.
-/
import Derived.Test.YtadcnggbhkpcbaaChecked
import GoSem.Claim
import GoSem.ClaimJoined
import GoSem.ClaimMapViews
import Derived.JoinedTies
import Derived.KernelRfl
namespace Go.Proofs.Ytadcnggbhkpcbaa
/- THE CELL 'sum', in the pinned program and in every row, IS THE sha256 OF THE DUMP (.gsa) THAT YtadcnggbhkpcbaaProg.lean LOADS. Nothing in Lean hashes anything: it is a label: what it is worth is what the hold of that sum in a sandbox is worth. -/
noncomputable def Try.pinned : Pinned := { name := "ytadcnggbhkpcbaa", sum := "a699fc5abba68dea1ebaaa5dc0f853dc9bcda46c9948cfa3c9386f5753aee8d9", checked := Try.checked }
namespace Rows
def none {H : Type} : Left H := { results := [], args := [] }

/-- 'hourglasslaw18.CoordOnce': WHATEVER THE INPUT: true; the input reads as it did. -/
def coordOnceSpec : ChangeSpec := { name := "coordOnce", fn := fun _ => fun
  | [d1, d2, d3] => { results := [.lit (.bool true)], args := [d1, d2, d3] }
  | _ => none }
def coordOnceRow : OpenClaim := { program := "ytadcnggbhkpcbaa", sum := "a699fc5abba68dea1ebaaa5dc0f853dc9bcda46c9948cfa3c9386f5753aee8d9", func := "hourglass/hourglasslaw18.CoordOnce", spec := "coordOnce", unfollowed := true, recurses := true, plainKeys := false, apart := false }
def CoordOnceSaid : Prop := coordOnceRow.holds Try.pinned (OpenSpec.ofChange coordOnceSpec)

/-- ITS FALSE NEIGHBOUR: 'it returns false'. Refute it at one input. -/
def coordOnceWrong : ChangeSpec := { name := "coordOnce", fn := fun _ => fun
  | [d1, d2, d3] => { results := [.lit (.bool false)], args := [d1, d2, d3] }
  | _ => none }
def CoordOnceWrongFalsely : Prop := coordOnceRow.holds Try.pinned (OpenSpec.ofChange coordOnceWrong)

/-- 'hourglasslaw18.CoordLogs': WHATEVER THE INPUT: true; the input reads as it did. -/
def coordLogsSpec : ChangeSpec := { name := "coordLogs", fn := fun _ => fun
  | [d1, d2, d3] => { results := [.lit (.bool true)], args := [d1, d2, d3] }
  | _ => none }
def coordLogsRow : OpenClaim := { program := "ytadcnggbhkpcbaa", sum := "a699fc5abba68dea1ebaaa5dc0f853dc9bcda46c9948cfa3c9386f5753aee8d9", func := "hourglass/hourglasslaw18.CoordLogs", spec := "coordLogs", inPlace := ["internal/bytealg.IndexByteString"], unfollowed := true, recurses := true, plainKeys := false, apart := false }
def CoordLogsSaid : Prop := coordLogsRow.holds Try.pinned (OpenSpec.ofChange coordLogsSpec)

/-- ITS FALSE NEIGHBOUR: 'it returns false'. Refute it at one input. -/
def coordLogsWrong : ChangeSpec := { name := "coordLogs", fn := fun _ => fun
  | [d1, d2, d3] => { results := [.lit (.bool false)], args := [d1, d2, d3] }
  | _ => none }
def CoordLogsWrongFalsely : Prop := coordLogsRow.holds Try.pinned (OpenSpec.ofChange coordLogsWrong)

/-- 'hourglasslaw18.CoordKnown': WHATEVER THE INPUT: true; the input reads as it did. -/
def coordKnownSpec : ChangeSpec := { name := "coordKnown", fn := fun _ => fun
  | [] => { results := [.lit (.bool true)], args := [] }
  | _ => none }
def coordKnownRow : OpenClaim := { program := "ytadcnggbhkpcbaa", sum := "a699fc5abba68dea1ebaaa5dc0f853dc9bcda46c9948cfa3c9386f5753aee8d9", func := "hourglass/hourglasslaw18.CoordKnown", spec := "coordKnown", inPlace := ["internal/bytealg.IndexByteString"], unfollowed := true, recurses := true, plainKeys := false, apart := false }
def CoordKnownSaid : Prop := coordKnownRow.holds Try.pinned (OpenSpec.ofChange coordKnownSpec)

/-- ITS FALSE NEIGHBOUR: 'it returns false'. Refute it at one input. -/
def coordKnownWrong : ChangeSpec := { name := "coordKnown", fn := fun _ => fun
  | [] => { results := [.lit (.bool false)], args := [] }
  | _ => none }
def CoordKnownWrongFalsely : Prop := coordKnownRow.holds Try.pinned (OpenSpec.ofChange coordKnownWrong)

/-- 'hourglasslaw18.CoordPlays': WHATEVER THE INPUT: true; the input reads as it did. -/
def coordPlaysSpec : ChangeSpec := { name := "coordPlays", fn := fun _ => fun
  | [d] => { results := [.lit (.bool true)], args := [d] }
  | _ => none }
def coordPlaysRow : OpenClaim := { program := "ytadcnggbhkpcbaa", sum := "a699fc5abba68dea1ebaaa5dc0f853dc9bcda46c9948cfa3c9386f5753aee8d9", func := "hourglass/hourglasslaw18.CoordPlays", spec := "coordPlays", inPlace := ["internal/bytealg.IndexByteString"], unfollowed := true, recurses := true, plainKeys := false, apart := false }
def CoordPlaysSaid : Prop := coordPlaysRow.holds Try.pinned (OpenSpec.ofChange coordPlaysSpec)

/-- ITS FALSE NEIGHBOUR: 'it returns false'. Refute it at one input. -/
def coordPlaysWrong : ChangeSpec := { name := "coordPlays", fn := fun _ => fun
  | [d] => { results := [.lit (.bool false)], args := [d] }
  | _ => none }
def CoordPlaysWrongFalsely : Prop := coordPlaysRow.holds Try.pinned (OpenSpec.ofChange coordPlaysWrong)

/- THE SECOND FORM. 'bulk': how many values and letters a reading holds, each counted each time it is reached (what is shared counts as often as it is met; a slice's spare places count too). A statement '..UptoSaid' is the law's where the arguments, and the package variables that the reading takes, are together of bulk at most 1048576: NARROWER than '..Said'. Prove '..Said' where nothing that the law and all that it calls make is longer than what came in: it says more and counts as full. Else prove '..UptoSaid'. A law counts once. -/
mutual
def uptoBulk {H : Type} : DataW H → Nat
  | .lit (.string bytes) => bytes.length + 1
  | .lit _ => 1
  | .nil => 1
  | .ptr d => uptoBulk d + 1
  | .slice elems spare => uptoBulkAll elems + uptoBulkAll spare + 1
  | .agg parts => uptoBulkAll parts + 1
  | .iface _ d => uptoBulk d + 1
  | .map entries => uptoBulkEntries entries + 1
  | .held _ => 1
def uptoBulkAll {H : Type} : List (DataW H) → Nat
  | [] => 0
  | d :: r => uptoBulk d + uptoBulkAll r
def uptoBulkEntries {H : Type} : List (Lit × DataW H) → Nat
  | [] => 0
  | x :: r => uptoBulkEntry x + uptoBulkEntries r
def uptoBulkEntry {H : Type} : Lit × DataW H → Nat
  | (.string bytes, d) => bytes.length + uptoBulk d + 1
  | (_, d) => uptoBulk d + 1
 end
def uptoSmall : (H : Type) → List (DataW H) → Bool := fun _ ds => decide (uptoBulkAll ds ≤ 1048576)
def OpenSpec.upto (s : _root_.Go.ChangeSpec) : _root_.Go.OpenSpec := { _root_.Go.OpenSpec.ofChange s with cond := some uptoSmall }

/-- 'hourglasslaw18.CoordOnce', WHERE WHAT IT READS IS OF BULK AT MOST 1048576: true; the input reads as it did. -/
def coordOnceUptoRow : OpenClaim := { program := "ytadcnggbhkpcbaa", sum := "a699fc5abba68dea1ebaaa5dc0f853dc9bcda46c9948cfa3c9386f5753aee8d9", func := "hourglass/hourglasslaw18.CoordOnce", spec := "coordOnce", unfollowed := true, recurses := true, plainKeys := false, apart := false, narrowed := true }
def CoordOnceUptoSaid : Prop := coordOnceUptoRow.holds Try.pinned (OpenSpec.upto coordOnceSpec)

/-- 'hourglasslaw18.CoordLogs', WHERE WHAT IT READS IS OF BULK AT MOST 1048576: true; the input reads as it did. -/
def coordLogsUptoRow : OpenClaim := { program := "ytadcnggbhkpcbaa", sum := "a699fc5abba68dea1ebaaa5dc0f853dc9bcda46c9948cfa3c9386f5753aee8d9", func := "hourglass/hourglasslaw18.CoordLogs", spec := "coordLogs", inPlace := ["internal/bytealg.IndexByteString"], unfollowed := true, recurses := true, plainKeys := false, apart := false, narrowed := true }
def CoordLogsUptoSaid : Prop := coordLogsUptoRow.holds Try.pinned (OpenSpec.upto coordLogsSpec)

/-- 'hourglasslaw18.CoordKnown', WHERE WHAT IT READS IS OF BULK AT MOST 1048576: true; the input reads as it did. -/
def coordKnownUptoRow : OpenClaim := { program := "ytadcnggbhkpcbaa", sum := "a699fc5abba68dea1ebaaa5dc0f853dc9bcda46c9948cfa3c9386f5753aee8d9", func := "hourglass/hourglasslaw18.CoordKnown", spec := "coordKnown", inPlace := ["internal/bytealg.IndexByteString"], unfollowed := true, recurses := true, plainKeys := false, apart := false, narrowed := true }
def CoordKnownUptoSaid : Prop := coordKnownUptoRow.holds Try.pinned (OpenSpec.upto coordKnownSpec)

/-- 'hourglasslaw18.CoordPlays', WHERE WHAT IT READS IS OF BULK AT MOST 1048576: true; the input reads as it did. -/
def coordPlaysUptoRow : OpenClaim := { program := "ytadcnggbhkpcbaa", sum := "a699fc5abba68dea1ebaaa5dc0f853dc9bcda46c9948cfa3c9386f5753aee8d9", func := "hourglass/hourglasslaw18.CoordPlays", spec := "coordPlays", inPlace := ["internal/bytealg.IndexByteString"], unfollowed := true, recurses := true, plainKeys := false, apart := false, narrowed := true }
def CoordPlaysUptoSaid : Prop := coordPlaysUptoRow.holds Try.pinned (OpenSpec.upto coordPlaysSpec)

end Rows
end Go.Proofs.Ytadcnggbhkpcbaa
