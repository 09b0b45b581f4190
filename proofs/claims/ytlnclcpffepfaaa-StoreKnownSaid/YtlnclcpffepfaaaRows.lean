/-
  No cell of these rows narrows 'for every input' (looked for: loops, veiled, ifaces, maps, wideKeys, modest, calm, conditions, laid).
  DERIVED. THE GIVEN ROWS OF THIS SEAT. 7 by the template 'for every input the law returns true; each argument reads behind the call as it read before'; 0 by the template 'total and deterministic' (their statements: YtlnclcpffepfaaaTotals.lean).
  GIVEN WITH THE SEED: the statements are not yours to turn. If you find one false, say at which input.
  Laid BY PROGRAM, IN A SANDBOX (cutbox-rows.mjs): the forced cells as the released guide's own fill.sh prints them over the translation 45783c28ffdadc2d… (all of the seat's roots in one cut). By AI agents, Wed Nov 11 2026. No macro, syntax, notation, axiom, sorry.
-/
import Derived.Test.YtlnclcpffepfaaaChecked
import GoSem.Claim
import GoSem.ClaimJoined
import GoSem.ClaimMapViews
import Derived.JoinedTies
import Derived.KernelRfl
namespace Go.Proofs.Ytlnclcpffepfaaa
/- THE CELL 'sum', in the pinned program and in every row, IS THE sha256 OF THE DUMP (.gsa) THAT YtlnclcpffepfaaaProg.lean LOADS. Nothing in Lean hashes anything: it is a label: what it is worth is what the hold of that sum in a sandbox is worth. -/
noncomputable def Try.pinned : Pinned := { name := "ytlnclcpffepfaaa", sum := "45783c28ffdadc2d970a12bb8404bad679ca732d328b73bd5b413fdc4a8fcee2", checked := Try.checked }
namespace Rows
def none {H : Type} : Left H := { results := [], args := [] }

/-- 'hourglasslaw12.StoreAll': WHATEVER THE INPUT: true; the input reads as it did. -/
def storeAllSpec : ChangeSpec := { name := "storeAll", fn := fun _ => fun
  | [d1, d2, d3] => { results := [.lit (.bool true)], args := [d1, d2, d3] }
  | _ => none }
def storeAllRow : OpenClaim := { program := "ytlnclcpffepfaaa", sum := "45783c28ffdadc2d970a12bb8404bad679ca732d328b73bd5b413fdc4a8fcee2", func := "hourglass/hourglasslaw12.StoreAll", spec := "storeAll", inPlace := ["internal/bytealg.IndexByteString", "slices.overlaps[hourglass/chain.Version]", "internal/bytealg.Compare"], unfollowed := true, recurses := true, plainKeys := false, apart := false }
def StoreAllSaid : Prop := storeAllRow.holds Try.pinned (OpenSpec.ofChange storeAllSpec)

/-- ITS FALSE NEIGHBOUR: 'it returns false'. Refute it at one input. -/
def storeAllWrong : ChangeSpec := { name := "storeAll", fn := fun _ => fun
  | [d1, d2, d3] => { results := [.lit (.bool false)], args := [d1, d2, d3] }
  | _ => none }
def StoreAllWrongFalsely : Prop := storeAllRow.holds Try.pinned (OpenSpec.ofChange storeAllWrong)

/-- 'hourglasslaw12.StoreStill': WHATEVER THE INPUT: true; the input reads as it did. -/
def storeStillSpec : ChangeSpec := { name := "storeStill", fn := fun _ => fun
  | [d1, d2, d3, d4] => { results := [.lit (.bool true)], args := [d1, d2, d3, d4] }
  | _ => none }
def storeStillRow : OpenClaim := { program := "ytlnclcpffepfaaa", sum := "45783c28ffdadc2d970a12bb8404bad679ca732d328b73bd5b413fdc4a8fcee2", func := "hourglass/hourglasslaw12.StoreStill", spec := "storeStill", inPlace := ["internal/bytealg.IndexByteString", "slices.overlaps[hourglass/chain.Version]", "internal/bytealg.Compare"], unfollowed := true, recurses := true, plainKeys := false, apart := false }
def StoreStillSaid : Prop := storeStillRow.holds Try.pinned (OpenSpec.ofChange storeStillSpec)

/-- ITS FALSE NEIGHBOUR: 'it returns false'. Refute it at one input. -/
def storeStillWrong : ChangeSpec := { name := "storeStill", fn := fun _ => fun
  | [d1, d2, d3, d4] => { results := [.lit (.bool false)], args := [d1, d2, d3, d4] }
  | _ => none }
def StoreStillWrongFalsely : Prop := storeStillRow.holds Try.pinned (OpenSpec.ofChange storeStillWrong)

/-- 'hourglasslaw12.StoreScans': WHATEVER THE INPUT: true; the input reads as it did. -/
def storeScansSpec : ChangeSpec := { name := "storeScans", fn := fun _ => fun
  | [d1, d2, d3, d4, d5] => { results := [.lit (.bool true)], args := [d1, d2, d3, d4, d5] }
  | _ => none }
def storeScansRow : OpenClaim := { program := "ytlnclcpffepfaaa", sum := "45783c28ffdadc2d970a12bb8404bad679ca732d328b73bd5b413fdc4a8fcee2", func := "hourglass/hourglasslaw12.StoreScans", spec := "storeScans", inPlace := ["internal/bytealg.IndexByteString", "slices.overlaps[hourglass/chain.Version]", "internal/bytealg.Compare"], unfollowed := true, recurses := true, plainKeys := false, apart := false }
def StoreScansSaid : Prop := storeScansRow.holds Try.pinned (OpenSpec.ofChange storeScansSpec)

/-- ITS FALSE NEIGHBOUR: 'it returns false'. Refute it at one input. -/
def storeScansWrong : ChangeSpec := { name := "storeScans", fn := fun _ => fun
  | [d1, d2, d3, d4, d5] => { results := [.lit (.bool false)], args := [d1, d2, d3, d4, d5] }
  | _ => none }
def StoreScansWrongFalsely : Prop := storeScansRow.holds Try.pinned (OpenSpec.ofChange storeScansWrong)

/-- 'hourglasslaw12.StoreCopies': WHATEVER THE INPUT: true; the input reads as it did. -/
def storeCopiesSpec : ChangeSpec := { name := "storeCopies", fn := fun _ => fun
  | [d1, d2] => { results := [.lit (.bool true)], args := [d1, d2] }
  | _ => none }
def storeCopiesRow : OpenClaim := { program := "ytlnclcpffepfaaa", sum := "45783c28ffdadc2d970a12bb8404bad679ca732d328b73bd5b413fdc4a8fcee2", func := "hourglass/hourglasslaw12.StoreCopies", spec := "storeCopies", inPlace := ["internal/bytealg.IndexByteString", "slices.overlaps[hourglass/chain.Version]", "internal/bytealg.Compare"], unfollowed := true, recurses := true, plainKeys := false, apart := false }
def StoreCopiesSaid : Prop := storeCopiesRow.holds Try.pinned (OpenSpec.ofChange storeCopiesSpec)

/-- ITS FALSE NEIGHBOUR: 'it returns false'. Refute it at one input. -/
def storeCopiesWrong : ChangeSpec := { name := "storeCopies", fn := fun _ => fun
  | [d1, d2] => { results := [.lit (.bool false)], args := [d1, d2] }
  | _ => none }
def StoreCopiesWrongFalsely : Prop := storeCopiesRow.holds Try.pinned (OpenSpec.ofChange storeCopiesWrong)

/-- 'hourglasslaw12.StoreTrims': WHATEVER THE INPUT: true; the input reads as it did. -/
def storeTrimsSpec : ChangeSpec := { name := "storeTrims", fn := fun _ => fun
  | [d1, d2, d3, d4] => { results := [.lit (.bool true)], args := [d1, d2, d3, d4] }
  | _ => none }
def storeTrimsRow : OpenClaim := { program := "ytlnclcpffepfaaa", sum := "45783c28ffdadc2d970a12bb8404bad679ca732d328b73bd5b413fdc4a8fcee2", func := "hourglass/hourglasslaw12.StoreTrims", spec := "storeTrims", inPlace := ["internal/bytealg.IndexByteString", "slices.overlaps[hourglass/chain.Version]", "internal/bytealg.Compare"], unfollowed := true, recurses := true, plainKeys := false, apart := false }
def StoreTrimsSaid : Prop := storeTrimsRow.holds Try.pinned (OpenSpec.ofChange storeTrimsSpec)

/-- ITS FALSE NEIGHBOUR: 'it returns false'. Refute it at one input. -/
def storeTrimsWrong : ChangeSpec := { name := "storeTrims", fn := fun _ => fun
  | [d1, d2, d3, d4] => { results := [.lit (.bool false)], args := [d1, d2, d3, d4] }
  | _ => none }
def StoreTrimsWrongFalsely : Prop := storeTrimsRow.holds Try.pinned (OpenSpec.ofChange storeTrimsWrong)

/-- 'hourglasslaw12.StoreKnown': WHATEVER THE INPUT: true; the input reads as it did. -/
def storeKnownSpec : ChangeSpec := { name := "storeKnown", fn := fun _ => fun
  | [] => { results := [.lit (.bool true)], args := [] }
  | _ => none }
def storeKnownRow : OpenClaim := { program := "ytlnclcpffepfaaa", sum := "45783c28ffdadc2d970a12bb8404bad679ca732d328b73bd5b413fdc4a8fcee2", func := "hourglass/hourglasslaw12.StoreKnown", spec := "storeKnown", inPlace := ["internal/bytealg.IndexByteString", "slices.overlaps[hourglass/chain.Version]", "internal/bytealg.Compare"], unfollowed := true, recurses := true, plainKeys := false, apart := false }
def StoreKnownSaid : Prop := storeKnownRow.holds Try.pinned (OpenSpec.ofChange storeKnownSpec)

/-- ITS FALSE NEIGHBOUR: 'it returns false'. Refute it at one input. -/
def storeKnownWrong : ChangeSpec := { name := "storeKnown", fn := fun _ => fun
  | [] => { results := [.lit (.bool false)], args := [] }
  | _ => none }
def StoreKnownWrongFalsely : Prop := storeKnownRow.holds Try.pinned (OpenSpec.ofChange storeKnownWrong)

/-- 'hourglasslaw12.StorePlays': WHATEVER THE INPUT: true; the input reads as it did. -/
def storePlaysSpec : ChangeSpec := { name := "storePlays", fn := fun _ => fun
  | [d1, d2, d3, d4, d5, d6] => { results := [.lit (.bool true)], args := [d1, d2, d3, d4, d5, d6] }
  | _ => none }
def storePlaysRow : OpenClaim := { program := "ytlnclcpffepfaaa", sum := "45783c28ffdadc2d970a12bb8404bad679ca732d328b73bd5b413fdc4a8fcee2", func := "hourglass/hourglasslaw12.StorePlays", spec := "storePlays", inPlace := ["internal/bytealg.IndexByteString", "slices.overlaps[hourglass/chain.Version]", "internal/bytealg.Compare"], unfollowed := true, recurses := true, plainKeys := false, apart := false }
def StorePlaysSaid : Prop := storePlaysRow.holds Try.pinned (OpenSpec.ofChange storePlaysSpec)

/-- ITS FALSE NEIGHBOUR: 'it returns false'. Refute it at one input. -/
def storePlaysWrong : ChangeSpec := { name := "storePlays", fn := fun _ => fun
  | [d1, d2, d3, d4, d5, d6] => { results := [.lit (.bool false)], args := [d1, d2, d3, d4, d5, d6] }
  | _ => none }
def StorePlaysWrongFalsely : Prop := storePlaysRow.holds Try.pinned (OpenSpec.ofChange storePlaysWrong)

/- THE SECOND FORM. 'bulk': how many values and letters a reading holds, each counted each time it is reached (what is shared counts as often as it is met; a slice's spare places count too). A statement '..UptoSaid' is the law's where the arguments, and the package variables that the reading takes, are together of bulk at most 1048576: NARROWER than '..Said'. Prove '..Said' where nothing that the law and all that it calls make is longer than what came in: it says more and counts as full. Else prove '..UptoSaid'. A law counts once. -/
mutual
def uptoBulk {H : Type} : DataW H → Nat
  | .lit (.string bytes) => bytes.length + 1
  | .lit _ => 1
  | .nil => 1
  | .ptr d => uptoBulk d + 1
  | .slice elems spare => uptoBulkAll elems + uptoBulkAll spare + 1
  | .agg parts => uptoBulkAll parts + 1
  | .iface _ d => uptoBulk d + 1
  | .map entries => uptoBulkEntries entries + 1
  | .held _ => 1
def uptoBulkAll {H : Type} : List (DataW H) → Nat
  | [] => 0
  | d :: r => uptoBulk d + uptoBulkAll r
def uptoBulkEntries {H : Type} : List (Lit × DataW H) → Nat
  | [] => 0
  | x :: r => uptoBulkEntry x + uptoBulkEntries r
def uptoBulkEntry {H : Type} : Lit × DataW H → Nat
  | (.string bytes, d) => bytes.length + uptoBulk d + 1
  | (_, d) => uptoBulk d + 1
 end
def uptoSmall : (H : Type) → List (DataW H) → Bool := fun _ ds => decide (uptoBulkAll ds ≤ 1048576)
def OpenSpec.upto (s : _root_.Go.ChangeSpec) : _root_.Go.OpenSpec := { _root_.Go.OpenSpec.ofChange s with cond := some uptoSmall }

/-- 'hourglasslaw12.StoreAll', WHERE WHAT IT READS IS OF BULK AT MOST 1048576: true; the input reads as it did. -/
def storeAllUptoRow : OpenClaim := { program := "ytlnclcpffepfaaa", sum := "45783c28ffdadc2d970a12bb8404bad679ca732d328b73bd5b413fdc4a8fcee2", func := "hourglass/hourglasslaw12.StoreAll", spec := "storeAll", inPlace := ["internal/bytealg.IndexByteString", "slices.overlaps[hourglass/chain.Version]", "internal/bytealg.Compare"], unfollowed := true, recurses := true, plainKeys := false, apart := false, narrowed := true }
def StoreAllUptoSaid : Prop := storeAllUptoRow.holds Try.pinned (OpenSpec.upto storeAllSpec)

/-- 'hourglasslaw12.StoreStill', WHERE WHAT IT READS IS OF BULK AT MOST 1048576: true; the input reads as it did. -/
def storeStillUptoRow : OpenClaim := { program := "ytlnclcpffepfaaa", sum := "45783c28ffdadc2d970a12bb8404bad679ca732d328b73bd5b413fdc4a8fcee2", func := "hourglass/hourglasslaw12.StoreStill", spec := "storeStill", inPlace := ["internal/bytealg.IndexByteString", "slices.overlaps[hourglass/chain.Version]", "internal/bytealg.Compare"], unfollowed := true, recurses := true, plainKeys := false, apart := false, narrowed := true }
def StoreStillUptoSaid : Prop := storeStillUptoRow.holds Try.pinned (OpenSpec.upto storeStillSpec)

/-- 'hourglasslaw12.StoreScans', WHERE WHAT IT READS IS OF BULK AT MOST 1048576: true; the input reads as it did. -/
def storeScansUptoRow : OpenClaim := { program := "ytlnclcpffepfaaa", sum := "45783c28ffdadc2d970a12bb8404bad679ca732d328b73bd5b413fdc4a8fcee2", func := "hourglass/hourglasslaw12.StoreScans", spec := "storeScans", inPlace := ["internal/bytealg.IndexByteString", "slices.overlaps[hourglass/chain.Version]", "internal/bytealg.Compare"], unfollowed := true, recurses := true, plainKeys := false, apart := false, narrowed := true }
def StoreScansUptoSaid : Prop := storeScansUptoRow.holds Try.pinned (OpenSpec.upto storeScansSpec)

/-- 'hourglasslaw12.StoreCopies', WHERE WHAT IT READS IS OF BULK AT MOST 1048576: true; the input reads as it did. -/
def storeCopiesUptoRow : OpenClaim := { program := "ytlnclcpffepfaaa", sum := "45783c28ffdadc2d970a12bb8404bad679ca732d328b73bd5b413fdc4a8fcee2", func := "hourglass/hourglasslaw12.StoreCopies", spec := "storeCopies", inPlace := ["internal/bytealg.IndexByteString", "slices.overlaps[hourglass/chain.Version]", "internal/bytealg.Compare"], unfollowed := true, recurses := true, plainKeys := false, apart := false, narrowed := true }
def StoreCopiesUptoSaid : Prop := storeCopiesUptoRow.holds Try.pinned (OpenSpec.upto storeCopiesSpec)

/-- 'hourglasslaw12.StoreTrims', WHERE WHAT IT READS IS OF BULK AT MOST 1048576: true; the input reads as it did. -/
def storeTrimsUptoRow : OpenClaim := { program := "ytlnclcpffepfaaa", sum := "45783c28ffdadc2d970a12bb8404bad679ca732d328b73bd5b413fdc4a8fcee2", func := "hourglass/hourglasslaw12.StoreTrims", spec := "storeTrims", inPlace := ["internal/bytealg.IndexByteString", "slices.overlaps[hourglass/chain.Version]", "internal/bytealg.Compare"], unfollowed := true, recurses := true, plainKeys := false, apart := false, narrowed := true }
def StoreTrimsUptoSaid : Prop := storeTrimsUptoRow.holds Try.pinned (OpenSpec.upto storeTrimsSpec)

/-- 'hourglasslaw12.StoreKnown', WHERE WHAT IT READS IS OF BULK AT MOST 1048576: true; the input reads as it did. -/
def storeKnownUptoRow : OpenClaim := { program := "ytlnclcpffepfaaa", sum := "45783c28ffdadc2d970a12bb8404bad679ca732d328b73bd5b413fdc4a8fcee2", func := "hourglass/hourglasslaw12.StoreKnown", spec := "storeKnown", inPlace := ["internal/bytealg.IndexByteString", "slices.overlaps[hourglass/chain.Version]", "internal/bytealg.Compare"], unfollowed := true, recurses := true, plainKeys := false, apart := false, narrowed := true }
def StoreKnownUptoSaid : Prop := storeKnownUptoRow.holds Try.pinned (OpenSpec.upto storeKnownSpec)

/-- 'hourglasslaw12.StorePlays', WHERE WHAT IT READS IS OF BULK AT MOST 1048576: true; the input reads as it did. -/
def storePlaysUptoRow : OpenClaim := { program := "ytlnclcpffepfaaa", sum := "45783c28ffdadc2d970a12bb8404bad679ca732d328b73bd5b413fdc4a8fcee2", func := "hourglass/hourglasslaw12.StorePlays", spec := "storePlays", inPlace := ["internal/bytealg.IndexByteString", "slices.overlaps[hourglass/chain.Version]", "internal/bytealg.Compare"], unfollowed := true, recurses := true, plainKeys := false, apart := false, narrowed := true }
def StorePlaysUptoSaid : Prop := storePlaysUptoRow.holds Try.pinned (OpenSpec.upto storePlaysSpec)

end Rows
end Go.Proofs.Ytlnclcpffepfaaa
