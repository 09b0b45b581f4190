/-
  No cell of these rows narrows 'for every input' (looked for: loops, veiled, ifaces, maps, wideKeys, modest, calm, conditions, laid).
  DERIVED. THE GIVEN ROWS OF THIS SEAT. 8 by the template 'for every input the law returns true; each argument reads behind the call as it read before'; 0 by the template 'total and deterministic' (their statements: YthbiajoionockaaTotals.lean).
  GIVEN WITH THE SEED: the statements are not yours to turn. If you find one false, say at which input.
  Laid BY PROGRAM, IN A SANDBOX (cutbox-rows.mjs): the forced cells as the released guide's own fill.sh prints them over the translation afa8a66c526ab156… (all of the seat's roots in one cut). By AI agents, Wed Nov 11 2026. No macro, syntax, notation, axiom, sorry.
-/
import Derived.Test.YthbiajoionockaaChecked
import GoSem.Claim
import GoSem.ClaimJoined
import GoSem.ClaimMapViews
import Derived.JoinedTies
import Derived.KernelRfl
namespace Go.Proofs.Ythbiajoionockaa
/- THE CELL 'sum', in the pinned program and in every row, IS THE sha256 OF THE DUMP (.gsa) THAT YthbiajoionockaaProg.lean LOADS. Nothing in Lean hashes anything: it is a label: what it is worth is what the hold of that sum in a sandbox is worth. -/
noncomputable def Try.pinned : Pinned := { name := "ythbiajoionockaa", sum := "afa8a66c526ab156d2e4af5629143446dfd7844bf170094096d84b852830651a", checked := Try.checked }
namespace Rows
def none {H : Type} : Left H := { results := [], args := [] }

/-- 'hourglasslaw17.RouteSplits': WHATEVER THE INPUT: true; the input reads as it did. -/
def routeSplitsSpec : ChangeSpec := { name := "routeSplits", fn := fun _ => fun
  | [d1, d2] => { results := [.lit (.bool true)], args := [d1, d2] }
  | _ => none }
def routeSplitsRow : OpenClaim := { program := "ythbiajoionockaa", sum := "afa8a66c526ab156d2e4af5629143446dfd7844bf170094096d84b852830651a", func := "hourglass/hourglasslaw17.RouteSplits", spec := "routeSplits", inPlace := ["internal/bytealg.IndexByteString", "internal/bytealg.Compare"], apart := false }
def RouteSplitsSaid : Prop := routeSplitsRow.holds Try.pinned (OpenSpec.ofChange routeSplitsSpec)

/-- ITS FALSE NEIGHBOUR: 'it returns false'. Refute it at one input. -/
def routeSplitsWrong : ChangeSpec := { name := "routeSplits", fn := fun _ => fun
  | [d1, d2] => { results := [.lit (.bool false)], args := [d1, d2] }
  | _ => none }
def RouteSplitsWrongFalsely : Prop := routeSplitsRow.holds Try.pinned (OpenSpec.ofChange routeSplitsWrong)

/-- 'hourglasslaw17.RouteWhole': WHATEVER THE INPUT: true; the input reads as it did. -/
def routeWholeSpec : ChangeSpec := { name := "routeWhole", fn := fun _ => fun
  | [d1, d2, d3, d4, d5] => { results := [.lit (.bool true)], args := [d1, d2, d3, d4, d5] }
  | _ => none }
def routeWholeRow : OpenClaim := { program := "ythbiajoionockaa", sum := "afa8a66c526ab156d2e4af5629143446dfd7844bf170094096d84b852830651a", func := "hourglass/hourglasslaw17.RouteWhole", spec := "routeWhole", inPlace := ["internal/bytealg.IndexByteString", "internal/bytealg.Compare"], apart := false }
def RouteWholeSaid : Prop := routeWholeRow.holds Try.pinned (OpenSpec.ofChange routeWholeSpec)

/-- ITS FALSE NEIGHBOUR: 'it returns false'. Refute it at one input. -/
def routeWholeWrong : ChangeSpec := { name := "routeWhole", fn := fun _ => fun
  | [d1, d2, d3, d4, d5] => { results := [.lit (.bool false)], args := [d1, d2, d3, d4, d5] }
  | _ => none }
def RouteWholeWrongFalsely : Prop := routeWholeRow.holds Try.pinned (OpenSpec.ofChange routeWholeWrong)

/-- 'hourglasslaw24.HistKnown': WHATEVER THE INPUT: true; the input reads as it did. -/
def histKnownSpec : ChangeSpec := { name := "histKnown", fn := fun _ => fun
  | [] => { results := [.lit (.bool true)], args := [] }
  | _ => none }
def histKnownRow : OpenClaim := { program := "ythbiajoionockaa", sum := "afa8a66c526ab156d2e4af5629143446dfd7844bf170094096d84b852830651a", func := "hourglass/hourglasslaw24.HistKnown", spec := "histKnown", unfollowed := true, recurses := true, apart := false }
def HistKnownSaid : Prop := histKnownRow.holds Try.pinned (OpenSpec.ofChange histKnownSpec)

/-- ITS FALSE NEIGHBOUR: 'it returns false'. Refute it at one input. -/
def histKnownWrong : ChangeSpec := { name := "histKnown", fn := fun _ => fun
  | [] => { results := [.lit (.bool false)], args := [] }
  | _ => none }
def HistKnownWrongFalsely : Prop := histKnownRow.holds Try.pinned (OpenSpec.ofChange histKnownWrong)

/-- 'hourglasslaw24.HistSays': WHATEVER THE INPUT: true; the input reads as it did. -/
def histSaysSpec : ChangeSpec := { name := "histSays", fn := fun _ => fun
  | [d1, d2, d3] => { results := [.lit (.bool true)], args := [d1, d2, d3] }
  | _ => none }
def histSaysRow : OpenClaim := { program := "ythbiajoionockaa", sum := "afa8a66c526ab156d2e4af5629143446dfd7844bf170094096d84b852830651a", func := "hourglass/hourglasslaw24.HistSays", spec := "histSays", unfollowed := true, recurses := true, apart := false }
def HistSaysSaid : Prop := histSaysRow.holds Try.pinned (OpenSpec.ofChange histSaysSpec)

/-- ITS FALSE NEIGHBOUR: 'it returns false'. Refute it at one input. -/
def histSaysWrong : ChangeSpec := { name := "histSays", fn := fun _ => fun
  | [d1, d2, d3] => { results := [.lit (.bool false)], args := [d1, d2, d3] }
  | _ => none }
def HistSaysWrongFalsely : Prop := histSaysRow.holds Try.pinned (OpenSpec.ofChange histSaysWrong)

/-- 'hourglasslaw24.HistOrder': WHATEVER THE INPUT: true; the input reads as it did. -/
def histOrderSpec : ChangeSpec := { name := "histOrder", fn := fun _ => fun
  | [d] => { results := [.lit (.bool true)], args := [d] }
  | _ => none }
def histOrderRow : OpenClaim := { program := "ythbiajoionockaa", sum := "afa8a66c526ab156d2e4af5629143446dfd7844bf170094096d84b852830651a", func := "hourglass/hourglasslaw24.HistOrder", spec := "histOrder", unfollowed := true, recurses := true, apart := false }
def HistOrderSaid : Prop := histOrderRow.holds Try.pinned (OpenSpec.ofChange histOrderSpec)

/-- ITS FALSE NEIGHBOUR: 'it returns false'. Refute it at one input. -/
def histOrderWrong : ChangeSpec := { name := "histOrder", fn := fun _ => fun
  | [d] => { results := [.lit (.bool false)], args := [d] }
  | _ => none }
def HistOrderWrongFalsely : Prop := histOrderRow.holds Try.pinned (OpenSpec.ofChange histOrderWrong)

/-- 'hourglasslaw24.HistLess': WHATEVER THE INPUT: true; the input reads as it did. -/
def histLessSpec : ChangeSpec := { name := "histLess", fn := fun _ => fun
  | [d1, d2] => { results := [.lit (.bool true)], args := [d1, d2] }
  | _ => none }
def histLessRow : OpenClaim := { program := "ythbiajoionockaa", sum := "afa8a66c526ab156d2e4af5629143446dfd7844bf170094096d84b852830651a", func := "hourglass/hourglasslaw24.HistLess", spec := "histLess", unfollowed := true, recurses := true, apart := false }
def HistLessSaid : Prop := histLessRow.holds Try.pinned (OpenSpec.ofChange histLessSpec)

/-- ITS FALSE NEIGHBOUR: 'it returns false'. Refute it at one input. -/
def histLessWrong : ChangeSpec := { name := "histLess", fn := fun _ => fun
  | [d1, d2] => { results := [.lit (.bool false)], args := [d1, d2] }
  | _ => none }
def HistLessWrongFalsely : Prop := histLessRow.holds Try.pinned (OpenSpec.ofChange histLessWrong)

/-- 'hourglasslaw17.RouteKnown': WHATEVER THE INPUT: true; the input reads as it did. -/
def routeKnownSpec : ChangeSpec := { name := "routeKnown", fn := fun _ => fun
  | [] => { results := [.lit (.bool true)], args := [] }
  | _ => none }
def routeKnownRow : OpenClaim := { program := "ythbiajoionockaa", sum := "afa8a66c526ab156d2e4af5629143446dfd7844bf170094096d84b852830651a", func := "hourglass/hourglasslaw17.RouteKnown", spec := "routeKnown", inPlace := ["internal/bytealg.IndexByteString", "internal/bytealg.Compare"], recurses := true, apart := false }
def RouteKnownSaid : Prop := routeKnownRow.holds Try.pinned (OpenSpec.ofChange routeKnownSpec)

/-- ITS FALSE NEIGHBOUR: 'it returns false'. Refute it at one input. -/
def routeKnownWrong : ChangeSpec := { name := "routeKnown", fn := fun _ => fun
  | [] => { results := [.lit (.bool false)], args := [] }
  | _ => none }
def RouteKnownWrongFalsely : Prop := routeKnownRow.holds Try.pinned (OpenSpec.ofChange routeKnownWrong)

/-- 'hourglasslaw17.RouteSays': WHATEVER THE INPUT: true; the input reads as it did. -/
def routeSaysSpec : ChangeSpec := { name := "routeSays", fn := fun _ => fun
  | [d1, d2, d3, d4, d5] => { results := [.lit (.bool true)], args := [d1, d2, d3, d4, d5] }
  | _ => none }
def routeSaysRow : OpenClaim := { program := "ythbiajoionockaa", sum := "afa8a66c526ab156d2e4af5629143446dfd7844bf170094096d84b852830651a", func := "hourglass/hourglasslaw17.RouteSays", spec := "routeSays", inPlace := ["internal/bytealg.IndexByteString", "internal/bytealg.Compare"], recurses := true, apart := false }
def RouteSaysSaid : Prop := routeSaysRow.holds Try.pinned (OpenSpec.ofChange routeSaysSpec)

/-- ITS FALSE NEIGHBOUR: 'it returns false'. Refute it at one input. -/
def routeSaysWrong : ChangeSpec := { name := "routeSays", fn := fun _ => fun
  | [d1, d2, d3, d4, d5] => { results := [.lit (.bool false)], args := [d1, d2, d3, d4, d5] }
  | _ => none }
def RouteSaysWrongFalsely : Prop := routeSaysRow.holds Try.pinned (OpenSpec.ofChange routeSaysWrong)

/- THE SECOND FORM. 'bulk': how many values and letters a reading holds, each counted each time it is reached (what is shared counts as often as it is met; a slice's spare places count too). A statement '..UptoSaid' is the law's where the arguments, and the package variables that the reading takes, are together of bulk at most 1048576: NARROWER than '..Said'. Prove '..Said' where nothing that the law and all that it calls make is longer than what came in: it says more and counts as full. Else prove '..UptoSaid'. A law counts once. -/
mutual
def uptoBulk {H : Type} : DataW H → Nat
  | .lit (.string bytes) => bytes.length + 1
  | .lit _ => 1
  | .nil => 1
  | .ptr d => uptoBulk d + 1
  | .slice elems spare => uptoBulkAll elems + uptoBulkAll spare + 1
  | .agg parts => uptoBulkAll parts + 1
  | .iface _ d => uptoBulk d + 1
  | .map entries => uptoBulkEntries entries + 1
  | .held _ => 1
def uptoBulkAll {H : Type} : List (DataW H) → Nat
  | [] => 0
  | d :: r => uptoBulk d + uptoBulkAll r
def uptoBulkEntries {H : Type} : List (Lit × DataW H) → Nat
  | [] => 0
  | x :: r => uptoBulkEntry x + uptoBulkEntries r
def uptoBulkEntry {H : Type} : Lit × DataW H → Nat
  | (.string bytes, d) => bytes.length + uptoBulk d + 1
  | (_, d) => uptoBulk d + 1
 end
def uptoSmall : (H : Type) → List (DataW H) → Bool := fun _ ds => decide (uptoBulkAll ds ≤ 1048576)
def OpenSpec.upto (s : _root_.Go.ChangeSpec) : _root_.Go.OpenSpec := { _root_.Go.OpenSpec.ofChange s with cond := some uptoSmall }

/-- 'hourglasslaw17.RouteSplits', WHERE WHAT IT READS IS OF BULK AT MOST 1048576: true; the input reads as it did. -/
def routeSplitsUptoRow : OpenClaim := { program := "ythbiajoionockaa", sum := "afa8a66c526ab156d2e4af5629143446dfd7844bf170094096d84b852830651a", func := "hourglass/hourglasslaw17.RouteSplits", spec := "routeSplits", inPlace := ["internal/bytealg.IndexByteString", "internal/bytealg.Compare"], apart := false, narrowed := true }
def RouteSplitsUptoSaid : Prop := routeSplitsUptoRow.holds Try.pinned (OpenSpec.upto routeSplitsSpec)

/-- 'hourglasslaw17.RouteWhole', WHERE WHAT IT READS IS OF BULK AT MOST 1048576: true; the input reads as it did. -/
def routeWholeUptoRow : OpenClaim := { program := "ythbiajoionockaa", sum := "afa8a66c526ab156d2e4af5629143446dfd7844bf170094096d84b852830651a", func := "hourglass/hourglasslaw17.RouteWhole", spec := "routeWhole", inPlace := ["internal/bytealg.IndexByteString", "internal/bytealg.Compare"], apart := false, narrowed := true }
def RouteWholeUptoSaid : Prop := routeWholeUptoRow.holds Try.pinned (OpenSpec.upto routeWholeSpec)

/-- 'hourglasslaw24.HistKnown', WHERE WHAT IT READS IS OF BULK AT MOST 1048576: true; the input reads as it did. -/
def histKnownUptoRow : OpenClaim := { program := "ythbiajoionockaa", sum := "afa8a66c526ab156d2e4af5629143446dfd7844bf170094096d84b852830651a", func := "hourglass/hourglasslaw24.HistKnown", spec := "histKnown", unfollowed := true, recurses := true, apart := false, narrowed := true }
def HistKnownUptoSaid : Prop := histKnownUptoRow.holds Try.pinned (OpenSpec.upto histKnownSpec)

/-- 'hourglasslaw24.HistSays', WHERE WHAT IT READS IS OF BULK AT MOST 1048576: true; the input reads as it did. -/
def histSaysUptoRow : OpenClaim := { program := "ythbiajoionockaa", sum := "afa8a66c526ab156d2e4af5629143446dfd7844bf170094096d84b852830651a", func := "hourglass/hourglasslaw24.HistSays", spec := "histSays", unfollowed := true, recurses := true, apart := false, narrowed := true }
def HistSaysUptoSaid : Prop := histSaysUptoRow.holds Try.pinned (OpenSpec.upto histSaysSpec)

/-- 'hourglasslaw24.HistOrder', WHERE WHAT IT READS IS OF BULK AT MOST 1048576: true; the input reads as it did. -/
def histOrderUptoRow : OpenClaim := { program := "ythbiajoionockaa", sum := "afa8a66c526ab156d2e4af5629143446dfd7844bf170094096d84b852830651a", func := "hourglass/hourglasslaw24.HistOrder", spec := "histOrder", unfollowed := true, recurses := true, apart := false, narrowed := true }
def HistOrderUptoSaid : Prop := histOrderUptoRow.holds Try.pinned (OpenSpec.upto histOrderSpec)

/-- 'hourglasslaw24.HistLess', WHERE WHAT IT READS IS OF BULK AT MOST 1048576: true; the input reads as it did. -/
def histLessUptoRow : OpenClaim := { program := "ythbiajoionockaa", sum := "afa8a66c526ab156d2e4af5629143446dfd7844bf170094096d84b852830651a", func := "hourglass/hourglasslaw24.HistLess", spec := "histLess", unfollowed := true, recurses := true, apart := false, narrowed := true }
def HistLessUptoSaid : Prop := histLessUptoRow.holds Try.pinned (OpenSpec.upto histLessSpec)

/-- 'hourglasslaw17.RouteKnown', WHERE WHAT IT READS IS OF BULK AT MOST 1048576: true; the input reads as it did. -/
def routeKnownUptoRow : OpenClaim := { program := "ythbiajoionockaa", sum := "afa8a66c526ab156d2e4af5629143446dfd7844bf170094096d84b852830651a", func := "hourglass/hourglasslaw17.RouteKnown", spec := "routeKnown", inPlace := ["internal/bytealg.IndexByteString", "internal/bytealg.Compare"], recurses := true, apart := false, narrowed := true }
def RouteKnownUptoSaid : Prop := routeKnownUptoRow.holds Try.pinned (OpenSpec.upto routeKnownSpec)

/-- 'hourglasslaw17.RouteSays', WHERE WHAT IT READS IS OF BULK AT MOST 1048576: true; the input reads as it did. -/
def routeSaysUptoRow : OpenClaim := { program := "ythbiajoionockaa", sum := "afa8a66c526ab156d2e4af5629143446dfd7844bf170094096d84b852830651a", func := "hourglass/hourglasslaw17.RouteSays", spec := "routeSays", inPlace := ["internal/bytealg.IndexByteString", "internal/bytealg.Compare"], recurses := true, apart := false, narrowed := true }
def RouteSaysUptoSaid : Prop := routeSaysUptoRow.holds Try.pinned (OpenSpec.upto routeSaysSpec)

end Rows
end Go.Proofs.Ythbiajoionockaa
