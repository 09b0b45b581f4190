/-
  No cell of these rows narrows 'for every input' (looked for: loops, veiled, ifaces, maps, wideKeys, modest, calm, conditions, laid).
  DERIVED. THE GIVEN ROWS OF THIS SEAT. 7 by the template 'for every input the law returns true; each argument reads behind the call as it read before'; 0 by the template 'total and deterministic' (their statements: YtokgblddddfhnaaTotals.lean).
  GIVEN WITH THE SEED: the statements are not yours to turn. If you find one false, say at which input.
  Laid BY PROGRAM, IN A SANDBOX (cutbox-rows.mjs): the forced cells as the released guide's own fill.sh prints them over the translation d1f4592511541bae… (all of the seat's roots in one cut). By AI agents, Wed Nov 11 2026. No macro, syntax, notation, axiom, sorry.
-/
import Derived.Test.YtokgblddddfhnaaChecked
import GoSem.Claim
import GoSem.ClaimJoined
import GoSem.ClaimMapViews
import Derived.JoinedTies
import Derived.KernelRfl
namespace Go.Proofs.Ytokgblddddfhnaa
/- THE CELL 'sum', in the pinned program and in every row, IS THE sha256 OF THE DUMP (.gsa) THAT YtokgblddddfhnaaProg.lean LOADS. Nothing in Lean hashes anything: it is a label: what it is worth is what the hold of that sum in a sandbox is worth. -/
noncomputable def Try.pinned : Pinned := { name := "ytokgblddddfhnaa", sum := "d1f4592511541bae220fe5ed36ec9e08e918ae8d4cc6988cb9fecc94bc5967cb", checked := Try.checked }
namespace Rows
def none {H : Type} : Left H := { results := [], args := [] }

/-- 'hourglasslaw14.RecBytes': WHATEVER THE INPUT: true; the input reads as it did. -/
def recBytesSpec : ChangeSpec := { name := "recBytes", fn := fun _ => fun
  | [d1, d2, d3] => { results := [.lit (.bool true)], args := [d1, d2, d3] }
  | _ => none }
def recBytesRow : OpenClaim := { program := "ytokgblddddfhnaa", sum := "d1f4592511541bae220fe5ed36ec9e08e918ae8d4cc6988cb9fecc94bc5967cb", func := "hourglass/hourglasslaw14.RecBytes", spec := "recBytes", inPlace := ["internal/bytealg.IndexByteString"], recurses := true, plainKeys := false, apart := false }
def RecBytesSaid : Prop := recBytesRow.holds Try.pinned (OpenSpec.ofChange recBytesSpec)

/-- ITS FALSE NEIGHBOUR: 'it returns false'. Refute it at one input. -/
def recBytesWrong : ChangeSpec := { name := "recBytes", fn := fun _ => fun
  | [d1, d2, d3] => { results := [.lit (.bool false)], args := [d1, d2, d3] }
  | _ => none }
def RecBytesWrongFalsely : Prop := recBytesRow.holds Try.pinned (OpenSpec.ofChange recBytesWrong)

/-- 'hourglasslaw14.RecBack': WHATEVER THE INPUT: true; the input reads as it did. -/
def recBackSpec : ChangeSpec := { name := "recBack", fn := fun _ => fun
  | [d1, d2, d3, d4] => { results := [.lit (.bool true)], args := [d1, d2, d3, d4] }
  | _ => none }
def recBackRow : OpenClaim := { program := "ytokgblddddfhnaa", sum := "d1f4592511541bae220fe5ed36ec9e08e918ae8d4cc6988cb9fecc94bc5967cb", func := "hourglass/hourglasslaw14.RecBack", spec := "recBack", inPlace := ["internal/bytealg.IndexByteString"], plainKeys := false, apart := false }
def RecBackSaid : Prop := recBackRow.holds Try.pinned (OpenSpec.ofChange recBackSpec)

/-- ITS FALSE NEIGHBOUR: 'it returns false'. Refute it at one input. -/
def recBackWrong : ChangeSpec := { name := "recBack", fn := fun _ => fun
  | [d1, d2, d3, d4] => { results := [.lit (.bool false)], args := [d1, d2, d3, d4] }
  | _ => none }
def RecBackWrongFalsely : Prop := recBackRow.holds Try.pinned (OpenSpec.ofChange recBackWrong)

/-- 'hourglasslaw14.RecKnown': WHATEVER THE INPUT: true; the input reads as it did. -/
def recKnownSpec : ChangeSpec := { name := "recKnown", fn := fun _ => fun
  | [] => { results := [.lit (.bool true)], args := [] }
  | _ => none }
def recKnownRow : OpenClaim := { program := "ytokgblddddfhnaa", sum := "d1f4592511541bae220fe5ed36ec9e08e918ae8d4cc6988cb9fecc94bc5967cb", func := "hourglass/hourglasslaw14.RecKnown", spec := "recKnown", inPlace := ["internal/bytealg.IndexByteString"], plainKeys := false, apart := false }
def RecKnownSaid : Prop := recKnownRow.holds Try.pinned (OpenSpec.ofChange recKnownSpec)

/-- ITS FALSE NEIGHBOUR: 'it returns false'. Refute it at one input. -/
def recKnownWrong : ChangeSpec := { name := "recKnown", fn := fun _ => fun
  | [] => { results := [.lit (.bool false)], args := [] }
  | _ => none }
def RecKnownWrongFalsely : Prop := recKnownRow.holds Try.pinned (OpenSpec.ofChange recKnownWrong)

/-- 'hourglasslaw14.RecWrites': WHATEVER THE INPUT: true; the input reads as it did. -/
def recWritesSpec : ChangeSpec := { name := "recWrites", fn := fun _ => fun
  | [d1, d2] => { results := [.lit (.bool true)], args := [d1, d2] }
  | _ => none }
def recWritesRow : OpenClaim := { program := "ytokgblddddfhnaa", sum := "d1f4592511541bae220fe5ed36ec9e08e918ae8d4cc6988cb9fecc94bc5967cb", func := "hourglass/hourglasslaw14.RecWrites", spec := "recWrites", inPlace := ["internal/bytealg.IndexByteString"], recurses := true, plainKeys := false, apart := false }
def RecWritesSaid : Prop := recWritesRow.holds Try.pinned (OpenSpec.ofChange recWritesSpec)

/-- ITS FALSE NEIGHBOUR: 'it returns false'. Refute it at one input. -/
def recWritesWrong : ChangeSpec := { name := "recWrites", fn := fun _ => fun
  | [d1, d2] => { results := [.lit (.bool false)], args := [d1, d2] }
  | _ => none }
def RecWritesWrongFalsely : Prop := recWritesRow.holds Try.pinned (OpenSpec.ofChange recWritesWrong)

/-- 'hourglasslaw19.MsgKnown': WHATEVER THE INPUT: true; the input reads as it did. -/
def msgKnownSpec : ChangeSpec := { name := "msgKnown", fn := fun _ => fun
  | [] => { results := [.lit (.bool true)], args := [] }
  | _ => none }
def msgKnownRow : OpenClaim := { program := "ytokgblddddfhnaa", sum := "d1f4592511541bae220fe5ed36ec9e08e918ae8d4cc6988cb9fecc94bc5967cb", func := "hourglass/hourglasslaw19.MsgKnown", spec := "msgKnown", inPlace := ["internal/bytealg.IndexByteString", "internal/bytealg.Compare"], plainKeys := false, apart := false }
def MsgKnownSaid : Prop := msgKnownRow.holds Try.pinned (OpenSpec.ofChange msgKnownSpec)

/-- ITS FALSE NEIGHBOUR: 'it returns false'. Refute it at one input. -/
def msgKnownWrong : ChangeSpec := { name := "msgKnown", fn := fun _ => fun
  | [] => { results := [.lit (.bool false)], args := [] }
  | _ => none }
def MsgKnownWrongFalsely : Prop := msgKnownRow.holds Try.pinned (OpenSpec.ofChange msgKnownWrong)

/-- 'hourglasslaw19.MsgBytes': WHATEVER THE INPUT: true; the input reads as it did. -/
def msgBytesSpec : ChangeSpec := { name := "msgBytes", fn := fun _ => fun
  | [d1, d2, d3] => { results := [.lit (.bool true)], args := [d1, d2, d3] }
  | _ => none }
def msgBytesRow : OpenClaim := { program := "ytokgblddddfhnaa", sum := "d1f4592511541bae220fe5ed36ec9e08e918ae8d4cc6988cb9fecc94bc5967cb", func := "hourglass/hourglasslaw19.MsgBytes", spec := "msgBytes", inPlace := ["internal/bytealg.IndexByteString", "internal/bytealg.Compare"], recurses := true, plainKeys := false, apart := false }
def MsgBytesSaid : Prop := msgBytesRow.holds Try.pinned (OpenSpec.ofChange msgBytesSpec)

/-- ITS FALSE NEIGHBOUR: 'it returns false'. Refute it at one input. -/
def msgBytesWrong : ChangeSpec := { name := "msgBytes", fn := fun _ => fun
  | [d1, d2, d3] => { results := [.lit (.bool false)], args := [d1, d2, d3] }
  | _ => none }
def MsgBytesWrongFalsely : Prop := msgBytesRow.holds Try.pinned (OpenSpec.ofChange msgBytesWrong)

/-- 'hourglasslaw19.MsgBack': WHATEVER THE INPUT: true; the input reads as it did. -/
def msgBackSpec : ChangeSpec := { name := "msgBack", fn := fun _ => fun
  | [d1, d2, d3, d4] => { results := [.lit (.bool true)], args := [d1, d2, d3, d4] }
  | _ => none }
def msgBackRow : OpenClaim := { program := "ytokgblddddfhnaa", sum := "d1f4592511541bae220fe5ed36ec9e08e918ae8d4cc6988cb9fecc94bc5967cb", func := "hourglass/hourglasslaw19.MsgBack", spec := "msgBack", inPlace := ["internal/bytealg.IndexByteString", "internal/bytealg.Compare"], plainKeys := false, apart := false }
def MsgBackSaid : Prop := msgBackRow.holds Try.pinned (OpenSpec.ofChange msgBackSpec)

/-- ITS FALSE NEIGHBOUR: 'it returns false'. Refute it at one input. -/
def msgBackWrong : ChangeSpec := { name := "msgBack", fn := fun _ => fun
  | [d1, d2, d3, d4] => { results := [.lit (.bool false)], args := [d1, d2, d3, d4] }
  | _ => none }
def MsgBackWrongFalsely : Prop := msgBackRow.holds Try.pinned (OpenSpec.ofChange msgBackWrong)

/- THE SECOND FORM. 'bulk': how many values and letters a reading holds, each counted each time it is reached (what is shared counts as often as it is met; a slice's spare places count too). A statement '..UptoSaid' is the law's where the arguments, and the package variables that the reading takes, are together of bulk at most 1048576: NARROWER than '..Said'. Prove '..Said' where nothing that the law and all that it calls make is longer than what came in: it says more and counts as full. Else prove '..UptoSaid'. A law counts once. -/
mutual
def uptoBulk {H : Type} : DataW H → Nat
  | .lit (.string bytes) => bytes.length + 1
  | .lit _ => 1
  | .nil => 1
  | .ptr d => uptoBulk d + 1
  | .slice elems spare => uptoBulkAll elems + uptoBulkAll spare + 1
  | .agg parts => uptoBulkAll parts + 1
  | .iface _ d => uptoBulk d + 1
  | .map entries => uptoBulkEntries entries + 1
  | .held _ => 1
def uptoBulkAll {H : Type} : List (DataW H) → Nat
  | [] => 0
  | d :: r => uptoBulk d + uptoBulkAll r
def uptoBulkEntries {H : Type} : List (Lit × DataW H) → Nat
  | [] => 0
  | x :: r => uptoBulkEntry x + uptoBulkEntries r
def uptoBulkEntry {H : Type} : Lit × DataW H → Nat
  | (.string bytes, d) => bytes.length + uptoBulk d + 1
  | (_, d) => uptoBulk d + 1
 end
def uptoSmall : (H : Type) → List (DataW H) → Bool := fun _ ds => decide (uptoBulkAll ds ≤ 1048576)
def OpenSpec.upto (s : _root_.Go.ChangeSpec) : _root_.Go.OpenSpec := { _root_.Go.OpenSpec.ofChange s with cond := some uptoSmall }

/-- 'hourglasslaw14.RecBytes', WHERE WHAT IT READS IS OF BULK AT MOST 1048576: true; the input reads as it did. -/
def recBytesUptoRow : OpenClaim := { program := "ytokgblddddfhnaa", sum := "d1f4592511541bae220fe5ed36ec9e08e918ae8d4cc6988cb9fecc94bc5967cb", func := "hourglass/hourglasslaw14.RecBytes", spec := "recBytes", inPlace := ["internal/bytealg.IndexByteString"], recurses := true, plainKeys := false, apart := false, narrowed := true }
def RecBytesUptoSaid : Prop := recBytesUptoRow.holds Try.pinned (OpenSpec.upto recBytesSpec)

/-- 'hourglasslaw14.RecBack', WHERE WHAT IT READS IS OF BULK AT MOST 1048576: true; the input reads as it did. -/
def recBackUptoRow : OpenClaim := { program := "ytokgblddddfhnaa", sum := "d1f4592511541bae220fe5ed36ec9e08e918ae8d4cc6988cb9fecc94bc5967cb", func := "hourglass/hourglasslaw14.RecBack", spec := "recBack", inPlace := ["internal/bytealg.IndexByteString"], plainKeys := false, apart := false, narrowed := true }
def RecBackUptoSaid : Prop := recBackUptoRow.holds Try.pinned (OpenSpec.upto recBackSpec)

/-- 'hourglasslaw14.RecKnown', WHERE WHAT IT READS IS OF BULK AT MOST 1048576: true; the input reads as it did. -/
def recKnownUptoRow : OpenClaim := { program := "ytokgblddddfhnaa", sum := "d1f4592511541bae220fe5ed36ec9e08e918ae8d4cc6988cb9fecc94bc5967cb", func := "hourglass/hourglasslaw14.RecKnown", spec := "recKnown", inPlace := ["internal/bytealg.IndexByteString"], plainKeys := false, apart := false, narrowed := true }
def RecKnownUptoSaid : Prop := recKnownUptoRow.holds Try.pinned (OpenSpec.upto recKnownSpec)

/-- 'hourglasslaw14.RecWrites', WHERE WHAT IT READS IS OF BULK AT MOST 1048576: true; the input reads as it did. -/
def recWritesUptoRow : OpenClaim := { program := "ytokgblddddfhnaa", sum := "d1f4592511541bae220fe5ed36ec9e08e918ae8d4cc6988cb9fecc94bc5967cb", func := "hourglass/hourglasslaw14.RecWrites", spec := "recWrites", inPlace := ["internal/bytealg.IndexByteString"], recurses := true, plainKeys := false, apart := false, narrowed := true }
def RecWritesUptoSaid : Prop := recWritesUptoRow.holds Try.pinned (OpenSpec.upto recWritesSpec)

/-- 'hourglasslaw19.MsgKnown', WHERE WHAT IT READS IS OF BULK AT MOST 1048576: true; the input reads as it did. -/
def msgKnownUptoRow : OpenClaim := { program := "ytokgblddddfhnaa", sum := "d1f4592511541bae220fe5ed36ec9e08e918ae8d4cc6988cb9fecc94bc5967cb", func := "hourglass/hourglasslaw19.MsgKnown", spec := "msgKnown", inPlace := ["internal/bytealg.IndexByteString", "internal/bytealg.Compare"], plainKeys := false, apart := false, narrowed := true }
def MsgKnownUptoSaid : Prop := msgKnownUptoRow.holds Try.pinned (OpenSpec.upto msgKnownSpec)

/-- 'hourglasslaw19.MsgBytes', WHERE WHAT IT READS IS OF BULK AT MOST 1048576: true; the input reads as it did. -/
def msgBytesUptoRow : OpenClaim := { program := "ytokgblddddfhnaa", sum := "d1f4592511541bae220fe5ed36ec9e08e918ae8d4cc6988cb9fecc94bc5967cb", func := "hourglass/hourglasslaw19.MsgBytes", spec := "msgBytes", inPlace := ["internal/bytealg.IndexByteString", "internal/bytealg.Compare"], recurses := true, plainKeys := false, apart := false, narrowed := true }
def MsgBytesUptoSaid : Prop := msgBytesUptoRow.holds Try.pinned (OpenSpec.upto msgBytesSpec)

/-- 'hourglasslaw19.MsgBack', WHERE WHAT IT READS IS OF BULK AT MOST 1048576: true; the input reads as it did. -/
def msgBackUptoRow : OpenClaim := { program := "ytokgblddddfhnaa", sum := "d1f4592511541bae220fe5ed36ec9e08e918ae8d4cc6988cb9fecc94bc5967cb", func := "hourglass/hourglasslaw19.MsgBack", spec := "msgBack", inPlace := ["internal/bytealg.IndexByteString", "internal/bytealg.Compare"], plainKeys := false, apart := false, narrowed := true }
def MsgBackUptoSaid : Prop := msgBackUptoRow.holds Try.pinned (OpenSpec.upto msgBackSpec)

end Rows
end Go.Proofs.Ytokgblddddfhnaa
