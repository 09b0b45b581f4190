import Derived.Test.YthbiajoionockaaG7
import Derived.Test.YthbiajoionockaaChecked
import Derived.KernelRfl
/-! The configuration of the abstract machine for this program. -/
namespace Go.AM
open Go Go.Proofs
set_option maxRecDepth 100000
def cfgA.heap (f d : Nat) : Bool :=
  match f with
  | 13 => [37].contains d
  | 14 => [11].contains d
  | 35 => [41].contains d
  | 36 => [14].contains d
  | 45 => [3, 4, 5, 7].contains d
  | 62 => [1].contains d
  | _ => false

def cfgA.take (f d : Nat) : Bool :=
  match f with
  | 3 => [22].contains d
  | 6 => [30].contains d
  | 7 => [18, 25, 27].contains d
  | 8 => [52].contains d
  | 9 => [73].contains d
  | 13 => [34].contains d
  | 14 => [29, 35].contains d
  | 19 => [69, 74].contains d
  | 26 => [33].contains d
  | 29 => [59, 70, 74].contains d
  | 34 => [21, 28].contains d
  | 36 => [35, 43].contains d
  | 39 => [9, 23, 27].contains d
  | 40 => [76, 80].contains d
  | 57 => [5].contains d
  | 58 => [9, 60].contains d
  | 61 => [5, 6].contains d
  | 62 => [1].contains d
  | 67 => [5].contains d
  | 69 => [24, 30].contains d
  | 80 => [44].contains d
  | 92 => [7].contains d
  | 93 => [28].contains d
  | _ => false

def cfgA.mask (f b : Nat) : List Bool :=
  match f, b with
  | 3, 0 => [false, true, false, false, false, true, false, true, true, true, false, false, false, false, false, false, false, false, false, false, false, false, false, false, false, false, false, false, false, false, false, false, false, false, false, false, false, false, false, false, false, false, false, false, false, false, false, false, false, false, false, false, false, false, false, false, false, false, false, false, false, false, false, false, false, false, false, false, false, false, false, false, false, false, false, false, false, false, false, false, false, false, false, false, false, false, false, false, false, false, false, false, false, false, false, false, false, false, false, false, false, false, false, false, false, false, false, false, false, false]
  | 3, 2 => [false, false, false, false, false, false, false, true, true, false, false, true, false, false, false, false, false, false, false, false, false, false, false, false, false, false, false, false, false, false, false, false, false, false, false, false, false, false, false, false, false, false, false, false, false, false, false, false, false, false, false, false, false, false, false, false, false, false, false, false, false, false, false, false, false, false, false, false, false, false, false, false, false, false, false, false, false, false, false, false, false, false, false, false, false, false, false, false, false, false, false, false, false, false, false, false, false, false, false, false, false, false, false, false, false, false, false, false, false, false]
  | 4, 0 => [false, false, false, false, false, false, true, false, true, true, false, false, false, true, false, true, true, true, false, false, false, false, false, false, false, false, false, false, false, false, false, false, false, false, false, false, false, false, false, false, false, false, false, false, false, false, false, false, false, false, false, false, false, false, false, false, false, false, false, false, false, false, false, false, false, false, false, false, false, false, false, false, false, false, false, false, false, false, false, false, false, false, false, false, false, false, false, false, false, false, false, false, false, false, false, false, false, false, false, false, false, false, false, false, false, false, false, false, false]
  | 7, 0 => [true, false, false, true, true, false, false, false, false, false, false, false, false, false, false, false, false, false, false, false, false, false, false, false, false, false, false, false, false, false, false, false, false, false, false, false, false, false, false, false, false, false, false, false]
  | 10, 0 => [false, false, true, false, false, false, true, false, true, true, false, true, false, true, false, true, true, true, false, false, false, false, false, false, false, false, false, false, false, false, false, false, false, false, false, false, false, false, false, false, false, false, false, false, false, false, false, false, false, false, false, false, false, false, false, false, false, false, false, false, false, false, false, false, false, false, false, false, false, false, false, false, false, false, false, false, false, false, false, false, false, false, false, false, false, false, false, false, false, false, false, false, false, false, false, false, false, false, false, false, false, false, false, false, false, false, false, false, false, false, false, false, false, false, false, false, false]
  | 12, 0 => [true, false, false, true, false, false, false, false, false, false, false, false, false, false, false, false, false, false, false, false]
  | 13, 0 => [true, false, false, false, false, false, true, true, true, false, false, false, false, false, false, false, false, false, false, false, false, false, false, false, false, false, false, false, false, false, false, false, false, false, false, false, false, false]
  | 14, 0 => [true, false, false, false, false, true, false, false, false, false, false, false, true, true, true, false, false, false, false, false, false, false, false, false, false, false, false, false, false, false, false, false, false, false, false, false]
  | 15, 0 => [false, false, false, true, false, true, false, false, false, false, false, false, false, false, true, true, true, false, false, false, false, false, false, false, false, false, false, false]
  | 16, 0 => [false, true, false, true, true, false, false, false, false, false, false, false, false, false, false, false, false]
  | 18, 0 => [false, false, true, true, false, true, false, false, false, false, false, false, false, false, false, false, false, false, false, false, false, false, false, false]
  | 19, 0 => [true, false, false, false, true, true, false, true, true, false, false, false, false, false, false, false, false, false, false, false, false, false, false, false, true, true, false, false, false, false, false, false, false, false, false, false, false, false, false, false, false, false, false, false, false, false, false, false, false, false, false, false, false, false, false, false, false, false, false, false, false, false, false, false, false, false, false, false, false, false, false, false, false, false, false]
  | 25, 0 => [false, false, false, false, true, true, false, false, true, true, true, false, false, false, false, true, true, true, false, false, false, false, false, false, false, false, false, false, false, false, false, false, false, false, false, false, false, false, false, false, false, false, false, false, false, false, false, false, false, false, false, false, false, false, false, false, false, false, false, false, false, false, false]
  | 27, 0 => [true, false, false, true, false, false, false, false, false, false, false, false, false, false, false, false, false, false, false, false, false, false, false, false, false, false, false, false, false]
  | 28, 0 => [true, false, true, true, false, false, false, false, false, false, false, false, false, false, false, false, false, false, false, false, false, false, false, false, false, false, false, false, false, false, false, false, false, false, false, false, false, false, false, false, false, false, false, false, false, false, false, false, false, false, false, false, false, false, false, false, false, false, false, false, false, false, false, false, false, false, false, false, false, false, false, false, false, false, false, false, false, false, false, false, false, false, false, false, false, false, false, false, false, false, false, false, false, false, false, false, false, false, false, false, false, false, false, false, false, false, false, false, false, false, false, false, false, false, false, false, false, false, false, false, false, false, false, false, false, false, false, false, false, false, false, false, false, false, false, false, false, false, false, false, false, false, false, false, false, false, false, false, false, false, false, false, false, false, false, false, false, false, false, false, false, false, false, false, false, false, false, false, false, false, false, false, false, false, false, false, false, false, false, false, false, false, false, false, false, false, false, false, false, false, false, false, false, false, false, false, false, false, false, false, false, false]
  | 28, 2 => [true, false, true, false, true, false, false, false, false, false, false, false, false, false, false, false, false, false, false, false, false, false, false, false, false, false, false, false, false, false, false, false, false, false, false, false, false, false, false, false, false, false, false, false, false, false, false, false, false, false, false, false, false, false, false, false, false, false, false, false, false, false, false, false, false, false, false, false, false, false, false, false, false, false, false, false, false, false, false, false, false, false, false, false, false, false, false, false, false, false, false, false, false, false, false, false, false, false, false, false, false, false, false, false, false, false, false, false, false, false, false, false, false, false, false, false, false, false, false, false, false, false, false, false, false, false, false, false, false, false, false, false, false, false, false, false, false, false, false, false, false, false, false, false, false, false, false, false, false, false, false, false, false, false, false, false, false, false, false, false, false, false, false, false, false, false, false, false, false, false, false, false, false, false, false, false, false, false, false, false, false, false, false, false, false, false, false, false, false, false, false, false, false, false, false, false, false, false, false, false, false, false]
  | 28, 4 => [true, false, true, false, true, true, false, false, false, false, false, false, false, false, false, false, false, false, false, false, false, false, false, false, false, false, false, false, false, false, false, false, false, false, false, false, false, false, false, false, false, false, false, false, false, false, false, false, false, false, false, false, false, false, false, false, false, false, false, false, false, false, false, false, false, false, false, false, false, false, false, false, false, false, false, false, false, false, false, false, false, false, false, false, false, false, false, false, false, false, false, false, false, false, false, false, false, false, false, false, false, false, false, false, false, false, false, false, false, false, false, false, false, false, false, false, false, false, false, false, false, false, false, false, false, false, false, false, false, false, false, false, false, false, false, false, false, false, false, false, false, false, false, false, false, false, false, false, false, false, false, false, false, false, false, false, false, false, false, false, false, false, false, false, false, false, false, false, false, false, false, false, false, false, false, false, false, false, false, false, false, false, false, false, false, false, false, false, false, false, false, false, false, false, false, false, false, false, false, false, false, false]
  | 28, 6 => [true, false, true, false, true, true, true, false, false, false, false, false, false, false, false, false, false, false, false, false, false, false, false, false, false, false, false, false, false, false, false, false, false, false, false, false, false, false, false, false, false, false, false, false, false, false, false, false, false, false, false, false, false, false, false, false, false, false, false, false, false, false, false, false, false, false, false, false, false, false, false, false, false, false, false, false, false, false, false, false, false, false, false, false, false, false, false, false, false, false, false, false, false, false, false, false, false, false, false, false, false, false, false, false, false, false, false, false, false, false, false, false, false, false, false, false, false, false, false, false, false, false, false, false, false, false, false, false, false, false, false, false, false, false, false, false, false, false, false, false, false, false, false, false, false, false, false, false, false, false, false, false, false, false, false, false, false, false, false, false, false, false, false, false, false, false, false, false, false, false, false, false, false, false, false, false, false, false, false, false, false, false, false, false, false, false, false, false, false, false, false, false, false, false, false, false, false, false, false, false, false, false]
  | 28, 8 => [true, false, true, false, false, false, false, false, false, true, false, false, false, false, false, false, false, false, false, false, false, false, false, false, false, false, false, false, false, false, false, false, false, false, false, false, false, false, false, false, false, false, false, false, false, false, false, false, false, false, false, false, false, false, false, false, false, false, false, false, false, false, false, false, false, false, false, false, false, false, false, false, false, false, false, false, false, false, false, false, false, false, false, false, false, false, false, false, false, false, false, false, false, false, false, false, false, false, false, false, false, false, false, false, false, false, false, false, false, false, false, false, false, false, false, false, false, false, false, false, false, false, false, false, false, false, false, false, false, false, false, false, false, false, false, false, false, false, false, false, false, false, false, false, false, false, false, false, false, false, false, false, false, false, false, false, false, false, false, false, false, false, false, false, false, false, false, false, false, false, false, false, false, false, false, false, false, false, false, false, false, false, false, false, false, false, false, false, false, false, false, false, false, false, false, false, false, false, false, false, false, false]
  | 28, 10 => [true, false, true, false, false, false, false, false, false, true, true, false, false, false, false, false, false, false, false, false, false, false, false, false, false, false, false, false, false, false, false, false, false, false, false, false, false, false, false, false, false, false, false, false, false, false, false, false, false, false, false, false, false, false, false, false, false, false, false, false, false, false, false, false, false, false, false, false, false, false, false, false, false, false, false, false, false, false, false, false, false, false, false, false, false, false, false, false, false, false, false, false, false, false, false, false, false, false, false, false, false, false, false, false, false, false, false, false, false, false, false, false, false, false, false, false, false, false, false, false, false, false, false, false, false, false, false, false, false, false, false, false, false, false, false, false, false, false, false, false, false, false, false, false, false, false, false, false, false, false, false, false, false, false, false, false, false, false, false, false, false, false, false, false, false, false, false, false, false, false, false, false, false, false, false, false, false, false, false, false, false, false, false, false, false, false, false, false, false, false, false, false, false, false, false, false, false, false, false, false, false, false]
  | 29, 0 => [true, false, false, true, true, false, false, false, false, false, false, false, false, false, false, false, false, false, false, false, false, false, false, false, false, false, false, false, false, false, false, false, false, false, false, false, false, false, false, false, false, false, false, false, false, false, false, false, false, false, false, false, false, false, false, false, false, false, false, false, false, false, false, false, false, false, false, false, false, false, false, false, false, false, false]
  | 29, 2 => [true, false, false, true, true, true, true, false, false, false, false, false, false, false, false, false, false, false, false, false, false, false, false, false, false, false, false, false, false, false, false, false, false, false, false, false, false, false, false, false, false, false, false, false, false, false, false, false, false, false, false, false, false, false, false, false, false, false, false, false, false, false, false, false, false, false, false, false, false, false, false, false, false, false, false]
  | 30, 0 => [true, false, false, false, true, true, false, false, true, true, true, true, false, false, false, false, false, false, false, false, false, false, false, false, false, false, false, false, false, false, false, false, false, false, false, false, false, false, false, false, false, false, false, false, false, false, false, false, false, false, false, false, false, false, false, false, false, false, false, false, false, false, false, false, false, false, false, false, false, false, false, false, false, false, false, false, false, false, false]
  | 33, 0 => [true, true, false, false, false, true, false, false, false, false, false, false, false, false, false, false, false, false, false, false, false, false, false, false, false, false]
  | 34, 0 => [true, false, false, false, false, true, false, false, false, true, true, true, false, false, false, false, false, false, false, false, false, false, false, false, false, false, false, false, false, false]
  | 35, 0 => [true, false, false, false, true, false, false, false, false, false, false, false, false, false, false, false, false, false, false, false, false, false, false, false, false, false, false, false, false, false, false, false, false, false, false, false, false, false, false, false, false, false]
  | 36, 0 => [true, true, false, false, false, true, true, false, false, false, false, false, false, false, false, false, false, false, false, false, false, false, false, false, false, false, false, false, false, false, false, false, false, false, false, false, false, false, false, false, false, false, false, false]
  | 37, 0 => [true, true, false, false, false, true, false, false, false, false, false, false, false, false, false, false, false, false, false, false, false, false, false, false, false, false]
  | 38, 0 => [true, false, false, true, false, true, false, false, false, false, false, false, false, false, false, false, false, false, false, false, false, false, false, false, false, false, false, false, false, false, false]
  | 39, 0 => [false, false, false, false, false, true, true, true, false, false, false, false, false, false, false, false, false, false, false, false, false, false, false, false, false, false, false, false]
  | 40, 0 => [true, false, false, false, true, true, false, true, true, true, false, false, false, false, false, false, false, false, false, false, false, false, false, false, false, false, false, false, false, false, false, false, false, false, false, false, false, false, false, false, false, false, false, false, false, false, false, false, false, false, false, false, false, false, false, false, false, false, false, false, false, false, false, false, false, false, false, false, false, false, false, false, false, false, false, false, false, false, false, false, false]
  | 44, 0 => [true, false, true, false, true, true, false, false, false, false, false, false, false, false, false, false, false, false, false, false, false, false, false, false, false, false, false, false, false, false, false, false, false]
  | 45, 0 => [false, false, false, true, true, true, false, false, false, false, false, false, false, false, false, false, false, false, false]
  | 47, 0 => [false, false, true, false, false, false, true, true, true, false, false, false, false, false, false, false, false, false, false, false, false, false, false, false, false, false, false]
  | 48, 0 => [true, true, true, false, false, false, true, false, false, false, false, true, true, true, false, false, false, false, false, false, false, false, false, false, false, false, false, false, false, false, false, false, false, false, false, false, false, false, false, false, false, false, false, false, false, false, false, false, false, false]
  | 48, 2 => [true, true, true, false, false, false, true, false, true, true, true, true, true, true, false, false, false, false, false, false, false, false, false, false, false, false, false, false, false, false, false, false, false, false, false, false, false, false, false, false, false, false, false, false, false, false, false, false, false, false]
  | 53, 0 => [true, false, true, false, false, false, false, false, false, false, false, false, true, true, true, false, false, false, false, false, false, false, false, false, false, false, false, false, false, false, false, false, false, false, false, false, false, false, false, false, false, false, false, false, false, false, false, false, false, false, false, false, false, false, false, false, false, false]
  | 53, 2 => [true, false, true, false, true, true, false, false, false, false, false, false, true, true, true, false, false, false, false, false, true, true, true, false, false, false, false, false, false, false, false, false, false, false, false, false, false, false, false, false, false, false, false, false, false, false, false, false, false, false, false, false, false, false, false, false, false, false]
  | 55, 0 => [true, true, false, false, false, true, false, false, false, false, false, false, false, false, false, false, false, false, false, false, false, false, false, false, false]
  | 56, 0 => [true, false, false, true, true, false, true, false, false, false, false, false, false, false, false, false, false, false, false, false, false, false, false, false, false, false]
  | 58, 0 => [true, false, false, true, false, false, false, false, false, false, false, false, false, false, false, false, false, false, false, false, false, false, false, false, false, false, false, false, false, false, false, false, false, false, false, false, false, false, false, false, false, false, false, false, false, false, false, false, false, false, false, false, false, false, false, false, false, false, false, false, false]
  | 58, 2 => [true, false, false, true, true, true, false, false, false, false, false, false, false, false, false, false, false, false, false, false, false, false, false, false, false, false, false, false, false, false, false, false, false, false, false, false, false, false, false, false, false, false, false, false, false, false, false, false, false, false, false, false, false, false, false, false, false, false, false, false, false]
  | 60, 0 => [false, true, false, true, false, false, false, false, false, false, false, false, false, false, false, false, false]
  | 63, 0 => [false, false, false, true, false, false, true, true, true, false, false, false, false, false, false, false, false, false]
  | 69, 0 => [true, true, true, true, false, false, false, false, true, true, false, false, false, false, false, false, false, false, false, false, false, false, false, false, false, false, false, false, false, false, false, false, false, false, false, false, false, false, false, false, false, false, false, false, false, false, false, false, false, false, false, false, false, false, false, false, false, false, false, false, false, false, false, false, false, false, false, false, false, false, false, false, false, false, false, false, false, false, false, false, false, false, false, false, false, false, false, false, false, false, false, false, false, false, false, false, false, false, false, false, false, false, false, false, false, false, false, false, false, false, false, false, false, false, false, false, false, false, false, false, false, false, false, false, false, false, false, false, false, false, false, false, false, false]
  | 73, 0 => [true, true, false, true, false, false, false, false, false, false, false, false, false, false, false, false, false, false, false]
  | 76, 0 => [true, true, false, false, false, false, false, true, true, false, false, false, false, false, false, false, false, false, false]
  | 77, 0 => [true, true, true, false, false, false, true, false, false, false, false, false, false, false, false, false, false, false, false, false, false, false, false, false, false, false, false, false, false, false, false, false, false, false, false, false, false, false, false, false, false, false, false, false, false, false, false, false, false]
  | 77, 2 => [true, true, true, false, false, false, true, true, false, false, false, false, false, false, false, false, false, false, false, false, false, false, false, false, false, false, false, false, false, false, false, false, false, false, false, false, false, false, false, false, false, false, false, false, false, false, false, false, false]
  | 78, 0 => [true, false, false, false, false, false, true, true, true, true, false, false, false, false, false, false, false, false, false, false, false, false, false, false, false, false, false, false, false, false, false, false, false, false, false, false, false, false, false, false, false, false, false, false, false, false, false, false, false, false, false, false, false, false, false, false]
  | 78, 2 => [true, false, false, false, false, false, true, true, false, false, true, false, false, false, false, false, false, false, false, false, false, false, false, false, false, false, false, false, false, false, false, false, false, false, false, false, false, false, false, false, false, false, false, false, false, false, false, false, false, false, false, false, false, false, false, false]
  | 79, 0 => [true, true, false, false, false, false, true, true, true, true, false, false, false, false, false, false, false, false, false, false, false, false, false, false, false, false, false, false, false, false, false, false, false, false, false, false, false, false, false, false, false, false, false, false, false, false, false, false, false, false, false, false, false, false, false, false, false, false, false, false, false, false, false, false, false]
  | 81, 0 => [true, false, false, false, false, false, true, true, false, false, false, false, false, false, false, false, false, false, false, false, false, false, false, false, false, false, false, false, false, false, false, false]
  | 82, 0 => [true, true, true, false, false, false, false, true, true, false, false, false, false, false, false, false, false, false, false, false, false, false, false, false, false, false, false, false, false, false, false, false, false, false, false, false, false, false, false, false, false, false, false, false, false, false, false, false, false, false, false, false, false, false, false, false, false, false, false, false, false, false, false, false, false, false, false, false, false, false, false, false, false, false, false, false, false, false, false, false, false, false, false, false, false, false, false, false, false, false, false, false, false, false, false, false, false, false, false, false, false, false, false, false, false, false, false, false, false, false, false, false, false, false, false, false, false, false, false, false, false, false, false, false, false, false, false, false, false, false, false, false, false]
  | 82, 2 => [true, true, true, false, false, false, false, true, true, false, false, false, false, false, false, false, false, false, false, false, false, false, false, false, false, false, false, false, false, false, false, false, false, false, false, false, false, false, false, false, false, false, false, false, false, false, false, false, false, false, false, false, false, false, false, false, false, false, false, false, false, false, false, false, false, false, false, false, false, false, false, false, false, false, false, false, false, false, false, false, false, false, false, false, false, false, false, false, false, false, false, false, false, false, false, false, false, false, false, false, false, false, false, false, false, false, false, false, false, false, false, false, false, false, false, false, false, false, false, false, false, false, false, false, false, false, false, false, false, false, false, false, false]
  | 82, 4 => [true, true, true, false, false, false, false, true, true, true, false, false, false, false, false, false, false, false, false, false, false, false, false, false, false, false, false, false, false, false, false, false, false, false, false, false, false, false, false, false, false, false, false, false, false, false, false, false, false, false, false, false, false, false, false, false, false, false, false, false, false, false, false, false, false, false, false, false, false, false, false, false, false, false, false, false, false, false, false, false, false, false, false, false, false, false, false, false, false, false, false, false, false, false, false, false, false, false, false, false, false, false, false, false, false, false, false, false, false, false, false, false, false, false, false, false, false, false, false, false, false, false, false, false, false, false, false, false, false, false, false, false, false]
  | 82, 6 => [true, true, true, false, false, false, false, true, true, false, true, false, false, false, false, false, false, false, false, false, false, false, false, false, false, false, false, false, false, false, false, false, false, false, false, false, false, false, false, false, false, false, false, false, false, false, false, false, false, false, false, false, false, false, false, false, false, false, false, false, false, false, false, false, false, false, false, false, false, false, false, false, false, false, false, false, false, false, false, false, false, false, false, false, false, false, false, false, false, false, false, false, false, false, false, false, false, false, false, false, false, false, false, false, false, false, false, false, false, false, false, false, false, false, false, false, false, false, false, false, false, false, false, false, false, false, false, false, false, false, false, false, false]
  | 84, 0 => [true, true, false, false, false, false, false, false, false, true, true, false, false, false, false, false, false, false, false, false, false, false, false, false, false, false, false, false, false, false, false, false, false, false, false, false, false, false, false, false, false, false, false, false, false, false, false, false, false, false, false, false, false, false, false, false, false, false, false, false, false, false, false, false, false, false, false, false, false, false, false, false, false, false, false, false, false, false, false, false, false, false, false, false]
  | 84, 2 => [true, true, false, false, false, false, false, false, false, true, true, false, false, false, false, false, false, false, false, false, false, false, false, false, false, false, false, false, false, false, false, false, false, false, false, false, false, false, false, false, false, false, false, false, false, false, false, false, false, false, false, false, false, false, false, false, false, false, false, false, false, false, false, false, false, false, false, false, false, false, false, false, false, false, false, false, false, false, false, false, false, false, false, false]
  | 84, 4 => [true, true, false, false, false, false, false, false, false, true, true, false, false, false, false, false, false, false, false, false, false, false, false, false, false, false, false, false, false, false, false, false, false, false, false, false, false, false, false, false, false, false, false, false, false, false, false, false, false, false, false, false, false, false, false, false, false, false, false, false, false, false, false, false, false, false, false, false, false, false, false, false, false, false, false, false, false, false, false, false, false, false, false, false]
  | 85, 0 => [true, true, false, false, false, false, false, false, false, false, true, true, false, false, false, false, false, false, false, false, false, false, false, false, false, false, false, false, false, false, false, false, false, false, false, false, false, false, false, false, false, false, false, false, false, false, false, false, false, false, false, false, false, false, false, false, false, false, false, false, false, false, false, false, false, false, false, false, false, false, false, false, false, false, false, false, false, false, false, false, false, false, false, false, false, false, false, false, false, false, false, false, false, false, false, false, false, false, false, false, false, false, false, false, false, false, false, false, false, false, false, false, false, false, false, false, false, false, false, false, false, false, false, false, false, false, false, false, false, false, false, false, false, false, false, false, false, false, false, false, false, false, false, false, false, false, false, false, false, false, false, false, false, false, false, false, false, false, false, false, false, false, false, false, false, false, false, false]
  | 85, 2 => [true, true, false, false, false, false, false, false, false, false, true, true, false, false, false, false, false, false, false, false, false, false, false, false, false, false, false, false, false, false, false, false, false, false, false, false, false, false, false, false, false, false, false, false, false, false, false, false, false, false, false, false, false, false, false, false, false, false, false, false, false, false, false, false, false, false, false, false, false, false, false, false, false, false, false, false, false, false, false, false, false, false, false, false, false, false, false, false, false, false, false, false, false, false, false, false, false, false, false, false, false, false, false, false, false, false, false, false, false, false, false, false, false, false, false, false, false, false, false, false, false, false, false, false, false, false, false, false, false, false, false, false, false, false, false, false, false, false, false, false, false, false, false, false, false, false, false, false, false, false, false, false, false, false, false, false, false, false, false, false, false, false, false, false, false, false, false, false]
  | 85, 4 => [true, true, false, false, false, false, false, false, false, false, true, true, false, false, false, false, false, false, false, false, false, false, false, false, false, false, false, false, false, false, false, false, false, false, false, false, false, false, false, false, false, false, false, false, false, false, false, false, false, false, false, false, false, false, false, false, false, false, false, false, false, false, false, false, false, false, false, false, false, false, false, false, false, false, false, false, false, false, false, false, false, false, false, false, false, false, false, false, false, false, false, false, false, false, false, false, false, false, false, false, false, false, false, false, false, false, false, false, false, false, false, false, false, false, false, false, false, false, false, false, false, false, false, false, false, false, false, false, false, false, false, false, false, false, false, false, false, false, false, false, false, false, false, false, false, false, false, false, false, false, false, false, false, false, false, false, false, false, false, false, false, false, false, false, false, false, false, false]
  | 85, 6 => [true, true, false, false, false, false, false, false, false, false, true, true, false, false, false, false, false, false, false, false, false, false, false, false, false, false, false, false, false, false, false, false, false, false, false, false, false, false, false, false, false, false, false, false, false, false, false, false, false, false, false, false, false, false, false, false, false, false, false, false, false, false, false, false, false, false, false, false, false, false, false, false, false, false, false, false, false, false, false, false, false, false, false, false, false, false, false, false, false, false, false, false, false, false, false, false, false, false, false, false, false, false, false, false, false, false, false, false, false, false, false, false, false, false, false, false, false, false, false, false, false, false, false, false, false, false, false, false, false, false, false, false, false, false, false, false, false, false, false, false, false, false, false, false, false, false, false, false, false, false, false, false, false, false, false, false, false, false, false, false, false, false, false, false, false, false, false, false]
  | 85, 8 => [true, true, false, false, false, false, false, false, false, false, true, true, false, false, false, false, false, false, false, false, false, false, false, false, false, false, false, false, false, false, false, false, false, false, false, false, false, false, false, false, false, false, false, false, false, false, false, false, false, false, false, false, false, false, false, false, false, false, false, false, false, false, false, false, false, false, false, false, false, false, false, false, false, false, false, false, false, false, false, false, false, false, false, false, false, false, false, false, false, false, false, false, false, false, false, false, false, false, false, false, false, false, false, false, false, false, false, false, false, false, false, false, false, false, false, false, false, false, false, false, false, false, false, false, false, false, false, false, false, false, false, false, false, false, false, false, false, false, false, false, false, false, false, false, false, false, false, false, false, false, false, false, false, false, false, false, false, false, false, false, false, false, false, false, false, false, false, false]
  | 89, 0 => [true, false, true, true, false, false, false, false, true, false, false, false, false, false, false, false, false, false, false, false, false, false, false, false, false, false, false, false, false, false, false, false, false, false, false, false, false, false, false, false, false, false, false, false, false, false, false, false, false, false, false, false, false, false, false, false, false, false, false, false, false, false, false, false, false, false, false, false, false, false, false, false, false, false, false, false]
  | _, _ => []

def cfgA.plan (f k : Nat) : List Nat :=
  match f, k with
  | 3, 17 => [0, 1, 2, 3, 4, 5, 6, 7, 8, 9, 10, 11, 12, 13, 14, 15, 16, 17, 18, 19, 20, 21, 22, 23, 24, 25, 26, 27, 28, 29, 30, 31, 32]
  | 3, 23 => [0, 1, 2, 3, 4, 5, 6, 7, 8, 9]
  | 4, 6 => [0, 1, 3, 4, 2, 5, 6, 7]
  | 4, 15 => [0, 1, 2, 3, 4, 5, 6, 7, 8, 9, 10, 11, 12, 13, 14]
  | 5, 9 => [0, 1, 2, 3, 4, 5, 6, 7, 8, 9, 10]
  | 6, 8 => [2, 3, 0, 1, 4, 5, 6, 7, 8, 9]
  | 8, 5 => [0, 1, 2, 3, 5, 6, 7, 8, 4, 9, 10]
  | 9, 11 => [0, 1, 2, 3, 4, 5, 6, 7, 8, 9, 10, 11, 12, 13, 14, 15, 16, 17, 18, 19, 20, 21, 24, 22, 23, 25, 26, 27, 28, 29, 30, 31, 32, 33, 34, 35, 36, 37, 38, 39, 40, 41, 42, 43, 44, 45, 46, 47, 48, 49, 50, 51, 52, 53, 54, 55, 56, 57, 61, 58, 59, 60, 62, 63, 64, 65, 69, 66, 67, 68, 70, 71, 72, 73, 75, 77, 74, 76, 78, 79, 80, 81, 82, 83, 84, 85, 86, 87, 88, 89, 90, 91, 93, 92, 94, 95, 96]
  | 10, 15 => [0, 1, 2, 3, 4, 5, 6, 7, 8, 9]
  | 10, 17 => [0, 1, 3, 4, 2, 5, 6, 7, 8, 9, 11, 12, 10, 13, 14, 15, 16, 17, 18, 19, 21, 22, 23, 20, 24, 25, 26, 27]
  | 13, 4 => [0, 1, 2, 3, 4, 5, 6, 7, 8, 9, 10, 11, 12, 13, 14, 15, 16]
  | 14, 7 => [0, 1, 2, 3, 4, 6, 7, 5, 8, 9, 10]
  | 18, 4 => [0, 1, 2, 3, 4, 5, 6]
  | 18, 6 => [0, 1, 2, 3, 4, 5, 6]
  | 19, 8 => [0, 1, 2, 3, 4, 5, 6, 7, 8, 9, 10, 11, 12, 13, 14, 15, 16, 17, 18, 19]
  | 19, 9 => [0, 1, 2, 3, 4, 5, 6, 7, 8, 9, 10, 11, 12, 13, 14, 15, 16, 17, 18]
  | 25, 9 => [0, 1, 2, 3, 4, 5]
  | 28, 4 => [0, 1, 2, 3, 4, 5, 6, 7, 8, 9, 10, 11, 12, 13, 14, 15, 16, 17, 18, 19, 20, 21, 22, 23, 24, 25, 26, 27]
  | 28, 29 => [0, 1, 2, 3, 4, 5, 6, 7, 8, 9, 10, 11, 12, 13]
  | 29, 5 => [0, 1, 2, 3, 4, 5, 6, 7, 8, 9, 10, 11, 12, 13, 14, 15, 16, 17, 18, 19, 20, 21, 22, 23, 24, 25, 26, 27]
  | 30, 7 => [0, 1, 2, 3, 4, 5, 6, 7, 8, 9, 10, 11, 12, 13, 14, 15, 16, 17, 18, 19, 20, 21, 22, 23, 24, 25, 26, 27, 28, 29, 30, 31, 32]
  | 30, 8 => [0, 1, 2, 3, 4, 5, 6, 7, 8]
  | 33, 6 => [0, 1, 2, 3, 4, 5, 6, 7, 8]
  | 35, 6 => [0, 1, 2, 3, 4, 5, 6, 7, 8, 9, 10, 11, 12, 13, 14, 15, 16, 17, 18, 19, 20, 21, 22]
  | 36, 7 => [0, 1, 2, 3, 4, 6, 7, 8, 9, 10, 5, 11, 12, 13]
  | 37, 6 => [0, 1, 2, 3, 4, 5, 6, 7, 8]
  | 38, 4 => [0, 1, 2, 3, 4, 5, 6, 7, 8, 9, 10, 11, 12, 13, 14, 15, 16, 17, 18]
  | 40, 6 => [0, 1, 2, 3, 4, 5, 6, 7, 8, 9, 10, 11, 12, 13, 14, 15, 16, 17, 18, 19]
  | 40, 7 => [0, 1, 2, 3, 4, 5, 6, 7, 8, 9, 10, 11, 12, 13, 14, 15, 16, 17, 18, 19, 20]
  | 42, 1 => [0, 1, 2, 3]
  | 46, 1 => [0, 1, 2, 3, 5, 6, 7, 8, 4, 9, 10, 11, 12]
  | 48, 7 => [0, 1, 2, 3, 4, 5, 6, 7, 8, 9, 10, 11, 12, 13, 14, 15, 16, 17]
  | 56, 4 => [0, 1, 2, 3, 4, 5, 6]
  | 58, 6 => [0, 1, 2, 3, 4, 5, 6, 7, 8, 9]
  | 58, 11 => [0, 1, 2, 3, 4, 5, 6, 7, 8, 9]
  | 69, 17 => [0, 1, 2, 3, 4, 5, 6, 7, 8, 9, 10, 11, 12, 13, 14]
  | 77, 4 => [0, 1, 2, 3, 4, 5, 6, 7, 8, 9, 10, 11, 12, 13, 14]
  | 77, 6 => [0, 1, 2, 3, 4, 5, 6, 7, 8, 9, 10, 11, 12, 13, 14, 15, 16, 17]
  | 78, 10 => [0, 1, 2, 3, 4, 5, 6, 7, 8, 9, 10, 11, 12, 13, 14, 15, 16, 17, 18, 19]
  | 79, 10 => [0, 1, 2, 3, 4, 5, 6, 7, 8, 9, 10, 11, 12, 13, 14, 15, 16, 17, 18, 19]
  | 81, 3 => [0, 1, 2, 3, 4, 5, 6, 7, 8, 9, 10, 11, 12, 13, 14, 15]
  | 82, 5 => [0, 1, 2, 3, 4, 5, 6, 7, 8, 9, 10, 11, 12, 13, 14, 15]
  | 82, 11 => [0, 1, 2, 3, 4, 5, 6, 7, 8, 9, 10, 11, 12, 13, 14, 15, 16, 17]
  | 82, 16 => [0, 1, 2, 3, 4, 5, 6, 7, 8, 9, 10]
  | 82, 17 => [0, 1, 2, 3, 4, 5, 6, 7, 8, 9, 10, 11, 12, 13, 14, 15, 16, 17]
  | 82, 22 => [0, 1, 2, 3, 4, 5, 6, 7, 8, 9, 10]
  | 82, 23 => [0, 1, 2, 3, 4, 5, 6, 7, 8, 9, 10, 11, 12, 13, 14, 15, 16, 17]
  | 84, 1 => [0, 1, 2, 3, 4, 5, 6, 7, 8, 9, 10, 11, 12, 13, 14, 15]
  | 84, 3 => [0, 1, 2, 3, 4, 5, 6, 7, 8, 9, 10, 11, 12, 13, 14]
  | 84, 5 => [0, 1, 2, 3, 4, 5, 6, 7, 8, 9, 10, 11, 12, 13]
  | 84, 8 => [0, 1, 2, 3, 4, 5, 6, 7, 8, 9, 10, 11, 12, 13, 14, 15]
  | 85, 1 => [0, 1, 2, 3, 4, 5, 6, 7, 8, 9, 10, 11, 12, 13, 14, 15]
  | 85, 3 => [0, 1, 2, 3, 4, 5, 6, 7, 8, 9, 10, 11, 12, 13]
  | 85, 5 => [0, 1, 2, 3, 4, 5, 6, 7, 8, 9, 10, 11, 12, 13, 14]
  | 85, 8 => [0, 1, 2, 3, 4, 5, 6, 7, 8, 9, 10, 11, 12, 13, 14, 15]
  | 85, 10 => [0, 1, 2, 3, 4, 5, 6, 7, 8, 9, 10, 11, 12, 13, 14, 15]
  | 85, 13 => [0, 1, 2, 3, 4, 5, 6, 7, 8, 9, 10, 11, 12, 13]
  | 85, 15 => [0, 1, 2, 3, 4, 5, 6, 7, 8, 9, 10, 11, 12, 13, 14]
  | 85, 18 => [0, 1, 2, 3, 4, 5, 6, 7, 8, 9, 10, 11, 12, 13, 14, 15]
  | 85, 21 => [0, 1, 2, 3, 4, 5, 6, 7, 8, 9, 10, 11, 12, 13, 14, 15]
  | 89, 3 => [0, 1, 2, 3, 4, 5, 6, 7, 8, 9, 10, 11, 12, 13, 14, 15, 16, 17, 18, 19]
  | 89, 5 => [0, 1, 2, 3, 4, 5, 6, 7, 8, 9, 10, 11, 12, 13]
  | 89, 6 => [0, 1, 2, 3, 4, 5, 6, 7, 8, 9, 10, 11, 12, 13, 14, 15, 16, 17, 18, 19, 20, 21, 22, 23]
  | 91, 1 => [0, 1, 2, 3, 4, 5, 6, 7, 8, 9]
  | 91, 2 => [0, 1, 2, 3, 4, 5, 6, 7, 8, 9]
  | 91, 3 => [0, 1, 2, 3, 4, 5, 6, 7, 8, 9]
  | 96, 1 => [0, 1, 2, 3, 4, 5, 6, 7, 8]
  | _, _ => []

def cfgA.tree (f k : Nat) : PT :=
  match f, k with
  | 3, 17 => .rd 0 (.rd 1 (.rd 2 (.rd 3 (.rd 4 (.rd 5 (.rd 6 (.rd 7 (.rd 8 (.rd 9 (.rd 10 (.rd 11 (.rd 12 (.rd 13 (.rd 14 (.rd 15 (.rd 16 (.rd 17 (.rd 18 (.rd 19 (.rd 20 (.rd 21 (.rd 22 (.rd 23 (.rd 24 (.rd 25 (.rd 26 (.rd 27 (.rd 28 (.rd 29 (.rd 30 (.rd 31 (.rd 32 (.done)))))))))))))))))))))))))))))))))
  | 3, 23 => .rd 0 (.rd 1 (.rd 2 (.rd 3 (.rd 4 (.rd 5 (.rd 6 (.rd 7 (.rd 8 (.rd 9 (.done))))))))))
  | 4, 6 => .rd 0 (.rd 1 (.rd 3 (.rd 4 (.mv 2 (.mv 5 (.mv 6 (.mv 7 (.done) (.stop)) (.stop)) (.stop)) (.stop)))))
  | 4, 15 => .rd 0 (.rd 1 (.rd 2 (.rd 3 (.rd 4 (.rd 5 (.rd 6 (.rd 7 (.rd 8 (.rd 9 (.rd 10 (.rd 11 (.rd 12 (.rd 13 (.rd 14 (.done)))))))))))))))
  | 5, 9 => .rd 0 (.mv 1 (.rd 2 (.mv 3 (.mv 4 (.mv 5 (.rd 6 (.rd 7 (.rd 8 (.mv 9 (.mv 10 (.done) (.stop)) (.stop))))) (.stop)) (.stop)) (.stop))) (.stop))
  | 6, 8 => .rd 2 (.rd 3 (.mv 0 (.mv 1 (.mv 4 (.rd 5 (.rd 6 (.rd 7 (.mv 8 (.mv 9 (.done) (.stop)) (.stop))))) (.stop)) (.stop)) (.stop)))
  | 8, 5 => .rd 0 (.rd 1 (.rd 2 (.rd 3 (.rd 5 (.rd 6 (.rd 7 (.rd 8 (.mv 4 (.mv 9 (.mv 10 (.done) (.stop)) (.stop)) (.stop)))))))))
  | 9, 11 => .rd 0 (.rd 1 (.rd 2 (.rd 3 (.rd 4 (.rd 5 (.rd 6 (.rd 7 (.rd 8 (.rd 9 (.rd 10 (.rd 11 (.rd 12 (.rd 13 (.rd 14 (.rd 15 (.rd 16 (.mv 17 (.rd 18 (.rd 19 (.rd 20 (.rd 21 (.rd 24 (.mv 22 (.mv 23 (.mv 25 (.rd 26 (.rd 27 (.rd 28 (.rd 29 (.rd 30 (.rd 31 (.rd 32 (.rd 33 (.rd 34 (.rd 35 (.rd 36 (.rd 37 (.rd 38 (.rd 39 (.rd 40 (.rd 41 (.rd 42 (.rd 43 (.rd 44 (.rd 45 (.mv 46 (.rd 47 (.rd 48 (.rd 49 (.rd 50 (.rd 51 (.rd 52 (.rd 53 (.rd 54 (.rd 55 (.rd 56 (.rd 57 (.rd 61 (.mv 58 (.mv 59 (.mv 60 (.mv 62 (.rd 63 (.rd 64 (.rd 65 (.rd 69 (.mv 66 (.mv 67 (.mv 68 (.mv 70 (.rd 71 (.rd 72 (.rd 73 (.rd 75 (.rd 77 (.mv 74 (.mv 76 (.mv 78 (.rd 79 (.rd 80 (.rd 81 (.mv 82 (.mv 83 (.mv 84 (.rd 85 (.rd 86 (.rd 87 (.rd 88 (.rd 89 (.rd 90 (.rd 91 (.rd 93 (.mv 92 (.mv 94 (.rd 95 (.mv 96 (.done) (.stop))) (.stop)) (.stop)))))))))) (.stop)) (.stop)) (.stop))))) (.stop)) (.stop)) (.stop))))))) (.stop)) (.stop)) (.stop)) (.stop)))))) (.stop)) (.stop)) (.stop)) (.stop)))))))))))))) (.stop)))))))))))))))))))))) (.stop)) (.stop)) (.stop))))))) (.stop))))))))))))))))))
  | 10, 15 => .rd 0 (.rd 1 (.rd 2 (.rd 3 (.rd 4 (.rd 5 (.rd 6 (.rd 7 (.mv 8 (.rd 9 (.done)) (.stop)))))))))
  | 10, 17 => .rd 0 (.rd 1 (.rd 3 (.rd 4 (.mv 2 (.mv 5 (.rd 6 (.rd 7 (.rd 8 (.rd 9 (.rd 11 (.rd 12 (.mv 10 (.mv 13 (.mv 14 (.rd 15 (.rd 16 (.rd 17 (.rd 18 (.rd 19 (.rd 21 (.rd 22 (.rd 23 (.mv 20 (.mv 24 (.mv 25 (.rd 26 (.mv 27 (.done) (.stop))) (.stop)) (.stop)) (.stop)))))))))) (.stop)) (.stop)) (.stop)))))))) (.stop)) (.stop)))))
  | 13, 4 => .rd 0 (.mv 1 (.rd 2 (.rd 3 (.rd 4 (.rd 5 (.rd 6 (.rd 7 (.rd 8 (.rd 9 (.rd 10 (.rd 11 (.rd 12 (.mv 13 (.rd 14 (.rd 15 (.rd 16 (.done)))) (.stop))))))))))))) (.stop))
  | 14, 7 => .rd 0 (.rd 1 (.rd 2 (.rd 3 (.rd 4 (.rd 6 (.rd 7 (.mv 5 (.mv 8 (.rd 9 (.mv 10 (.done) (.stop))) (.stop)) (.stop))))))))
  | 18, 4 => .rd 0 (.rd 1 (.rd 2 (.rd 3 (.rd 4 (.rd 5 (.rd 6 (.done)))))))
  | 18, 6 => .rd 0 (.rd 1 (.rd 2 (.rd 3 (.rd 4 (.rd 5 (.rd 6 (.done)))))))
  | 19, 8 => .rd 0 (.rd 1 (.rd 2 (.rd 3 (.rd 4 (.rd 5 (.rd 6 (.rd 7 (.rd 8 (.rd 9 (.rd 10 (.rd 11 (.rd 12 (.rd 13 (.rd 14 (.rd 15 (.mv 16 (.rd 17 (.rd 18 (.mv 19 (.done) (.stop)))) (.stop)))))))))))))))))
  | 19, 9 => .rd 0 (.rd 1 (.rd 2 (.rd 3 (.rd 4 (.rd 5 (.rd 6 (.rd 7 (.rd 8 (.rd 9 (.rd 10 (.rd 11 (.rd 12 (.rd 13 (.rd 14 (.mv 15 (.rd 16 (.rd 17 (.mv 18 (.done) (.stop)))) (.stop))))))))))))))))
  | 25, 9 => .rd 0 (.rd 1 (.rd 2 (.mv 3 (.mv 4 (.mv 5 (.done) (.stop)) (.stop)) (.stop))))
  | 28, 4 => .rd 0 (.rd 1 (.rd 2 (.rd 3 (.rd 4 (.rd 5 (.rd 6 (.rd 7 (.rd 8 (.rd 9 (.rd 10 (.rd 11 (.rd 12 (.rd 13 (.rd 14 (.rd 15 (.rd 16 (.rd 17 (.rd 18 (.rd 19 (.rd 20 (.rd 21 (.rd 22 (.rd 23 (.rd 24 (.mv 25 (.rd 26 (.rd 27 (.done))) (.stop))))))))))))))))))))))))))
  | 28, 15 => .rd 0 (.rd 1 (.rd 2 (.rd 3 (.rd 4 (.rd 5 (.rd 6 (.rd 7 (.mv 8 (.mv 9 (.mv 10 (.mv 11 (.done) (.stop)) (.stop)) (.stop)) (.mv 9 (.mv 8 (.mv 10 (.mv 11 (.done) (.stop)) (.stop)) (.stop)) (.stop))))))))))
  | 28, 28 => .rd 0 (.rd 1 (.rd 2 (.rd 3 (.rd 4 (.rd 5 (.rd 6 (.mv 7 (.rd 8 (.rd 9 (.rd 10 (.mv 11 (.mv 12 (.mv 13 (.done) (.stop)) (.stop)) (.stop))))) (.mv 11 (.mv 7 (.rd 8 (.rd 9 (.rd 10 (.mv 12 (.mv 13 (.done) (.stop)) (.stop))))) (.stop)) (.stop)))))))))
  | 28, 29 => .rd 0 (.rd 1 (.rd 2 (.rd 3 (.rd 4 (.rd 5 (.rd 6 (.rd 7 (.mv 8 (.rd 9 (.rd 10 (.rd 11 (.mv 12 (.mv 13 (.done) (.stop)) (.stop))))) (.stop)))))))))
  | 29, 5 => .rd 0 (.rd 1 (.rd 2 (.rd 3 (.rd 4 (.rd 5 (.rd 6 (.rd 7 (.rd 8 (.rd 9 (.rd 10 (.rd 11 (.rd 12 (.rd 13 (.rd 14 (.rd 15 (.rd 16 (.rd 17 (.rd 18 (.rd 19 (.rd 20 (.rd 21 (.rd 22 (.rd 23 (.rd 24 (.rd 25 (.mv 26 (.mv 27 (.done) (.stop)) (.stop)))))))))))))))))))))))))))
  | 30, 6 => .rd 0 (.rd 1 (.rd 2 (.rd 3 (.rd 4 (.rd 5 (.mv 6 (.rd 7 (.rd 8 (.rd 9 (.mv 10 (.mv 11 (.mv 12 (.done) (.stop)) (.stop)) (.stop))))) (.mv 10 (.mv 6 (.rd 7 (.rd 8 (.rd 9 (.mv 11 (.mv 12 (.done) (.stop)) (.stop))))) (.stop)) (.stop))))))))
  | 30, 7 => .rd 0 (.rd 1 (.rd 2 (.rd 3 (.rd 4 (.rd 5 (.rd 6 (.rd 7 (.rd 8 (.rd 9 (.rd 10 (.rd 11 (.rd 12 (.rd 13 (.rd 14 (.rd 15 (.rd 16 (.mv 17 (.rd 18 (.rd 19 (.rd 20 (.rd 21 (.rd 22 (.rd 23 (.rd 24 (.rd 25 (.rd 26 (.rd 27 (.rd 28 (.mv 29 (.rd 30 (.rd 31 (.rd 32 (.done)))) (.stop))))))))))))) (.stop))))))))))))))))))
  | 30, 8 => .rd 0 (.rd 1 (.rd 2 (.rd 3 (.rd 4 (.rd 5 (.mv 6 (.mv 7 (.mv 8 (.done) (.stop)) (.stop)) (.stop)))))))
  | 33, 6 => .rd 0 (.rd 1 (.rd 2 (.rd 3 (.rd 4 (.rd 5 (.rd 6 (.rd 7 (.rd 8 (.done)))))))))
  | 35, 6 => .rd 0 (.rd 1 (.rd 2 (.rd 3 (.mv 4 (.rd 5 (.rd 6 (.rd 7 (.rd 8 (.rd 9 (.rd 10 (.rd 11 (.rd 12 (.rd 13 (.rd 14 (.rd 15 (.rd 16 (.rd 17 (.rd 18 (.mv 19 (.rd 20 (.rd 21 (.rd 22 (.done)))) (.stop)))))))))))))))) (.stop)))))
  | 36, 7 => .rd 0 (.rd 1 (.rd 2 (.rd 3 (.rd 4 (.rd 6 (.rd 7 (.rd 8 (.rd 9 (.rd 10 (.mv 5 (.mv 11 (.rd 12 (.mv 13 (.done) (.stop))) (.stop)) (.stop)))))))))))
  | 37, 6 => .rd 0 (.rd 1 (.rd 2 (.rd 3 (.rd 4 (.rd 5 (.rd 6 (.rd 7 (.rd 8 (.done)))))))))
  | 38, 4 => .rd 0 (.rd 1 (.rd 2 (.rd 3 (.rd 4 (.rd 5 (.rd 6 (.rd 7 (.rd 8 (.rd 9 (.rd 10 (.rd 11 (.rd 12 (.rd 13 (.rd 14 (.rd 15 (.mv 16 (.rd 17 (.rd 18 (.done))) (.stop)))))))))))))))))
  | 40, 6 => .rd 0 (.rd 1 (.rd 2 (.rd 3 (.rd 4 (.rd 5 (.rd 6 (.rd 7 (.rd 8 (.rd 9 (.rd 10 (.rd 11 (.rd 12 (.rd 13 (.rd 14 (.rd 15 (.mv 16 (.rd 17 (.rd 18 (.mv 19 (.done) (.stop)))) (.stop)))))))))))))))))
  | 40, 7 => .rd 0 (.rd 1 (.rd 2 (.rd 3 (.rd 4 (.rd 5 (.rd 6 (.rd 7 (.rd 8 (.rd 9 (.rd 10 (.rd 11 (.rd 12 (.rd 13 (.rd 14 (.rd 15 (.rd 16 (.mv 17 (.rd 18 (.rd 19 (.mv 20 (.done) (.stop)))) (.stop))))))))))))))))))
  | 42, 1 => .rd 0 (.rd 1 (.mv 2 (.mv 3 (.done) (.stop)) (.stop)))
  | 46, 1 => .rd 0 (.rd 1 (.rd 2 (.rd 3 (.rd 5 (.rd 6 (.rd 7 (.rd 8 (.mv 4 (.mv 9 (.rd 10 (.mv 11 (.mv 12 (.done) (.stop)) (.stop))) (.stop)) (.stop)))))))))
  | 48, 7 => .rd 0 (.mv 1 (.rd 2 (.rd 3 (.rd 4 (.rd 5 (.rd 6 (.mv 7 (.rd 8 (.rd 9 (.rd 10 (.rd 11 (.rd 12 (.rd 13 (.rd 14 (.rd 15 (.mv 16 (.rd 17 (.done)) (.stop)))))))))) (.stop))))))) (.stop))
  | 56, 4 => .rd 0 (.rd 1 (.rd 2 (.rd 3 (.rd 4 (.rd 5 (.rd 6 (.done)))))))
  | 58, 6 => .rd 0 (.rd 1 (.rd 2 (.rd 3 (.rd 4 (.rd 5 (.rd 6 (.rd 7 (.rd 8 (.rd 9 (.done))))))))))
  | 58, 11 => .rd 0 (.rd 1 (.rd 2 (.rd 3 (.rd 4 (.rd 5 (.rd 6 (.rd 7 (.rd 8 (.rd 9 (.done))))))))))
  | 69, 17 => .rd 0 (.rd 1 (.rd 2 (.rd 3 (.rd 4 (.rd 5 (.rd 6 (.rd 7 (.rd 8 (.rd 9 (.rd 10 (.rd 11 (.mv 12 (.rd 13 (.rd 14 (.done))) (.stop)))))))))))))
  | 77, 4 => .rd 0 (.rd 1 (.rd 2 (.rd 3 (.rd 4 (.rd 5 (.rd 6 (.rd 7 (.rd 8 (.rd 9 (.rd 10 (.rd 11 (.rd 12 (.mv 13 (.rd 14 (.done)) (.stop))))))))))))))
  | 77, 6 => .rd 0 (.rd 1 (.rd 2 (.rd 3 (.rd 4 (.rd 5 (.rd 6 (.rd 7 (.rd 8 (.rd 9 (.rd 10 (.rd 11 (.rd 12 (.rd 13 (.rd 14 (.mv 15 (.rd 16 (.mv 17 (.done) (.stop))) (.stop))))))))))))))))
  | 78, 10 => .rd 0 (.rd 1 (.rd 2 (.rd 3 (.rd 4 (.rd 5 (.rd 6 (.rd 7 (.rd 8 (.rd 9 (.rd 10 (.rd 11 (.rd 12 (.rd 13 (.rd 14 (.rd 15 (.rd 16 (.mv 17 (.rd 18 (.mv 19 (.done) (.stop))) (.stop))))))))))))))))))
  | 79, 10 => .rd 0 (.rd 1 (.rd 2 (.rd 3 (.rd 4 (.rd 5 (.rd 6 (.rd 7 (.rd 8 (.rd 9 (.rd 10 (.rd 11 (.rd 12 (.rd 13 (.rd 14 (.rd 15 (.rd 16 (.mv 17 (.rd 18 (.mv 19 (.done) (.stop))) (.stop))))))))))))))))))
  | 81, 3 => .rd 0 (.rd 1 (.rd 2 (.rd 3 (.rd 4 (.rd 5 (.rd 6 (.rd 7 (.rd 8 (.rd 9 (.rd 10 (.rd 11 (.rd 12 (.mv 13 (.rd 14 (.mv 15 (.done) (.stop))) (.stop))))))))))))))
  | 82, 5 => .rd 0 (.rd 1 (.rd 2 (.rd 3 (.rd 4 (.rd 5 (.rd 6 (.rd 7 (.rd 8 (.rd 9 (.rd 10 (.rd 11 (.rd 12 (.mv 13 (.rd 14 (.rd 15 (.done))) (.stop))))))))))))))
  | 82, 11 => .rd 0 (.rd 1 (.rd 2 (.rd 3 (.rd 4 (.rd 5 (.rd 6 (.rd 7 (.rd 8 (.rd 9 (.rd 10 (.rd 11 (.rd 12 (.rd 13 (.rd 14 (.mv 15 (.rd 16 (.mv 17 (.done) (.stop))) (.stop))))))))))))))))
  | 82, 16 => .rd 0 (.rd 1 (.rd 2 (.rd 3 (.rd 4 (.rd 5 (.rd 6 (.rd 7 (.rd 8 (.mv 9 (.rd 10 (.done)) (.stop))))))))))
  | 82, 17 => .rd 0 (.rd 1 (.rd 2 (.rd 3 (.rd 4 (.rd 5 (.rd 6 (.rd 7 (.rd 8 (.rd 9 (.rd 10 (.rd 11 (.rd 12 (.rd 13 (.rd 14 (.mv 15 (.rd 16 (.mv 17 (.done) (.stop))) (.stop))))))))))))))))
  | 82, 22 => .rd 0 (.rd 1 (.rd 2 (.rd 3 (.rd 4 (.rd 5 (.rd 6 (.rd 7 (.rd 8 (.mv 9 (.rd 10 (.done)) (.stop))))))))))
  | 82, 23 => .rd 0 (.rd 1 (.rd 2 (.rd 3 (.rd 4 (.rd 5 (.rd 6 (.rd 7 (.rd 8 (.rd 9 (.rd 10 (.rd 11 (.rd 12 (.rd 13 (.rd 14 (.mv 15 (.rd 16 (.mv 17 (.done) (.stop))) (.stop))))))))))))))))
  | 84, 1 => .rd 0 (.rd 1 (.rd 2 (.rd 3 (.rd 4 (.rd 5 (.rd 6 (.rd 7 (.rd 8 (.rd 9 (.rd 10 (.rd 11 (.rd 12 (.mv 13 (.rd 14 (.mv 15 (.done) (.stop))) (.stop))))))))))))))
  | 84, 3 => .rd 0 (.rd 1 (.rd 2 (.rd 3 (.rd 4 (.rd 5 (.rd 6 (.rd 7 (.rd 8 (.rd 9 (.rd 10 (.rd 11 (.mv 12 (.rd 13 (.rd 14 (.done))) (.stop)))))))))))))
  | 84, 5 => .rd 0 (.rd 1 (.rd 2 (.rd 3 (.rd 4 (.rd 5 (.rd 6 (.rd 7 (.rd 8 (.rd 9 (.rd 10 (.rd 11 (.mv 12 (.rd 13 (.done)) (.stop)))))))))))))
  | 84, 8 => .rd 0 (.rd 1 (.rd 2 (.rd 3 (.rd 4 (.rd 5 (.rd 6 (.rd 7 (.rd 8 (.rd 9 (.rd 10 (.rd 11 (.rd 12 (.mv 13 (.rd 14 (.mv 15 (.done) (.stop))) (.stop))))))))))))))
  | 85, 1 => .rd 0 (.rd 1 (.rd 2 (.rd 3 (.rd 4 (.rd 5 (.rd 6 (.rd 7 (.rd 8 (.rd 9 (.rd 10 (.rd 11 (.rd 12 (.mv 13 (.rd 14 (.mv 15 (.done) (.stop))) (.stop))))))))))))))
  | 85, 3 => .rd 0 (.rd 1 (.rd 2 (.rd 3 (.rd 4 (.rd 5 (.rd 6 (.rd 7 (.rd 8 (.rd 9 (.rd 10 (.rd 11 (.mv 12 (.rd 13 (.done)) (.stop)))))))))))))
  | 85, 5 => .rd 0 (.rd 1 (.rd 2 (.rd 3 (.rd 4 (.rd 5 (.rd 6 (.rd 7 (.rd 8 (.rd 9 (.rd 10 (.rd 11 (.mv 12 (.rd 13 (.rd 14 (.done))) (.stop)))))))))))))
  | 85, 8 => .rd 0 (.rd 1 (.rd 2 (.rd 3 (.rd 4 (.rd 5 (.rd 6 (.rd 7 (.rd 8 (.rd 9 (.rd 10 (.rd 11 (.rd 12 (.mv 13 (.rd 14 (.mv 15 (.done) (.stop))) (.stop))))))))))))))
  | 85, 10 => .rd 0 (.rd 1 (.rd 2 (.rd 3 (.rd 4 (.rd 5 (.rd 6 (.rd 7 (.rd 8 (.rd 9 (.rd 10 (.rd 11 (.rd 12 (.mv 13 (.rd 14 (.mv 15 (.done) (.stop))) (.stop))))))))))))))
  | 85, 13 => .rd 0 (.rd 1 (.rd 2 (.rd 3 (.rd 4 (.rd 5 (.rd 6 (.rd 7 (.rd 8 (.rd 9 (.rd 10 (.rd 11 (.mv 12 (.rd 13 (.done)) (.stop)))))))))))))
  | 85, 15 => .rd 0 (.rd 1 (.rd 2 (.rd 3 (.rd 4 (.rd 5 (.rd 6 (.rd 7 (.rd 8 (.rd 9 (.rd 10 (.rd 11 (.mv 12 (.rd 13 (.rd 14 (.done))) (.stop)))))))))))))
  | 85, 18 => .rd 0 (.rd 1 (.rd 2 (.rd 3 (.rd 4 (.rd 5 (.rd 6 (.rd 7 (.rd 8 (.rd 9 (.rd 10 (.rd 11 (.rd 12 (.mv 13 (.rd 14 (.mv 15 (.done) (.stop))) (.stop))))))))))))))
  | 85, 21 => .rd 0 (.rd 1 (.rd 2 (.rd 3 (.rd 4 (.rd 5 (.rd 6 (.rd 7 (.rd 8 (.rd 9 (.rd 10 (.rd 11 (.rd 12 (.mv 13 (.rd 14 (.mv 15 (.done) (.stop))) (.stop))))))))))))))
  | 89, 3 => .rd 0 (.rd 1 (.rd 2 (.rd 3 (.rd 4 (.rd 5 (.rd 6 (.rd 7 (.rd 8 (.rd 9 (.rd 10 (.rd 11 (.rd 12 (.rd 13 (.rd 14 (.rd 15 (.rd 16 (.rd 17 (.mv 18 (.rd 19 (.done)) (.stop)))))))))))))))))))
  | 89, 5 => .rd 0 (.rd 1 (.rd 2 (.rd 3 (.rd 4 (.rd 5 (.rd 6 (.rd 7 (.rd 8 (.rd 9 (.rd 10 (.rd 11 (.mv 12 (.rd 13 (.done)) (.stop)))))))))))))
  | 89, 6 => .rd 0 (.rd 1 (.rd 2 (.rd 3 (.rd 4 (.rd 5 (.rd 6 (.rd 7 (.rd 8 (.rd 9 (.rd 10 (.rd 11 (.rd 12 (.rd 13 (.rd 14 (.rd 15 (.rd 16 (.rd 17 (.rd 18 (.rd 19 (.rd 20 (.mv 21 (.rd 22 (.mv 23 (.done) (.stop))) (.stop))))))))))))))))))))))
  | 91, 1 => .rd 0 (.rd 1 (.rd 2 (.rd 3 (.rd 4 (.rd 5 (.rd 6 (.rd 7 (.rd 8 (.mv 9 (.done) (.stop))))))))))
  | 91, 2 => .rd 0 (.rd 1 (.rd 2 (.rd 3 (.rd 4 (.rd 5 (.rd 6 (.rd 7 (.rd 8 (.mv 9 (.done) (.stop))))))))))
  | 91, 3 => .rd 0 (.rd 1 (.rd 2 (.rd 3 (.rd 4 (.rd 5 (.rd 6 (.rd 7 (.rd 8 (.mv 9 (.done) (.stop))))))))))
  | 96, 1 => .rd 0 (.rd 1 (.rd 2 (.rd 3 (.rd 4 (.rd 5 (.rd 6 (.rd 7 (.mv 8 (.done) (.stop)))))))))
  | _, _ => .stop

def cfgA.thaw (f d : Nat) : Bool := (f == 34 && d == 26)
def cfgA.freeze (f d : Nat) : Bool := (f == 34 && d == 4)
def cfgA : Cfg := { heap := cfgA.heap, take := cfgA.take, thaw := cfgA.thaw, freeze := cfgA.freeze, mask := cfgA.mask, plan := cfgA.plan, prim := fun f => match f with | 95 => some primIndexByte | 72 => some primCompare | _ => none }

theorem plans : plansOK Try.prog cfgA = true := by kernel_rfl
theorem trees : treesOK Try.prog cfgA cfgA.tree = true := by kernel_rfl
theorem named : (Try.prog.funcs.all fun fn => fn.name != "runtime.NumGoroutine") = true := by kernel_rfl

theorem names_ok : ∀ (f : FuncId) (fn : Func), Try.prog.funcs[f]? = some fn → fn.name ≠ "runtime.NumGoroutine" := by
  intro f fn hf
  have := Array.all_eq_true_iff_forall_mem.1 named fn (Array.mem_of_getElem? hf)
  simpa using this

theorem prims : PrimOK Try.prog cfgA := by
  intro f p hp args σ v σ' h g w ow xs r
  simp only [cfgA] at hp
  split at hp
  · injection hp with hp; subst hp
    exact indexByte_prim Try.func95 (by kernel_rfl) (by kernel_rfl) (by kernel_rfl) (by kernel_rfl) h r
  · injection hp with hp; subst hp
    exact compare_prim Try.func72 (by kernel_rfl) (by kernel_rfl) (by kernel_rfl) (by kernel_rfl) h r
  · cases hp

theorem sound (n : Nat) : Sound Try.prog (ev Try.prog cfgA n) := ev_sound Try.checked.mixed plans names_ok prims n

/-- The calls of this program. -/
abbrev E : CallW := EvW Try.prog cfgA cfgA.tree

theorem E_sound {t : Tgt} {args : List AV} {σ : St} {K : AV → St → Prop} (h : E t args σ K) : ModelW Try.prog t args σ K := EvW_sound Try.checked.mixed trees names_ok prims h

end Go.AM
