import Derived.Test.YthbiajoionockaaM7
import Derived.Test.YthbiajoionockaaChecked
import Derived.KernelRfl
import Derived.Test.YthbiajoionockaaM10
import Derived.Test.YthbiajoionockaaM11
import Derived.Test.YthbiajoionockaaM12
/-! The configuration of the abstract machine for this program. -/
namespace Go.AM
open Go Go.Proofs
set_option maxRecDepth 100000
def cfgA.heap (f d : Nat) : Bool :=
  match f with
  | 13 => [37].contains d
  | 14 => [11].contains d
  | 35 => [41].contains d
  | 36 => [14].contains d
  | 45 => [3, 4, 5].contains d
  | 62 => [1].contains d
  | _ => false

def cfgA.take (f d : Nat) : Bool :=
  match f with
  | 3 => [22].contains d
  | 6 => [30].contains d
  | 7 => [18, 25, 27].contains d
  | 8 => [52].contains d
  | 9 => [73].contains d
  | 13 => [34].contains d
  | 14 => [29, 35].contains d
  | 19 => [69, 74].contains d
  | 26 => [33].contains d
  | 29 => [59, 70, 74].contains d
  | 34 => [21, 28].contains d
  | 36 => [35, 43].contains d
  | 39 => [9, 23, 27].contains d
  | 40 => [76, 80].contains d
  | 57 => [5].contains d
  | 58 => [9, 60].contains d
  | 61 => [5, 6].contains d
  | 62 => [1].contains d
  | 67 => [5].contains d
  | 69 => [24, 30].contains d
  | 80 => [44].contains d
  | 92 => [7].contains d
  | 93 => [28].contains d
  | _ => false

def cfgA.mask (f b : Nat) : List Bool :=
  match f, b with
  | 3, 0 => [false, true, false, false, false, true, false, true, true, true, false, false, false, false, false, false, false, false, false, false, false, false, false, false, false, false, false, false, false, false, false, false, false, false, false, false, false, false, false, false, false, false, false, false, false, false, false, false, false, false, false, false, false, false, false, false, false, false, false, false, false, false, false, false, false, false, false, false, false, false, false, false, false, false, false, false, false, false, false, false, false, false, false, false, false, false, false, false, false, false, false, false, false, false, false, false, false, false, false, false, false, false, false, false, false, false, false, false, false, false]
  | 3, 2 => [false, false, false, false, false, false, false, true, true, false, false, true, false, false, false, false, false, false, false, false, false, false, false, false, false, false, false, false, false, false, false, false, false, false, false, false, false, false, false, false, false, false, false, false, false, false, false, false, false, false, false, false, false, false, false, false, false, false, false, false, false, false, false, false, false, false, false, false, false, false, false, false, false, false, false, false, false, false, false, false, false, false, false, false, false, false, false, false, false, false, false, false, false, false, false, false, false, false, false, false, false, false, false, false, false, false, false, false, false, false]
  | 4, 0 => [false, false, false, false, false, false, true, false, true, true, false, false, false, true, false, true, true, true, false, false, false, false, false, false, false, false, false, false, false, false, false, false, false, false, false, false, false, false, false, false, false, false, false, false, false, false, false, false, false, false, false, false, false, false, false, false, false, false, false, false, false, false, false, false, false, false, false, false, false, false, false, false, false, false, false, false, false, false, false, false, false, false, false, false, false, false, false, false, false, false, false, false, false, false, false, false, false, false, false, false, false, false, false, false, false, false, false, false, false]
  | 7, 0 => [true, false, false, true, true, false, false, false, false, false, false, false, false, false, false, false, false, false, false, false, false, false, false, false, false, false, false, false, false, false, false, false, false, false, false, false, false, false, false, false, false, false, false, false]
  | 10, 0 => [false, false, true, false, false, false, true, false, true, true, false, true, false, true, false, true, true, true, false, false, false, false, false, false, false, false, false, false, false, false, false, false, false, false, false, false, false, false, false, false, false, false, false, false, false, false, false, false, false, false, false, false, false, false, false, false, false, false, false, false, false, false, false, false, false, false, false, false, false, false, false, false, false, false, false, false, false, false, false, false, false, false, false, false, false, false, false, false, false, false, false, false, false, false, false, false, false, false, false, false, false, false, false, false, false, false, false, false, false, false, false, false, false, false, false, false, false]
  | 12, 0 => [true, false, false, true, false, false, false, false, false, false, false, false, false, false, false, false, false, false, false, false]
  | 13, 0 => [true, false, false, false, false, false, true, true, true, false, false, false, false, false, false, false, false, false, false, false, false, false, false, false, false, false, false, false, false, false, false, false, false, false, false, false, false, false]
  | 14, 0 => [true, false, false, false, false, true, false, false, false, false, false, false, true, true, true, false, false, false, false, false, false, false, false, false, false, false, false, false, false, false, false, false, false, false, false, false]
  | 15, 0 => [false, false, false, true, false, true, false, false, false, false, false, false, false, false, true, true, true, false, false, false, false, false, false, false, false, false, false, false]
  | 16, 0 => [false, true, false, true, true, false, false, false, false, false, false, false, false, false, false, false, false]
  | 18, 0 => [false, false, true, true, false, true, false, false, false, false, false, false, false, false, false, false, false, false, false, false, false, false, false, false]
  | 19, 0 => [true, false, false, false, true, true, false, true, true, false, false, false, false, false, false, false, false, false, false, false, false, false, false, false, true, true, false, false, false, false, false, false, false, false, false, false, false, false, false, false, false, false, false, false, false, false, false, false, false, false, false, false, false, false, false, false, false, false, false, false, false, false, false, false, false, false, false, false, false, false, false, false, false, false, false]
  | 25, 0 => [false, false, false, false, true, true, false, false, true, true, true, false, false, false, false, true, true, true, false, false, false, false, false, false, false, false, false, false, false, false, false, false, false, false, false, false, false, false, false, false, false, false, false, false, false, false, false, false, false, false, false, false, false, false, false, false, false, false, false, false, false, false, false]
  | 27, 0 => [true, false, false, true, false, false, false, false, false, false, false, false, false, false, false, false, false, false, false, false, false, false, false, false, false, false, false, false, false]
  | 28, 0 => [true, false, true, true, false, false, false, false, false, false, false, false, false, false, false, false, false, false, false, false, false, false, false, false, false, false, false, false, false, false, false, false, false, false, false, false, false, false, false, false, false, false, false, false, false, false, false, false, false, false, false, false, false, false, false, false, false, false, false, false, false, false, false, false, false, false, false, false, false, false, false, false, false, false, false, false, false, false, false, false, false, false, false, false, false, false, false, false, false, false, false, false, false, false, false, false, false, false, false, false, false, false, false, false, false, false, false, false, false, false, false, false, false, false, false, false, false, false, false, false, false, false, false, false, false, false, false, false, false, false, false, false, false, false, false, false, false, false, false, false, false, false, false, false, false, false, false, false, false, false, false, false, false, false, false, false, false, false, false, false, false, false, false, false, false, false, false, false, false, false, false, false, false, false, false, false, false, false, false, false, false, false, false, false, false, false, false, false, false, false, false, false, false, false, false, false, false, false, false, false, false, false]
  | 28, 2 => [true, false, true, false, true, false, false, false, false, false, false, false, false, false, false, false, false, false, false, false, false, false, false, false, false, false, false, false, false, false, false, false, false, false, false, false, false, false, false, false, false, false, false, false, false, false, false, false, false, false, false, false, false, false, false, false, false, false, false, false, false, false, false, false, false, false, false, false, false, false, false, false, false, false, false, false, false, false, false, false, false, false, false, false, false, false, false, false, false, false, false, false, false, false, false, false, false, false, false, false, false, false, false, false, false, false, false, false, false, false, false, false, false, false, false, false, false, false, false, false, false, false, false, false, false, false, false, false, false, false, false, false, false, false, false, false, false, false, false, false, false, false, false, false, false, false, false, false, false, false, false, false, false, false, false, false, false, false, false, false, false, false, false, false, false, false, false, false, false, false, false, false, false, false, false, false, false, false, false, false, false, false, false, false, false, false, false, false, false, false, false, false, false, false, false, false, false, false, false, false, false, false]
  | 28, 4 => [true, false, true, false, true, true, false, false, false, false, false, false, false, false, false, false, false, false, false, false, false, false, false, false, false, false, false, false, false, false, false, false, false, false, false, false, false, false, false, false, false, false, false, false, false, false, false, false, false, false, false, false, false, false, false, false, false, false, false, false, false, false, false, false, false, false, false, false, false, false, false, false, false, false, false, false, false, false, false, false, false, false, false, false, false, false, false, false, false, false, false, false, false, false, false, false, false, false, false, false, false, false, false, false, false, false, false, false, false, false, false, false, false, false, false, false, false, false, false, false, false, false, false, false, false, false, false, false, false, false, false, false, false, false, false, false, false, false, false, false, false, false, false, false, false, false, false, false, false, false, false, false, false, false, false, false, false, false, false, false, false, false, false, false, false, false, false, false, false, false, false, false, false, false, false, false, false, false, false, false, false, false, false, false, false, false, false, false, false, false, false, false, false, false, false, false, false, false, false, false, false, false]
  | 28, 6 => [true, false, true, false, true, true, true, false, false, false, false, false, false, false, false, false, false, false, false, false, false, false, false, false, false, false, false, false, false, false, false, false, false, false, false, false, false, false, false, false, false, false, false, false, false, false, false, false, false, false, false, false, false, false, false, false, false, false, false, false, false, false, false, false, false, false, false, false, false, false, false, false, false, false, false, false, false, false, false, false, false, false, false, false, false, false, false, false, false, false, false, false, false, false, false, false, false, false, false, false, false, false, false, false, false, false, false, false, false, false, false, false, false, false, false, false, false, false, false, false, false, false, false, false, false, false, false, false, false, false, false, false, false, false, false, false, false, false, false, false, false, false, false, false, false, false, false, false, false, false, false, false, false, false, false, false, false, false, false, false, false, false, false, false, false, false, false, false, false, false, false, false, false, false, false, false, false, false, false, false, false, false, false, false, false, false, false, false, false, false, false, false, false, false, false, false, false, false, false, false, false, false]
  | 28, 8 => [true, false, true, false, false, false, false, false, false, true, false, false, false, false, false, false, false, false, false, false, false, false, false, false, false, false, false, false, false, false, false, false, false, false, false, false, false, false, false, false, false, false, false, false, false, false, false, false, false, false, false, false, false, false, false, false, false, false, false, false, false, false, false, false, false, false, false, false, false, false, false, false, false, false, false, false, false, false, false, false, false, false, false, false, false, false, false, false, false, false, false, false, false, false, false, false, false, false, false, false, false, false, false, false, false, false, false, false, false, false, false, false, false, false, false, false, false, false, false, false, false, false, false, false, false, false, false, false, false, false, false, false, false, false, false, false, false, false, false, false, false, false, false, false, false, false, false, false, false, false, false, false, false, false, false, false, false, false, false, false, false, false, false, false, false, false, false, false, false, false, false, false, false, false, false, false, false, false, false, false, false, false, false, false, false, false, false, false, false, false, false, false, false, false, false, false, false, false, false, false, false, false]
  | 28, 10 => [true, false, true, false, false, false, false, false, false, true, true, false, false, false, false, false, false, false, false, false, false, false, false, false, false, false, false, false, false, false, false, false, false, false, false, false, false, false, false, false, false, false, false, false, false, false, false, false, false, false, false, false, false, false, false, false, false, false, false, false, false, false, false, false, false, false, false, false, false, false, false, false, false, false, false, false, false, false, false, false, false, false, false, false, false, false, false, false, false, false, false, false, false, false, false, false, false, false, false, false, false, false, false, false, false, false, false, false, false, false, false, false, false, false, false, false, false, false, false, false, false, false, false, false, false, false, false, false, false, false, false, false, false, false, false, false, false, false, false, false, false, false, false, false, false, false, false, false, false, false, false, false, false, false, false, false, false, false, false, false, false, false, false, false, false, false, false, false, false, false, false, false, false, false, false, false, false, false, false, false, false, false, false, false, false, false, false, false, false, false, false, false, false, false, false, false, false, false, false, false, false, false]
  | 29, 0 => [true, false, false, true, true, false, false, false, false, false, false, false, false, false, false, false, false, false, false, false, false, false, false, false, false, false, false, false, false, false, false, false, false, false, false, false, false, false, false, false, false, false, false, false, false, false, false, false, false, false, false, false, false, false, false, false, false, false, false, false, false, false, false, false, false, false, false, false, false, false, false, false, false, false, false]
  | 29, 2 => [true, false, false, true, true, true, true, false, false, false, false, false, false, false, false, false, false, false, false, false, false, false, false, false, false, false, false, false, false, false, false, false, false, false, false, false, false, false, false, false, false, false, false, false, false, false, false, false, false, false, false, false, false, false, false, false, false, false, false, false, false, false, false, false, false, false, false, false, false, false, false, false, false, false, false]
  | 30, 0 => [true, false, false, false, true, true, false, false, true, true, true, true, false, false, false, false, false, false, false, false, false, false, false, false, false, false, false, false, false, false, false, false, false, false, false, false, false, false, false, false, false, false, false, false, false, false, false, false, false, false, false, false, false, false, false, false, false, false, false, false, false, false, false, false, false, false, false, false, false, false, false, false, false, false, false, false, false, false, false]
  | 33, 0 => [true, true, false, false, false, true, false, false, false, false, false, false, false, false, false, false, false, false, false, false, false, false, false, false, false, false]
  | 34, 0 => [true, false, false, false, false, true, false, false, false, true, true, true, false, false, false, false, false, false, false, false, false, false, false, false, false, false, false, false, false, false]
  | 35, 0 => [true, false, false, false, true, false, false, false, false, false, false, false, false, false, false, false, false, false, false, false, false, false, false, false, false, false, false, false, false, false, false, false, false, false, false, false, false, false, false, false, false, false]
  | 36, 0 => [true, true, false, false, false, true, true, false, false, false, false, false, false, false, false, false, false, false, false, false, false, false, false, false, false, false, false, false, false, false, false, false, false, false, false, false, false, false, false, false, false, false, false, false]
  | 37, 0 => [true, true, false, false, false, true, false, false, false, false, false, false, false, false, false, false, false, false, false, false, false, false, false, false, false, false]
  | 38, 0 => [true, false, false, true, false, true, false, false, false, false, false, false, false, false, false, false, false, false, false, false, false, false, false, false, false, false, false, false, false, false, false]
  | 39, 0 => [false, false, false, false, false, true, true, true, false, false, false, false, false, false, false, false, false, false, false, false, false, false, false, false, false, false, false, false]
  | 40, 0 => [true, false, false, false, true, true, false, true, true, true, false, false, false, false, false, false, false, false, false, false, false, false, false, false, false, false, false, false, false, false, false, false, false, false, false, false, false, false, false, false, false, false, false, false, false, false, false, false, false, false, false, false, false, false, false, false, false, false, false, false, false, false, false, false, false, false, false, false, false, false, false, false, false, false, false, false, false, false, false, false, false]
  | 44, 0 => [true, false, true, false, true, true, false, false, false, false, false, false, false, false, false, false, false, false, false, false, false, false, false, false, false, false, false, false, false, false, false, false, false]
  | 45, 0 => [false, false, false, true, true, true, false, false, false, false, false, false, false, false, false, false, false, false, false]
  | 47, 0 => [false, false, true, false, false, false, true, true, true, false, false, false, false, false, false, false, false, false, false, false, false, false, false, false, false, false, false]
  | 48, 0 => [true, true, true, false, false, false, true, false, false, false, false, true, true, true, false, false, false, false, false, false, false, false, false, false, false, false, false, false, false, false, false, false, false, false, false, false, false, false, false, false, false, false, false, false, false, false, false, false, false, false]
  | 48, 2 => [true, true, true, false, false, false, true, false, true, true, true, true, true, true, false, false, false, false, false, false, false, false, false, false, false, false, false, false, false, false, false, false, false, false, false, false, false, false, false, false, false, false, false, false, false, false, false, false, false, false]
  | 53, 0 => [true, false, true, false, false, false, false, false, false, false, false, false, true, true, true, false, false, false, false, false, false, false, false, false, false, false, false, false, false, false, false, false, false, false, false, false, false, false, false, false, false, false, false, false, false, false, false, false, false, false, false, false, false, false, false, false, false, false]
  | 53, 2 => [true, false, true, false, true, true, false, false, false, false, false, false, true, true, true, false, false, false, false, false, true, true, true, false, false, false, false, false, false, false, false, false, false, false, false, false, false, false, false, false, false, false, false, false, false, false, false, false, false, false, false, false, false, false, false, false, false, false]
  | 55, 0 => [true, true, false, false, false, true, false, false, false, false, false, false, false, false, false, false, false, false, false, false, false, false, false, false, false]
  | 56, 0 => [true, false, false, true, true, false, true, false, false, false, false, false, false, false, false, false, false, false, false, false, false, false, false, false, false, false]
  | 58, 0 => [true, false, false, true, false, false, false, false, false, false, false, false, false, false, false, false, false, false, false, false, false, false, false, false, false, false, false, false, false, false, false, false, false, false, false, false, false, false, false, false, false, false, false, false, false, false, false, false, false, false, false, false, false, false, false, false, false, false, false, false, false]
  | 58, 2 => [true, false, false, true, true, true, false, false, false, false, false, false, false, false, false, false, false, false, false, false, false, false, false, false, false, false, false, false, false, false, false, false, false, false, false, false, false, false, false, false, false, false, false, false, false, false, false, false, false, false, false, false, false, false, false, false, false, false, false, false, false]
  | 60, 0 => [false, true, false, true, false, false, false, false, false, false, false, false, false, false, false, false, false]
  | 63, 0 => [false, false, false, true, false, false, true, true, true, false, false, false, false, false, false, false, false, false]
  | 69, 0 => [true, true, true, true, false, false, false, false, true, true, false, false, false, false, false, false, false, false, false, false, false, false, false, false, false, false, false, false, false, false, false, false, false, false, false, false, false, false, false, false, false, false, false, false, false, false, false, false, false, false, false, false, false, false, false, false, false, false, false, false, false, false, false, false, false, false, false, false, false, false, false, false, false, false, false, false, false, false, false, false, false, false, false, false, false, false, false, false, false, false, false, false, false, false, false, false, false, false, false, false, false, false, false, false, false, false, false, false, false, false, false, false, false, false, false, false, false, false, false, false, false, false, false, false, false, false, false, false, false, false, false, false, false, false]
  | 73, 0 => [true, true, false, true, false, false, false, false, false, false, false, false, false, false, false, false, false, false, false]
  | 76, 0 => [true, true, false, false, false, false, false, true, true, false, false, false, false, false, false, false, false, false, false]
  | 77, 0 => [true, true, true, false, false, false, true, false, false, false, false, false, false, false, false, false, false, false, false, false, false, false, false, false, false, false, false, false, false, false, false, false, false, false, false, false, false, false, false, false, false, false, false, false, false, false, false, false, false]
  | 77, 2 => [true, true, true, false, false, false, true, true, false, false, false, false, false, false, false, false, false, false, false, false, false, false, false, false, false, false, false, false, false, false, false, false, false, false, false, false, false, false, false, false, false, false, false, false, false, false, false, false, false]
  | 78, 0 => [true, false, false, false, false, false, true, true, true, true, false, false, false, false, false, false, false, false, false, false, false, false, false, false, false, false, false, false, false, false, false, false, false, false, false, false, false, false, false, false, false, false, false, false, false, false, false, false, false, false, false, false, false, false, false, false]
  | 78, 2 => [true, false, false, false, false, false, true, true, false, false, true, false, false, false, false, false, false, false, false, false, false, false, false, false, false, false, false, false, false, false, false, false, false, false, false, false, false, false, false, false, false, false, false, false, false, false, false, false, false, false, false, false, false, false, false, false]
  | 79, 0 => [true, true, false, false, false, false, true, true, true, true, false, false, false, false, false, false, false, false, false, false, false, false, false, false, false, false, false, false, false, false, false, false, false, false, false, false, false, false, false, false, false, false, false, false, false, false, false, false, false, false, false, false, false, false, false, false, false, false, false, false, false, false, false, false, false]
  | 81, 0 => [true, false, false, false, false, false, true, true, false, false, false, false, false, false, false, false, false, false, false, false, false, false, false, false, false, false, false, false, false, false, false, false]
  | 82, 0 => [true, true, true, false, false, false, false, true, true, false, false, false, false, false, false, false, false, false, false, false, false, false, false, false, false, false, false, false, false, false, false, false, false, false, false, false, false, false, false, false, false, false, false, false, false, false, false, false, false, false, false, false, false, false, false, false, false, false, false, false, false, false, false, false, false, false, false, false, false, false, false, false, false, false, false, false, false, false, false, false, false, false, false, false, false, false, false, false, false, false, false, false, false, false, false, false, false, false, false, false, false, false, false, false, false, false, false, false, false, false, false, false, false, false, false, false, false, false, false, false, false, false, false, false, false, false, false, false, false, false, false, false, false]
  | 82, 2 => [true, true, true, false, false, false, false, true, true, false, false, false, false, false, false, false, false, false, false, false, false, false, false, false, false, false, false, false, false, false, false, false, false, false, false, false, false, false, false, false, false, false, false, false, false, false, false, false, false, false, false, false, false, false, false, false, false, false, false, false, false, false, false, false, false, false, false, false, false, false, false, false, false, false, false, false, false, false, false, false, false, false, false, false, false, false, false, false, false, false, false, false, false, false, false, false, false, false, false, false, false, false, false, false, false, false, false, false, false, false, false, false, false, false, false, false, false, false, false, false, false, false, false, false, false, false, false, false, false, false, false, false, false]
  | 82, 4 => [true, true, true, false, false, false, false, true, true, true, false, false, false, false, false, false, false, false, false, false, false, false, false, false, false, false, false, false, false, false, false, false, false, false, false, false, false, false, false, false, false, false, false, false, false, false, false, false, false, false, false, false, false, false, false, false, false, false, false, false, false, false, false, false, false, false, false, false, false, false, false, false, false, false, false, false, false, false, false, false, false, false, false, false, false, false, false, false, false, false, false, false, false, false, false, false, false, false, false, false, false, false, false, false, false, false, false, false, false, false, false, false, false, false, false, false, false, false, false, false, false, false, false, false, false, false, false, false, false, false, false, false, false]
  | 82, 6 => [true, true, true, false, false, false, false, true, true, false, true, false, false, false, false, false, false, false, false, false, false, false, false, false, false, false, false, false, false, false, false, false, false, false, false, false, false, false, false, false, false, false, false, false, false, false, false, false, false, false, false, false, false, false, false, false, false, false, false, false, false, false, false, false, false, false, false, false, false, false, false, false, false, false, false, false, false, false, false, false, false, false, false, false, false, false, false, false, false, false, false, false, false, false, false, false, false, false, false, false, false, false, false, false, false, false, false, false, false, false, false, false, false, false, false, false, false, false, false, false, false, false, false, false, false, false, false, false, false, false, false, false, false]
  | 84, 0 => [true, true, false, false, false, false, false, false, false, true, true, false, false, false, false, false, false, false, false, false, false, false, false, false, false, false, false, false, false, false, false, false, false, false, false, false, false, false, false, false, false, false, false, false, false, false, false, false, false, false, false, false, false, false, false, false, false, false, false, false, false, false, false, false, false, false, false, false, false, false, false, false, false, false, false, false, false, false, false, false, false, false, false, false]
  | 84, 2 => [true, true, false, false, false, false, false, false, false, true, true, false, false, false, false, false, false, false, false, false, false, false, false, false, false, false, false, false, false, false, false, false, false, false, false, false, false, false, false, false, false, false, false, false, false, false, false, false, false, false, false, false, false, false, false, false, false, false, false, false, false, false, false, false, false, false, false, false, false, false, false, false, false, false, false, false, false, false, false, false, false, false, false, false]
  | 84, 4 => [true, true, false, false, false, false, false, false, false, true, true, false, false, false, false, false, false, false, false, false, false, false, false, false, false, false, false, false, false, false, false, false, false, false, false, false, false, false, false, false, false, false, false, false, false, false, false, false, false, false, false, false, false, false, false, false, false, false, false, false, false, false, false, false, false, false, false, false, false, false, false, false, false, false, false, false, false, false, false, false, false, false, false, false]
  | 85, 0 => [true, true, false, false, false, false, false, false, false, false, true, true, false, false, false, false, false, false, false, false, false, false, false, false, false, false, false, false, false, false, false, false, false, false, false, false, false, false, false, false, false, false, false, false, false, false, false, false, false, false, false, false, false, false, false, false, false, false, false, false, false, false, false, false, false, false, false, false, false, false, false, false, false, false, false, false, false, false, false, false, false, false, false, false, false, false, false, false, false, false, false, false, false, false, false, false, false, false, false, false, false, false, false, false, false, false, false, false, false, false, false, false, false, false, false, false, false, false, false, false, false, false, false, false, false, false, false, false, false, false, false, false, false, false, false, false, false, false, false, false, false, false, false, false, false, false, false, false, false, false, false, false, false, false, false, false, false, false, false, false, false, false, false, false, false, false, false, false]
  | 85, 2 => [true, true, false, false, false, false, false, false, false, false, true, true, false, false, false, false, false, false, false, false, false, false, false, false, false, false, false, false, false, false, false, false, false, false, false, false, false, false, false, false, false, false, false, false, false, false, false, false, false, false, false, false, false, false, false, false, false, false, false, false, false, false, false, false, false, false, false, false, false, false, false, false, false, false, false, false, false, false, false, false, false, false, false, false, false, false, false, false, false, false, false, false, false, false, false, false, false, false, false, false, false, false, false, false, false, false, false, false, false, false, false, false, false, false, false, false, false, false, false, false, false, false, false, false, false, false, false, false, false, false, false, false, false, false, false, false, false, false, false, false, false, false, false, false, false, false, false, false, false, false, false, false, false, false, false, false, false, false, false, false, false, false, false, false, false, false, false, false]
  | 85, 4 => [true, true, false, false, false, false, false, false, false, false, true, true, false, false, false, false, false, false, false, false, false, false, false, false, false, false, false, false, false, false, false, false, false, false, false, false, false, false, false, false, false, false, false, false, false, false, false, false, false, false, false, false, false, false, false, false, false, false, false, false, false, false, false, false, false, false, false, false, false, false, false, false, false, false, false, false, false, false, false, false, false, false, false, false, false, false, false, false, false, false, false, false, false, false, false, false, false, false, false, false, false, false, false, false, false, false, false, false, false, false, false, false, false, false, false, false, false, false, false, false, false, false, false, false, false, false, false, false, false, false, false, false, false, false, false, false, false, false, false, false, false, false, false, false, false, false, false, false, false, false, false, false, false, false, false, false, false, false, false, false, false, false, false, false, false, false, false, false]
  | 85, 6 => [true, true, false, false, false, false, false, false, false, false, true, true, false, false, false, false, false, false, false, false, false, false, false, false, false, false, false, false, false, false, false, false, false, false, false, false, false, false, false, false, false, false, false, false, false, false, false, false, false, false, false, false, false, false, false, false, false, false, false, false, false, false, false, false, false, false, false, false, false, false, false, false, false, false, false, false, false, false, false, false, false, false, false, false, false, false, false, false, false, false, false, false, false, false, false, false, false, false, false, false, false, false, false, false, false, false, false, false, false, false, false, false, false, false, false, false, false, false, false, false, false, false, false, false, false, false, false, false, false, false, false, false, false, false, false, false, false, false, false, false, false, false, false, false, false, false, false, false, false, false, false, false, false, false, false, false, false, false, false, false, false, false, false, false, false, false, false, false]
  | 85, 8 => [true, true, false, false, false, false, false, false, false, false, true, true, false, false, false, false, false, false, false, false, false, false, false, false, false, false, false, false, false, false, false, false, false, false, false, false, false, false, false, false, false, false, false, false, false, false, false, false, false, false, false, false, false, false, false, false, false, false, false, false, false, false, false, false, false, false, false, false, false, false, false, false, false, false, false, false, false, false, false, false, false, false, false, false, false, false, false, false, false, false, false, false, false, false, false, false, false, false, false, false, false, false, false, false, false, false, false, false, false, false, false, false, false, false, false, false, false, false, false, false, false, false, false, false, false, false, false, false, false, false, false, false, false, false, false, false, false, false, false, false, false, false, false, false, false, false, false, false, false, false, false, false, false, false, false, false, false, false, false, false, false, false, false, false, false, false, false, false]
  | 89, 0 => [true, false, true, true, false, false, false, false, true, false, false, false, false, false, false, false, false, false, false, false, false, false, false, false, false, false, false, false, false, false, false, false, false, false, false, false, false, false, false, false, false, false, false, false, false, false, false, false, false, false, false, false, false, false, false, false, false, false, false, false, false, false, false, false, false, false, false, false, false, false, false, false, false, false, false, false]
  | _, _ => []

def cfgA.plan (f k : Nat) : List Nat :=
  match f, k with
  | 3, 17 => [0, 1, 2, 3, 4, 5, 6, 7, 8, 9, 10, 11, 12, 13, 14, 15, 16, 17, 18, 19, 20, 21, 22, 23, 24, 25, 26, 27, 28, 29, 30, 31, 32]
  | 3, 23 => [0, 1, 2, 3, 4, 5, 6, 7, 8, 9]
  | 4, 6 => [0, 1, 3, 4, 2, 5, 6, 7]
  | 4, 15 => [0, 1, 2, 3, 4, 5, 6, 7, 8, 9, 10, 11, 12, 13, 14]
  | 5, 9 => [0, 1, 2, 3, 4, 5, 6, 7, 8, 9, 10]
  | 6, 8 => [2, 3, 0, 1, 4, 5, 6, 7, 8, 9]
  | 8, 5 => [0, 1, 2, 3, 5, 6, 7, 8, 4, 9, 10]
  | 9, 11 => [0, 1, 2, 3, 4, 5, 6, 7, 8, 9, 10, 11, 12, 13, 14, 15, 16, 17, 18, 19, 20, 21, 24, 22, 23, 25, 26, 27, 28, 29, 30, 31, 32, 33, 34, 35, 36, 37, 38, 39, 40, 41, 42, 43, 44, 45, 46, 47, 48, 49, 50, 51, 52, 53, 54, 55, 56, 57, 61, 58, 59, 60, 62, 63, 64, 65, 69, 66, 67, 68, 70, 71, 72, 73, 75, 77, 74, 76, 78, 79, 80, 81, 82, 83, 84, 85, 86, 87, 88, 89, 90, 91, 93, 92, 94, 95, 96]
  | 10, 15 => [0, 1, 2, 3, 4, 5, 6, 7, 8, 9]
  | 10, 17 => [0, 1, 3, 4, 2, 5, 6, 7, 8, 9, 11, 12, 10, 13, 14, 15, 16, 17, 18, 19, 21, 22, 23, 20, 24, 25, 26, 27]
  | 13, 4 => [0, 1, 2, 3, 4, 5, 6, 7, 8, 9, 10, 11, 12, 13, 14, 15, 16]
  | 14, 7 => [0, 1, 2, 3, 4, 6, 7, 5, 8, 9, 10]
  | 18, 4 => [0, 1, 2, 3, 4, 5, 6]
  | 18, 6 => [0, 1, 2, 3, 4, 5, 6]
  | 19, 8 => [0, 1, 2, 3, 4, 5, 6, 7, 8, 9, 10, 11, 12, 13, 14, 15, 16, 17, 18, 19]
  | 19, 9 => [0, 1, 2, 3, 4, 5, 6, 7, 8, 9, 10, 11, 12, 13, 14, 15, 16, 17, 18]
  | 25, 9 => [0, 1, 2, 3, 4, 5]
  | 28, 4 => [0, 1, 2, 3, 4, 5, 6, 7, 8, 9, 10, 11, 12, 13, 14, 15, 16, 17, 18, 19, 20, 21, 22, 23, 24, 25, 26, 27]
  | 28, 29 => [0, 1, 2, 3, 4, 5, 6, 7, 8, 9, 10, 11, 12, 13]
  | 29, 5 => [0, 1, 2, 3, 4, 5, 6, 7, 8, 9, 10, 11, 12, 13, 14, 15, 16, 17, 18, 19, 20, 21, 22, 23, 24, 25, 26, 27]
  | 30, 7 => [0, 1, 2, 3, 4, 5, 6, 7, 8, 9, 10, 11, 12, 13, 14, 15, 16, 17, 18, 19, 20, 21, 22, 23, 24, 25, 26, 27, 28, 29, 30, 31, 32]
  | 30, 8 => [0, 1, 2, 3, 4, 5, 6, 7, 8]
  | 33, 6 => [0, 1, 2, 3, 4, 5, 6, 7, 8]
  | 35, 6 => [0, 1, 2, 3, 4, 5, 6, 7, 8, 9, 10, 11, 12, 13, 14, 15, 16, 17, 18, 19, 20, 21, 22]
  | 36, 7 => [0, 1, 2, 3, 4, 6, 7, 8, 9, 10, 5, 11, 12, 13]
  | 37, 6 => [0, 1, 2, 3, 4, 5, 6, 7, 8]
  | 38, 4 => [0, 1, 2, 3, 4, 5, 6, 7, 8, 9, 10, 11, 12, 13, 14, 15, 16, 17, 18]
  | 40, 6 => [0, 1, 2, 3, 4, 5, 6, 7, 8, 9, 10, 11, 12, 13, 14, 15, 16, 17, 18, 19]
  | 40, 7 => [0, 1, 2, 3, 4, 5, 6, 7, 8, 9, 10, 11, 12, 13, 14, 15, 16, 17, 18, 19, 20]
  | 42, 1 => [0, 1, 2, 3]
  | 46, 1 => [0, 1, 2, 3, 5, 6, 7, 8, 4, 9, 10, 11, 12]
  | 48, 7 => [0, 1, 2, 3, 4, 5, 6, 7, 8, 9, 10, 11, 12, 13, 14, 15, 16, 17]
  | 56, 4 => [0, 1, 2, 3, 4, 5, 6]
  | 58, 6 => [0, 1, 2, 3, 4, 5, 6, 7, 8, 9]
  | 58, 11 => [0, 1, 2, 3, 4, 5, 6, 7, 8, 9]
  | 69, 17 => [0, 1, 2, 3, 4, 5, 6, 7, 8, 9, 10, 11, 12, 13, 14]
  | 77, 4 => [0, 1, 2, 3, 4, 5, 6, 7, 8, 9, 10, 11, 12, 13, 14]
  | 77, 6 => [0, 1, 2, 3, 4, 5, 6, 7, 8, 9, 10, 11, 12, 13, 14, 15, 16, 17]
  | 78, 10 => [0, 1, 2, 3, 4, 5, 6, 7, 8, 9, 10, 11, 12, 13, 14, 15, 16, 17, 18, 19]
  | 79, 10 => [0, 1, 2, 3, 4, 5, 6, 7, 8, 9, 10, 11, 12, 13, 14, 15, 16, 17, 18, 19]
  | 81, 3 => [0, 1, 2, 3, 4, 5, 6, 7, 8, 9, 10, 11, 12, 13, 14, 15]
  | 82, 5 => [0, 1, 2, 3, 4, 5, 6, 7, 8, 9, 10, 11, 12, 13, 14, 15]
  | 82, 11 => [0, 1, 2, 3, 4, 5, 6, 7, 8, 9, 10, 11, 12, 13, 14, 15, 16, 17]
  | 82, 16 => [0, 1, 2, 3, 4, 5, 6, 7, 8, 9, 10]
  | 82, 17 => [0, 1, 2, 3, 4, 5, 6, 7, 8, 9, 10, 11, 12, 13, 14, 15, 16, 17]
  | 82, 22 => [0, 1, 2, 3, 4, 5, 6, 7, 8, 9, 10]
  | 82, 23 => [0, 1, 2, 3, 4, 5, 6, 7, 8, 9, 10, 11, 12, 13, 14, 15, 16, 17]
  | 84, 1 => [0, 1, 2, 3, 4, 5, 6, 7, 8, 9, 10, 11, 12, 13, 14, 15]
  | 84, 3 => [0, 1, 2, 3, 4, 5, 6, 7, 8, 9, 10, 11, 12, 13, 14]
  | 84, 5 => [0, 1, 2, 3, 4, 5, 6, 7, 8, 9, 10, 11, 12, 13]
  | 84, 8 => [0, 1, 2, 3, 4, 5, 6, 7, 8, 9, 10, 11, 12, 13, 14, 15]
  | 85, 1 => [0, 1, 2, 3, 4, 5, 6, 7, 8, 9, 10, 11, 12, 13, 14, 15]
  | 85, 3 => [0, 1, 2, 3, 4, 5, 6, 7, 8, 9, 10, 11, 12, 13]
  | 85, 5 => [0, 1, 2, 3, 4, 5, 6, 7, 8, 9, 10, 11, 12, 13, 14]
  | 85, 8 => [0, 1, 2, 3, 4, 5, 6, 7, 8, 9, 10, 11, 12, 13, 14, 15]
  | 85, 10 => [0, 1, 2, 3, 4, 5, 6, 7, 8, 9, 10, 11, 12, 13, 14, 15]
  | 85, 13 => [0, 1, 2, 3, 4, 5, 6, 7, 8, 9, 10, 11, 12, 13]
  | 85, 15 => [0, 1, 2, 3, 4, 5, 6, 7, 8, 9, 10, 11, 12, 13, 14]
  | 85, 18 => [0, 1, 2, 3, 4, 5, 6, 7, 8, 9, 10, 11, 12, 13, 14, 15]
  | 85, 21 => [0, 1, 2, 3, 4, 5, 6, 7, 8, 9, 10, 11, 12, 13, 14, 15]
  | 89, 3 => [0, 1, 2, 3, 4, 5, 6, 7, 8, 9, 10, 11, 12, 13, 14, 15, 16, 17, 18, 19]
  | 89, 5 => [0, 1, 2, 3, 4, 5, 6, 7, 8, 9, 10, 11, 12, 13]
  | 89, 6 => [0, 1, 2, 3, 4, 5, 6, 7, 8, 9, 10, 11, 12, 13, 14, 15, 16, 17, 18, 19, 20, 21, 22, 23]
  | 91, 1 => [0, 1, 2, 3, 4, 5, 6, 7, 8, 9]
  | 91, 2 => [0, 1, 2, 3, 4, 5, 6, 7, 8, 9]
  | 91, 3 => [0, 1, 2, 3, 4, 5, 6, 7, 8, 9]
  | 96, 1 => [0, 1, 2, 3, 4, 5, 6, 7, 8]
  | _, _ => []

def cfgA.tree (f k : Nat) : PT :=
  match f, k with
  | 3, 17 => .rd 0 (.rd 1 (.rd 2 (.rd 3 (.rd 4 (.rd 5 (.rd 6 (.rd 7 (.rd 8 (.rd 9 (.rd 10 (.rd 11 (.rd 12 (.rd 13 (.rd 14 (.rd 15 (.rd 16 (.rd 17 (.rd 18 (.rd 19 (.rd 20 (.rd 21 (.rd 22 (.rd 23 (.rd 24 (.rd 25 (.rd 26 (.rd 27 (.rd 28 (.rd 29 (.rd 30 (.rd 31 (.rd 32 (.done)))))))))))))))))))))))))))))))))
  | 3, 23 => .rd 0 (.rd 1 (.rd 2 (.rd 3 (.rd 4 (.rd 5 (.rd 6 (.rd 7 (.rd 8 (.rd 9 (.done))))))))))
  | 4, 6 => .rd 0 (.rd 1 (.rd 3 (.rd 4 (.mv 2 (.mv 5 (.mv 6 (.mv 7 (.done) (.stop)) (.stop)) (.stop)) (.stop)))))
  | 4, 15 => .rd 0 (.rd 1 (.rd 2 (.rd 3 (.rd 4 (.rd 5 (.rd 6 (.rd 7 (.rd 8 (.rd 9 (.rd 10 (.rd 11 (.rd 12 (.rd 13 (.rd 14 (.done)))))))))))))))
  | 5, 9 => .rd 0 (.mv 1 (.rd 2 (.mv 3 (.mv 4 (.mv 5 (.rd 6 (.rd 7 (.rd 8 (.mv 9 (.mv 10 (.done) (.stop)) (.stop))))) (.stop)) (.stop)) (.stop))) (.stop))
  | 6, 8 => .rd 2 (.rd 3 (.mv 0 (.mv 1 (.mv 4 (.rd 5 (.rd 6 (.rd 7 (.mv 8 (.mv 9 (.done) (.stop)) (.stop))))) (.stop)) (.stop)) (.stop)))
  | 8, 5 => .rd 0 (.rd 1 (.rd 2 (.rd 3 (.rd 5 (.rd 6 (.rd 7 (.rd 8 (.mv 4 (.mv 9 (.mv 10 (.done) (.stop)) (.stop)) (.stop)))))))))
  | 9, 11 => .rd 0 (.rd 1 (.rd 2 (.rd 3 (.rd 4 (.rd 5 (.rd 6 (.rd 7 (.rd 8 (.rd 9 (.rd 10 (.rd 11 (.rd 12 (.rd 13 (.rd 14 (.rd 15 (.rd 16 (.mv 17 (.rd 18 (.rd 19 (.rd 20 (.rd 21 (.rd 24 (.mv 22 (.mv 23 (.mv 25 (.rd 26 (.rd 27 (.rd 28 (.rd 29 (.rd 30 (.rd 31 (.rd 32 (.rd 33 (.rd 34 (.rd 35 (.rd 36 (.rd 37 (.rd 38 (.rd 39 (.rd 40 (.rd 41 (.rd 42 (.rd 43 (.rd 44 (.rd 45 (.mv 46 (.rd 47 (.rd 48 (.rd 49 (.rd 50 (.rd 51 (.rd 52 (.rd 53 (.rd 54 (.rd 55 (.rd 56 (.rd 57 (.rd 61 (.mv 58 (.mv 59 (.mv 60 (.mv 62 (.rd 63 (.rd 64 (.rd 65 (.rd 69 (.mv 66 (.mv 67 (.mv 68 (.mv 70 (.rd 71 (.rd 72 (.rd 73 (.rd 75 (.rd 77 (.mv 74 (.mv 76 (.mv 78 (.rd 79 (.rd 80 (.rd 81 (.mv 82 (.mv 83 (.mv 84 (.rd 85 (.rd 86 (.rd 87 (.rd 88 (.rd 89 (.rd 90 (.rd 91 (.rd 93 (.mv 92 (.mv 94 (.rd 95 (.mv 96 (.done) (.stop))) (.stop)) (.stop)))))))))) (.stop)) (.stop)) (.stop))))) (.stop)) (.stop)) (.stop))))))) (.stop)) (.stop)) (.stop)) (.stop)))))) (.stop)) (.stop)) (.stop)) (.stop)))))))))))))) (.stop)))))))))))))))))))))) (.stop)) (.stop)) (.stop))))))) (.stop))))))))))))))))))
  | 10, 15 => .rd 0 (.rd 1 (.rd 2 (.rd 3 (.rd 4 (.rd 5 (.rd 6 (.rd 7 (.mv 8 (.rd 9 (.done)) (.stop)))))))))
  | 10, 17 => .rd 0 (.rd 1 (.rd 3 (.rd 4 (.mv 2 (.mv 5 (.rd 6 (.rd 7 (.rd 8 (.rd 9 (.rd 11 (.rd 12 (.mv 10 (.mv 13 (.mv 14 (.rd 15 (.rd 16 (.rd 17 (.rd 18 (.rd 19 (.rd 21 (.rd 22 (.rd 23 (.mv 20 (.mv 24 (.mv 25 (.rd 26 (.mv 27 (.done) (.stop))) (.stop)) (.stop)) (.stop)))))))))) (.stop)) (.stop)) (.stop)))))))) (.stop)) (.stop)))))
  | 13, 4 => .rd 0 (.mv 1 (.rd 2 (.rd 3 (.rd 4 (.rd 5 (.rd 6 (.rd 7 (.rd 8 (.rd 9 (.rd 10 (.rd 11 (.rd 12 (.mv 13 (.rd 14 (.rd 15 (.rd 16 (.done)))) (.stop))))))))))))) (.stop))
  | 14, 7 => .rd 0 (.rd 1 (.rd 2 (.rd 3 (.rd 4 (.rd 6 (.rd 7 (.mv 5 (.mv 8 (.rd 9 (.mv 10 (.done) (.stop))) (.stop)) (.stop))))))))
  | 18, 4 => .rd 0 (.rd 1 (.rd 2 (.rd 3 (.rd 4 (.rd 5 (.rd 6 (.done)))))))
  | 18, 6 => .rd 0 (.rd 1 (.rd 2 (.rd 3 (.rd 4 (.rd 5 (.rd 6 (.done)))))))
  | 19, 8 => .rd 0 (.rd 1 (.rd 2 (.rd 3 (.rd 4 (.rd 5 (.rd 6 (.rd 7 (.rd 8 (.rd 9 (.rd 10 (.rd 11 (.rd 12 (.rd 13 (.rd 14 (.rd 15 (.mv 16 (.rd 17 (.rd 18 (.mv 19 (.done) (.stop)))) (.stop)))))))))))))))))
  | 19, 9 => .rd 0 (.rd 1 (.rd 2 (.rd 3 (.rd 4 (.rd 5 (.rd 6 (.rd 7 (.rd 8 (.rd 9 (.rd 10 (.rd 11 (.rd 12 (.rd 13 (.rd 14 (.mv 15 (.rd 16 (.rd 17 (.mv 18 (.done) (.stop)))) (.stop))))))))))))))))
  | 25, 9 => .rd 0 (.rd 1 (.rd 2 (.mv 3 (.mv 4 (.mv 5 (.done) (.stop)) (.stop)) (.stop))))
  | 28, 4 => .rd 0 (.rd 1 (.rd 2 (.rd 3 (.rd 4 (.rd 5 (.rd 6 (.rd 7 (.rd 8 (.rd 9 (.rd 10 (.rd 11 (.rd 12 (.rd 13 (.rd 14 (.rd 15 (.rd 16 (.rd 17 (.rd 18 (.rd 19 (.rd 20 (.rd 21 (.rd 22 (.rd 23 (.rd 24 (.mv 25 (.rd 26 (.rd 27 (.done))) (.stop))))))))))))))))))))))))))
  | 28, 15 => .rd 0 (.rd 1 (.rd 2 (.rd 3 (.rd 4 (.rd 5 (.rd 6 (.rd 7 (.mv 8 (.mv 9 (.mv 10 (.mv 11 (.done) (.stop)) (.stop)) (.stop)) (.mv 9 (.mv 8 (.mv 10 (.mv 11 (.done) (.stop)) (.stop)) (.stop)) (.stop))))))))))
  | 28, 28 => .rd 0 (.rd 1 (.rd 2 (.rd 3 (.rd 4 (.rd 5 (.rd 6 (.mv 7 (.rd 8 (.rd 9 (.rd 10 (.mv 11 (.mv 12 (.mv 13 (.done) (.stop)) (.stop)) (.stop))))) (.mv 11 (.mv 7 (.rd 8 (.rd 9 (.rd 10 (.mv 12 (.mv 13 (.done) (.stop)) (.stop))))) (.stop)) (.stop)))))))))
  | 28, 29 => .rd 0 (.rd 1 (.rd 2 (.rd 3 (.rd 4 (.rd 5 (.rd 6 (.rd 7 (.mv 8 (.rd 9 (.rd 10 (.rd 11 (.mv 12 (.mv 13 (.done) (.stop)) (.stop))))) (.stop)))))))))
  | 29, 5 => .rd 0 (.rd 1 (.rd 2 (.rd 3 (.rd 4 (.rd 5 (.rd 6 (.rd 7 (.rd 8 (.rd 9 (.rd 10 (.rd 11 (.rd 12 (.rd 13 (.rd 14 (.rd 15 (.rd 16 (.rd 17 (.rd 18 (.rd 19 (.rd 20 (.rd 21 (.rd 22 (.rd 23 (.rd 24 (.rd 25 (.mv 26 (.mv 27 (.done) (.stop)) (.stop)))))))))))))))))))))))))))
  | 30, 6 => .rd 0 (.rd 1 (.rd 2 (.rd 3 (.rd 4 (.rd 5 (.mv 6 (.rd 7 (.rd 8 (.rd 9 (.mv 10 (.mv 11 (.mv 12 (.done) (.stop)) (.stop)) (.stop))))) (.mv 10 (.mv 6 (.rd 7 (.rd 8 (.rd 9 (.mv 11 (.mv 12 (.done) (.stop)) (.stop))))) (.stop)) (.stop))))))))
  | 30, 7 => .rd 0 (.rd 1 (.rd 2 (.rd 3 (.rd 4 (.rd 5 (.rd 6 (.rd 7 (.rd 8 (.rd 9 (.rd 10 (.rd 11 (.rd 12 (.rd 13 (.rd 14 (.rd 15 (.rd 16 (.mv 17 (.rd 18 (.rd 19 (.rd 20 (.rd 21 (.rd 22 (.rd 23 (.rd 24 (.rd 25 (.rd 26 (.rd 27 (.rd 28 (.mv 29 (.rd 30 (.rd 31 (.rd 32 (.done)))) (.stop))))))))))))) (.stop))))))))))))))))))
  | 30, 8 => .rd 0 (.rd 1 (.rd 2 (.rd 3 (.rd 4 (.rd 5 (.mv 6 (.mv 7 (.mv 8 (.done) (.stop)) (.stop)) (.stop)))))))
  | 33, 6 => .rd 0 (.rd 1 (.rd 2 (.rd 3 (.rd 4 (.rd 5 (.rd 6 (.rd 7 (.rd 8 (.done)))))))))
  | 35, 6 => .rd 0 (.rd 1 (.rd 2 (.rd 3 (.mv 4 (.rd 5 (.rd 6 (.rd 7 (.rd 8 (.rd 9 (.rd 10 (.rd 11 (.rd 12 (.rd 13 (.rd 14 (.rd 15 (.rd 16 (.rd 17 (.rd 18 (.mv 19 (.rd 20 (.rd 21 (.rd 22 (.done)))) (.stop)))))))))))))))) (.stop)))))
  | 36, 7 => .rd 0 (.rd 1 (.rd 2 (.rd 3 (.rd 4 (.rd 6 (.rd 7 (.rd 8 (.rd 9 (.rd 10 (.mv 5 (.mv 11 (.rd 12 (.mv 13 (.done) (.stop))) (.stop)) (.stop)))))))))))
  | 37, 6 => .rd 0 (.rd 1 (.rd 2 (.rd 3 (.rd 4 (.rd 5 (.rd 6 (.rd 7 (.rd 8 (.done)))))))))
  | 38, 4 => .rd 0 (.rd 1 (.rd 2 (.rd 3 (.rd 4 (.rd 5 (.rd 6 (.rd 7 (.rd 8 (.rd 9 (.rd 10 (.rd 11 (.rd 12 (.rd 13 (.rd 14 (.rd 15 (.mv 16 (.rd 17 (.rd 18 (.done))) (.stop)))))))))))))))))
  | 40, 6 => .rd 0 (.rd 1 (.rd 2 (.rd 3 (.rd 4 (.rd 5 (.rd 6 (.rd 7 (.rd 8 (.rd 9 (.rd 10 (.rd 11 (.rd 12 (.rd 13 (.rd 14 (.rd 15 (.mv 16 (.rd 17 (.rd 18 (.mv 19 (.done) (.stop)))) (.stop)))))))))))))))))
  | 40, 7 => .rd 0 (.rd 1 (.rd 2 (.rd 3 (.rd 4 (.rd 5 (.rd 6 (.rd 7 (.rd 8 (.rd 9 (.rd 10 (.rd 11 (.rd 12 (.rd 13 (.rd 14 (.rd 15 (.rd 16 (.mv 17 (.rd 18 (.rd 19 (.mv 20 (.done) (.stop)))) (.stop))))))))))))))))))
  | 42, 1 => .rd 0 (.rd 1 (.mv 2 (.mv 3 (.done) (.stop)) (.stop)))
  | 46, 1 => .rd 0 (.rd 1 (.rd 2 (.rd 3 (.rd 5 (.rd 6 (.rd 7 (.rd 8 (.mv 4 (.mv 9 (.rd 10 (.mv 11 (.mv 12 (.done) (.stop)) (.stop))) (.stop)) (.stop)))))))))
  | 48, 7 => .rd 0 (.mv 1 (.rd 2 (.rd 3 (.rd 4 (.rd 5 (.rd 6 (.mv 7 (.rd 8 (.rd 9 (.rd 10 (.rd 11 (.rd 12 (.rd 13 (.rd 14 (.rd 15 (.mv 16 (.rd 17 (.done)) (.stop)))))))))) (.stop))))))) (.stop))
  | 56, 4 => .rd 0 (.rd 1 (.rd 2 (.rd 3 (.rd 4 (.rd 5 (.rd 6 (.done)))))))
  | 58, 6 => .rd 0 (.rd 1 (.rd 2 (.rd 3 (.rd 4 (.rd 5 (.rd 6 (.rd 7 (.rd 8 (.rd 9 (.done))))))))))
  | 58, 11 => .rd 0 (.rd 1 (.rd 2 (.rd 3 (.rd 4 (.rd 5 (.rd 6 (.rd 7 (.rd 8 (.rd 9 (.done))))))))))
  | 69, 17 => .rd 0 (.rd 1 (.rd 2 (.rd 3 (.rd 4 (.rd 5 (.rd 6 (.rd 7 (.rd 8 (.rd 9 (.rd 10 (.rd 11 (.mv 12 (.rd 13 (.rd 14 (.done))) (.stop)))))))))))))
  | 77, 4 => .rd 0 (.rd 1 (.rd 2 (.rd 3 (.rd 4 (.rd 5 (.rd 6 (.rd 7 (.rd 8 (.rd 9 (.rd 10 (.rd 11 (.rd 12 (.mv 13 (.rd 14 (.done)) (.stop))))))))))))))
  | 77, 6 => .rd 0 (.rd 1 (.rd 2 (.rd 3 (.rd 4 (.rd 5 (.rd 6 (.rd 7 (.rd 8 (.rd 9 (.rd 10 (.rd 11 (.rd 12 (.rd 13 (.rd 14 (.mv 15 (.rd 16 (.mv 17 (.done) (.stop))) (.stop))))))))))))))))
  | 78, 10 => .rd 0 (.rd 1 (.rd 2 (.rd 3 (.rd 4 (.rd 5 (.rd 6 (.rd 7 (.rd 8 (.rd 9 (.rd 10 (.rd 11 (.rd 12 (.rd 13 (.rd 14 (.rd 15 (.rd 16 (.mv 17 (.rd 18 (.mv 19 (.done) (.stop))) (.stop))))))))))))))))))
  | 79, 10 => .rd 0 (.rd 1 (.rd 2 (.rd 3 (.rd 4 (.rd 5 (.rd 6 (.rd 7 (.rd 8 (.rd 9 (.rd 10 (.rd 11 (.rd 12 (.rd 13 (.rd 14 (.rd 15 (.rd 16 (.mv 17 (.rd 18 (.mv 19 (.done) (.stop))) (.stop))))))))))))))))))
  | 81, 3 => .rd 0 (.rd 1 (.rd 2 (.rd 3 (.rd 4 (.rd 5 (.rd 6 (.rd 7 (.rd 8 (.rd 9 (.rd 10 (.rd 11 (.rd 12 (.mv 13 (.rd 14 (.mv 15 (.done) (.stop))) (.stop))))))))))))))
  | 82, 5 => .rd 0 (.rd 1 (.rd 2 (.rd 3 (.rd 4 (.rd 5 (.rd 6 (.rd 7 (.rd 8 (.rd 9 (.rd 10 (.rd 11 (.rd 12 (.mv 13 (.rd 14 (.rd 15 (.done))) (.stop))))))))))))))
  | 82, 11 => .rd 0 (.rd 1 (.rd 2 (.rd 3 (.rd 4 (.rd 5 (.rd 6 (.rd 7 (.rd 8 (.rd 9 (.rd 10 (.rd 11 (.rd 12 (.rd 13 (.rd 14 (.mv 15 (.rd 16 (.mv 17 (.done) (.stop))) (.stop))))))))))))))))
  | 82, 16 => .rd 0 (.rd 1 (.rd 2 (.rd 3 (.rd 4 (.rd 5 (.rd 6 (.rd 7 (.rd 8 (.mv 9 (.rd 10 (.done)) (.stop))))))))))
  | 82, 17 => .rd 0 (.rd 1 (.rd 2 (.rd 3 (.rd 4 (.rd 5 (.rd 6 (.rd 7 (.rd 8 (.rd 9 (.rd 10 (.rd 11 (.rd 12 (.rd 13 (.rd 14 (.mv 15 (.rd 16 (.mv 17 (.done) (.stop))) (.stop))))))))))))))))
  | 82, 22 => .rd 0 (.rd 1 (.rd 2 (.rd 3 (.rd 4 (.rd 5 (.rd 6 (.rd 7 (.rd 8 (.mv 9 (.rd 10 (.done)) (.stop))))))))))
  | 82, 23 => .rd 0 (.rd 1 (.rd 2 (.rd 3 (.rd 4 (.rd 5 (.rd 6 (.rd 7 (.rd 8 (.rd 9 (.rd 10 (.rd 11 (.rd 12 (.rd 13 (.rd 14 (.mv 15 (.rd 16 (.mv 17 (.done) (.stop))) (.stop))))))))))))))))
  | 84, 1 => .rd 0 (.rd 1 (.rd 2 (.rd 3 (.rd 4 (.rd 5 (.rd 6 (.rd 7 (.rd 8 (.rd 9 (.rd 10 (.rd 11 (.rd 12 (.mv 13 (.rd 14 (.mv 15 (.done) (.stop))) (.stop))))))))))))))
  | 84, 3 => .rd 0 (.rd 1 (.rd 2 (.rd 3 (.rd 4 (.rd 5 (.rd 6 (.rd 7 (.rd 8 (.rd 9 (.rd 10 (.rd 11 (.mv 12 (.rd 13 (.rd 14 (.done))) (.stop)))))))))))))
  | 84, 5 => .rd 0 (.rd 1 (.rd 2 (.rd 3 (.rd 4 (.rd 5 (.rd 6 (.rd 7 (.rd 8 (.rd 9 (.rd 10 (.rd 11 (.mv 12 (.rd 13 (.done)) (.stop)))))))))))))
  | 84, 8 => .rd 0 (.rd 1 (.rd 2 (.rd 3 (.rd 4 (.rd 5 (.rd 6 (.rd 7 (.rd 8 (.rd 9 (.rd 10 (.rd 11 (.rd 12 (.mv 13 (.rd 14 (.mv 15 (.done) (.stop))) (.stop))))))))))))))
  | 85, 1 => .rd 0 (.rd 1 (.rd 2 (.rd 3 (.rd 4 (.rd 5 (.rd 6 (.rd 7 (.rd 8 (.rd 9 (.rd 10 (.rd 11 (.rd 12 (.mv 13 (.rd 14 (.mv 15 (.done) (.stop))) (.stop))))))))))))))
  | 85, 3 => .rd 0 (.rd 1 (.rd 2 (.rd 3 (.rd 4 (.rd 5 (.rd 6 (.rd 7 (.rd 8 (.rd 9 (.rd 10 (.rd 11 (.mv 12 (.rd 13 (.done)) (.stop)))))))))))))
  | 85, 5 => .rd 0 (.rd 1 (.rd 2 (.rd 3 (.rd 4 (.rd 5 (.rd 6 (.rd 7 (.rd 8 (.rd 9 (.rd 10 (.rd 11 (.mv 12 (.rd 13 (.rd 14 (.done))) (.stop)))))))))))))
  | 85, 8 => .rd 0 (.rd 1 (.rd 2 (.rd 3 (.rd 4 (.rd 5 (.rd 6 (.rd 7 (.rd 8 (.rd 9 (.rd 10 (.rd 11 (.rd 12 (.mv 13 (.rd 14 (.mv 15 (.done) (.stop))) (.stop))))))))))))))
  | 85, 10 => .rd 0 (.rd 1 (.rd 2 (.rd 3 (.rd 4 (.rd 5 (.rd 6 (.rd 7 (.rd 8 (.rd 9 (.rd 10 (.rd 11 (.rd 12 (.mv 13 (.rd 14 (.mv 15 (.done) (.stop))) (.stop))))))))))))))
  | 85, 13 => .rd 0 (.rd 1 (.rd 2 (.rd 3 (.rd 4 (.rd 5 (.rd 6 (.rd 7 (.rd 8 (.rd 9 (.rd 10 (.rd 11 (.mv 12 (.rd 13 (.done)) (.stop)))))))))))))
  | 85, 15 => .rd 0 (.rd 1 (.rd 2 (.rd 3 (.rd 4 (.rd 5 (.rd 6 (.rd 7 (.rd 8 (.rd 9 (.rd 10 (.rd 11 (.mv 12 (.rd 13 (.rd 14 (.done))) (.stop)))))))))))))
  | 85, 18 => .rd 0 (.rd 1 (.rd 2 (.rd 3 (.rd 4 (.rd 5 (.rd 6 (.rd 7 (.rd 8 (.rd 9 (.rd 10 (.rd 11 (.rd 12 (.mv 13 (.rd 14 (.mv 15 (.done) (.stop))) (.stop))))))))))))))
  | 85, 21 => .rd 0 (.rd 1 (.rd 2 (.rd 3 (.rd 4 (.rd 5 (.rd 6 (.rd 7 (.rd 8 (.rd 9 (.rd 10 (.rd 11 (.rd 12 (.mv 13 (.rd 14 (.mv 15 (.done) (.stop))) (.stop))))))))))))))
  | 89, 3 => .rd 0 (.rd 1 (.rd 2 (.rd 3 (.rd 4 (.rd 5 (.rd 6 (.rd 7 (.rd 8 (.rd 9 (.rd 10 (.rd 11 (.rd 12 (.rd 13 (.rd 14 (.rd 15 (.rd 16 (.rd 17 (.mv 18 (.rd 19 (.done)) (.stop)))))))))))))))))))
  | 89, 5 => .rd 0 (.rd 1 (.rd 2 (.rd 3 (.rd 4 (.rd 5 (.rd 6 (.rd 7 (.rd 8 (.rd 9 (.rd 10 (.rd 11 (.mv 12 (.rd 13 (.done)) (.stop)))))))))))))
  | 89, 6 => .rd 0 (.rd 1 (.rd 2 (.rd 3 (.rd 4 (.rd 5 (.rd 6 (.rd 7 (.rd 8 (.rd 9 (.rd 10 (.rd 11 (.rd 12 (.rd 13 (.rd 14 (.rd 15 (.rd 16 (.rd 17 (.rd 18 (.rd 19 (.rd 20 (.mv 21 (.rd 22 (.mv 23 (.done) (.stop))) (.stop))))))))))))))))))))))
  | 91, 1 => .rd 0 (.rd 1 (.rd 2 (.rd 3 (.rd 4 (.rd 5 (.rd 6 (.rd 7 (.rd 8 (.mv 9 (.done) (.stop))))))))))
  | 91, 2 => .rd 0 (.rd 1 (.rd 2 (.rd 3 (.rd 4 (.rd 5 (.rd 6 (.rd 7 (.rd 8 (.mv 9 (.done) (.stop))))))))))
  | 91, 3 => .rd 0 (.rd 1 (.rd 2 (.rd 3 (.rd 4 (.rd 5 (.rd 6 (.rd 7 (.rd 8 (.mv 9 (.done) (.stop))))))))))
  | 96, 1 => .rd 0 (.rd 1 (.rd 2 (.rd 3 (.rd 4 (.rd 5 (.rd 6 (.rd 7 (.mv 8 (.done) (.stop)))))))))
  | _, _ => .stop

def cfgA.thaw (f d : Nat) : Bool := (f == 34 && d == 26)
def cfgA.freeze (f d : Nat) : Bool := (f == 34 && d == 4)
def cfgA : Cfg := { heap := cfgA.heap, take := cfgA.take, thaw := cfgA.thaw, freeze := cfgA.freeze, mask := cfgA.mask, plan := cfgA.plan, prim := fun f => match f with | 95 => some primIndexByte | 72 => some primCompare | _ => none }

theorem plans : plansOK Try.prog cfgA = true := by kernel_rfl
theorem trees : treesOK Try.prog cfgA cfgA.tree = true := by kernel_rfl
theorem named : (Try.prog.funcs.all fun fn => fn.name != "runtime.NumGoroutine") = true := by kernel_rfl

theorem names_ok : ∀ (f : FuncId) (fn : Func), Try.prog.funcs[f]? = some fn → fn.name ≠ "runtime.NumGoroutine" := by
  intro f fn hf
  have := Array.all_eq_true_iff_forall_mem.1 named fn (Array.mem_of_getElem? hf)
  simpa using this

theorem prims : PrimOK Try.prog cfgA := by
  intro f p hp args σ v σ' h g w ow xs r
  simp only [cfgA] at hp
  split at hp
  · injection hp with hp; subst hp
    exact indexByte_prim Try.func95 (by kernel_rfl) (by kernel_rfl) (by kernel_rfl) (by kernel_rfl) h r
  · injection hp with hp; subst hp
    exact compare_prim Try.func72 (by kernel_rfl) (by kernel_rfl) (by kernel_rfl) (by kernel_rfl) h r
  · cases hp

theorem sound (n : Nat) : Sound Try.prog (ev Try.prog cfgA n) := ev_sound Try.checked.mixed plans names_ok prims n

/-- The calls of this program. -/
abbrev E : CallW := EvW Try.prog cfgA cfgA.tree

theorem E_sound {t : Tgt} {args : List AV} {σ : St} {K : AV → St → Prop} (h : E t args σ K) : ModelW Try.prog t args σ K := EvW_sound Try.checked.mixed trees names_ok prims h

end Go.AM
namespace Go.AM
open Go Go.Proofs
set_option maxRecDepth 20000
theorem low_hourglassref23_common : lowFn Try.prog cfgA cfgA.tree 55 = some (C_hourglassref23_common (cs [56])) := by kernel_rfl
theorem low_hourglassref23_last : lowFn Try.prog cfgA cfgA.tree 56 = some (C_hourglassref23_last) := by kernel_rfl
theorem low_hourglassref23_Check : lowFn Try.prog cfgA cfgA.tree 28 = some (C_hourglassref23_Check (cs [54, 55, 56, 30])) := by kernel_rfl
theorem low_hourglassref23_Value : lowFn Try.prog cfgA cfgA.tree 30 = some (C_hourglassref23_Value (cs [56, 54])) := by kernel_rfl
theorem low_hourglasslaw24_txns : lowFn Try.prog cfgA cfgA.tree 29 = some (C_hourglasslaw24_txns) := by kernel_rfl
theorem low_hourglasslaw24_HistSays : lowFn Try.prog cfgA cfgA.tree 6 = some (C_hourglasslaw24_HistSays (cs [21, 27, 26, 29, 28, 25, 30])) := by kernel_rfl
end Go.AM
namespace Go.AM
open Go Go.Proofs
set_option maxRecDepth 20000
theorem low_cmp_isNaN_int64 : lowFn Try.prog cfgA cfgA.tree 74 = some (C_cmp_isNaN_int64) := by kernel_rfl
theorem low_cmp_isNaN_uint8 : lowFn Try.prog cfgA cfgA.tree 75 = some (C_cmp_isNaN_uint8) := by kernel_rfl
theorem low_cmp_Compare_int64 : lowFn Try.prog cfgA cfgA.tree 64 = some (C_cmp_Compare_int64 (cs [74])) := by kernel_rfl
theorem low_cmp_Compare_uint8 : lowFn Try.prog cfgA cfgA.tree 65 = some (C_cmp_Compare_uint8 (cs [75])) := by kernel_rfl
theorem low_cmp_Or_int : lowFn Try.prog cfgA cfgA.tree 63 = some (C_cmp_Or_int) := by kernel_rfl
theorem low_stamp_Cmp : lowFn Try.prog cfgA cfgA.tree 46 = some (C_stamp_Cmp (cs [64, 65, 63])) := by kernel_rfl
theorem low_hourglassref6_Cmp : lowFn Try.prog cfgA cfgA.tree 54 = some (C_hourglassref6_Cmp) := by kernel_rfl
theorem low_hist_Txn_last : lowFn Try.prog cfgA cfgA.tree 45 = some (C_hist_Txn_last (cs [62, 45]) (rfAt Try.prog 45 0).1 (rfAt Try.prog 45 0).2) := by kernel_rfl
theorem low_hist_Txn_last_a0 : lowCode Try.prog cfgA cfgA.tree 45 0 (rfAt Try.prog 45 0).1 = (C_hist_Txn_last_a0).code := by kernel_rfl
theorem tr_hist_Txn_last_a0 : treesIn cfgA cfgA.tree 45 (rfAt Try.prog 45 0).1 = true := by kernel_rfl
theorem low_hist_Txn_last_b0 : lowCode Try.prog cfgA cfgA.tree 45 0 (rfAt Try.prog 45 0).2 = (C_hist_Txn_last_b0).code := by kernel_rfl
theorem tr_hist_Txn_last_b0 : treesIn cfgA cfgA.tree 45 (rfAt Try.prog 45 0).2 = true := by kernel_rfl
theorem low_hist_Value : lowFn Try.prog cfgA cfgA.tree 25 = some (C_hist_Value (cs [45, 46])) := by kernel_rfl
theorem low_hist_alone : lowFn Try.prog cfgA cfgA.tree 47 = some (C_hist_alone (cs [66, 46])) := by kernel_rfl
theorem low_hist_pair : lowFn Try.prog cfgA cfgA.tree 48 = some (C_hist_pair (cs [66])) := by kernel_rfl
theorem low_hist_Check_1 : lowFn Try.prog cfgA cfgA.tree 49 = some (C_hist_Check_1) := by kernel_rfl
theorem low_hist_Check_2 : lowFn Try.prog cfgA cfgA.tree 50 = some (C_hist_Check_2 (cs [51, 52])) := by kernel_rfl
theorem low_hist_shares : lowFn Try.prog cfgA cfgA.tree 51 = some (C_hist_shares (cs [68, 67])) := by kernel_rfl
theorem low_hist_before : lowFn Try.prog cfgA cfgA.tree 52 = some (C_hist_before (cs [46])) := by kernel_rfl
theorem low_hist_reads : lowFn Try.prog cfgA cfgA.tree 53 = some (C_hist_reads (cs [45, 25])) := by kernel_rfl
theorem low_hist_Txn_wrote : lowFn Try.prog cfgA cfgA.tree 66 = some (C_hist_Txn_wrote) := by kernel_rfl
theorem low_hist_shares_1 : lowFn Try.prog cfgA cfgA.tree 68 = some (C_hist_shares_1 (cs [45])) := by kernel_rfl
theorem low_hist_Check : lowFn Try.prog cfgA cfgA.tree 26 = some (C_hist_Check (cs [47, 48, 49, 50, 53])) := by kernel_rfl
theorem low_slices_ContainsFunc_Write : lowFn Try.prog cfgA cfgA.tree 67 = some (C_slices_ContainsFunc_Write (cs [76])) := by kernel_rfl
theorem low_slices_IndexFunc_Write : lowFn Try.prog cfgA cfgA.tree 76 = some (C_slices_IndexFunc_Write) := by kernel_rfl
theorem low_slices_Backward_Write : lowFn Try.prog cfgA cfgA.tree 62 = some (C_slices_Backward_Write (cs [73])) := by kernel_rfl
theorem low_slices_Backward_Write_1 : lowFn Try.prog cfgA cfgA.tree 73 = some (C_slices_Backward_Write_1) := by kernel_rfl
theorem low_hourglasslaw24_great : lowFn Try.prog cfgA cfgA.tree 27 = some (C_hourglasslaw24_great) := by kernel_rfl
theorem low_hourglasslaw24_at : lowFn Try.prog cfgA cfgA.tree 23 = some (C_hourglasslaw24_at) := by kernel_rfl
theorem low_hourglasslaw24_k : lowFn Try.prog cfgA cfgA.tree 24 = some (C_hourglasslaw24_k (cs [44])) := by kernel_rfl
theorem low_hourglasslaw24_of : lowFn Try.prog cfgA cfgA.tree 22 = some (C_hourglasslaw24_of (cs [23, 24])) := by kernel_rfl
theorem low_hourglasslaw24_awake : lowFn Try.prog cfgA cfgA.tree 21 = some (C_hourglasslaw24_awake (cs [22, 26])) := by kernel_rfl
end Go.AM
namespace Go.AM
open Go Go.Proofs
set_option maxRecDepth 20000
theorem low_hourglassref10_Of : lowFn Try.prog cfgA cfgA.tree 44 = some (C_hourglassref10_Of) := by kernel_rfl
end Go.AM
namespace Go.AM
open Go Go.Proofs
set_option linter.unusedVariables false
theorem EC2 : LeC E E := EvW.le
theorem EW2 : WkC E := fun _ _ _ _ _ h h2 => EvW.args h h2
theorem nan74 (x : Int) : FnS E 74 [.s (.int .i64 x)] (.bool false) := fun S H K hK => runL_ok rfl low_cmp_isNaN_int64 (isNaN_spec _ x S H K hK)
theorem nan75 (x : UInt8) : FnS E 75 [u8 x] (.bool false) := fun S H K hK => runL_ok rfl low_cmp_isNaN_uint8 (isNaN8_spec _ x S H K hK)
theorem cmp64 (x y : Int) : FnS E 64 [.s (.int .i64 x), .s (.int .i64 y)] (.i (cmpI x y)) := fun S H K hK => runL_ok rfl low_cmp_Compare_int64 (Compare_spec _ nan74 x y S H K hK)
theorem cmp65 (x y : UInt8) : FnS E 65 [u8 x, u8 y] (.i (cmpU x y)) := fun S H K hK => runL_ok rfl low_cmp_Compare_uint8 (Compare8_spec _ nan75 x y S H K hK)
theorem or63 (x y : Int) : FnS E 63 [.list .sh 1 [.i x, .i y]] (.i (if x ≠ 0 then x else y)) := fun S H K hK => runL_ok rfl low_cmp_Or_int (Or_spec EC2 _ x y S H K hK)
theorem cmp46 : CmpSS E 46 := fun a b S H K hK => runL_ok rfl low_stamp_Cmp (stamp_Cmp_spec EC2 EW2 _ cmp64 cmp65 or63 a b S H K hK)
theorem back62 : BackS E 62 73 := fun l S H K hK => runL_ok rfl low_slices_Backward_Write (Backward_spec _ l S H K hK)
theorem back73 : Back1S E 73 := fun l h bx m S H Hf K a b c d e f g => runL_ok rfl low_slices_Backward_Write_1 (Backward1_spec EC2 _ l h bx m S H Hf K a b c d e f g)
theorem body73 : hasBody Try.prog 73 = true := by kernel_rfl
theorem round45 : RoundOK E Try.prog 45 (rfAt Try.prog 45 0).1 (rfAt Try.prog 45 0).2 (C_hist_Txn_last_a0).code (C_hist_Txn_last_b0).code := roundE tr_hist_Txn_last_a0 tr_hist_Txn_last_b0 low_hist_Txn_last_a0 low_hist_Txn_last_b0
theorem last45 : LastS E 45 := fun x k S H K hl hK => runL_ok rfl low_hist_Txn_last (last_spec EC2 _ back62 back73 body73 round45 x k S H K hl hK)
theorem value25 : ValueS E 25 := fun l k a S H K hl ho hK => runL_ok rfl low_hist_Value (Value_spec EC2 _ last45 cmp46 l k a S H K hl ho hK)
theorem wrote66 : WroteS E 66 := fun x S H K hK => runL_ok rfl low_hist_Txn_wrote (wrote_spec _ x S H K hK)
theorem alone47 : AloneS E 47 := fun l S H K hl hK => runL_ok rfl low_hist_alone (alone_spec EC2 _ wrote66 cmp46 l S H K hl hK)
theorem pair48 : PairS E 48 := fun l kind g p S H K a b c d => runL_ok rfl low_hist_pair (pair_spec EC2 _ wrote66 l kind g p S H K a b c d)
theorem check49 : TwoT alikeT E 49 := fun a b S H K x y z => runL_ok rfl low_hist_Check_1 (Check1_spec _ a b S H K x y z)
theorem before52 : BeforeS E 52 := fun a b S H K hK => runL_ok rfl low_hist_before (before_spec _ cmp46 a b S H K hK)
theorem index76 : IdxFS E 76 := fun l g cp p S H K a b c d e G0 f => runL_ok rfl low_slices_IndexFunc_Write (IndexFunc_spec EC2 _ l g cp p S H K a b c d e G0 f)
theorem cont67 : ContS E 67 := fun l g cp p S H K a b c d e G0 f => runL_ok rfl low_slices_ContainsFunc_Write (ContainsFunc_spec _ index76 l g cp p S H K a b c d e G0 f)
theorem shares68 : Shares1S E 68 := fun w b r S H K x y z => runL_ok rfl low_hist_shares_1 (shares1_spec _ last45 w b r S H K x y z)
theorem shares51 : TwoT sharesT E 51 := fun a b S H K x y z => runL_ok rfl low_hist_shares (shares_spec _ shares68 cont67 a b S H K x y z)
theorem check50 : TwoT bothT E 50 := fun a b S H K x y z => runL_ok rfl low_hist_Check_2 (Check2_spec _ shares51 before52 a b S H K x y z)
theorem reads53 : ReadsS E 53 := fun l S H K a b c => runL_ok rfl low_hist_reads (reads_spec EC2 _ last45 value25 l S H K a b c)
theorem check26 : CheckS E 26 := fun l S H K a b c => runL_ok rfl low_hist_Check (Check_spec _ alone47 pair48 check49 check50 reads53 l S H K a b c)
theorem of44 : OfR E 44 := fun s S H K hK => runL_ok rfl low_hourglassref10_Of (ref10_Of_spec EC2 _ s S H K hK)
theorem k24 : kS E 24 := fun s S H K hK => runL_ok rfl low_hourglasslaw24_k (law24_k_spec _ of44 s S H K hK)
theorem at23 : AtS E 23 := fun t S H K hK => runL_ok rfl low_hourglasslaw24_at (law24_at_spec _ t S H K hK)
theorem of22 : OfTS E 22 := fun id snap t s v S H K hK => EvW.res (runL_ok rfl low_hourglasslaw24_of (law24_of_spec _ at23 k24 id snap t s v S H _ ⟨_, .inr (ofV_wk id snap t s v), hK⟩))
theorem awake21 : AwakeS E 21 := fun S H K hK => runL_ok rfl low_hourglasslaw24_awake (awake24_spec EW2 _ of22 check26 S H K hK)
theorem great27 : GreatS E 27 := fun l S H K hl hK => runL_ok rfl low_hourglasslaw24_great (great_spec EC2 _ l S H K hl hK)
end Go.AM
namespace Go.AM
open Go Go.Proofs
set_option linter.unusedVariables false
theorem rcmp54 : CmpSS E 54 := fun a b S H K hK => runL_ok rfl low_hourglassref6_Cmp (ref6_Cmp_spec _ a b S H K hK)
theorem rlast56 : LastRS E 56 := fun l k S H K a b => runL_ok rfl low_hourglassref23_last (ref23_last_spec EC2 _ l k S H K a b)
theorem rcommon55 : CommonS E 55 := fun a b S H K x y z => runL_ok rfl low_hourglassref23_common (ref23_common_spec EC2 _ rlast56 a b S H K x y z)
theorem rvalue30 : ValueRS E 30 := fun l k s S H K a b c => runL_ok rfl low_hourglassref23_Value (ref23_Value_spec EC2 _ rlast56 rcmp54 l k s S H K a b c)
theorem rcheck28 : CheckRS E 28 := fun l S H K a b c => runL_ok rfl low_hourglassref23_Check (ref23_Check_spec EC2 _ rcmp54 rcommon55 rlast56 rvalue30 l S H K a b c)
theorem txns29 : TxnsS E 29 := fun l S H K a b hK => EvW.res (runL_ok rfl low_hourglasslaw24_txns (txns_spec EC2 _ l S H _ a b ⟨_, .inr (txns_wk l), hK⟩))
theorem says6 (l : List Tx) (k : Key) (s : Stp) (S : List (List AV)) (H : List HObj) (K : AV → St → Prop) (hl : l.length ≤ 9223372036854775807) (hK : ∀ G, K (.bool true) ⟨S, H ++ G⟩) : E (.fn 6) [lstT l, .agg (bs k.b), .agg (stc s)] ⟨S, H⟩ K :=
  runL_ok rfl low_hourglasslaw24_HistSays (HistSays_spec _ awake21 great27 check26 txns29 rcheck28 value25 rvalue30 l k s S H K hl hK)
end Go.AM
