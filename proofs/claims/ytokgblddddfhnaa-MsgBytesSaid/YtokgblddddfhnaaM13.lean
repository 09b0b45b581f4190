import Derived.Test.YtokgblddddfhnaaM7
import Derived.Test.YtokgblddddfhnaaChecked
import Derived.KernelRfl
import Derived.Test.YtokgblddddfhnaaM10
import Derived.Test.YtokgblddddfhnaaM11
import Derived.Test.YtokgblddddfhnaaM12
set_option linter.unusedSimpArgs false
set_option linter.unusedVariables false
namespace Go.AM
open Go Go.Proofs
set_option maxRecDepth 100000
def cfgA.heap (f d : Nat) : Bool :=
  match f with
  | 21 => [6].contains d
  | 30 => [1, 7].contains d
  | 33 => [1].contains d
  | _ => false
def cfgA.take (f d : Nat) : Bool :=
  match f with
  | 3 => [30].contains d
  | 5 => [128, 129].contains d
  | 6 => [27].contains d
  | 8 => [30].contains d
  | 12 => [49].contains d
  | 13 => [52].contains d
  | 14 => [21, 34, 42, 59, 63].contains d
  | 15 => [20, 33, 39, 60, 68].contains d
  | 21 => [7, 17, 23, 25, 27, 36].contains d
  | 22 => [15].contains d
  | 25 => [16].contains d
  | 26 => [6, 17, 32, 39].contains d
  | 28 => [53].contains d
  | 30 => [27, 38, 45, 60, 76].contains d
  | 32 => [60].contains d
  | 33 => [21, 30, 40, 56, 71, 81].contains d
  | 42 => [21, 31].contains d
  | 47 => [29, 39].contains d
  | 50 => [11, 19].contains d
  | 51 => [5].contains d
  | 53 => [12].contains d
  | 56 => [12].contains d
  | 67 => [5].contains d
  | 73 => [5].contains d
  | 75 => [5].contains d
  | 104 => [5, 6].contains d
  | _ => false
def cfgA.mask (f b : Nat) : List Bool :=
  match f, b with
  | 12, 1 => [false, false, true, false, true, true, false, false, false, false, false, false, false, false, false, false, false, false, false, false, false, false, false, false, false, false, false, false, false, false, false, false, false, false, false, false, false, false, false, false, false, false, false, false, false, true, true, false, false, false, false, false, false, false, false, false, false, false, false, false, false, false, false, false, false, false, false, false, false, false, false, false, false, false, false]
  | 13, 1 => [false, false, true, false, true, true, true, true, false, false, false, false, false, false, false, false, false, false, false, false, false, false, false, false, false, false, false, false, false, false, false, false, false, false, false, false, false, false, false, false, false, false, false, false, false, false, false, false, false, false, false, false, false, false, false, false, false, false, false, false, false, false, false, false, false, false, false, false]
  | 14, 1 => [false, false, false, true, false, false, false, false, false, false, false, false, false, false, false, false, false, false, false, false, false, false, false, false, false, false, false, false, false, false, false, false, false, false, false, false, false, false, false, false, false, false, false, false, false, false, false, false, false, false, false, false, false, true, true, true, false, false, false, false, false, false, false, false]
  | 15, 1 => [false, true, false, true, true, false, false, false, false, false, false, false, false, false, false, false, false, false, false, false, false, false, false, false, false, false, false, false, false, false, false, false, false, false, false, false, false, false, false, false, false, false, false, false, false, false, false, false, false, false, false, false, false, false, false, false, false, false, false, false, false, false, false, false, false, false, false, false, false]
  | 17, 0 => [false, false, true, true, false, true, false, false, false, false, false, false, false, false, false, false, false, false, false, false, false, false, false, false, false, false, false, false, false, false, false, false, false, false, false, false, false, false, false, false, false, false, false, false, false, false, false, false, false, false, false, false, false, false, false, false, false, false, false, false, false, false, false, false, false, false, false, false, false, false, false, false, false, false]
  | 21, 0 => [true, false, false, false, false, false, false, false, false, false, false, true, true, true, false, false, false, false, false, false, false, false, false, false, false, false, false, false, false, false, false, false, false, false, false, false, false]
  | 23, 0 => [true, true, false, false, false, true, false, false, false, false, false, false, false, false, false, false, false, false, false, false, false, false, false, false, false, false]
  | 24, 0 => [true, false, false, true, false, false, false, false, false, false, false, false, false, false, false, false, false, false, false, false]
  | 26, 0 => [true, true, false, false, false, true, false, false, false, false, false, false, false, false, false, false, false, false, false, false, false, false, false, false, false, false, false, false, false, false, false, false, false, false, false, false, false, false, false, false]
  | 28, 0 => [false, false, true, false, true, true, false, false, false, false, false, false, false, false, false, false, false, false, false, false, false, false, false, false, false, false, false, false, false, false, false, false, false, false, false, false, false, false, false, false, false, true, true, false, false, false, false, false, false, false, false, false, false, false, false, false, false, false, false, false, false, false, false, false, false, false, false, false, false, false, false, false, false, false, false, false, false, false, false, false, false, false, false, false, false, false, false, false, false, false, false, false, false, false, false, false]
  | 30, 0 => [false, true, false, true, false, false, false, false, false, false, false, false, false, false, false, false, false, false, false, false, false, false, false, false, false, false, false, false, false, false, false, false, false, false, false, false, false, false, false, false, false, false, false, false, false, false, false, false, false, false, false, false, false, false, true, true, true, false, false, false, false, false, false, false, false, false, false, false, false, false, false, false, false, false, false, false, false, false, false, false, false, false, false, false, false, false]
  | 31, 0 => [false, true, false, true, false, false, false, false, false, false, false, false, false, false, false, false, false, false, false, false, false, false, false, false, false, false, false, false, false, false, false, false, false, false, false, false, false, false, false, false, false, false, false, false, false, false, false, false, false, false, false]
  | 31, 2 => [false, true, false, false, true, false, false, false, false, false, false, false, false, false, false, false, false, false, false, false, false, false, false, false, false, false, false, false, false, false, false, false, false, false, false, false, false, false, false, false, false, false, false, false, false, false, false, false, false, false, false]
  | 32, 0 => [false, false, true, false, true, true, true, true, true, false, false, false, false, false, false, false, false, false, false, false, false, false, false, false, false, false, false, false, false, false, false, false, false, false, false, false, false, false, false, false, false, false, false, false, false, false, false, false, false, false, false, false, false, false, false, false, false, false, false, false, false, false, false, false, false, false, false, false, false, false, false, false, false, false, false, false, false, false, false, false, false, false, false, false, false, false, false, false, false, false, false, false, false, false, false, false, false, false, false, false, false]
  | 33, 0 => [false, true, false, true, true, false, false, false, false, false, false, false, false, false, false, false, false, false, false, false, false, false, false, false, false, false, false, false, false, false, false, false, false, false, false, false, false, false, false, false, false, false, false, false, false, false, false, false, false, false, false, false, false, false, false, false, false, false, false, false, false, false, false, false, false, false, false, false, false, false, false, false, false, false, false, false, false, false, false, false, false, false, false, false, false, false, false, false, false]
  | 37, 0 => [false, true, false, true, false, false, false, false, false, false, false, false, false, false, false, false, false, false, false, false, false, false, false, false, false, false, false, false, false, false, false, false, false, false, false, false, false, false, false, false, false, false, false, false, false, false, false, false, false, false, false, false, false, false, false, false, false, false, false, false, false, false, false, false, false, false, false, false, false, false, false, false, false, false, false, false, false, false, false, false, false, false, false, false, false, false, false, false, false, false, false, false, false, false, false, false, false, false, false, false, false, false, false, false, false, false, false, false, false, false, false, false, false, false, false, false, false]
  | 42, 0 => [true, false, false, true, false, false, true, true, false, false, false, false, false, false, false, false, false, false, false, false, false, false, false, false, false, false, false, false, false, false, false, false]
  | 47, 0 => [true, false, false, true, true, true, false, false, false, false, false, false, false, false, false, false, false, false, false, false, false, false, false, false, false, false, false, false, false, false, false, false, false, false, false, false, false, false, false, false]
  | 50, 0 => [false, true, false, false, false, true, false, false, false, false, false, false, false, false, false, false, false, false, false, false, false, false, false, false]
  | 58, 0 => [true, true, false, false, false, false, false, false, false, false, false, false, true, true, false, false, false, false, false, false, false, false, false, false, false, false]
  | 59, 0 => [true, true, false, false, false, false, false, false, false, false, false, false, true, true, false, false, false, false, false, false, false, false, false, false, false, false]
  | 63, 0 => [true, false, false, false, false, true, true, true, false, false, false, false, false, false, false, false, false, false, false, false, false, false, false, false, false, false, false, false, false, false, false, false, false, false, false]
  | 66, 0 => [true, false, false, true, false, false, false, false, false, false, false, false, false, false, false, false, false, false, false, false, false, false, false, false, false, false, false, false, false, false, false, false, false, false, false, false, false, false, false, false, false]
  | 71, 0 => [false, false, false, true, false, false, false, true, true, true, false, false, false, false, false, false, false, false, false, false, false, false, false, false, false, false, false, false, false, false, false, false, false, false, false, false, false, false, false, false, false, false]
  | 72, 0 => [true, false, false, false, false, true, true, true, false, false, false, false, false, false, false, false, false, false, false, false, false, false, false, false, false, false, false, false, false, false, false, false, false, false, false, false, false, false, false, false, false, false]
  | 79, 0 => [true, true, false, false, false, true, false, false, false, false, false, false, false, false, false, false, false, false, false, false, false, false, false, false, false, false]
  | 80, 0 => [true, true, false, false, false, false, false, false, false, false, false, false, true, true, false, false, false, false, false, false, false, false, false, false, false, false]
  | 82, 0 => [true, false, false, false, false, true, false, false, false, false, false, false, false, false, false, false, false, false, false, false, false, false, false, false, false, false, false, false, false, false, false, false, false, false, false, false, false, false, false, false, false, false, false, false, false, false, false, false, false, false, false, false, false, false, false, false, false, false, false, false, false, false, false, false, false, false, false, false, false]
  | 82, 2 => [true, false, false, false, false, true, true, false, false, false, false, false, false, false, false, false, false, false, false, false, false, false, false, false, false, false, false, false, false, false, false, false, false, false, false, false, false, false, false, false, false, false, false, false, false, false, false, false, false, false, false, false, false, false, false, false, false, false, false, false, false, false, false, false, false, false, false, false, false]
  | 83, 0 => [false, true, false, true, true, false, false, false, false, false, false, false, false, false, false, false, false]
  | 84, 0 => [false, false, true, true, false, true, false, false, false, false, false, false, false, false, false, false, false, false, false, false, false, false, false, false]
  | 86, 0 => [false, false, true, false, false, false, false, true, true, true, false, false, false, false, false, false, false, false, false, false, false, false, false, false, false, false, false, false, false, false, false, false, false, false, false, false, false, false, false, false, false, false, false, false]
  | 88, 0 => [true, false, false, false, true, true, false, false, false, false, false, false, false, false, false, false, false, false, false, false, false, false, false, false, false, false, false, false, false, false, false, false, false, false, false, false, false, false, false, false, false, false, false, false, false, false, false, false, false, false, false, false, false]
  | 99, 0 => [false, false, false, true, false, false, true, true, true, false, false, false, false, false, false, false, false, false]
  | 103, 0 => [false, true, false, true, false, false, false, false, false, false, false, false, false, false, false, false, false]
  | _, _ => []
def cfgA.plan (f k : Nat) : List Nat :=
  match f, k with
  | 3, 7 => [0, 3, 1, 2, 4, 5, 6, 7, 8, 9, 10, 11, 12, 13, 14, 15, 16, 17, 18, 19, 20, 21, 22, 24, 23, 25, 26, 27, 28, 29, 31, 33, 30, 32, 34, 35, 36, 37, 38, 39, 41, 40, 42, 43, 44, 45, 46]
  | 4, 7 => [0, 1, 2, 3, 4, 5, 6, 7, 8, 9, 10, 11, 12, 13, 14, 18, 19, 15, 16, 17, 20, 21, 22, 23]
  | 6, 7 => [0, 3, 1, 2, 4, 5, 6, 7, 8, 9, 10, 11, 12, 13, 14, 15, 16, 17, 18, 19, 20, 21, 22, 23, 24, 25, 26, 27, 28, 29, 30]
  | 8, 7 => [0, 3, 1, 2, 4, 5, 6, 7, 8, 9, 10, 11, 12, 13, 14, 15, 16, 17, 18, 19, 20, 21, 22, 24, 23, 25, 26, 27, 28, 29, 31, 33, 30, 32, 34, 35, 36, 37, 38, 39, 41, 40, 42, 43, 44, 45, 46]
  | 9, 7 => [0, 1, 2, 3, 4, 5, 6, 7, 8, 9, 10, 11, 12, 13, 14, 18, 19, 15, 16, 17, 20, 21, 22, 23]
  | 14, 3 => [0, 1, 3, 4, 2, 5, 6, 7]
  | 14, 6 => [1, 2, 4, 5, 7, 8, 0, 3, 6, 9, 10]
  | 14, 14 => [1, 3, 4, 6, 7, 8, 0, 2, 5, 9, 10]
  | 15, 3 => [0, 1, 2, 4, 5, 3, 6, 7, 8]
  | 15, 6 => [1, 2, 4, 5, 7, 8, 0, 3, 6, 9, 10]
  | 17, 6 => [0, 1, 2, 3, 4, 5, 6, 7, 8, 9, 10]
  | 19, 1 => [0, 1, 2, 3, 4]
  | 21, 9 => [1, 2, 3, 5, 6, 0, 4, 7, 8]
  | 22, 5 => [1, 2, 3, 4, 5, 6, 7, 8, 0, 9, 10, 11]
  | 23, 6 => [0, 1, 2, 3, 4, 5, 6, 7, 8]
  | 25, 5 => [1, 2, 3, 4, 0, 5, 6, 7]
  | 26, 5 => [1, 2, 3, 4, 5, 7, 8, 9, 10, 11, 0, 6, 12, 13, 14, 15]
  | 30, 3 => [0, 1, 3, 4, 6, 7, 2, 5, 8, 9]
  | 30, 5 => [1, 2, 3, 5, 6, 9, 0, 4, 7, 8, 10, 11]
  | 30, 6 => [1, 2, 4, 5, 0, 3, 6, 7]
  | 30, 7 => [1, 2, 4, 5, 6, 0, 3, 7, 8]
  | 30, 11 => [1, 2, 4, 5, 0, 3, 6, 7]
  | 30, 18 => [1, 2, 4, 5, 7, 8, 0, 3, 6, 9, 10]
  | 33, 3 => [0, 1, 2, 4, 5, 6, 8, 9, 10, 3, 7, 11, 12]
  | 33, 4 => [1, 2, 3, 5, 6, 0, 4, 7, 8, 9]
  | 33, 5 => [1, 2, 4, 5, 7, 8, 0, 3, 6, 9, 10]
  | 33, 6 => [1, 2, 4, 5, 6, 7, 0, 3, 8, 9]
  | 33, 10 => [1, 2, 3, 4, 5, 6, 8, 9, 10, 11, 12, 13, 0, 7, 14, 15]
  | 33, 17 => [1, 2, 4, 5, 6, 0, 3, 7, 8]
  | 36, 1 => [0, 1, 2, 3, 5, 6, 7, 8, 4, 9, 10, 11]
  | 36, 2 => [0, 1, 2, 3, 4, 5, 7, 6, 8, 9, 10, 11]
  | 37, 6 => [0, 1, 2, 3, 4, 5, 6, 7, 8, 9, 10, 11, 12, 13, 14, 15, 16, 17, 18, 19, 20, 21, 22, 23, 24, 25, 26, 27, 28, 29, 30, 31, 32, 33, 34, 35, 36, 37, 38]
  | 45, 3 => [0, 1, 2, 3, 4, 5, 6, 7, 8, 9, 10, 11, 12, 13, 14]
  | 49, 1 => [0, 1, 2, 3, 4, 5, 6, 7, 8, 9, 10, 11, 12, 13, 14, 15, 16, 17]
  | 58, 6 => [0, 1, 2, 3, 4, 5, 6, 7, 8]
  | 59, 6 => [0, 1, 2, 3, 4, 5, 6, 7, 8]
  | 60, 4 => [0, 1, 2, 3, 4, 5, 6, 7, 8, 9, 10, 11]
  | 60, 9 => [0, 1, 2, 3, 4, 5, 6, 7]
  | 66, 4 => [0, 1, 2, 3, 4, 5, 6, 7, 8, 9, 10, 11, 12, 13, 14, 15, 16, 17, 18, 19, 20, 21, 22, 23, 24, 25, 26, 27]
  | 68, 2 => [0, 1, 2, 3]
  | 72, 4 => [0, 1, 2, 3, 4, 5, 6, 7, 8, 9, 10, 11, 12, 13, 14, 15, 16, 17, 18, 19, 20, 21, 22, 23, 24, 25]
  | 76, 2 => [0, 1, 2, 3]
  | 78, 1 => [0, 1, 2, 3, 4, 5, 6, 7, 8, 9, 10, 11, 12, 13, 14, 15]
  | 78, 5 => [0, 1, 2, 3, 4, 5, 6, 7, 8, 9, 10, 11]
  | 79, 6 => [0, 1, 2, 3, 4, 5, 6, 7, 8]
  | 80, 6 => [0, 1, 2, 3, 4, 5, 6, 7, 8]
  | 82, 11 => [0, 1, 2, 3, 4, 5, 6, 7, 8, 9, 10]
  | 84, 4 => [0, 1, 2, 3, 4, 5, 6]
  | 84, 6 => [0, 1, 2, 3, 4, 5, 6]
  | 93, 1 => [0, 1, 2, 3, 5, 6, 7, 8, 4, 9, 10, 11, 12]
  | 96, 1 => [0, 1, 2, 3]
  | 97, 1 => [0, 1, 2, 3, 4, 5, 6, 7, 8, 9, 10, 11, 12, 13, 14, 15, 16, 17, 18]
  | 97, 4 => [0, 1, 2, 3, 4, 5, 6, 7, 8, 9, 10, 11, 12, 13, 14, 15, 16, 17]
  | _, _ => []
def cfgA.tree (f k : Nat) : PT :=
  match f, k with
  | 3, 7 => .rd 0 (.rd 3 (.mv 1 (.rd 2 (.mv 4 (.mv 5 (.rd 6 (.rd 7 (.rd 8 (.rd 9 (.rd 10 (.rd 11 (.rd 12 (.rd 13 (.rd 14 (.rd 15 (.rd 16 (.rd 17 (.rd 18 (.rd 19 (.rd 20 (.rd 21 (.rd 22 (.rd 24 (.mv 23 (.mv 25 (.rd 26 (.rd 27 (.rd 28 (.rd 29 (.rd 31 (.rd 33 (.mv 30 (.mv 32 (.mv 34 (.mv 35 (.rd 36 (.rd 37 (.rd 38 (.rd 39 (.rd 41 (.mv 40 (.mv 42 (.mv 43 (.rd 44 (.rd 45 (.mv 46 (.done) (.stop)))) (.stop)) (.stop)) (.stop))))))) (.stop)) (.stop)) (.stop)) (.stop)))))))) (.stop)) (.stop)))))))))))))))))))) (.stop)) (.stop))) (.stop)))
  | 4, 7 => .rd 0 (.rd 1 (.rd 2 (.rd 3 (.rd 4 (.mv 5 (.rd 6 (.rd 7 (.rd 8 (.rd 9 (.mv 10 (.rd 11 (.rd 12 (.rd 13 (.rd 14 (.rd 18 (.rd 19 (.mv 15 (.rd 16 (.rd 17 (.mv 20 (.rd 21 (.rd 22 (.rd 23 (.done)))) (.stop)))) (.stop)))))))) (.stop)))))) (.stop))))))
  | 6, 7 => .rd 0 (.rd 3 (.mv 1 (.rd 2 (.mv 4 (.rd 5 (.rd 6 (.rd 7 (.rd 8 (.rd 9 (.rd 10 (.rd 11 (.rd 12 (.rd 13 (.rd 14 (.rd 15 (.rd 16 (.rd 17 (.rd 18 (.rd 19 (.rd 20 (.rd 21 (.rd 22 (.rd 23 (.rd 24 (.rd 25 (.rd 26 (.rd 27 (.mv 28 (.rd 29 (.mv 30 (.done) (.stop))) (.stop))))))))))))))))))))))))) (.stop))) (.stop)))
  | 8, 7 => .rd 0 (.rd 3 (.mv 1 (.rd 2 (.mv 4 (.mv 5 (.rd 6 (.rd 7 (.rd 8 (.rd 9 (.rd 10 (.rd 11 (.rd 12 (.rd 13 (.rd 14 (.rd 15 (.rd 16 (.rd 17 (.rd 18 (.rd 19 (.rd 20 (.rd 21 (.rd 22 (.rd 24 (.mv 23 (.mv 25 (.rd 26 (.rd 27 (.rd 28 (.rd 29 (.rd 31 (.rd 33 (.mv 30 (.mv 32 (.mv 34 (.mv 35 (.rd 36 (.rd 37 (.rd 38 (.rd 39 (.rd 41 (.mv 40 (.mv 42 (.mv 43 (.rd 44 (.rd 45 (.mv 46 (.done) (.stop)))) (.stop)) (.stop)) (.stop))))))) (.stop)) (.stop)) (.stop)) (.stop)))))))) (.stop)) (.stop)))))))))))))))))))) (.stop)) (.stop))) (.stop)))
  | 9, 7 => .rd 0 (.rd 1 (.rd 2 (.rd 3 (.rd 4 (.mv 5 (.rd 6 (.rd 7 (.rd 8 (.rd 9 (.mv 10 (.rd 11 (.rd 12 (.rd 13 (.rd 14 (.rd 18 (.rd 19 (.mv 15 (.rd 16 (.rd 17 (.mv 20 (.rd 21 (.rd 22 (.rd 23 (.done)))) (.stop)))) (.stop)))))))) (.stop)))))) (.stop))))))
  | 12, 17 => .rd 0 (.rd 2 (.mv 1 (.mv 3 (.rd 4 (.mv 5 (.rd 6 (.mv 7 (.done) (.stop))) (.stop))) (.stop)) (.mv 3 (.rd 4 (.mv 1 (.mv 5 (.rd 6 (.mv 7 (.done) (.stop))) (.stop)) (.stop))) (.stop))))
  | 13, 18 => .rd 0 (.rd 2 (.mv 1 (.mv 3 (.rd 4 (.mv 5 (.rd 6 (.mv 7 (.done) (.stop))) (.stop))) (.stop)) (.mv 3 (.rd 4 (.mv 1 (.mv 5 (.rd 6 (.mv 7 (.done) (.stop))) (.stop)) (.stop))) (.stop))))
  | 14, 3 => .rd 0 (.rd 1 (.rd 3 (.rd 4 (.mv 2 (.mv 5 (.mv 6 (.mv 7 (.done) (.stop)) (.stop)) (.stop)) (.stop)))))
  | 14, 6 => .rd 1 (.rd 2 (.rd 4 (.rd 5 (.rd 7 (.rd 8 (.mv 0 (.mv 3 (.mv 6 (.mv 9 (.mv 10 (.done) (.stop)) (.stop)) (.stop)) (.stop)) (.stop)))))))
  | 14, 14 => .rd 1 (.rd 3 (.rd 4 (.rd 6 (.rd 7 (.rd 8 (.mv 0 (.mv 2 (.mv 5 (.mv 9 (.mv 10 (.done) (.stop)) (.stop)) (.stop)) (.stop)) (.stop)))))))
  | 15, 3 => .rd 0 (.rd 1 (.rd 2 (.rd 4 (.rd 5 (.mv 3 (.mv 6 (.mv 7 (.mv 8 (.done) (.stop)) (.stop)) (.stop)) (.stop))))))
  | 15, 6 => .rd 1 (.rd 2 (.rd 4 (.rd 5 (.rd 7 (.rd 8 (.mv 0 (.mv 3 (.mv 6 (.mv 9 (.mv 10 (.done) (.stop)) (.stop)) (.stop)) (.stop)) (.stop)))))))
  | 15, 11 => .rd 1 (.rd 2 (.rd 6 (.rd 7 (.rd 9 (.rd 10 (.rd 11 (.rd 12 (.mv 0 (.mv 3 (.rd 4 (.mv 5 (.mv 8 (.mv 13 (.mv 14 (.done) (.stop)) (.stop)) (.stop)) (.stop))) (.stop)) (.mv 3 (.rd 4 (.mv 0 (.mv 5 (.mv 8 (.mv 13 (.mv 14 (.done) (.stop)) (.stop)) (.stop)) (.stop)) (.stop))) (.stop))))))))))
  | 17, 6 => .rd 0 (.rd 1 (.rd 2 (.rd 3 (.rd 4 (.rd 5 (.rd 6 (.rd 7 (.rd 8 (.rd 9 (.rd 10 (.done)))))))))))
  | 19, 1 => .rd 0 (.rd 1 (.mv 2 (.mv 3 (.rd 4 (.done)) (.stop)) (.stop)))
  | 21, 9 => .rd 1 (.rd 2 (.rd 3 (.rd 5 (.rd 6 (.mv 0 (.mv 4 (.mv 7 (.mv 8 (.done) (.stop)) (.stop)) (.stop)) (.stop))))))
  | 22, 5 => .rd 1 (.rd 2 (.rd 3 (.rd 4 (.rd 5 (.rd 6 (.rd 7 (.rd 8 (.mv 0 (.mv 9 (.mv 10 (.mv 11 (.done) (.stop)) (.stop)) (.stop)) (.stop)))))))))
  | 23, 6 => .rd 0 (.rd 1 (.rd 2 (.rd 3 (.rd 4 (.rd 5 (.rd 6 (.rd 7 (.rd 8 (.done)))))))))
  | 25, 5 => .rd 1 (.rd 2 (.rd 3 (.rd 4 (.mv 0 (.mv 5 (.mv 6 (.mv 7 (.done) (.stop)) (.stop)) (.stop)) (.stop)))))
  | 26, 5 => .rd 1 (.rd 2 (.rd 3 (.rd 4 (.rd 5 (.rd 7 (.rd 8 (.rd 9 (.rd 10 (.rd 11 (.mv 0 (.mv 6 (.mv 12 (.rd 13 (.mv 14 (.mv 15 (.done) (.stop)) (.stop))) (.stop)) (.stop)) (.stop)))))))))))
  | 30, 3 => .rd 0 (.rd 1 (.rd 3 (.rd 4 (.rd 6 (.rd 7 (.mv 2 (.mv 5 (.mv 8 (.mv 9 (.done) (.stop)) (.stop)) (.stop)) (.stop)))))))
  | 30, 5 => .rd 1 (.rd 2 (.rd 3 (.rd 5 (.rd 6 (.rd 9 (.mv 0 (.mv 4 (.mv 7 (.mv 8 (.mv 10 (.mv 11 (.done) (.stop)) (.stop)) (.stop)) (.stop)) (.stop)) (.stop)))))))
  | 30, 6 => .rd 1 (.rd 2 (.rd 4 (.rd 5 (.mv 0 (.mv 3 (.mv 6 (.mv 7 (.done) (.stop)) (.stop)) (.stop)) (.stop)))))
  | 30, 7 => .rd 1 (.rd 2 (.rd 4 (.rd 5 (.rd 6 (.mv 0 (.mv 3 (.mv 7 (.mv 8 (.done) (.stop)) (.stop)) (.stop)) (.stop))))))
  | 30, 11 => .rd 1 (.rd 2 (.rd 4 (.rd 5 (.mv 0 (.mv 3 (.mv 6 (.mv 7 (.done) (.stop)) (.stop)) (.stop)) (.stop)))))
  | 30, 18 => .rd 1 (.rd 2 (.rd 4 (.rd 5 (.rd 7 (.rd 8 (.mv 0 (.mv 3 (.mv 6 (.mv 9 (.mv 10 (.done) (.stop)) (.stop)) (.stop)) (.stop)) (.stop)))))))
  | 33, 3 => .rd 0 (.rd 1 (.rd 2 (.rd 4 (.rd 5 (.rd 6 (.rd 8 (.rd 9 (.rd 10 (.mv 3 (.mv 7 (.mv 11 (.mv 12 (.done) (.stop)) (.stop)) (.stop)) (.stop))))))))))
  | 33, 4 => .rd 1 (.rd 2 (.rd 3 (.rd 5 (.rd 6 (.mv 0 (.mv 4 (.mv 7 (.mv 8 (.mv 9 (.done) (.stop)) (.stop)) (.stop)) (.stop)) (.stop))))))
  | 33, 5 => .rd 1 (.rd 2 (.rd 4 (.rd 5 (.rd 7 (.rd 8 (.mv 0 (.mv 3 (.mv 6 (.mv 9 (.mv 10 (.done) (.stop)) (.stop)) (.stop)) (.stop)) (.stop)))))))
  | 33, 6 => .rd 1 (.rd 2 (.rd 4 (.rd 5 (.rd 6 (.rd 7 (.mv 0 (.mv 3 (.mv 8 (.mv 9 (.done) (.stop)) (.stop)) (.stop)) (.stop)))))))
  | 33, 10 => .rd 1 (.rd 2 (.rd 3 (.rd 4 (.rd 5 (.rd 6 (.rd 8 (.rd 9 (.rd 10 (.rd 11 (.rd 12 (.rd 13 (.mv 0 (.mv 7 (.mv 14 (.mv 15 (.done) (.stop)) (.stop)) (.stop)) (.stop)))))))))))))
  | 33, 17 => .rd 1 (.rd 2 (.rd 4 (.rd 5 (.rd 6 (.mv 0 (.mv 3 (.mv 7 (.mv 8 (.done) (.stop)) (.stop)) (.stop)) (.stop))))))
  | 36, 1 => .rd 0 (.rd 1 (.rd 2 (.rd 3 (.rd 5 (.rd 6 (.rd 7 (.rd 8 (.mv 4 (.mv 9 (.mv 10 (.mv 11 (.done) (.stop)) (.stop)) (.stop)) (.stop)))))))))
  | 36, 2 => .rd 0 (.rd 1 (.rd 2 (.rd 3 (.rd 4 (.rd 5 (.rd 7 (.mv 6 (.mv 8 (.rd 9 (.rd 10 (.mv 11 (.done) (.stop)))) (.stop)) (.stop))))))))
  | 37, 6 => .rd 0 (.rd 1 (.rd 2 (.rd 3 (.rd 4 (.rd 5 (.mv 6 (.rd 7 (.rd 8 (.rd 9 (.rd 10 (.rd 11 (.rd 12 (.rd 13 (.rd 14 (.rd 15 (.rd 16 (.rd 17 (.rd 18 (.rd 19 (.rd 20 (.rd 21 (.rd 22 (.rd 23 (.rd 24 (.rd 25 (.rd 26 (.rd 27 (.rd 28 (.rd 29 (.rd 30 (.rd 31 (.rd 32 (.rd 33 (.rd 34 (.mv 35 (.rd 36 (.rd 37 (.rd 38 (.done)))) (.stop)))))))))))))))))))))))))))))) (.stop)))))))
  | 45, 3 => .rd 0 (.rd 1 (.rd 2 (.rd 3 (.rd 4 (.rd 5 (.rd 6 (.rd 7 (.rd 8 (.mv 9 (.rd 10 (.rd 11 (.rd 12 (.mv 13 (.mv 14 (.done) (.stop)) (.stop))))) (.stop))))))))))
  | 49, 1 => .rd 0 (.rd 1 (.rd 2 (.rd 3 (.rd 4 (.rd 5 (.rd 6 (.rd 7 (.rd 8 (.rd 9 (.rd 10 (.rd 11 (.rd 12 (.rd 13 (.rd 14 (.rd 15 (.rd 16 (.mv 17 (.done) (.stop))))))))))))))))))
  | 58, 6 => .rd 0 (.rd 1 (.rd 2 (.rd 3 (.rd 4 (.rd 5 (.rd 6 (.rd 7 (.rd 8 (.done)))))))))
  | 59, 6 => .rd 0 (.rd 1 (.rd 2 (.rd 3 (.rd 4 (.rd 5 (.rd 6 (.rd 7 (.rd 8 (.done)))))))))
  | 60, 4 => .rd 0 (.rd 1 (.rd 2 (.rd 3 (.rd 4 (.rd 5 (.rd 6 (.mv 7 (.rd 8 (.mv 9 (.rd 10 (.mv 11 (.done) (.stop))) (.stop))) (.stop))))))))
  | 60, 9 => .rd 0 (.rd 1 (.rd 2 (.rd 3 (.rd 4 (.mv 5 (.rd 6 (.mv 7 (.done) (.stop))) (.stop))))))
  | 66, 4 => .rd 0 (.rd 1 (.rd 2 (.rd 3 (.rd 4 (.rd 5 (.rd 6 (.rd 7 (.rd 8 (.rd 9 (.rd 10 (.rd 11 (.rd 12 (.rd 13 (.rd 14 (.rd 15 (.rd 16 (.rd 17 (.rd 18 (.rd 19 (.rd 20 (.rd 21 (.rd 22 (.rd 23 (.rd 24 (.rd 25 (.rd 26 (.rd 27 (.done))))))))))))))))))))))))))))
  | 68, 2 => .rd 0 (.rd 1 (.mv 2 (.mv 3 (.done) (.stop)) (.stop)))
  | 72, 4 => .rd 0 (.rd 1 (.mv 2 (.rd 3 (.rd 4 (.rd 5 (.rd 6 (.rd 7 (.rd 8 (.rd 9 (.rd 10 (.rd 11 (.rd 12 (.rd 13 (.rd 14 (.rd 15 (.rd 16 (.rd 17 (.rd 18 (.rd 19 (.rd 20 (.rd 21 (.mv 22 (.rd 23 (.rd 24 (.rd 25 (.done)))) (.stop))))))))))))))))))))) (.stop)))
  | 76, 2 => .rd 0 (.rd 1 (.mv 2 (.mv 3 (.done) (.stop)) (.stop)))
  | 78, 1 => .rd 0 (.rd 1 (.rd 2 (.rd 3 (.rd 4 (.rd 5 (.rd 6 (.rd 7 (.rd 8 (.rd 9 (.rd 10 (.rd 11 (.rd 12 (.rd 13 (.rd 14 (.rd 15 (.done))))))))))))))))
  | 78, 5 => .rd 0 (.rd 1 (.rd 2 (.rd 3 (.rd 4 (.rd 5 (.rd 6 (.rd 7 (.rd 8 (.rd 9 (.rd 10 (.mv 11 (.done) (.stop))))))))))))
  | 79, 6 => .rd 0 (.rd 1 (.rd 2 (.rd 3 (.rd 4 (.rd 5 (.rd 6 (.rd 7 (.rd 8 (.done)))))))))
  | 80, 6 => .rd 0 (.rd 1 (.rd 2 (.rd 3 (.rd 4 (.rd 5 (.rd 6 (.rd 7 (.rd 8 (.done)))))))))
  | 82, 11 => .rd 0 (.rd 1 (.rd 2 (.rd 3 (.rd 4 (.rd 5 (.rd 6 (.rd 7 (.rd 8 (.rd 9 (.rd 10 (.done)))))))))))
  | 84, 4 => .rd 0 (.rd 1 (.rd 2 (.rd 3 (.rd 4 (.rd 5 (.rd 6 (.done)))))))
  | 84, 6 => .rd 0 (.rd 1 (.rd 2 (.rd 3 (.rd 4 (.rd 5 (.rd 6 (.done)))))))
  | 93, 1 => .rd 0 (.rd 1 (.rd 2 (.rd 3 (.rd 5 (.rd 6 (.rd 7 (.rd 8 (.mv 4 (.mv 9 (.rd 10 (.mv 11 (.mv 12 (.done) (.stop)) (.stop))) (.stop)) (.stop)))))))))
  | 96, 1 => .rd 0 (.rd 1 (.mv 2 (.mv 3 (.done) (.stop)) (.stop)))
  | 97, 1 => .rd 0 (.rd 1 (.rd 2 (.rd 3 (.rd 4 (.rd 5 (.rd 6 (.rd 7 (.rd 8 (.rd 9 (.rd 10 (.rd 11 (.rd 12 (.rd 13 (.rd 14 (.rd 15 (.rd 16 (.rd 17 (.rd 18 (.done)))))))))))))))))))
  | 97, 4 => .rd 0 (.rd 1 (.rd 2 (.rd 3 (.rd 4 (.rd 5 (.rd 6 (.rd 7 (.rd 8 (.rd 9 (.rd 10 (.rd 11 (.rd 12 (.rd 13 (.rd 14 (.rd 15 (.rd 16 (.mv 17 (.done) (.stop))))))))))))))))))
  | _, _ => .stop
def cfgA.thaw (f d : Nat) : Bool := false
def cfgA.freeze (f d : Nat) : Bool := false
def cfgA : Cfg := { heap := cfgA.heap, take := cfgA.take, thaw := cfgA.thaw, freeze := cfgA.freeze, mask := cfgA.mask, plan := cfgA.plan, prim := fun f => match f with | 110 => some primIndexByte | 108 => some primCompare | _ => none }
theorem plans : plansOK Try.prog cfgA = true := by kernel_rfl
theorem trees : treesOK Try.prog cfgA cfgA.tree = true := by kernel_rfl
theorem named : (Try.prog.funcs.all fun fn => fn.name != "runtime.NumGoroutine") = true := by kernel_rfl
theorem names_ok : ∀ (f : FuncId) (fn : Func), Try.prog.funcs[f]? = some fn → fn.name ≠ "runtime.NumGoroutine" := by
  intro f fn hf
  have := Array.all_eq_true_iff_forall_mem.1 named fn (Array.mem_of_getElem? hf)
  simpa using this
theorem prims : PrimOK Try.prog cfgA := by
  intro f p hp args σ v σ' h g w ow xs r
  simp only [cfgA] at hp
  split at hp
  · injection hp with hp; subst hp
    exact indexByte_prim Try.func110 (by kernel_rfl) (by kernel_rfl) (by kernel_rfl) (by kernel_rfl) h r
  · injection hp with hp; subst hp
    exact compare_prim Try.func108 (by kernel_rfl) (by kernel_rfl) (by kernel_rfl) (by kernel_rfl) h r
  · cases hp
theorem sound (n : Nat) : Sound Try.prog (ev Try.prog cfgA n) := ev_sound Try.checked.mixed plans names_ok prims n
abbrev E : CallW := EvW Try.prog cfgA cfgA.tree
theorem E_sound {t : Tgt} {args : List AV} {σ : St} {K : AV → St → Prop} (h : E t args σ K) : ModelW Try.prog t args σ K := EvW_sound Try.checked.mixed trees names_ok prims h
end Go.AM
namespace Go.AM
open Go Go.Proofs
set_option maxRecDepth 20000
theorem low_msg_node : lowFn Try.prog cfgA cfgA.tree 70 = some (C_msg_node) := by kernel_rfl
theorem low_stamp_Good : lowFn Try.prog cfgA cfgA.tree 62 = some (C_stamp_Good) := by kernel_rfl
theorem low_key_text : lowFn Try.prog cfgA cfgA.tree 103 = some (C_key_text) := by kernel_rfl
theorem low_internal_stringslite_IndexByte : lowFn Try.prog cfgA cfgA.tree 109 = some (C_internal_stringslite_IndexByte 110) := by kernel_rfl
theorem low_strings_IndexByte : lowFn Try.prog cfgA cfgA.tree 107 = some (C_strings_IndexByte 109) := by kernel_rfl
theorem low_key_Of : lowFn Try.prog cfgA cfgA.tree 102 = some (C_key_Of 107) := by kernel_rfl
theorem low_key_Good : lowFn Try.prog cfgA cfgA.tree 95 = some (C_key_Good 103 102) := by kernel_rfl
theorem low_store_Good : lowFn Try.prog cfgA cfgA.tree 71 = some (C_store_Good (cs [95])) := by kernel_rfl
theorem low_bytes_Compare : lowFn Try.prog cfgA cfgA.tree 104 = some (C_bytes_Compare 108) := by kernel_rfl
theorem low_key_Cmp : lowFn Try.prog cfgA cfgA.tree 96 = some (C_key_Cmp 104) := by kernel_rfl
theorem low_msg_goodItems : lowFn Try.prog cfgA cfgA.tree 72 = some (C_msg_goodItems (cs [95, 96])) := by kernel_rfl
theorem low_msg_Good : lowFn Try.prog cfgA cfgA.tree 29 = some (C_msg_Good (cs [70, 62, 71, 72])) := by kernel_rfl
theorem low_bits_Put : lowFn Try.prog cfgA cfgA.tree 50 = some (C_bits_Put) := by kernel_rfl
theorem low_msg_num : lowFn Try.prog cfgA cfgA.tree 73 = some (C_msg_num (cs [50])) := by kernel_rfl
theorem low_stamp_Pack : lowFn Try.prog cfgA cfgA.tree 74 = some (C_stamp_Pack (cs [62])) := by kernel_rfl
theorem low_bits_Zig : lowFn Try.prog cfgA cfgA.tree 52 = some (C_bits_Zig) := by kernel_rfl
theorem low_rec_num : lowFn Try.prog cfgA cfgA.tree 51 = some (C_rec_num (cs [50])) := by kernel_rfl
theorem low_rec_PutWrites : lowFn Try.prog cfgA cfgA.tree 21 = some (C_rec_PutWrites (cs [51])) := by kernel_rfl
theorem low_msg_text : lowFn Try.prog cfgA cfgA.tree 75 = some (C_msg_text (cs [73])) := by kernel_rfl
theorem low_msg_Put : lowFn Try.prog cfgA cfgA.tree 30 = some (C_msg_Put (cs [29, 73, 74, 50, 52, 21, 75])) := by kernel_rfl
theorem low_bits_Get : lowFn Try.prog cfgA cfgA.tree 86 = some (C_bits_Get) := by kernel_rfl
theorem low_rec_Reader_spoil : lowFn Try.prog cfgA cfgA.tree 85 = some (C_rec_Reader_spoil) := by kernel_rfl
theorem low_rec_Reader_Num : lowFn Try.prog cfgA cfgA.tree 40 = some (C_rec_Reader_Num (cs [86, 85])) := by kernel_rfl
theorem low_rec_Reader_Most : lowFn Try.prog cfgA cfgA.tree 38 = some (C_rec_Reader_Most (cs [40, 85])) := by kernel_rfl
theorem low_bits_Zag : lowFn Try.prog cfgA cfgA.tree 39 = some (C_bits_Zag) := by kernel_rfl
theorem low_stamp_Unpack : lowFn Try.prog cfgA cfgA.tree 87 = some (C_stamp_Unpack) := by kernel_rfl
theorem low_rec_Reader_Stamp : lowFn Try.prog cfgA cfgA.tree 41 = some (C_rec_Reader_Stamp (cs [40, 87, 85])) := by kernel_rfl
theorem low_rec_Reader_Text : lowFn Try.prog cfgA cfgA.tree 69 = some (C_rec_Reader_Text (cs [85])) := by kernel_rfl
theorem low_rec_Reader_Key : lowFn Try.prog cfgA cfgA.tree 68 = some (C_rec_Reader_Key (cs [69])) := by kernel_rfl
theorem low_rec_Reader_Writes : lowFn Try.prog cfgA cfgA.tree 42 = some (C_rec_Reader_Writes (cs [38, 68, 69, 71, 85])) := by kernel_rfl
theorem low_msg_Get : lowFn Try.prog cfgA cfgA.tree 28 = some (C_msg_Get (cs [38, 40, 39, 41, 68, 42, 69, 29])) := by kernel_rfl
theorem low_slices_Equal_Write : lowFn Try.prog cfgA cfgA.tree 58 = some (C_slices_Equal_Write) := by kernel_rfl
theorem low_slices_Equal_Item : lowFn Try.prog cfgA cfgA.tree 80 = some (C_slices_Equal_Item) := by kernel_rfl
theorem low_msg_plain : lowFn Try.prog cfgA cfgA.tree 81 = some (C_msg_plain) := by kernel_rfl
theorem low_msg_Same : lowFn Try.prog cfgA cfgA.tree 36 = some (C_msg_Same (cs [58, 80, 81])) := by kernel_rfl
theorem low_hourglasslaw19_awake : lowFn Try.prog cfgA cfgA.tree 27 = some (C_hourglasslaw19_awake (cs [30, 28, 36, 29])) := by kernel_rfl
theorem low_hourglasslaw19_heavy : lowFn Try.prog cfgA cfgA.tree 31 = some (C_hourglasslaw19_heavy) := by kernel_rfl
theorem low_hourglassref1_Get : lowFn Try.prog cfgA cfgA.tree 88 = some (C_hourglassref1_Get) := by kernel_rfl
theorem low_hourglassref1_Reader_Num : lowFn Try.prog cfgA cfgA.tree 45 = some (C_hourglassref1_Reader_Num (cs [88])) := by kernel_rfl
theorem low_hourglassref14_Count : lowFn Try.prog cfgA cfgA.tree 43 = some (C_hourglassref14_Count (cs [45])) := by kernel_rfl
theorem low_hourglassref1_Zag : lowFn Try.prog cfgA cfgA.tree 44 = some (C_hourglassref1_Zag) := by kernel_rfl
theorem low_hourglassref6_Unpack : lowFn Try.prog cfgA cfgA.tree 89 = some (C_hourglassref6_Unpack) := by kernel_rfl
theorem low_hourglassref14_Stamp : lowFn Try.prog cfgA cfgA.tree 46 = some (C_hourglassref14_Stamp (cs [45, 89])) := by kernel_rfl
theorem low_hourglassref1_Reader_Bytes : lowFn Try.prog cfgA cfgA.tree 97 = some (C_hourglassref1_Reader_Bytes) := by kernel_rfl
theorem low_hourglassref14_Key : lowFn Try.prog cfgA cfgA.tree 76 = some (C_hourglassref14_Key (cs [97])) := by kernel_rfl
theorem low_hourglassref1_Reader_Byte : lowFn Try.prog cfgA cfgA.tree 78 = some (C_hourglassref1_Reader_Byte) := by kernel_rfl
theorem low_hourglassref14_Bool : lowFn Try.prog cfgA cfgA.tree 48 = some (C_hourglassref14_Bool (cs [78])) := by kernel_rfl
theorem low_hourglassref14_Text : lowFn Try.prog cfgA cfgA.tree 77 = some (C_hourglassref14_Text (cs [45, 97])) := by kernel_rfl
theorem low_hourglassref10_Good : lowFn Try.prog cfgA cfgA.tree 83 = some (C_hourglassref10_Good) := by kernel_rfl
theorem low_hourglassref10_MayWrites : lowFn Try.prog cfgA cfgA.tree 82 = some (C_hourglassref10_MayWrites (cs [83])) := by kernel_rfl
theorem low_hourglassref14_Writes : lowFn Try.prog cfgA cfgA.tree 47 = some (C_hourglassref14_Writes (cs [43, 76, 48, 77, 82])) := by kernel_rfl
theorem low_hourglassref1_Reader_End : lowFn Try.prog cfgA cfgA.tree 49 = some (C_hourglassref1_Reader_End) := by kernel_rfl
theorem low_hourglassref6_Good : lowFn Try.prog cfgA cfgA.tree 65 = some (C_hourglassref6_Good) := by kernel_rfl
theorem low_hourglassref10_Cmp : lowFn Try.prog cfgA cfgA.tree 84 = some (C_hourglassref10_Cmp) := by kernel_rfl
theorem low_hourglassref19_Good : lowFn Try.prog cfgA cfgA.tree 37 = some (C_hourglassref19_Good (cs [65, 82, 83, 84])) := by kernel_rfl
theorem low_hourglassref19_Get : lowFn Try.prog cfgA cfgA.tree 32 = some (C_hourglassref19_Get (cs [43, 45, 44, 46, 76, 47, 77, 78, 49, 37])) := by kernel_rfl
theorem low_hourglasslaw19_own : lowFn Try.prog cfgA cfgA.tree 34 = some (C_hourglasslaw19_own) := by kernel_rfl
theorem low_hourglassref1_Put : lowFn Try.prog cfgA cfgA.tree 90 = some (C_hourglassref1_Put (cs [90])) := by kernel_rfl
theorem low_hourglassref14_Num : lowFn Try.prog cfgA cfgA.tree 54 = some (C_hourglassref14_Num (cs [90])) := by kernel_rfl
theorem low_hourglassref1_Zig : lowFn Try.prog cfgA cfgA.tree 55 = some (C_hourglassref1_Zig) := by kernel_rfl
theorem low_hourglassref6_Pack : lowFn Try.prog cfgA cfgA.tree 91 = some (C_hourglassref6_Pack (cs [65])) := by kernel_rfl
theorem low_hourglassref14_Stp : lowFn Try.prog cfgA cfgA.tree 56 = some (C_hourglassref14_Stp (cs [91, 54])) := by kernel_rfl
theorem low_hourglassref14_flag : lowFn Try.prog cfgA cfgA.tree 57 = some (C_hourglassref14_flag) := by kernel_rfl
theorem low_hourglassref14_Txt : lowFn Try.prog cfgA cfgA.tree 67 = some (C_hourglassref14_Txt (cs [54])) := by kernel_rfl
theorem low_hourglassref14_PutWrites : lowFn Try.prog cfgA cfgA.tree 26 = some (C_hourglassref14_PutWrites (cs [54, 57, 67])) := by kernel_rfl
theorem low_hourglassref19_Put : lowFn Try.prog cfgA cfgA.tree 33 = some (C_hourglassref19_Put (cs [37, 54, 55, 56, 26, 67])) := by kernel_rfl
theorem low_hourglassref10_Writes : lowFn Try.prog cfgA cfgA.tree 23 = some (C_hourglassref10_Writes) := by kernel_rfl
theorem low_hourglassref10_Items : lowFn Try.prog cfgA cfgA.tree 79 = some (C_hourglassref10_Items) := by kernel_rfl
theorem low_hourglassref19_Same : lowFn Try.prog cfgA cfgA.tree 35 = some (C_hourglassref19_Same (cs [23, 79])) := by kernel_rfl
theorem low_hourglasslaw19_MsgBytes : lowFn Try.prog cfgA cfgA.tree 8 = some (C_hourglasslaw19_MsgBytes (cs [27, 31, 28, 32, 30, 34, 33, 35, 36, 29, 37])) := by kernel_rfl
end Go.AM
namespace Go.AM
open Go Go.Proofs
theorem EC : LeC E E := EvW.le
theorem EW : WkC E := fun _ _ _ _ _ h h2 => EvW.args h h2
theorem asBytes_row {S : List (List AV)} {H : List HObj} {r : Nat} {a : List UInt8} (h : S[r]? = some (bs a)) (ha : a.length = 16) : asBytes ⟨S, H⟩ (.row (.stk r) 0 16 16) = some a := by
  have e : (bs a).take 16 = bs a := List.take_of_length_le (by rw [bs_length, ha]; exact Nat.le_refl _)
  have e2 : 16 ≤ (bs a).length := by rw [bs_length, ha]; exact Nat.le_refl _
  simp only [asBytes, readCells, boxOf_stk, h, Option.bind_some, Nat.zero_add, e2, (show ((16 : Nat) ≠ 1) = True from eq_true (by decide)), true_or, and_self, if_true, List.drop_zero, e, map_look_bs, bytesIn_bs]
theorem ref1PutAll {f : FuncId} (hp : cfgA.prim f = none) (low : lowFn Try.prog cfgA cfgA.tree f = some (C_hourglassref1_Put (cs [f]))) : ∀ v : Nat, v < 18446744073709551616 → PutRS E f v := by
  intro v
  induction v using Nat.strongRecOn with
  | ind v ih =>
    intro hv S H K hK
    refine EvW.res (runL_ok hp low (ref1_Put_spec _ v (fun w hw => ih w hw (by omega)) S H _ hv ⟨_, .inr ?_, hK⟩))
    unfold putFl
    split
    · exact .full .nil
    · exact .same .nil
end Go.AM
namespace Go.AM
open Go Go.Proofs
theorem inM_of {m : Msg} (h : (-9223372036854775808 ≤ m.kind ∧ m.kind ≤ 9223372036854775807) ∧ (-9223372036854775808 ≤ m.frm ∧ m.frm ≤ 9223372036854775807) ∧ (-9223372036854775808 ≤ m.tto ∧ m.tto ≤ 9223372036854775807) ∧ (-9223372036854775808 ≤ m.id ∧ m.id ≤ 9223372036854775807) ∧ (-9223372036854775808 ≤ m.num ∧ m.num ≤ 9223372036854775807) ∧ True ∧ True ∧ True ∧ (m.writes.length ≤ 9223372036854775807 ∧ ∀ a ∈ m.writes, True) ∧ (m.items.length ≤ 9223372036854775807 ∧ ∀ a ∈ m.items, True ∧ a.val.length ≤ 9223372036854775807) ∧ m.val.length ≤ 9223372036854775807 ∧ True ∧ True ∧ (-9223372036854775808 ≤ m.err ∧ m.err ≤ 9223372036854775807)) : inM m := by
  obtain ⟨_, _, _, h4, h5, _, _, _, h9, h10, h11, _⟩ := h
  exact ⟨⟨h9.1, h10.1, h11, fun x hx => (h10.2 x hx).2⟩, h4.1, h4.2, h5.1, h5.2⟩
end Go.AM
namespace Go.AM
open Go Go.Proofs
theorem q_msg_node : ∀ n : Int, FnS E 70 [.s (.int .i64 n)] (.bool (nodeB n)) := fun n S H K hK => runL_ok rfl low_msg_node (msg_node_spec _ n S H K hK)
theorem q_stamp_Good : ∀ s : Stp, FnS E 62 [.agg (stc s)] (.bool (goodS s)) := fun s S H K hK => runL_ok rfl low_stamp_Good (stamp_Good_spec _ s S H K hK)
theorem q_key_text : TextS E 103 := fun k S H K hK => runL_ok rfl low_key_text (key_text_spec EC _ k S H K hK)
theorem q_internal_bytealg_IndexByteString : IdxS E 110 := fun l S H K hK => primW (p := primIndexByte) rfl (v := .i (Lib.indexByte l 0)) (σ' := ⟨S, H⟩) rfl hK
theorem q_internal_stringslite_IndexByte : IdxS E 109 := fun l S H K hK => runL_ok rfl low_internal_stringslite_IndexByte (stringslite_IndexByte_spec EC _ q_internal_bytealg_IndexByteString l S H K hK)
theorem q_strings_IndexByte : IdxS E 107 := fun l S H K hK => runL_ok rfl low_strings_IndexByte (strings_IndexByte_spec EC _ q_internal_stringslite_IndexByte l S H K hK)
theorem q_key_Of : OfK E 102 := fun s S H K hK => runL_ok rfl low_key_Of (key_Of_spec EC _ q_strings_IndexByte s S H K hK)
theorem q_key_Good : BoolK goodK E 95 := fun k S H K hK => runL_ok rfl low_key_Good (key_Good_spec EC _ q_key_text q_key_Of k S H K hK)
theorem q_store_Good : GoodWS E 71 := fun l S H K hl hK => runL_ok rfl low_store_Good (store_Good_spec EC _ q_key_Good l S H K hl hK)
theorem q_internal_bytealg_Compare : CmpB E 108 := fun a b S H r1 r2 K h1 h2 ha hb hK => primW (p := primCompare) rfl (v := .i (Lib.compareBytes a b)) (σ' := ⟨S, H⟩) (by simp only [primCompare, asBytes_row h1 ha, asBytes_row h2 hb]) hK
theorem q_bytes_Compare : CmpB E 104 := fun a b S H r1 r2 K h1 h2 ha hb hK => runL_ok rfl low_bytes_Compare (bytes_Compare_spec EC _ q_internal_bytealg_Compare a b S H r1 r2 K h1 h2 ha hb hK)
theorem q_key_Cmp : KCmp E 96 := fun a b S H K hK => runL_ok rfl low_key_Cmp (key_Cmp_spec EC _ q_bytes_Compare a b S H K hK)
theorem q_msg_goodItems : GoodItsS E 72 := fun l S H K hl hK => runL_ok rfl low_msg_goodItems (msg_goodItems_spec EC _ q_key_Good q_key_Cmp l S H K hl hK)
theorem q_msg_Good : GoodMS E 29 := fun m S H K hm hK => runL_ok rfl low_msg_Good (msg_Good_spec _ q_msg_node q_stamp_Good q_store_Good q_msg_goodItems m S H K hm hK)
theorem q_bits_Put : PutS E 50 := fun a b v S H K ha hb hv hK => EW _ _ _ _ _ (ha.wk (.same .nil)) (runL_ok rfl low_bits_Put (bits_Put_spec EC _ b v S H K hb hv hK))
theorem q_msg_num : NumS E 73 := fun a b v S H K ha hb hv hK => EW _ _ _ _ _ (ha.wk (.same .nil)) (runL_ok rfl low_msg_num (msg_num_spec _ q_bits_Put b v S H K hb hv hK))
theorem q_stamp_Pack : ∀ s : Stp, FnS E 74 [.agg (stc s)] (.tup [.s (.int .u64 (packN s : Nat)), .s (.int .i64 (if goodS s = true then 0 else 1))]) := fun s S H K hK => runL_ok rfl low_stamp_Pack (stamp_Pack_spec _ q_stamp_Good s S H K hK)
theorem q_bits_Zig : ∀ v : Int, -9223372036854775808 ≤ v → v ≤ 9223372036854775807 → FnS E 52 [.s (.int .i64 v)] (.s (.int .u64 (zig v : Nat))) := fun v h1 h2 S H K hK => runL_ok rfl low_bits_Zig (bits_Zig_spec _ v S H K h1 h2 hK)
theorem q_rec_num : NumS E 51 := fun a b v S H K ha hb hv hK => EW _ _ _ _ _ (ha.wk (.same .nil)) (runL_ok rfl low_rec_num (rec_num_spec _ q_bits_Put b v S H K hb hv hK))
theorem q_rec_PutWrites : PutWS E 21 := fun a b l S H K ha hb hl hv hK => EW _ _ _ _ _ (ha.wk (.same .nil)) (runL_ok rfl low_rec_PutWrites (rec_PutWrites_spec EC _ q_rec_num b l S H K hb hl hv hK))
theorem q_msg_text : TxtS E 75 := fun a b s S H K ha hb hs hK => EW _ _ _ _ _ (ha.wk (.same .nil)) (runL_ok rfl low_msg_text (msg_text_spec _ q_msg_num b s S H K hb hs hK))
theorem q_msg_Put : PutMS E 30 := fun m S H K hm hK => EvW.res (runL_ok rfl low_msg_Put (msg_Put_spec EC _ q_msg_Good q_msg_num q_stamp_Pack q_bits_Put q_bits_Zig q_rec_PutWrites q_msg_text m S H K hm hK))
theorem q_bits_Get : GetS E 86 := fun a b S H K ha hb hK => EW _ _ _ _ _ (ha.wk .nil) (runL_ok rfl low_bits_Get (bits_Get_spec EC _ b S H K hb hK))
theorem q_rec_Reader_spoil : RdS E 85 [] fun _ => (.tup [], none) := fun j r S H K hj hr hK => runL_ok rfl low_rec_Reader_spoil (rec_spoil_spec _ j r S H K hj hr hK)
theorem q_rec_Reader_Num : RdS E 40 [] fun r => (.s (.int .u64 ((numR r).1 : Nat)), (numR r).2) := fun j r S H K hj hr hK => runL_ok rfl low_rec_Reader_Num (rec_Num_spec _ q_bits_Get q_rec_Reader_spoil j r S H K hj hr hK)
theorem q_rec_Reader_Most : ∀ m : Nat, m < 9223372036854775808 → RdS E 38 [.s (.int .i64 m)] fun r => (.s (.int .i64 ((mostR m r).1 : Nat)), (mostR m r).2) := fun m hm j r S H K hj hr hK => runL_ok rfl low_rec_Reader_Most (rec_Most_spec _ q_rec_Reader_Num q_rec_Reader_spoil m hm j r S H K hj hr hK)
theorem q_bits_Zag : ∀ n : Nat, n < 18446744073709551616 → FnS E 39 [.s (.int .u64 n)] (.s (.int .i64 (zag n))) := fun n h S H K hK => runL_ok rfl low_bits_Zag (bits_Zag_spec _ n S H K h hK)
theorem q_stamp_Unpack : ∀ n : Nat, n < 18446744073709551616 → FnS E 87 [.s (.int .u64 n)] (.tup [.agg (stc (unpackS n).1), .s (.int .i64 (if (unpackS n).2 = true then 0 else 1))]) := fun n h S H K hK => runL_ok rfl low_stamp_Unpack (stamp_Unpack_spec _ n h S H K hK)
theorem q_rec_Reader_Stamp : RdS E 41 [] fun r => (.agg (stc (stampR r).1), (stampR r).2) := fun j r S H K hj hr hK => runL_ok rfl low_rec_Reader_Stamp (rec_Stamp_spec _ q_rec_Reader_Num q_stamp_Unpack q_rec_Reader_spoil j r S H K hj hr hK)
theorem q_rec_Reader_Text : ∀ n : Nat, RdS E 69 [.s (.int .i64 n)] fun r => (.s (.str (textR n r).1), (textR n r).2) := fun n j r S H K hj hr hK => runL_ok rfl low_rec_Reader_Text (rec_Text_spec _ q_rec_Reader_spoil n j r S H K hj hr hK)
theorem q_rec_Reader_Key : RdS E 68 [] fun r => (.agg (bs (keyR r).1.b), (keyR r).2) := fun j r S H K hj hr hK => runL_ok rfl low_rec_Reader_Key (rec_Key_spec _ q_rec_Reader_Text j r S H K hj hr hK)
theorem q_rec_Reader_Writes : WritesS E 42 := fun j r S H K hj hr hK => EvW.res (runL_ok rfl low_rec_Reader_Writes (rec_Writes_spec EC EW _ q_rec_Reader_Most q_rec_Reader_Key q_rec_Reader_Text q_store_Good q_rec_Reader_spoil j r S H K hj hr hK))
theorem q_msg_Get : GetMS E 28 := fun a b S H K ha hb hK => EW _ _ _ _ _ (ha.wk .nil) (EvW.res (runL_ok rfl low_msg_Get (msg_Get_spec EC EW _ q_rec_Reader_Most q_rec_Reader_Num q_bits_Zag q_rec_Reader_Stamp q_rec_Reader_Key q_rec_Reader_Writes q_rec_Reader_Text q_msg_Good b S H K hb hK)))
theorem q_slices_Equal_Write : EqWS E 58 := fun a b S H K ha hb hK => runL_ok rfl low_slices_Equal_Write (Equal_Write_spec EC _ a b S H K ha hb hK)
theorem q_slices_Equal_Item : EqItS E 80 := fun a b S H K ha hb hK => runL_ok rfl low_slices_Equal_Item (Equal_Item_spec EC _ a b S H K ha hb hK)
theorem q_msg_plain : PlainS E 81 := fun m S H K hK => runL_ok rfl low_msg_plain (msg_plain_spec _ m S H K hK)
theorem q_msg_Same : SameMS E 36 := fun a b S H K ha hb hK => runL_ok rfl low_msg_Same (msg_Same_spec _ q_slices_Equal_Write q_slices_Equal_Item q_msg_plain a b S H K ha hb hK)
theorem q_hourglasslaw19_awake : AwakeMS E 27 := fun S H K hK => runL_ok rfl low_hourglasslaw19_awake (law19_awake_spec EW _ q_msg_Put q_msg_Get q_msg_Same q_msg_Good S H K hK)
theorem q_hourglasslaw19_heavy : HeavyMS E 31 := fun m S H K hm hK => runL_ok rfl low_hourglasslaw19_heavy (law19_heavy_spec EC _ m S H K hm hK)
theorem q_hourglassref1_Get : GetRS E 88 := fun a b S H K ha hb hK => EW _ _ _ _ _ (ha.wk .nil) (runL_ok rfl low_hourglassref1_Get (ref1_Get_spec EC _ b S H K hb hK))
theorem q_hourglassref1_Reader_Num : RfS E 45 [] fun r => (.s (.int .u64 ((numR r).1 : Nat)), (numR r).2) := fun j B p bad S H K hj hp hB hK => runL_ok rfl low_hourglassref1_Reader_Num (ref1_Num_spec _ q_hourglassref1_Get j B p bad S H K hj hp hB hK)
theorem q_hourglassref14_Count : ∀ m : Nat, m < 9223372036854775808 → RfS E 43 [.s (.int .u64 m)] fun r => (.s (.int .i64 ((mostR m r).1 : Nat)), (mostR m r).2) := fun m hm j B p bad S H K hj hp hB hK => runL_ok rfl low_hourglassref14_Count (ref14_Count_spec _ q_hourglassref1_Reader_Num m hm j B p bad S H K hj hp hB hK)
theorem q_hourglassref1_Zag : ∀ n : Nat, n < 18446744073709551616 → FnS E 44 [.s (.int .u64 n)] (.s (.int .i64 (zag n))) := fun n h S H K hK => runL_ok rfl low_hourglassref1_Zag (ref1_Zag_spec _ n S H K h hK)
theorem q_hourglassref6_Unpack : ∀ n : Nat, n < 18446744073709551616 → FnS E 89 [.s (.int .u64 n)] (.tup [.agg (stc (unpackS n).1), .bool (unpackS n).2]) := fun n h S H K hK => runL_ok rfl low_hourglassref6_Unpack (ref6_Unpack_spec _ n h S H K hK)
theorem q_hourglassref14_Stamp : RfS E 46 [] fun r => (.agg (stc (stampR r).1), (stampR r).2) := fun j B p bad S H K hj hp hB hK => runL_ok rfl low_hourglassref14_Stamp (ref14_Stamp_spec _ q_hourglassref1_Reader_Num q_hourglassref6_Unpack j B p bad S H K hj hp hB hK)
theorem q_hourglassref1_Reader_Bytes : ∀ n : Nat, n < 18446744073709551616 → RfS E 97 [.s (.int .u64 n)] fun r => (.s (.str (textR n r).1), (textR n r).2) := fun n hn j B p bad S H K hj hp hB hK => runL_ok rfl low_hourglassref1_Reader_Bytes (ref1_Bytes_spec _ n hn j B p bad S H K hj hp hB hK)
theorem q_hourglassref14_Key : RfS E 76 [] fun r => (.agg (bs (keyR r).1.b), (keyR r).2) := fun j B p bad S H K hj hp hB hK => runL_ok rfl low_hourglassref14_Key (ref14_Key_spec _ q_hourglassref1_Reader_Bytes j B p bad S H K hj hp hB hK)
theorem q_hourglassref1_Reader_Byte : RfS E 78 [] fun r => (.s (.int .u8 (byteR r).1.toNat), (byteR r).2) := fun j B p bad S H K hj hp hB hK => runL_ok rfl low_hourglassref1_Reader_Byte (ref1_Byte_spec _ j B p bad S H K hj hp hB hK)
theorem q_hourglassref14_Bool : RfS E 48 [] fun r => (.bool (boolR r).1, (boolR r).2) := fun j B p bad S H K hj hp hB hK => runL_ok rfl low_hourglassref14_Bool (ref14_Bool_spec _ q_hourglassref1_Reader_Byte j B p bad S H K hj hp hB hK)
theorem q_hourglassref14_Text : RfS E 77 [] fun r => (.s (.str (textR (numR r).1 (numR r).2).1), (textR (numR r).1 (numR r).2).2) := fun j B p bad S H K hj hp hB hK => runL_ok rfl low_hourglassref14_Text (ref14_Text_spec _ q_hourglassref1_Reader_Num q_hourglassref1_Reader_Bytes j B p bad S H K hj hp hB hK)
theorem q_hourglassref10_Good : BoolK goodR E 83 := fun k S H K hK => runL_ok rfl low_hourglassref10_Good (ref10_Good_spec EC _ k S H K hK)
theorem q_hourglassref10_MayWrites : MayWS E 82 := fun l n S H K hl hK => runL_ok rfl low_hourglassref10_MayWrites (ref10_MayWrites_spec EC _ q_hourglassref10_Good l n S H K hl hK)
theorem q_hourglassref14_Writes : WritesQS E 47 := fun j B p bad S H K hj hp hB hK => EvW.res (runL_ok rfl low_hourglassref14_Writes (ref14_Writes_spec EC EW _ q_hourglassref14_Count q_hourglassref14_Key q_hourglassref14_Bool q_hourglassref14_Text q_hourglassref10_MayWrites j B p bad S H K hj hp hB hK))
theorem q_hourglassref1_Reader_End : EndS E 49 := fun j B p bad S H K hj hp hK => runL_ok rfl low_hourglassref1_Reader_End (ref1_End_spec _ j B p bad S H K hj hp hK)
theorem q_hourglassref6_Good : ∀ a : Stp, FnS E 65 [.agg (stc a)] (.bool (goodS a)) := fun a S H K hK => runL_ok rfl low_hourglassref6_Good (ref6_Good_spec _ a S H K hK)
theorem q_hourglassref10_Cmp : KCmp E 84 := fun a b S H K hK => runL_ok rfl low_hourglassref10_Cmp (ref10_Cmp_spec EC _ a b S H K hK)
theorem q_hourglassref19_Good : GoodMQS E 37 := fun m S H K hm hK => runL_ok rfl low_hourglassref19_Good (ref19_Good_spec EC _ q_hourglassref6_Good q_hourglassref10_MayWrites q_hourglassref10_Good q_hourglassref10_Cmp m S H K hm hK)
theorem q_hourglassref19_Get : GetMQS E 32 := fun a b S H K ha hb hK => EW _ _ _ _ _ (ha.wk .nil) (EvW.res (runL_ok rfl low_hourglassref19_Get (ref19_Get_spec EC EW _ q_hourglassref14_Count q_hourglassref1_Reader_Num q_hourglassref1_Zag q_hourglassref14_Stamp q_hourglassref14_Key q_hourglassref14_Writes q_hourglassref14_Text q_hourglassref1_Reader_Byte q_hourglassref1_Reader_End q_hourglassref19_Good b S H K hb hK)))
theorem q_hourglasslaw19_own : OwnMS E 34 := fun m S H K hK => runL_ok rfl low_hourglasslaw19_own (law19_own_spec _ m S H K hK)
theorem q_hourglassref1_Put : ∀ v : Nat, v < 18446744073709551616 → PutRS E 90 v := ref1PutAll rfl low_hourglassref1_Put
theorem q_hourglassref14_Num : PutS E 54 := fun a b v S H K ha hb hv hK => EW _ _ _ _ _ (ha.wk (.same .nil)) (runL_ok rfl low_hourglassref14_Num (ref14_Num_spec _ q_hourglassref1_Put b v S H K hb hv hK))
theorem q_hourglassref1_Zig : ∀ v : Int, -9223372036854775808 ≤ v → v ≤ 9223372036854775807 → FnS E 55 [.s (.int .i64 v)] (.s (.int .u64 (zig v : Nat))) := fun v h1 h2 S H K hK => runL_ok rfl low_hourglassref1_Zig (ref1_Zig_spec _ v S H K h1 h2 hK)
theorem q_hourglassref6_Pack : ∀ s : Stp, FnS E 91 [.agg (stc s)] (.tup [.s (.int .u64 (packN s : Nat)), .bool (goodS s)]) := fun s S H K hK => runL_ok rfl low_hourglassref6_Pack (ref6_Pack_spec _ q_hourglassref6_Good s S H K hK)
theorem q_hourglassref14_Stp : PutStampS E 56 := fun a b s S H K ha hb hK => EW _ _ _ _ _ (ha.wk (.same .nil)) (runL_ok rfl low_hourglassref14_Stp (ref14_Stp_spec _ q_hourglassref6_Pack q_hourglassref14_Num b s S H K hb hK))
theorem q_hourglassref14_flag : ∀ v : Bool, FnS E 57 [.s (.bool v)] (u8 (if v then 1 else 0)) := fun v S H K hK => runL_ok rfl low_hourglassref14_flag (ref14_flag_spec _ v S H K hK)
theorem q_hourglassref14_Txt : TxtS E 67 := fun a b s S H K ha hb hs hK => EW _ _ _ _ _ (ha.wk (.same .nil)) (runL_ok rfl low_hourglassref14_Txt (ref14_Txt_spec _ q_hourglassref14_Num b s S H K hb hs hK))
theorem q_hourglassref14_PutWrites : PutWQS E 26 := fun a b l S H K ha hb hl hv hK => EW _ _ _ _ _ (ha.wk (.same .nil)) (runL_ok rfl low_hourglassref14_PutWrites (ref14_PutWrites_spec EC _ q_hourglassref14_Num q_hourglassref14_flag q_hourglassref14_Txt b l S H K hb hl hv hK))
theorem q_hourglassref19_Put : PutMQS E 33 := fun m S H K hm hK => EvW.res (runL_ok rfl low_hourglassref19_Put (ref19_Put_spec EC _ q_hourglassref19_Good q_hourglassref14_Num q_hourglassref1_Zig q_hourglassref14_Stp q_hourglassref14_PutWrites q_hourglassref14_Txt m S H K hm hK))
theorem q_hourglassref10_Writes : WritesEqS E 23 := fun a b S H K ha hb hK => runL_ok rfl low_hourglassref10_Writes (ref10_Writes_spec EC _ a b S H K ha hb hK)
theorem q_hourglassref10_Items : EqItS E 79 := fun a b S H K ha hb hK => runL_ok rfl low_hourglassref10_Items (ref10_Items_spec EC _ a b S H K ha hb hK)
theorem q_hourglassref19_Same : SameMS E 35 := fun a b S H K ha hb hK => runL_ok rfl low_hourglassref19_Same (ref19_Same_spec _ (fun a b S H K h1 h2 h3 => q_hourglassref10_Writes a b S H K h1 h2 h3) q_hourglassref10_Items a b S H K ha hb hK)
theorem q_hourglasslaw19_MsgBytes : ∀ (r q : Msg) (b : List UInt8) S H (K : AV → St → Prop), inM r → inM q → b.length ≤ 9223372036854775807 → (∀ G, K (.bool true) ⟨S, H ++ G⟩) → E (.fn 8) [.agg (msc r), .agg (msc q), .list .sh 1 (bs b)] ⟨S, H⟩ K := fun r q b S H K hr hq hb hK => runL_ok rfl low_hourglasslaw19_MsgBytes (law19_MsgBytes_spec _ q_hourglasslaw19_awake q_hourglasslaw19_heavy q_msg_Get q_hourglassref19_Get q_msg_Put q_hourglasslaw19_own q_hourglassref19_Put q_hourglassref19_Same q_msg_Same q_msg_Good q_hourglassref19_Good r q b S H K hr hq hb hK)
end Go.AM
