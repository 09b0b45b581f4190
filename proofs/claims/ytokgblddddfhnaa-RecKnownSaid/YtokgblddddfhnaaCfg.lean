import Derived.Test.YtokgblddddfhnaaG7
import Derived.Test.YtokgblddddfhnaaChecked
import Derived.KernelRfl
/-! The configuration of the abstract machine for this program. -/
namespace Go.AM
open Go Go.Proofs
set_option maxRecDepth 100000
def cfgA.heap (f d : Nat) : Bool :=
  match f with
  | 21 => [6].contains d
  | 30 => [1, 7].contains d
  | 33 => [1].contains d
  | _ => false

def cfgA.take (f d : Nat) : Bool :=
  match f with
  | 3 => [30].contains d
  | 5 => [128, 129].contains d
  | 6 => [27].contains d
  | 8 => [30].contains d
  | 12 => [49].contains d
  | 13 => [52].contains d
  | 14 => [21, 34, 42, 59, 63].contains d
  | 15 => [20, 33, 60, 68].contains d
  | 21 => [7, 17, 23, 25, 27, 36].contains d
  | 22 => [15].contains d
  | 25 => [16].contains d
  | 26 => [6, 17, 32, 39].contains d
  | 28 => [53].contains d
  | 30 => [27, 38, 45, 60, 76].contains d
  | 32 => [60].contains d
  | 33 => [21, 30, 40, 56, 71, 81].contains d
  | 42 => [21, 31].contains d
  | 47 => [29, 39].contains d
  | 50 => [11, 19].contains d
  | 51 => [5].contains d
  | 53 => [12].contains d
  | 56 => [12].contains d
  | 67 => [5].contains d
  | 73 => [5].contains d
  | 75 => [5].contains d
  | 104 => [5, 6].contains d
  | _ => false

def cfgA.mask (f b : Nat) : List Bool :=
  match f, b with
  | 12, 1 => [false, false, true, false, true, true, false, false, false, false, false, false, false, false, false, false, false, false, false, false, false, false, false, false, false, false, false, false, false, false, false, false, false, false, false, false, false, false, false, false, false, false, false, false, false, true, true, false, false, false, false, false, false, false, false, false, false, false, false, false, false, false, false, false, false, false, false, false, false, false, false, false, false, false, false]
  | 13, 1 => [false, false, true, false, true, true, true, true, false, false, false, false, false, false, false, false, false, false, false, false, false, false, false, false, false, false, false, false, false, false, false, false, false, false, false, false, false, false, false, false, false, false, false, false, false, false, false, false, false, false, false, false, false, false, false, false, false, false, false, false, false, false, false, false, false, false, false, false]
  | 14, 1 => [false, false, false, true, false, false, false, false, false, false, false, false, false, false, false, false, false, false, false, false, false, false, false, false, false, false, false, false, false, false, false, false, false, false, false, false, false, false, false, false, false, false, false, false, false, false, false, false, false, false, false, false, false, true, true, true, false, false, false, false, false, false, false, false]
  | 15, 1 => [false, true, false, true, true, false, false, false, false, false, false, false, false, false, false, false, false, false, false, false, false, false, false, false, false, false, false, false, false, false, false, false, false, false, false, false, false, false, false, false, false, false, false, false, false, false, false, false, false, false, false, false, false, false, false, false, false, false, false, false, false, false, false, false, false, false, false, false, false]
  | 17, 0 => [false, false, true, true, false, true, false, false, false, false, false, false, false, false, false, false, false, false, false, false, false, false, false, false, false, false, false, false, false, false, false, false, false, false, false, false, false, false, false, false, false, false, false, false, false, false, false, false, false, false, false, false, false, false, false, false, false, false, false, false, false, false, false, false, false, false, false, false, false, false, false, false, false, false]
  | 21, 0 => [true, false, false, false, false, false, false, false, false, false, false, true, true, true, false, false, false, false, false, false, false, false, false, false, false, false, false, false, false, false, false, false, false, false, false, false, false]
  | 23, 0 => [true, true, false, false, false, true, false, false, false, false, false, false, false, false, false, false, false, false, false, false, false, false, false, false, false, false]
  | 24, 0 => [true, false, false, true, false, false, false, false, false, false, false, false, false, false, false, false, false, false, false, false]
  | 26, 0 => [true, true, false, false, false, true, false, false, false, false, false, false, false, false, false, false, false, false, false, false, false, false, false, false, false, false, false, false, false, false, false, false, false, false, false, false, false, false, false, false]
  | 28, 0 => [false, false, true, false, true, true, false, false, false, false, false, false, false, false, false, false, false, false, false, false, false, false, false, false, false, false, false, false, false, false, false, false, false, false, false, false, false, false, false, false, false, true, true, false, false, false, false, false, false, false, false, false, false, false, false, false, false, false, false, false, false, false, false, false, false, false, false, false, false, false, false, false, false, false, false, false, false, false, false, false, false, false, false, false, false, false, false, false, false, false, false, false, false, false, false, false]
  | 30, 0 => [false, true, false, true, false, false, false, false, false, false, false, false, false, false, false, false, false, false, false, false, false, false, false, false, false, false, false, false, false, false, false, false, false, false, false, false, false, false, false, false, false, false, false, false, false, false, false, false, false, false, false, false, false, false, true, true, true, false, false, false, false, false, false, false, false, false, false, false, false, false, false, false, false, false, false, false, false, false, false, false, false, false, false, false, false, false]
  | 31, 0 => [false, true, false, true, false, false, false, false, false, false, false, false, false, false, false, false, false, false, false, false, false, false, false, false, false, false, false, false, false, false, false, false, false, false, false, false, false, false, false, false, false, false, false, false, false, false, false, false, false, false, false]
  | 31, 2 => [false, true, false, false, true, false, false, false, false, false, false, false, false, false, false, false, false, false, false, false, false, false, false, false, false, false, false, false, false, false, false, false, false, false, false, false, false, false, false, false, false, false, false, false, false, false, false, false, false, false, false]
  | 32, 0 => [false, false, true, false, true, true, true, true, true, false, false, false, false, false, false, false, false, false, false, false, false, false, false, false, false, false, false, false, false, false, false, false, false, false, false, false, false, false, false, false, false, false, false, false, false, false, false, false, false, false, false, false, false, false, false, false, false, false, false, false, false, false, false, false, false, false, false, false, false, false, false, false, false, false, false, false, false, false, false, false, false, false, false, false, false, false, false, false, false, false, false, false, false, false, false, false, false, false, false, false, false]
  | 33, 0 => [false, true, false, true, true, false, false, false, false, false, false, false, false, false, false, false, false, false, false, false, false, false, false, false, false, false, false, false, false, false, false, false, false, false, false, false, false, false, false, false, false, false, false, false, false, false, false, false, false, false, false, false, false, false, false, false, false, false, false, false, false, false, false, false, false, false, false, false, false, false, false, false, false, false, false, false, false, false, false, false, false, false, false, false, false, false, false, false, false]
  | 37, 0 => [false, true, false, true, false, false, false, false, false, false, false, false, false, false, false, false, false, false, false, false, false, false, false, false, false, false, false, false, false, false, false, false, false, false, false, false, false, false, false, false, false, false, false, false, false, false, false, false, false, false, false, false, false, false, false, false, false, false, false, false, false, false, false, false, false, false, false, false, false, false, false, false, false, false, false, false, false, false, false, false, false, false, false, false, false, false, false, false, false, false, false, false, false, false, false, false, false, false, false, false, false, false, false, false, false, false, false, false, false, false, false, false, false, false, false, false, false]
  | 42, 0 => [true, false, false, true, false, false, true, true, false, false, false, false, false, false, false, false, false, false, false, false, false, false, false, false, false, false, false, false, false, false, false, false]
  | 47, 0 => [true, false, false, true, true, true, false, false, false, false, false, false, false, false, false, false, false, false, false, false, false, false, false, false, false, false, false, false, false, false, false, false, false, false, false, false, false, false, false, false]
  | 50, 0 => [false, true, false, false, false, true, false, false, false, false, false, false, false, false, false, false, false, false, false, false, false, false, false, false]
  | 58, 0 => [true, true, false, false, false, false, false, false, false, false, false, false, true, true, false, false, false, false, false, false, false, false, false, false, false, false]
  | 59, 0 => [true, true, false, false, false, false, false, false, false, false, false, false, true, true, false, false, false, false, false, false, false, false, false, false, false, false]
  | 63, 0 => [true, false, false, false, false, true, true, true, false, false, false, false, false, false, false, false, false, false, false, false, false, false, false, false, false, false, false, false, false, false, false, false, false, false, false]
  | 66, 0 => [true, false, false, true, false, false, false, false, false, false, false, false, false, false, false, false, false, false, false, false, false, false, false, false, false, false, false, false, false, false, false, false, false, false, false, false, false, false, false, false, false]
  | 71, 0 => [false, false, false, true, false, false, false, true, true, true, false, false, false, false, false, false, false, false, false, false, false, false, false, false, false, false, false, false, false, false, false, false, false, false, false, false, false, false, false, false, false, false]
  | 72, 0 => [true, false, false, false, false, true, true, true, false, false, false, false, false, false, false, false, false, false, false, false, false, false, false, false, false, false, false, false, false, false, false, false, false, false, false, false, false, false, false, false, false, false]
  | 79, 0 => [true, true, false, false, false, true, false, false, false, false, false, false, false, false, false, false, false, false, false, false, false, false, false, false, false, false]
  | 80, 0 => [true, true, false, false, false, false, false, false, false, false, false, false, true, true, false, false, false, false, false, false, false, false, false, false, false, false]
  | 82, 0 => [true, false, false, false, false, true, false, false, false, false, false, false, false, false, false, false, false, false, false, false, false, false, false, false, false, false, false, false, false, false, false, false, false, false, false, false, false, false, false, false, false, false, false, false, false, false, false, false, false, false, false, false, false, false, false, false, false, false, false, false, false, false, false, false, false, false, false, false, false]
  | 82, 2 => [true, false, false, false, false, true, true, false, false, false, false, false, false, false, false, false, false, false, false, false, false, false, false, false, false, false, false, false, false, false, false, false, false, false, false, false, false, false, false, false, false, false, false, false, false, false, false, false, false, false, false, false, false, false, false, false, false, false, false, false, false, false, false, false, false, false, false, false, false]
  | 83, 0 => [false, true, false, true, true, false, false, false, false, false, false, false, false, false, false, false, false]
  | 84, 0 => [false, false, true, true, false, true, false, false, false, false, false, false, false, false, false, false, false, false, false, false, false, false, false, false]
  | 86, 0 => [false, false, true, false, false, false, false, true, true, true, false, false, false, false, false, false, false, false, false, false, false, false, false, false, false, false, false, false, false, false, false, false, false, false, false, false, false, false, false, false, false, false, false, false]
  | 88, 0 => [true, false, false, false, true, true, false, false, false, false, false, false, false, false, false, false, false, false, false, false, false, false, false, false, false, false, false, false, false, false, false, false, false, false, false, false, false, false, false, false, false, false, false, false, false, false, false, false, false, false, false, false, false]
  | 99, 0 => [false, false, false, true, false, false, true, true, true, false, false, false, false, false, false, false, false, false]
  | 103, 0 => [false, true, false, true, false, false, false, false, false, false, false, false, false, false, false, false, false]
  | _, _ => []

def cfgA.plan (f k : Nat) : List Nat :=
  match f, k with
  | 3, 7 => [0, 3, 1, 2, 4, 5, 6, 7, 8, 9, 10, 11, 12, 13, 14, 15, 16, 17, 18, 19, 20, 21, 22, 24, 23, 25, 26, 27, 28, 29, 31, 33, 30, 32, 34, 35, 36, 37, 38, 39, 41, 40, 42, 43, 44, 45, 46]
  | 4, 7 => [0, 1, 2, 3, 4, 5, 6, 7, 8, 9, 10, 11, 12, 13, 14, 18, 19, 15, 16, 17, 20, 21, 22, 23]
  | 6, 7 => [0, 3, 1, 2, 4, 5, 6, 7, 8, 9, 10, 11, 12, 13, 14, 15, 16, 17, 18, 19, 20, 21, 22, 23, 24, 25, 26, 27, 28, 29, 30]
  | 8, 7 => [0, 3, 1, 2, 4, 5, 6, 7, 8, 9, 10, 11, 12, 13, 14, 15, 16, 17, 18, 19, 20, 21, 22, 24, 23, 25, 26, 27, 28, 29, 31, 33, 30, 32, 34, 35, 36, 37, 38, 39, 41, 40, 42, 43, 44, 45, 46]
  | 9, 7 => [0, 1, 2, 3, 4, 5, 6, 7, 8, 9, 10, 11, 12, 13, 14, 18, 19, 15, 16, 17, 20, 21, 22, 23]
  | 14, 3 => [0, 1, 3, 4, 2, 5, 6, 7]
  | 14, 6 => [1, 2, 4, 5, 7, 8, 0, 3, 6, 9, 10]
  | 14, 14 => [1, 3, 4, 6, 7, 8, 0, 2, 5, 9, 10]
  | 15, 3 => [0, 1, 2, 4, 5, 3, 6, 7, 8]
  | 15, 6 => [1, 2, 4, 5, 7, 8, 0, 3, 6, 9, 10]
  | 15, 11 => [0, 1, 2, 6, 7, 9, 10, 11, 12, 3, 4, 5, 8, 13, 14]
  | 17, 6 => [0, 1, 2, 3, 4, 5, 6, 7, 8, 9, 10]
  | 19, 1 => [0, 1, 2, 3, 4]
  | 21, 9 => [1, 2, 3, 5, 6, 0, 4, 7, 8]
  | 22, 5 => [1, 2, 3, 4, 5, 6, 7, 8, 0, 9, 10, 11]
  | 23, 6 => [0, 1, 2, 3, 4, 5, 6, 7, 8]
  | 25, 5 => [1, 2, 3, 4, 0, 5, 6, 7]
  | 26, 5 => [1, 2, 3, 4, 5, 7, 8, 9, 10, 11, 0, 6, 12, 13, 14, 15]
  | 30, 3 => [0, 1, 3, 4, 6, 7, 2, 5, 8, 9]
  | 30, 5 => [1, 2, 3, 5, 6, 9, 0, 4, 7, 8, 10, 11]
  | 30, 6 => [1, 2, 4, 5, 0, 3, 6, 7]
  | 30, 7 => [1, 2, 4, 5, 6, 0, 3, 7, 8]
  | 30, 11 => [1, 2, 4, 5, 0, 3, 6, 7]
  | 30, 18 => [1, 2, 4, 5, 7, 8, 0, 3, 6, 9, 10]
  | 33, 3 => [0, 1, 2, 4, 5, 6, 8, 9, 10, 3, 7, 11, 12]
  | 33, 4 => [1, 2, 3, 5, 6, 0, 4, 7, 8, 9]
  | 33, 5 => [1, 2, 4, 5, 7, 8, 0, 3, 6, 9, 10]
  | 33, 6 => [1, 2, 4, 5, 6, 7, 0, 3, 8, 9]
  | 33, 10 => [1, 2, 3, 4, 5, 6, 8, 9, 10, 11, 12, 13, 0, 7, 14, 15]
  | 33, 17 => [1, 2, 4, 5, 6, 0, 3, 7, 8]
  | 36, 1 => [0, 1, 2, 3, 5, 6, 7, 8, 4, 9, 10, 11]
  | 36, 2 => [0, 1, 2, 3, 4, 5, 7, 6, 8, 9, 10, 11]
  | 37, 6 => [0, 1, 2, 3, 4, 5, 6, 7, 8, 9, 10, 11, 12, 13, 14, 15, 16, 17, 18, 19, 20, 21, 22, 23, 24, 25, 26, 27, 28, 29, 30, 31, 32, 33, 34, 35, 36, 37, 38]
  | 45, 3 => [0, 1, 2, 3, 4, 5, 6, 7, 8, 9, 10, 11, 12, 13, 14]
  | 49, 1 => [0, 1, 2, 3, 4, 5, 6, 7, 8, 9, 10, 11, 12, 13, 14, 15, 16, 17]
  | 58, 6 => [0, 1, 2, 3, 4, 5, 6, 7, 8]
  | 59, 6 => [0, 1, 2, 3, 4, 5, 6, 7, 8]
  | 60, 4 => [0, 1, 2, 3, 4, 5, 6, 7, 8, 9, 10, 11]
  | 60, 9 => [0, 1, 2, 3, 4, 5, 6, 7]
  | 66, 4 => [0, 1, 2, 3, 4, 5, 6, 7, 8, 9, 10, 11, 12, 13, 14, 15, 16, 17, 18, 19, 20, 21, 22, 23, 24, 25, 26, 27]
  | 68, 2 => [0, 1, 2, 3]
  | 72, 4 => [0, 1, 2, 3, 4, 5, 6, 7, 8, 9, 10, 11, 12, 13, 14, 15, 16, 17, 18, 19, 20, 21, 22, 23, 24, 25]
  | 76, 2 => [0, 1, 2, 3]
  | 78, 1 => [0, 1, 2, 3, 4, 5, 6, 7, 8, 9, 10, 11, 12, 13, 14, 15]
  | 78, 5 => [0, 1, 2, 3, 4, 5, 6, 7, 8, 9, 10, 11]
  | 79, 6 => [0, 1, 2, 3, 4, 5, 6, 7, 8]
  | 80, 6 => [0, 1, 2, 3, 4, 5, 6, 7, 8]
  | 82, 11 => [0, 1, 2, 3, 4, 5, 6, 7, 8, 9, 10]
  | 84, 4 => [0, 1, 2, 3, 4, 5, 6]
  | 84, 6 => [0, 1, 2, 3, 4, 5, 6]
  | 93, 1 => [0, 1, 2, 3, 5, 6, 7, 8, 4, 9, 10, 11, 12]
  | 96, 1 => [0, 1, 2, 3]
  | 97, 1 => [0, 1, 2, 3, 4, 5, 6, 7, 8, 9, 10, 11, 12, 13, 14, 15, 16, 17, 18]
  | 97, 4 => [0, 1, 2, 3, 4, 5, 6, 7, 8, 9, 10, 11, 12, 13, 14, 15, 16, 17]
  | _, _ => []

def cfgA.tree (f k : Nat) : PT :=
  match f, k with
  | 3, 7 => .rd 0 (.rd 3 (.mv 1 (.rd 2 (.mv 4 (.mv 5 (.rd 6 (.rd 7 (.rd 8 (.rd 9 (.rd 10 (.rd 11 (.rd 12 (.rd 13 (.rd 14 (.rd 15 (.rd 16 (.rd 17 (.rd 18 (.rd 19 (.rd 20 (.rd 21 (.rd 22 (.rd 24 (.mv 23 (.mv 25 (.rd 26 (.rd 27 (.rd 28 (.rd 29 (.rd 31 (.rd 33 (.mv 30 (.mv 32 (.mv 34 (.mv 35 (.rd 36 (.rd 37 (.rd 38 (.rd 39 (.rd 41 (.mv 40 (.mv 42 (.mv 43 (.rd 44 (.rd 45 (.mv 46 (.done) (.stop)))) (.stop)) (.stop)) (.stop))))))) (.stop)) (.stop)) (.stop)) (.stop)))))))) (.stop)) (.stop)))))))))))))))))))) (.stop)) (.stop))) (.stop)))
  | 4, 7 => .rd 0 (.rd 1 (.rd 2 (.rd 3 (.rd 4 (.mv 5 (.rd 6 (.rd 7 (.rd 8 (.rd 9 (.mv 10 (.rd 11 (.rd 12 (.rd 13 (.rd 14 (.rd 18 (.rd 19 (.mv 15 (.rd 16 (.rd 17 (.mv 20 (.rd 21 (.rd 22 (.rd 23 (.done)))) (.stop)))) (.stop)))))))) (.stop)))))) (.stop))))))
  | 6, 7 => .rd 0 (.rd 3 (.mv 1 (.rd 2 (.mv 4 (.rd 5 (.rd 6 (.rd 7 (.rd 8 (.rd 9 (.rd 10 (.rd 11 (.rd 12 (.rd 13 (.rd 14 (.rd 15 (.rd 16 (.rd 17 (.rd 18 (.rd 19 (.rd 20 (.rd 21 (.rd 22 (.rd 23 (.rd 24 (.rd 25 (.rd 26 (.rd 27 (.mv 28 (.rd 29 (.mv 30 (.done) (.stop))) (.stop))))))))))))))))))))))))) (.stop))) (.stop)))
  | 8, 7 => .rd 0 (.rd 3 (.mv 1 (.rd 2 (.mv 4 (.mv 5 (.rd 6 (.rd 7 (.rd 8 (.rd 9 (.rd 10 (.rd 11 (.rd 12 (.rd 13 (.rd 14 (.rd 15 (.rd 16 (.rd 17 (.rd 18 (.rd 19 (.rd 20 (.rd 21 (.rd 22 (.rd 24 (.mv 23 (.mv 25 (.rd 26 (.rd 27 (.rd 28 (.rd 29 (.rd 31 (.rd 33 (.mv 30 (.mv 32 (.mv 34 (.mv 35 (.rd 36 (.rd 37 (.rd 38 (.rd 39 (.rd 41 (.mv 40 (.mv 42 (.mv 43 (.rd 44 (.rd 45 (.mv 46 (.done) (.stop)))) (.stop)) (.stop)) (.stop))))))) (.stop)) (.stop)) (.stop)) (.stop)))))))) (.stop)) (.stop)))))))))))))))))))) (.stop)) (.stop))) (.stop)))
  | 9, 7 => .rd 0 (.rd 1 (.rd 2 (.rd 3 (.rd 4 (.mv 5 (.rd 6 (.rd 7 (.rd 8 (.rd 9 (.mv 10 (.rd 11 (.rd 12 (.rd 13 (.rd 14 (.rd 18 (.rd 19 (.mv 15 (.rd 16 (.rd 17 (.mv 20 (.rd 21 (.rd 22 (.rd 23 (.done)))) (.stop)))) (.stop)))))))) (.stop)))))) (.stop))))))
  | 12, 17 => .rd 0 (.rd 2 (.mv 1 (.mv 3 (.rd 4 (.mv 5 (.rd 6 (.mv 7 (.done) (.stop))) (.stop))) (.stop)) (.mv 3 (.rd 4 (.mv 1 (.mv 5 (.rd 6 (.mv 7 (.done) (.stop))) (.stop)) (.stop))) (.stop))))
  | 13, 18 => .rd 0 (.rd 2 (.mv 1 (.mv 3 (.rd 4 (.mv 5 (.rd 6 (.mv 7 (.done) (.stop))) (.stop))) (.stop)) (.mv 3 (.rd 4 (.mv 1 (.mv 5 (.rd 6 (.mv 7 (.done) (.stop))) (.stop)) (.stop))) (.stop))))
  | 14, 3 => .rd 0 (.rd 1 (.rd 3 (.rd 4 (.mv 2 (.mv 5 (.mv 6 (.mv 7 (.done) (.stop)) (.stop)) (.stop)) (.stop)))))
  | 14, 6 => .rd 1 (.rd 2 (.rd 4 (.rd 5 (.rd 7 (.rd 8 (.mv 0 (.mv 3 (.mv 6 (.mv 9 (.mv 10 (.done) (.stop)) (.stop)) (.stop)) (.stop)) (.stop)))))))
  | 14, 14 => .rd 1 (.rd 3 (.rd 4 (.rd 6 (.rd 7 (.rd 8 (.mv 0 (.mv 2 (.mv 5 (.mv 9 (.mv 10 (.done) (.stop)) (.stop)) (.stop)) (.stop)) (.stop)))))))
  | 15, 3 => .rd 0 (.rd 1 (.rd 2 (.rd 4 (.rd 5 (.mv 3 (.mv 6 (.mv 7 (.mv 8 (.done) (.stop)) (.stop)) (.stop)) (.stop))))))
  | 15, 6 => .rd 1 (.rd 2 (.rd 4 (.rd 5 (.rd 7 (.rd 8 (.mv 0 (.mv 3 (.mv 6 (.mv 9 (.mv 10 (.done) (.stop)) (.stop)) (.stop)) (.stop)) (.stop)))))))
  | 15, 11 => .rd 0 (.rd 1 (.rd 2 (.rd 6 (.rd 7 (.rd 9 (.rd 10 (.rd 11 (.rd 12 (.mv 3 (.rd 4 (.mv 5 (.mv 8 (.mv 13 (.mv 14 (.done) (.stop)) (.stop)) (.stop)) (.stop))) (.stop))))))))))
  | 17, 6 => .rd 0 (.rd 1 (.rd 2 (.rd 3 (.rd 4 (.rd 5 (.rd 6 (.rd 7 (.rd 8 (.rd 9 (.rd 10 (.done)))))))))))
  | 19, 1 => .rd 0 (.rd 1 (.mv 2 (.mv 3 (.rd 4 (.done)) (.stop)) (.stop)))
  | 21, 9 => .rd 1 (.rd 2 (.rd 3 (.rd 5 (.rd 6 (.mv 0 (.mv 4 (.mv 7 (.mv 8 (.done) (.stop)) (.stop)) (.stop)) (.stop))))))
  | 22, 5 => .rd 1 (.rd 2 (.rd 3 (.rd 4 (.rd 5 (.rd 6 (.rd 7 (.rd 8 (.mv 0 (.mv 9 (.mv 10 (.mv 11 (.done) (.stop)) (.stop)) (.stop)) (.stop)))))))))
  | 23, 6 => .rd 0 (.rd 1 (.rd 2 (.rd 3 (.rd 4 (.rd 5 (.rd 6 (.rd 7 (.rd 8 (.done)))))))))
  | 25, 5 => .rd 1 (.rd 2 (.rd 3 (.rd 4 (.mv 0 (.mv 5 (.mv 6 (.mv 7 (.done) (.stop)) (.stop)) (.stop)) (.stop)))))
  | 26, 5 => .rd 1 (.rd 2 (.rd 3 (.rd 4 (.rd 5 (.rd 7 (.rd 8 (.rd 9 (.rd 10 (.rd 11 (.mv 0 (.mv 6 (.mv 12 (.rd 13 (.mv 14 (.mv 15 (.done) (.stop)) (.stop))) (.stop)) (.stop)) (.stop)))))))))))
  | 30, 3 => .rd 0 (.rd 1 (.rd 3 (.rd 4 (.rd 6 (.rd 7 (.mv 2 (.mv 5 (.mv 8 (.mv 9 (.done) (.stop)) (.stop)) (.stop)) (.stop)))))))
  | 30, 5 => .rd 1 (.rd 2 (.rd 3 (.rd 5 (.rd 6 (.rd 9 (.mv 0 (.mv 4 (.mv 7 (.mv 8 (.mv 10 (.mv 11 (.done) (.stop)) (.stop)) (.stop)) (.stop)) (.stop)) (.stop)))))))
  | 30, 6 => .rd 1 (.rd 2 (.rd 4 (.rd 5 (.mv 0 (.mv 3 (.mv 6 (.mv 7 (.done) (.stop)) (.stop)) (.stop)) (.stop)))))
  | 30, 7 => .rd 1 (.rd 2 (.rd 4 (.rd 5 (.rd 6 (.mv 0 (.mv 3 (.mv 7 (.mv 8 (.done) (.stop)) (.stop)) (.stop)) (.stop))))))
  | 30, 11 => .rd 1 (.rd 2 (.rd 4 (.rd 5 (.mv 0 (.mv 3 (.mv 6 (.mv 7 (.done) (.stop)) (.stop)) (.stop)) (.stop)))))
  | 30, 18 => .rd 1 (.rd 2 (.rd 4 (.rd 5 (.rd 7 (.rd 8 (.mv 0 (.mv 3 (.mv 6 (.mv 9 (.mv 10 (.done) (.stop)) (.stop)) (.stop)) (.stop)) (.stop)))))))
  | 33, 3 => .rd 0 (.rd 1 (.rd 2 (.rd 4 (.rd 5 (.rd 6 (.rd 8 (.rd 9 (.rd 10 (.mv 3 (.mv 7 (.mv 11 (.mv 12 (.done) (.stop)) (.stop)) (.stop)) (.stop))))))))))
  | 33, 4 => .rd 1 (.rd 2 (.rd 3 (.rd 5 (.rd 6 (.mv 0 (.mv 4 (.mv 7 (.mv 8 (.mv 9 (.done) (.stop)) (.stop)) (.stop)) (.stop)) (.stop))))))
  | 33, 5 => .rd 1 (.rd 2 (.rd 4 (.rd 5 (.rd 7 (.rd 8 (.mv 0 (.mv 3 (.mv 6 (.mv 9 (.mv 10 (.done) (.stop)) (.stop)) (.stop)) (.stop)) (.stop)))))))
  | 33, 6 => .rd 1 (.rd 2 (.rd 4 (.rd 5 (.rd 6 (.rd 7 (.mv 0 (.mv 3 (.mv 8 (.mv 9 (.done) (.stop)) (.stop)) (.stop)) (.stop)))))))
  | 33, 10 => .rd 1 (.rd 2 (.rd 3 (.rd 4 (.rd 5 (.rd 6 (.rd 8 (.rd 9 (.rd 10 (.rd 11 (.rd 12 (.rd 13 (.mv 0 (.mv 7 (.mv 14 (.mv 15 (.done) (.stop)) (.stop)) (.stop)) (.stop)))))))))))))
  | 33, 17 => .rd 1 (.rd 2 (.rd 4 (.rd 5 (.rd 6 (.mv 0 (.mv 3 (.mv 7 (.mv 8 (.done) (.stop)) (.stop)) (.stop)) (.stop))))))
  | 36, 1 => .rd 0 (.rd 1 (.rd 2 (.rd 3 (.rd 5 (.rd 6 (.rd 7 (.rd 8 (.mv 4 (.mv 9 (.mv 10 (.mv 11 (.done) (.stop)) (.stop)) (.stop)) (.stop)))))))))
  | 36, 2 => .rd 0 (.rd 1 (.rd 2 (.rd 3 (.rd 4 (.rd 5 (.rd 7 (.mv 6 (.mv 8 (.rd 9 (.rd 10 (.mv 11 (.done) (.stop)))) (.stop)) (.stop))))))))
  | 37, 6 => .rd 0 (.rd 1 (.rd 2 (.rd 3 (.rd 4 (.rd 5 (.mv 6 (.rd 7 (.rd 8 (.rd 9 (.rd 10 (.rd 11 (.rd 12 (.rd 13 (.rd 14 (.rd 15 (.rd 16 (.rd 17 (.rd 18 (.rd 19 (.rd 20 (.rd 21 (.rd 22 (.rd 23 (.rd 24 (.rd 25 (.rd 26 (.rd 27 (.rd 28 (.rd 29 (.rd 30 (.rd 31 (.rd 32 (.rd 33 (.rd 34 (.mv 35 (.rd 36 (.rd 37 (.rd 38 (.done)))) (.stop)))))))))))))))))))))))))))))) (.stop)))))))
  | 45, 3 => .rd 0 (.rd 1 (.rd 2 (.rd 3 (.rd 4 (.rd 5 (.rd 6 (.rd 7 (.rd 8 (.mv 9 (.rd 10 (.rd 11 (.rd 12 (.mv 13 (.mv 14 (.done) (.stop)) (.stop))))) (.stop))))))))))
  | 49, 1 => .rd 0 (.rd 1 (.rd 2 (.rd 3 (.rd 4 (.rd 5 (.rd 6 (.rd 7 (.rd 8 (.rd 9 (.rd 10 (.rd 11 (.rd 12 (.rd 13 (.rd 14 (.rd 15 (.rd 16 (.mv 17 (.done) (.stop))))))))))))))))))
  | 58, 6 => .rd 0 (.rd 1 (.rd 2 (.rd 3 (.rd 4 (.rd 5 (.rd 6 (.rd 7 (.rd 8 (.done)))))))))
  | 59, 6 => .rd 0 (.rd 1 (.rd 2 (.rd 3 (.rd 4 (.rd 5 (.rd 6 (.rd 7 (.rd 8 (.done)))))))))
  | 60, 4 => .rd 0 (.rd 1 (.rd 2 (.rd 3 (.rd 4 (.rd 5 (.rd 6 (.mv 7 (.rd 8 (.mv 9 (.rd 10 (.mv 11 (.done) (.stop))) (.stop))) (.stop))))))))
  | 60, 9 => .rd 0 (.rd 1 (.rd 2 (.rd 3 (.rd 4 (.mv 5 (.rd 6 (.mv 7 (.done) (.stop))) (.stop))))))
  | 66, 4 => .rd 0 (.rd 1 (.rd 2 (.rd 3 (.rd 4 (.rd 5 (.rd 6 (.rd 7 (.rd 8 (.rd 9 (.rd 10 (.rd 11 (.rd 12 (.rd 13 (.rd 14 (.rd 15 (.rd 16 (.rd 17 (.rd 18 (.rd 19 (.rd 20 (.rd 21 (.rd 22 (.rd 23 (.rd 24 (.rd 25 (.rd 26 (.rd 27 (.done))))))))))))))))))))))))))))
  | 68, 2 => .rd 0 (.rd 1 (.mv 2 (.mv 3 (.done) (.stop)) (.stop)))
  | 72, 4 => .rd 0 (.rd 1 (.mv 2 (.rd 3 (.rd 4 (.rd 5 (.rd 6 (.rd 7 (.rd 8 (.rd 9 (.rd 10 (.rd 11 (.rd 12 (.rd 13 (.rd 14 (.rd 15 (.rd 16 (.rd 17 (.rd 18 (.rd 19 (.rd 20 (.rd 21 (.mv 22 (.rd 23 (.rd 24 (.rd 25 (.done)))) (.stop))))))))))))))))))))) (.stop)))
  | 76, 2 => .rd 0 (.rd 1 (.mv 2 (.mv 3 (.done) (.stop)) (.stop)))
  | 78, 1 => .rd 0 (.rd 1 (.rd 2 (.rd 3 (.rd 4 (.rd 5 (.rd 6 (.rd 7 (.rd 8 (.rd 9 (.rd 10 (.rd 11 (.rd 12 (.rd 13 (.rd 14 (.rd 15 (.done))))))))))))))))
  | 78, 5 => .rd 0 (.rd 1 (.rd 2 (.rd 3 (.rd 4 (.rd 5 (.rd 6 (.rd 7 (.rd 8 (.rd 9 (.rd 10 (.mv 11 (.done) (.stop))))))))))))
  | 79, 6 => .rd 0 (.rd 1 (.rd 2 (.rd 3 (.rd 4 (.rd 5 (.rd 6 (.rd 7 (.rd 8 (.done)))))))))
  | 80, 6 => .rd 0 (.rd 1 (.rd 2 (.rd 3 (.rd 4 (.rd 5 (.rd 6 (.rd 7 (.rd 8 (.done)))))))))
  | 82, 11 => .rd 0 (.rd 1 (.rd 2 (.rd 3 (.rd 4 (.rd 5 (.rd 6 (.rd 7 (.rd 8 (.rd 9 (.rd 10 (.done)))))))))))
  | 84, 4 => .rd 0 (.rd 1 (.rd 2 (.rd 3 (.rd 4 (.rd 5 (.rd 6 (.done)))))))
  | 84, 6 => .rd 0 (.rd 1 (.rd 2 (.rd 3 (.rd 4 (.rd 5 (.rd 6 (.done)))))))
  | 93, 1 => .rd 0 (.rd 1 (.rd 2 (.rd 3 (.rd 5 (.rd 6 (.rd 7 (.rd 8 (.mv 4 (.mv 9 (.rd 10 (.mv 11 (.mv 12 (.done) (.stop)) (.stop))) (.stop)) (.stop)))))))))
  | 96, 1 => .rd 0 (.rd 1 (.mv 2 (.mv 3 (.done) (.stop)) (.stop)))
  | 97, 1 => .rd 0 (.rd 1 (.rd 2 (.rd 3 (.rd 4 (.rd 5 (.rd 6 (.rd 7 (.rd 8 (.rd 9 (.rd 10 (.rd 11 (.rd 12 (.rd 13 (.rd 14 (.rd 15 (.rd 16 (.rd 17 (.rd 18 (.done)))))))))))))))))))
  | 97, 4 => .rd 0 (.rd 1 (.rd 2 (.rd 3 (.rd 4 (.rd 5 (.rd 6 (.rd 7 (.rd 8 (.rd 9 (.rd 10 (.rd 11 (.rd 12 (.rd 13 (.rd 14 (.rd 15 (.rd 16 (.mv 17 (.done) (.stop))))))))))))))))))
  | _, _ => .stop

def cfgA.thaw (f d : Nat) : Bool := false
def cfgA.freeze (f d : Nat) : Bool := false
def cfgA : Cfg := { heap := cfgA.heap, take := cfgA.take, thaw := cfgA.thaw, freeze := cfgA.freeze, mask := cfgA.mask, plan := cfgA.plan, prim := fun f => match f with | 110 => some primIndexByte | 108 => some primCompare | _ => none }

theorem plans : plansOK Try.prog cfgA = true := by kernel_rfl
theorem trees : treesOK Try.prog cfgA cfgA.tree = true := by kernel_rfl
theorem named : (Try.prog.funcs.all fun fn => fn.name != "runtime.NumGoroutine") = true := by kernel_rfl

theorem names_ok : ∀ (f : FuncId) (fn : Func), Try.prog.funcs[f]? = some fn → fn.name ≠ "runtime.NumGoroutine" := by
  intro f fn hf
  have := Array.all_eq_true_iff_forall_mem.1 named fn (Array.mem_of_getElem? hf)
  simpa using this

theorem prims : PrimOK Try.prog cfgA := by
  intro f p hp args σ v σ' h g w ow xs r
  simp only [cfgA] at hp
  split at hp
  · injection hp with hp; subst hp
    exact indexByte_prim Try.func110 (by kernel_rfl) (by kernel_rfl) (by kernel_rfl) (by kernel_rfl) h r
  · injection hp with hp; subst hp
    exact compare_prim Try.func108 (by kernel_rfl) (by kernel_rfl) (by kernel_rfl) (by kernel_rfl) h r
  · cases hp

theorem sound (n : Nat) : Sound Try.prog (ev Try.prog cfgA n) := ev_sound Try.checked.mixed plans names_ok prims n

/-- The calls of this program. -/
abbrev E : CallW := EvW Try.prog cfgA cfgA.tree

theorem E_sound {t : Tgt} {args : List AV} {σ : St} {K : AV → St → Prop} (h : E t args σ K) : ModelW Try.prog t args σ K := EvW_sound Try.checked.mixed trees names_ok prims h

end Go.AM
