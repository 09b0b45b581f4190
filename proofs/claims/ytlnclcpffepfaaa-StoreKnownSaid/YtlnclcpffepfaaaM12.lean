import Derived.Test.YtlnclcpffepfaaaM7
import Derived.Test.YtlnclcpffepfaaaChecked
import Derived.KernelRfl
import Derived.Test.YtlnclcpffepfaaaM11
import Derived.Test.YtlnclcpffepfaaaM10
set_option linter.unusedSimpArgs false
set_option linter.unusedVariables false
namespace Go.AM
open Go Go.Proofs
set_option maxRecDepth 100000
def rlB : Bool → List Nat → List Bool
  | _, [] => []
  | b, n :: l => List.replicate n b ++ rlB (!b) l
def rlN : List (Nat × Nat) → List Nat
  | [] => []
  | (a, n) :: l => List.range' a n ++ rlN l
def cfgA.heap (f d:Nat):Bool :=
  match f with
  | 12=>[3].contains d
  | 14=>[9].contains d
  | 45=>[2].contains d
  | 52=>[1].contains d
  | 77=>[2].contains d
  | _=>false
def cfgA.take (f d:Nat):Bool :=
  match f with
  | 4=>[117].contains d
  | 5=>[146,147].contains d
  | 7=>[101].contains d
  | 14=>[34].contains d
  | 17=>[40,47].contains d
  | 30=>[58,77].contains d
  | 33=>[50,59].contains d
  | 34=>[36,47].contains d
  | 41=>[46].contains d
  | 51=>[11].contains d
  | 61=>[17,23,55,83,94].contains d
  | 65=>[7].contains d
  | 67=>[5,6].contains d
  | 77=>[2,8,9,12].contains d
  | 78=>[26,33].contains d
  | 85=>[12].contains d
  | 89=>[49].contains d
  | 103=>[9].contains d
  | 104=>[32].contains d
  | _=>false
def cfgA.mask (f b:Nat):List Bool :=
  match f,b with
  | 3,0=>rlB true [1, 1, 1, 1, 1, 2, 2, 99]
  | 3,2=>rlB false [2, 1, 1, 1, 2, 1, 1, 1, 1, 1, 96]
  | 4,0=>rlB true [1, 2, 1, 1, 2, 2, 2, 109]
  | 4,2=>rlB false [3, 1, 1, 2, 2, 1, 1, 4, 105]
  | 5,0=>rlB true [1, 5, 4, 1, 2, 137]
  | 5,2=>rlB false [6, 4, 1, 1, 1, 2, 135]
  | 6,0=>rlB true [2, 3, 2, 77]
  | 6,2=>rlB false [1, 1, 3, 1, 1, 3, 74]
  | 7,0=>rlB true [1, 4, 3, 1, 2, 99]
  | 9,0=>rlB true [1, 4, 1, 1, 4, 2, 3, 137]
  | 11,0=>rlB true [1, 2, 1, 16]
  | 13,0=>rlB true [1, 1, 1, 1, 1, 20, 3, 40]
  | 13,2=>rlB true [1, 3, 1, 37, 3, 23]
  | 14,0=>rlB true [1, 2, 3, 54]
  | 14,2=>rlB true [1, 2, 5, 52]
  | 15,0=>rlB true [2, 3, 1, 35]
  | 17,0=>rlB true [1, 3, 1, 1, 3, 2, 1, 5, 3, 28]
  | 19,0=>rlB true [2, 3, 1, 20]
  | 21,0=>rlB false [2, 2, 1, 1, 18]
  | 22,0=>rlB false [3, 1, 10, 1, 24]
  | 22,2=>rlB false [3, 2, 1, 1, 7, 1, 7, 3, 14]
  | 23,0=>rlB true [1, 2, 1, 1, 1, 6, 1, 19]
  | 27,0=>rlB true [2, 3, 1, 20]
  | 29,0=>rlB true [1, 1, 1, 1, 1, 2, 3, 64]
  | 30,0=>rlB true [1, 2, 1, 1, 2, 74]
  | 33,0=>rlB true [1, 3, 1, 1, 3, 2, 3, 46]
  | 34,0=>rlB true [1, 2, 2, 43]
  | 37,0=>rlB false [3, 1, 3, 3, 32]
  | 40,0=>rlB true [1, 4, 1, 7, 3, 22]
  | 49,0=>rlB true [1, 1, 1, 1, 2, 27]
  | 55,0=>rlB true [1, 4, 1, 63]
  | 55,2=>rlB true [1, 4, 2, 62]
  | 56,0=>rlB true [1, 2, 1, 1, 3, 71]
  | 57,0=>rlB true [1, 4, 2, 1, 1, 1, 1, 32]
  | 58,0=>rlB true [1, 2, 1, 2, 1, 47]
  | 58,2=>rlB true [1, 2, 1, 2, 2, 46]
  | 66,0=>rlB true [1, 4, 1, 8]
  | 68,0=>rlB false [1, 1, 1, 2, 12]
  | 71,0=>rlB false [1, 1, 1, 1, 13]
  | 72,0=>rlB true [1, 1, 1, 1, 1, 3, 3, 38]
  | 77,0=>rlB false [2, 1, 10]
  | 78,0=>rlB true [5, 5, 2, 136]
  | 82,0=>rlB false [3, 1, 2, 3, 9]
  | 86,0=>rlB true [4, 4, 1, 44]
  | 86,2=>rlB true [4, 4, 2, 43]
  | 87,0=>rlB true [1, 2, 1, 4, 4, 48]
  | 87,2=>rlB true [1, 2, 1, 4, 2, 2, 1, 47]
  | 88,0=>rlB true [2, 6, 4, 55]
  | 90,0=>rlB true [1, 7, 2, 24]
  | 91,0=>rlB true [4, 5, 2, 130]
  | 91,2=>rlB true [4, 5, 2, 130]
  | 91,4=>rlB true [4, 5, 3, 129]
  | 91,6=>rlB true [4, 5, 2, 1, 1, 128]
  | 92,0=>rlB true [2, 2, 1, 6, 2, 77]
  | 92,2=>rlB true [2, 2, 1, 6, 2, 77]
  | 92,4=>rlB true [2, 2, 1, 6, 2, 77]
  | 93,0=>rlB true [2, 2, 1, 7, 2, 164]
  | 93,2=>rlB true [2, 2, 1, 7, 2, 164]
  | 93,4=>rlB true [2, 2, 1, 7, 2, 164]
  | 93,6=>rlB true [2, 2, 1, 7, 2, 164]
  | 93,8=>rlB true [2, 2, 1, 7, 2, 164]
  | 99,0=>rlB true [1, 1, 2, 24]
  | 100,0=>rlB true [1, 1, 3, 5, 1, 71]
  | _,_=>[]
def cfgA.plan (f k:Nat):List Nat :=
  match f,k with
  | 3,11=>rlN [(0, 12)]
  | 3,19=>rlN [(0, 13)]
  | 3,22=>[0,6,7,8,9,10,11,12,13,1,2,3,4,5,14,15]
  | 4,11=>rlN [(0, 12)]
  | 4,19=>rlN [(0, 8)]
  | 4,20=>rlN [(0, 12)]
  | 5,11=>rlN [(0, 12)]
  | 5,16=>rlN [(0, 13)]
  | 5,17=>rlN [(0, 41)]
  | 5,21=>[0,1,2,3,5,6,7,8,4,9,10,11]
  | 6,11=>rlN [(0, 12)]
  | 6,19=>rlN [(0, 12)]
  | 7,11=>rlN [(0, 12)]
  | 8,15=>rlN [(0, 72), (73, 1), (72, 1), (74, 6)]
  | 9,16=>[0,1,2,3,4,6,7,8,9,10,5,11,12,13]
  | 9,18=>[0,1,2,4,5,6,3,7,8,9]
  | 9,23=>rlN [(0, 28), (29, 5), (28, 1), (34, 6), (41, 1), (40, 1), (42, 4)]
  | 13,6=>[0,1,2,4,3,5]
  | 13,16=>rlN [(0, 8)]
  | 14,10=>rlN [(0, 4), (5, 21), (4, 1), (26, 4)]
  | 15,1=>rlN [(0, 11)]
  | 15,6=>rlN [(0, 15)]
  | 19,6=>rlN [(0, 9)]
  | 21,4=>[0,1,2,3,4,5,6]
  | 21,6=>[0,1,2,3,4,5,6]
  | 22,11=>[0,1,2,3,4,5,6]
  | 23,7=>[0,1,2,3,4,5]
  | 27,6=>rlN [(0, 9)]
  | 29,8=>rlN [(0, 20)]
  | 30,6=>rlN [(0, 12)]
  | 33,6=>rlN [(0, 12)]
  | 33,7=>rlN [(0, 10)]
  | 34,5=>rlN [(0, 22)]
  | 38,1=>[0,1,2,3,4,5,6]
  | 40,5=>rlN [(0, 8)]
  | 41,8=>[0,1,2,3,5,6,7,4,8,9,10,11]
  | 50,3=>rlN [(0, 14)]
  | 53,1=>[0,1,2,3]
  | 55,11=>rlN [(0, 11)]
  | 56,5=>rlN [(0, 17)]
  | 56,7=>rlN [(0, 16)]
  | 56,11=>[0,1,2,3,4,5,6,7,9,10,12,13,14,15,16,17,8,11,18,19,20,21]
  | 57,5=>rlN [(0, 11)]
  | 58,2=>rlN [(0, 20)]
  | 58,5=>rlN [(0, 19)]
  | 60,1=>rlN [(0, 10)]
  | 61,11=>rlN [(0, 9)]
  | 61,15=>rlN [(0, 9)]
  | 72,5=>rlN [(0, 8)]
  | 72,8=>rlN [(0, 16)]
  | 74,1=>[0,1,2,3,5,6,7,8,4,9,10,11,12]
  | 78,17=>rlN [(0, 17)]
  | 86,4=>rlN [(0, 17)]
  | 86,6=>rlN [(0, 18)]
  | 87,10=>rlN [(0, 20)]
  | 88,10=>rlN [(0, 20)]
  | 90,3=>rlN [(0, 16)]
  | 91,5=>rlN [(0, 18)]
  | 91,11=>rlN [(0, 18)]
  | 91,16=>rlN [(0, 13)]
  | 91,17=>rlN [(0, 18)]
  | 91,22=>rlN [(0, 13)]
  | 91,23=>rlN [(0, 18)]
  | 92,1=>rlN [(0, 16)]
  | 92,3=>rlN [(0, 17)]
  | 92,5=>rlN [(0, 16)]
  | 92,8=>rlN [(0, 16)]
  | 93,1=>rlN [(0, 16)]
  | 93,3=>rlN [(0, 16)]
  | 93,5=>rlN [(0, 17)]
  | 93,8=>rlN [(0, 16)]
  | 93,10=>rlN [(0, 16)]
  | 93,13=>rlN [(0, 16)]
  | 93,15=>rlN [(0, 17)]
  | 93,18=>rlN [(0, 16)]
  | 93,21=>rlN [(0, 16)]
  | 99,3=>rlN [(0, 16)]
  | 100,3=>rlN [(0, 22)]
  | 100,5=>rlN [(0, 16)]
  | 100,6=>rlN [(0, 24)]
  | 102,1=>rlN [(0, 10)]
  | 102,2=>rlN [(0, 10)]
  | 102,3=>rlN [(0, 10)]
  | 106,1=>rlN [(0, 11)]
  | _,_=>[]
def cfgA.tree (f k:Nat):PT :=
  match f,k with
  | 3,11 => .rd 0 (.rd 1 (.rd 2 (.rd 3 (.rd 4 (.rd 5 (.rd 6 (.rd 7 (.rd 8 (.rd 9 (.rd 10 (.mv 11 (.done) (.stop))))))))))))
  | 3,19 => .rd 0 (.rd 1 (.rd 2 (.rd 3 (.rd 4 (.rd 5 (.rd 6 (.mv 7 (.rd 8 (.rd 9 (.rd 10 (.mv 11 (.mv 12 (.done) (.stop)) (.stop))))) (.stop))))))))
  | 3,22 => .rd 0 (.rd 6 (.rd 7 (.rd 8 (.rd 9 (.rd 10 (.rd 11 (.rd 12 (.rd 13 (.mv 1 (.rd 2 (.rd 3 (.rd 4 (.rd 5 (.rd 14 (.mv 15 (.done) (.stop))))))) (.stop))))))))))
  | 4,11 => .rd 0 (.rd 1 (.rd 2 (.rd 3 (.rd 4 (.rd 5 (.rd 6 (.rd 7 (.rd 8 (.rd 9 (.rd 10 (.mv 11 (.done) (.stop))))))))))))
  | 4,19 => .rd 0 (.rd 1 (.rd 2 (.rd 3 (.rd 4 (.rd 5 (.mv 6 (.rd 7 (.done)) (.stop)))))))
  | 4,20 => .rd 0 (.rd 1 (.rd 2 (.rd 3 (.rd 4 (.rd 5 (.rd 6 (.rd 7 (.rd 8 (.rd 9 (.rd 10 (.mv 11 (.done) (.stop))))))))))))
  | 5,11 => .rd 0 (.rd 1 (.rd 2 (.rd 3 (.rd 4 (.rd 5 (.rd 6 (.rd 7 (.rd 8 (.rd 9 (.rd 10 (.mv 11 (.done) (.stop))))))))))))
  | 5,16 => .rd 0 (.rd 1 (.rd 2 (.rd 3 (.rd 4 (.rd 5 (.rd 6 (.mv 7 (.rd 8 (.rd 9 (.rd 10 (.mv 11 (.mv 12 (.done) (.stop)) (.stop))))) (.stop))))))))
  | 5,17 => .rd 0 (.rd 1 (.rd 2 (.rd 3 (.rd 4 (.rd 5 (.rd 6 (.rd 7 (.rd 8 (.rd 9 (.rd 10 (.rd 11 (.rd 12 (.rd 13 (.rd 14 (.rd 15 (.rd 16 (.rd 17 (.rd 18 (.mv 19 (.rd 20 (.rd 21 (.rd 22 (.rd 23 (.rd 24 (.rd 25 (.rd 26 (.rd 27 (.rd 28 (.rd 29 (.rd 30 (.rd 31 (.rd 32 (.rd 33 (.rd 34 (.rd 35 (.rd 36 (.mv 37 (.rd 38 (.rd 39 (.rd 40 (.done)))) (.stop))))))))))))))))))) (.stop))))))))))))))))))))
  | 5,21 => .rd 0 (.rd 1 (.rd 2 (.rd 3 (.rd 5 (.rd 6 (.rd 7 (.rd 8 (.mv 4 (.mv 9 (.mv 10 (.mv 11 (.done) (.stop)) (.stop)) (.stop)) (.stop)))))))))
  | 6,11 => .rd 0 (.rd 1 (.rd 2 (.rd 3 (.rd 4 (.rd 5 (.rd 6 (.rd 7 (.rd 8 (.rd 9 (.rd 10 (.mv 11 (.done) (.stop))))))))))))
  | 6,19 => .rd 0 (.rd 1 (.rd 2 (.rd 3 (.rd 4 (.rd 5 (.rd 6 (.rd 7 (.rd 8 (.rd 9 (.rd 10 (.mv 11 (.done) (.stop))))))))))))
  | 7,11 => .rd 0 (.rd 1 (.rd 2 (.rd 3 (.rd 4 (.rd 5 (.rd 6 (.rd 7 (.rd 8 (.rd 9 (.rd 10 (.mv 11 (.done) (.stop))))))))))))
  | 8,15 => .rd 0 (.rd 1 (.rd 2 (.rd 3 (.rd 4 (.rd 5 (.rd 6 (.rd 7 (.rd 8 (.rd 9 (.rd 10 (.rd 11 (.rd 12 (.rd 13 (.rd 14 (.rd 15 (.rd 16 (.rd 17 (.rd 18 (.rd 19 (.rd 20 (.rd 21 (.rd 22 (.rd 23 (.mv 24 (.rd 25 (.rd 26 (.rd 27 (.rd 28 (.rd 29 (.rd 30 (.rd 31 (.rd 32 (.rd 33 (.rd 34 (.rd 35 (.rd 36 (.rd 37 (.rd 38 (.rd 39 (.rd 40 (.rd 41 (.rd 42 (.rd 43 (.rd 44 (.rd 45 (.rd 46 (.rd 47 (.rd 48 (.rd 49 (.rd 50 (.mv 51 (.rd 52 (.rd 53 (.rd 54 (.rd 55 (.rd 56 (.rd 57 (.rd 58 (.rd 59 (.rd 60 (.rd 61 (.rd 62 (.rd 63 (.mv 64 (.mv 65 (.mv 66 (.rd 67 (.mv 68 (.rd 69 (.rd 70 (.rd 71 (.rd 73 (.mv 72 (.mv 74 (.mv 75 (.rd 76 (.rd 77 (.rd 78 (.mv 79 (.done) (.stop))))) (.stop)) (.stop)) (.stop)))))) (.stop))) (.stop)) (.stop)) (.stop)))))))))))))) (.stop)))))))))))))))))))))))))))) (.stop)))))))))))))))))))))))))
  | 9,16 => .rd 0 (.rd 1 (.rd 2 (.rd 3 (.rd 4 (.rd 6 (.rd 7 (.rd 8 (.rd 9 (.rd 10 (.mv 5 (.mv 11 (.rd 12 (.mv 13 (.done) (.stop))) (.stop)) (.stop)))))))))))
  | 9,18 => .rd 0 (.rd 1 (.rd 2 (.rd 4 (.rd 5 (.rd 6 (.mv 3 (.mv 7 (.rd 8 (.mv 9 (.done) (.stop))) (.stop)) (.stop)))))))
  | 9,23 => .rd 0 (.rd 1 (.rd 2 (.rd 3 (.rd 4 (.rd 5 (.rd 6 (.rd 7 (.rd 8 (.rd 9 (.rd 10 (.rd 11 (.rd 12 (.rd 13 (.rd 14 (.rd 15 (.rd 16 (.rd 17 (.rd 18 (.rd 19 (.rd 20 (.rd 21 (.rd 22 (.rd 23 (.rd 24 (.rd 25 (.rd 26 (.rd 27 (.rd 29 (.rd 30 (.rd 31 (.rd 32 (.rd 33 (.mv 28 (.mv 34 (.mv 35 (.rd 36 (.rd 37 (.rd 38 (.rd 39 (.rd 41 (.mv 40 (.mv 42 (.mv 43 (.rd 44 (.rd 45 (.done))) (.stop)) (.stop)) (.stop))))))) (.stop)) (.stop)) (.stop))))))))))))))))))))))))))))))))))
  | 13,6 => .rd 0 (.rd 1 (.rd 2 (.rd 4 (.mv 3 (.mv 5 (.done) (.stop)) (.stop)))))
  | 13,16 => .rd 0 (.rd 1 (.rd 2 (.rd 3 (.rd 4 (.rd 5 (.rd 6 (.mv 7 (.done) (.stop))))))))
  | 14,10 => .rd 0 (.rd 1 (.rd 2 (.rd 3 (.rd 5 (.rd 6 (.rd 7 (.rd 8 (.rd 9 (.rd 10 (.rd 11 (.rd 12 (.rd 13 (.rd 14 (.rd 15 (.rd 16 (.rd 17 (.rd 18 (.rd 19 (.rd 20 (.rd 21 (.rd 22 (.rd 23 (.rd 24 (.rd 25 (.mv 4 (.mv 26 (.rd 27 (.rd 28 (.mv 29 (.done) (.stop)))) (.stop)) (.stop))))))))))))))))))))))))))
  | 15,1 => .rd 0 (.rd 1 (.rd 2 (.rd 3 (.rd 4 (.rd 5 (.rd 6 (.rd 7 (.rd 8 (.rd 9 (.rd 10 (.done)))))))))))
  | 15,6 => .rd 0 (.rd 1 (.rd 2 (.rd 3 (.rd 4 (.rd 5 (.rd 6 (.rd 7 (.rd 8 (.rd 9 (.rd 10 (.rd 11 (.rd 12 (.rd 13 (.rd 14 (.done)))))))))))))))
  | 16,1 => .rd 0 (.rd 1 (.rd 3 (.mv 2 (.mv 4 (.rd 5 (.rd 6 (.rd 7 (.mv 8 (.mv 9 (.mv 10 (.done) (.stop)) (.stop)) (.stop))))) (.mv 8 (.mv 4 (.rd 5 (.rd 6 (.rd 7 (.mv 9 (.mv 10 (.done) (.stop)) (.stop))))) (.stop)) (.stop))) (.mv 8 (.mv 2 (.mv 4 (.rd 5 (.rd 6 (.rd 7 (.mv 9 (.mv 10 (.done) (.stop)) (.stop))))) (.stop)) (.stop)) (.stop)))))
  | 19,6 => .rd 0 (.rd 1 (.rd 2 (.rd 3 (.rd 4 (.rd 5 (.rd 6 (.rd 7 (.rd 8 (.done)))))))))
  | 21,4 => .rd 0 (.rd 1 (.rd 2 (.rd 3 (.rd 4 (.rd 5 (.rd 6 (.done)))))))
  | 21,6 => .rd 0 (.rd 1 (.rd 2 (.rd 3 (.rd 4 (.rd 5 (.rd 6 (.done)))))))
  | 22,11 => .rd 0 (.rd 1 (.rd 2 (.rd 3 (.rd 4 (.rd 5 (.mv 6 (.done) (.stop)))))))
  | 23,7 => .rd 0 (.rd 1 (.rd 2 (.rd 3 (.rd 4 (.mv 5 (.done) (.stop))))))
  | 27,6 => .rd 0 (.rd 1 (.rd 2 (.rd 3 (.rd 4 (.rd 5 (.rd 6 (.rd 7 (.rd 8 (.done)))))))))
  | 29,8 => .rd 0 (.rd 1 (.rd 2 (.rd 3 (.rd 4 (.rd 5 (.rd 6 (.rd 7 (.rd 8 (.rd 9 (.rd 10 (.rd 11 (.rd 12 (.rd 13 (.rd 14 (.rd 15 (.rd 16 (.rd 17 (.mv 18 (.mv 19 (.done) (.stop)) (.stop)))))))))))))))))))
  | 30,5 => .rd 0 (.rd 1 (.rd 2 (.rd 3 (.rd 4 (.rd 5 (.rd 6 (.rd 7 (.rd 8 (.rd 9 (.mv 10 (.rd 11 (.rd 12 (.rd 13 (.mv 14 (.mv 15 (.mv 16 (.done) (.stop)) (.stop)) (.stop))))) (.mv 14 (.mv 10 (.rd 11 (.rd 12 (.rd 13 (.mv 15 (.mv 16 (.done) (.stop)) (.stop))))) (.stop)) (.stop))))))))))))
  | 30,6 => .rd 0 (.rd 1 (.rd 2 (.rd 3 (.rd 4 (.rd 5 (.rd 6 (.rd 7 (.rd 8 (.rd 9 (.mv 10 (.mv 11 (.done) (.stop)) (.stop)))))))))))
  | 33,6 => .rd 0 (.rd 1 (.rd 2 (.rd 3 (.rd 4 (.rd 5 (.mv 6 (.rd 7 (.rd 8 (.rd 9 (.mv 10 (.mv 11 (.done) (.stop)) (.stop))))) (.stop)))))))
  | 33,7 => .rd 0 (.rd 1 (.rd 2 (.rd 3 (.rd 4 (.rd 5 (.rd 6 (.rd 7 (.mv 8 (.rd 9 (.done)) (.stop)))))))))
  | 34,5 => .rd 0 (.rd 1 (.rd 2 (.rd 3 (.rd 4 (.rd 5 (.rd 6 (.rd 7 (.rd 8 (.rd 9 (.rd 10 (.rd 11 (.rd 12 (.rd 13 (.rd 14 (.rd 15 (.rd 16 (.rd 17 (.rd 18 (.rd 19 (.rd 20 (.rd 21 (.done))))))))))))))))))))))
  | 38,1 => .rd 0 (.rd 1 (.rd 2 (.rd 3 (.rd 4 (.rd 5 (.mv 6 (.done) (.stop)))))))
  | 40,5 => .rd 0 (.rd 1 (.rd 2 (.rd 3 (.rd 4 (.rd 5 (.rd 6 (.rd 7 (.done))))))))
  | 41,8 => .rd 0 (.rd 1 (.rd 2 (.rd 3 (.rd 5 (.rd 6 (.rd 7 (.mv 4 (.mv 8 (.rd 9 (.rd 10 (.mv 11 (.done) (.stop)))) (.stop)) (.stop))))))))
  | 50,3 => .rd 0 (.rd 1 (.rd 2 (.rd 3 (.rd 4 (.rd 5 (.rd 6 (.rd 7 (.rd 8 (.rd 9 (.rd 10 (.rd 11 (.mv 12 (.mv 13 (.done) (.stop)) (.stop)))))))))))))
  | 53,1 => .rd 0 (.rd 1 (.mv 2 (.mv 3 (.done) (.stop)) (.stop)))
  | 55,11 => .rd 0 (.rd 1 (.rd 2 (.rd 3 (.rd 4 (.rd 5 (.rd 6 (.rd 7 (.rd 8 (.rd 9 (.rd 10 (.done)))))))))))
  | 56,5 => .rd 0 (.rd 1 (.rd 2 (.rd 3 (.rd 4 (.rd 5 (.rd 6 (.rd 7 (.rd 8 (.rd 9 (.rd 10 (.rd 11 (.rd 12 (.rd 13 (.mv 14 (.rd 15 (.rd 16 (.done))) (.stop)))))))))))))))
  | 56,7 => .rd 0 (.rd 1 (.rd 2 (.rd 3 (.rd 4 (.rd 5 (.rd 6 (.rd 7 (.rd 8 (.rd 9 (.rd 10 (.rd 11 (.rd 12 (.rd 13 (.rd 14 (.rd 15 (.done))))))))))))))))
  | 56,11 => .rd 0 (.rd 1 (.rd 2 (.rd 3 (.rd 4 (.rd 5 (.rd 6 (.rd 7 (.rd 9 (.rd 10 (.rd 12 (.rd 13 (.rd 14 (.rd 15 (.rd 16 (.rd 17 (.mv 8 (.mv 11 (.mv 18 (.rd 19 (.rd 20 (.mv 21 (.done) (.stop)))) (.stop)) (.stop)) (.stop)))))))))))))))))
  | 57,5 => .rd 0 (.rd 1 (.rd 2 (.rd 3 (.rd 4 (.rd 5 (.rd 6 (.rd 7 (.rd 8 (.mv 9 (.rd 10 (.done)) (.stop))))))))))
  | 58,2 => .rd 0 (.rd 1 (.rd 2 (.rd 3 (.rd 4 (.rd 5 (.rd 6 (.rd 7 (.rd 8 (.rd 9 (.rd 10 (.rd 11 (.rd 12 (.rd 13 (.rd 14 (.rd 15 (.rd 16 (.mv 17 (.rd 18 (.rd 19 (.done))) (.stop))))))))))))))))))
  | 58,5 => .rd 0 (.rd 1 (.rd 2 (.rd 3 (.rd 4 (.rd 5 (.rd 6 (.rd 7 (.rd 8 (.rd 9 (.rd 10 (.rd 11 (.rd 12 (.rd 13 (.rd 14 (.rd 15 (.rd 16 (.rd 17 (.rd 18 (.done)))))))))))))))))))
  | 60,1 => .rd 0 (.rd 1 (.rd 2 (.rd 3 (.rd 4 (.mv 5 (.rd 6 (.rd 7 (.mv 8 (.mv 9 (.done) (.stop)) (.stop)))) (.stop))))))
  | 61,11 => .rd 0 (.rd 1 (.rd 2 (.rd 3 (.rd 4 (.rd 5 (.rd 6 (.rd 7 (.mv 8 (.done) (.stop)))))))))
  | 61,15 => .rd 0 (.rd 1 (.rd 2 (.rd 3 (.rd 4 (.rd 5 (.rd 6 (.rd 7 (.mv 8 (.done) (.stop)))))))))
  | 72,5 => .rd 0 (.rd 1 (.rd 2 (.rd 3 (.rd 4 (.rd 5 (.mv 6 (.rd 7 (.done)) (.stop)))))))
  | 72,8 => .rd 0 (.rd 1 (.rd 2 (.rd 3 (.rd 4 (.rd 5 (.rd 6 (.rd 7 (.rd 8 (.rd 9 (.rd 10 (.mv 11 (.rd 12 (.rd 13 (.mv 14 (.mv 15 (.done) (.stop)) (.stop)))) (.stop))))))))))))
  | 74,1 => .rd 0 (.rd 1 (.rd 2 (.rd 3 (.rd 5 (.rd 6 (.rd 7 (.rd 8 (.mv 4 (.mv 9 (.rd 10 (.mv 11 (.mv 12 (.done) (.stop)) (.stop))) (.stop)) (.stop)))))))))
  | 78,17 => .rd 0 (.rd 1 (.rd 2 (.rd 3 (.rd 4 (.rd 5 (.rd 6 (.rd 7 (.rd 8 (.rd 9 (.rd 10 (.rd 11 (.rd 12 (.mv 13 (.rd 14 (.rd 15 (.rd 16 (.done)))) (.stop))))))))))))))
  | 86,4 => .rd 0 (.rd 1 (.rd 2 (.rd 3 (.rd 4 (.rd 5 (.rd 6 (.rd 7 (.rd 8 (.rd 9 (.rd 10 (.rd 11 (.rd 12 (.rd 13 (.mv 14 (.rd 15 (.rd 16 (.done))) (.stop)))))))))))))))
  | 86,6 => .rd 0 (.rd 1 (.rd 2 (.rd 3 (.rd 4 (.rd 5 (.rd 6 (.rd 7 (.rd 8 (.rd 9 (.rd 10 (.rd 11 (.rd 12 (.rd 13 (.rd 14 (.mv 15 (.rd 16 (.mv 17 (.done) (.stop))) (.stop))))))))))))))))
  | 87,10 => .rd 0 (.rd 1 (.rd 2 (.rd 3 (.rd 4 (.rd 5 (.rd 6 (.rd 7 (.rd 8 (.rd 9 (.rd 10 (.rd 11 (.rd 12 (.rd 13 (.rd 14 (.rd 15 (.rd 16 (.mv 17 (.rd 18 (.mv 19 (.done) (.stop))) (.stop))))))))))))))))))
  | 88,10 => .rd 0 (.rd 1 (.rd 2 (.rd 3 (.rd 4 (.rd 5 (.rd 6 (.rd 7 (.rd 8 (.rd 9 (.rd 10 (.rd 11 (.rd 12 (.rd 13 (.rd 14 (.rd 15 (.rd 16 (.mv 17 (.rd 18 (.mv 19 (.done) (.stop))) (.stop))))))))))))))))))
  | 90,3 => .rd 0 (.rd 1 (.rd 2 (.rd 3 (.rd 4 (.rd 5 (.rd 6 (.rd 7 (.rd 8 (.rd 9 (.rd 10 (.rd 11 (.rd 12 (.mv 13 (.rd 14 (.mv 15 (.done) (.stop))) (.stop))))))))))))))
  | 91,5 => .rd 0 (.rd 1 (.rd 2 (.rd 3 (.rd 4 (.rd 5 (.rd 6 (.rd 7 (.rd 8 (.rd 9 (.rd 10 (.rd 11 (.rd 12 (.rd 13 (.mv 14 (.rd 15 (.rd 16 (.rd 17 (.done)))) (.stop)))))))))))))))
  | 91,11 => .rd 0 (.rd 1 (.rd 2 (.rd 3 (.rd 4 (.rd 5 (.rd 6 (.rd 7 (.rd 8 (.rd 9 (.rd 10 (.rd 11 (.rd 12 (.rd 13 (.rd 14 (.mv 15 (.rd 16 (.mv 17 (.done) (.stop))) (.stop))))))))))))))))
  | 91,16 => .rd 0 (.rd 1 (.rd 2 (.rd 3 (.rd 4 (.rd 5 (.rd 6 (.rd 7 (.rd 8 (.rd 9 (.mv 10 (.rd 11 (.rd 12 (.done))) (.stop)))))))))))
  | 91,17 => .rd 0 (.rd 1 (.rd 2 (.rd 3 (.rd 4 (.rd 5 (.rd 6 (.rd 7 (.rd 8 (.rd 9 (.rd 10 (.rd 11 (.rd 12 (.rd 13 (.rd 14 (.mv 15 (.rd 16 (.mv 17 (.done) (.stop))) (.stop))))))))))))))))
  | 91,22 => .rd 0 (.rd 1 (.rd 2 (.rd 3 (.rd 4 (.rd 5 (.rd 6 (.rd 7 (.rd 8 (.rd 9 (.mv 10 (.rd 11 (.rd 12 (.done))) (.stop)))))))))))
  | 91,23 => .rd 0 (.rd 1 (.rd 2 (.rd 3 (.rd 4 (.rd 5 (.rd 6 (.rd 7 (.rd 8 (.rd 9 (.rd 10 (.rd 11 (.rd 12 (.rd 13 (.rd 14 (.mv 15 (.rd 16 (.mv 17 (.done) (.stop))) (.stop))))))))))))))))
  | 92,1 => .rd 0 (.rd 1 (.rd 2 (.rd 3 (.rd 4 (.rd 5 (.rd 6 (.rd 7 (.rd 8 (.rd 9 (.rd 10 (.rd 11 (.rd 12 (.mv 13 (.rd 14 (.mv 15 (.done) (.stop))) (.stop))))))))))))))
  | 92,3 => .rd 0 (.rd 1 (.rd 2 (.rd 3 (.rd 4 (.rd 5 (.rd 6 (.rd 7 (.rd 8 (.rd 9 (.rd 10 (.rd 11 (.rd 12 (.mv 13 (.rd 14 (.rd 15 (.rd 16 (.done)))) (.stop))))))))))))))
  | 92,5 => .rd 0 (.rd 1 (.rd 2 (.rd 3 (.rd 4 (.rd 5 (.rd 6 (.rd 7 (.rd 8 (.rd 9 (.rd 10 (.rd 11 (.rd 12 (.mv 13 (.rd 14 (.rd 15 (.done))) (.stop))))))))))))))
  | 92,8 => .rd 0 (.rd 1 (.rd 2 (.rd 3 (.rd 4 (.rd 5 (.rd 6 (.rd 7 (.rd 8 (.rd 9 (.rd 10 (.rd 11 (.rd 12 (.mv 13 (.rd 14 (.mv 15 (.done) (.stop))) (.stop))))))))))))))
  | 93,1 => .rd 0 (.rd 1 (.rd 2 (.rd 3 (.rd 4 (.rd 5 (.rd 6 (.rd 7 (.rd 8 (.rd 9 (.rd 10 (.rd 11 (.rd 12 (.mv 13 (.rd 14 (.mv 15 (.done) (.stop))) (.stop))))))))))))))
  | 93,3 => .rd 0 (.rd 1 (.rd 2 (.rd 3 (.rd 4 (.rd 5 (.rd 6 (.rd 7 (.rd 8 (.rd 9 (.rd 10 (.rd 11 (.rd 12 (.mv 13 (.rd 14 (.rd 15 (.done))) (.stop))))))))))))))
  | 93,5 => .rd 0 (.rd 1 (.rd 2 (.rd 3 (.rd 4 (.rd 5 (.rd 6 (.rd 7 (.rd 8 (.rd 9 (.rd 10 (.rd 11 (.rd 12 (.mv 13 (.rd 14 (.rd 15 (.rd 16 (.done)))) (.stop))))))))))))))
  | 93,8 => .rd 0 (.rd 1 (.rd 2 (.rd 3 (.rd 4 (.rd 5 (.rd 6 (.rd 7 (.rd 8 (.rd 9 (.rd 10 (.rd 11 (.rd 12 (.mv 13 (.rd 14 (.mv 15 (.done) (.stop))) (.stop))))))))))))))
  | 93,10 => .rd 0 (.rd 1 (.rd 2 (.rd 3 (.rd 4 (.rd 5 (.rd 6 (.rd 7 (.rd 8 (.rd 9 (.rd 10 (.rd 11 (.rd 12 (.mv 13 (.rd 14 (.mv 15 (.done) (.stop))) (.stop))))))))))))))
  | 93,13 => .rd 0 (.rd 1 (.rd 2 (.rd 3 (.rd 4 (.rd 5 (.rd 6 (.rd 7 (.rd 8 (.rd 9 (.rd 10 (.rd 11 (.rd 12 (.mv 13 (.rd 14 (.rd 15 (.done))) (.stop))))))))))))))
  | 93,15 => .rd 0 (.rd 1 (.rd 2 (.rd 3 (.rd 4 (.rd 5 (.rd 6 (.rd 7 (.rd 8 (.rd 9 (.rd 10 (.rd 11 (.rd 12 (.mv 13 (.rd 14 (.rd 15 (.rd 16 (.done)))) (.stop))))))))))))))
  | 93,18 => .rd 0 (.rd 1 (.rd 2 (.rd 3 (.rd 4 (.rd 5 (.rd 6 (.rd 7 (.rd 8 (.rd 9 (.rd 10 (.rd 11 (.rd 12 (.mv 13 (.rd 14 (.mv 15 (.done) (.stop))) (.stop))))))))))))))
  | 93,21 => .rd 0 (.rd 1 (.rd 2 (.rd 3 (.rd 4 (.rd 5 (.rd 6 (.rd 7 (.rd 8 (.rd 9 (.rd 10 (.rd 11 (.rd 12 (.mv 13 (.rd 14 (.mv 15 (.done) (.stop))) (.stop))))))))))))))
  | 99,3 => .rd 0 (.rd 1 (.rd 2 (.rd 3 (.rd 4 (.rd 5 (.rd 6 (.rd 7 (.rd 8 (.rd 9 (.rd 10 (.rd 11 (.rd 12 (.mv 13 (.rd 14 (.mv 15 (.done) (.stop))) (.stop))))))))))))))
  | 100,3 => .rd 0 (.rd 1 (.rd 2 (.rd 3 (.rd 4 (.rd 5 (.rd 6 (.rd 7 (.rd 8 (.rd 9 (.rd 10 (.rd 11 (.rd 12 (.rd 13 (.rd 14 (.rd 15 (.rd 16 (.rd 17 (.rd 18 (.mv 19 (.rd 20 (.rd 21 (.done))) (.stop))))))))))))))))))))
  | 100,5 => .rd 0 (.rd 1 (.rd 2 (.rd 3 (.rd 4 (.rd 5 (.rd 6 (.rd 7 (.rd 8 (.rd 9 (.rd 10 (.rd 11 (.rd 12 (.mv 13 (.rd 14 (.rd 15 (.done))) (.stop))))))))))))))
  | 100,6 => .rd 0 (.rd 1 (.rd 2 (.rd 3 (.rd 4 (.rd 5 (.rd 6 (.rd 7 (.rd 8 (.rd 9 (.rd 10 (.rd 11 (.rd 12 (.rd 13 (.rd 14 (.rd 15 (.rd 16 (.rd 17 (.rd 18 (.rd 19 (.rd 20 (.mv 21 (.rd 22 (.mv 23 (.done) (.stop))) (.stop))))))))))))))))))))))
  | 102,1 => .rd 0 (.rd 1 (.rd 2 (.rd 3 (.rd 4 (.rd 5 (.rd 6 (.rd 7 (.rd 8 (.mv 9 (.done) (.stop))))))))))
  | 102,2 => .rd 0 (.rd 1 (.rd 2 (.rd 3 (.rd 4 (.rd 5 (.rd 6 (.rd 7 (.rd 8 (.mv 9 (.done) (.stop))))))))))
  | 102,3 => .rd 0 (.rd 1 (.rd 2 (.rd 3 (.rd 4 (.rd 5 (.rd 6 (.rd 7 (.rd 8 (.mv 9 (.done) (.stop))))))))))
  | 106,1 => .rd 0 (.rd 1 (.rd 2 (.rd 3 (.rd 4 (.rd 5 (.rd 6 (.rd 7 (.rd 8 (.mv 9 (.rd 10 (.done)) (.stop))))))))))
  | _,_ => .stop
def cfgA.thaw (f d:Nat):Bool:=(f == 51 && d == 8)
def cfgA.freeze (f d:Nat):Bool:=(f == 51 && d == 11)
def cfgA:Cfg:={ heap:=cfgA.heap,take:=cfgA.take,thaw:=cfgA.thaw,freeze:=cfgA.freeze,mask:=cfgA.mask,plan:=cfgA.plan,prim:=fun f=>match f with | 105=>some primIndexByte | 80=>some primCompare | _=>none,keep:=fun f=>[41,47,77].contains f }
theorem plans:plansOK Try.prog cfgA=true:=by kernel_rfl
theorem trees:treesOK Try.prog cfgA cfgA.tree=true:=by kernel_rfl
theorem named:(Try.prog.funcs.all fun fn=>fn.name != "runtime.NumGoroutine")=true:=by kernel_rfl
theorem names_ok:∀(f:FuncId) (fn:Func),Try.prog.funcs[f]? = some fn→fn.name≠"runtime.NumGoroutine" := by
  intro f fn hf
  have:=Array.all_eq_true_iff_forall_mem.1 named fn (Array.mem_of_getElem? hf)
  simpa using this
theorem prims:PrimOK Try.prog cfgA:=by
  intro f p hp args σ v σ' h g w ow xs r
  simp only [cfgA] at hp
  split at hp
  · injection hp with hp; subst hp
    exact indexByte_prim Try.func105 (by kernel_rfl) (by kernel_rfl) (by kernel_rfl) (by kernel_rfl) h r
  · injection hp with hp; subst hp
    exact compare_prim Try.func80 (by kernel_rfl) (by kernel_rfl) (by kernel_rfl) (by kernel_rfl) h r
  · cases hp
theorem sound (n:Nat):Sound Try.prog (ev Try.prog cfgA n):=ev_sound Try.checked.mixed plans names_ok prims n
abbrev E:CallW:=EvW Try.prog cfgA cfgA.tree
theorem E_sound {t:Tgt} {args:List AV} {σ:St} {K:AV→St→Prop} (h:E t args σ K):ModelW Try.prog t args σ K:=EvW_sound Try.checked.mixed trees names_ok prims h
end Go.AM
namespace Go.AM
open Go Go.Proofs
set_option maxRecDepth 20000
theorem wz78:lowFn Try.prog cfgA cfgA.tree 12=some (Cz2z):=by kernel_rfl
theorem wz3s:lowFn Try.prog cfgA cfgA.tree 24=some (Cz1i):=by kernel_rfl
theorem wz3t:lowFn Try.prog cfgA cfgA.tree 49=some (Czu):=by kernel_rfl
theorem wz43:lowFn Try.prog cfgA cfgA.tree 25=some (Cz1l (cs [49])):=by kernel_rfl
theorem wz5t:lowFn Try.prog cfgA cfgA.tree 35=some (Cz1q):=by kernel_rfl
theorem wz5u:lowFn Try.prog cfgA cfgA.tree 36=some (Cz1r):=by kernel_rfl
theorem wz83:lowFn Try.prog cfgA cfgA.tree 71=some (Cz3b):=by kernel_rfl
theorem wz26:lowFn Try.prog cfgA cfgA.tree 96=some (Czm 105):=by kernel_rfl
theorem wz3u:lowFn Try.prog cfgA cfgA.tree 81=some (Cz1g 96):=by kernel_rfl
theorem wzbw:lowFn Try.prog cfgA cfgA.tree 70=some (Cz2w 81):=by kernel_rfl
theorem wz84:lowFn Try.prog cfgA cfgA.tree 59=some (Cz3c 71 70):=by kernel_rfl
theorem wz5v:lowFn Try.prog cfgA cfgA.tree 37=some (Cz2o (cs [59])):=by kernel_rfl
theorem wz79:lowFn Try.prog cfgA cfgA.tree 45=some (Cz2y):=by kernel_rfl
theorem wz4v:lowFn Try.prog cfgA cfgA.tree 38=some (Cz17 (cs [45])):=by kernel_rfl
theorem wz2j:lowFn Try.prog cfgA cfgA.tree 72=some (Cz3):=by kernel_rfl
theorem wz4i:lowFn Try.prog cfgA cfgA.tree 97=some (Cz1m):=by kernel_rfl
theorem wz3v:lowFn Try.prog cfgA cfgA.tree 83=some (Cz1e (cs [97])):=by kernel_rfl
theorem wz4j:lowFn Try.prog cfgA cfgA.tree 98=some (Cz1n):=by kernel_rfl
theorem wz3w:lowFn Try.prog cfgA cfgA.tree 84=some (Cz1f (cs [98])):=by kernel_rfl
theorem wz5w:lowFn Try.prog cfgA cfgA.tree 82=some (Cz2q):=by kernel_rfl
theorem wz7a:lowFn Try.prog cfgA cfgA.tree 74=some (Cz2x (cs [83,84,82])):=by kernel_rfl
theorem wz3h:lowFn Try.prog cfgA cfgA.tree 73=some (Czz (cs [74])):=by kernel_rfl
theorem wz3x:lowFn Try.prog cfgA cfgA.tree 60=some (Cz15 (cs [72,73])):=by kernel_rfl
theorem wz4k:lowFn Try.prog cfgA cfgA.tree 39=some (Cz1c (cs [60])):=by kernel_rfl
theorem wz4l:lowFn Try.prog cfgA cfgA.tree 48=some (Cz1o):=by kernel_rfl
theorem wz44:lowFn Try.prog cfgA cfgA.tree 40=some (Cz1j (cs [38,48])):=by kernel_rfl
theorem wz4m:lowFn Try.prog cfgA cfgA.tree 41=some (Cz6 (cs [35,60,61])):=by kernel_rfl
theorem wz3y:lowFn Try.prog cfgA cfgA.tree 13=some (Cze (cs [35,36,37,38,39,40,41])):=by kernel_rfl
theorem wz3z:lowFn Try.prog cfgA cfgA.tree 62=some (Czv (cs [60])):=by kernel_rfl
theorem wz4w:lowFn Try.prog cfgA cfgA.tree 43=some (Cz16 (cs [62])):=by kernel_rfl
theorem wz4n:lowFn Try.prog cfgA cfgA.tree 16=some (Cza (cs [38,43])):=by kernel_rfl
theorem wz40:lowFn Try.prog cfgA cfgA.tree 66=some (Czf):=by kernel_rfl
theorem wz4o:lowFn Try.prog cfgA cfgA.tree 52=some (Cz1p (cs [66])):=by kernel_rfl
theorem wz3e:lowFn Try.prog cfgA cfgA.tree 77=some (Czy (cs [77]) (rfAt Try.prog 77 0).1 (rfAt Try.prog 77 0).2):=by kernel_rfl
theorem tr_slices_AppendSeq_Key_a0:treesIn cfgA cfgA.tree 77 (rfAt Try.prog 77 0).1=true:=by kernel_rfl
theorem tr_slices_AppendSeq_Key_b0:treesIn cfgA cfgA.tree 77 (rfAt Try.prog 77 0).2=true:=by kernel_rfl
theorem wz31:lowCode Try.prog cfgA cfgA.tree 77 0 (rfAt Try.prog 77 0).1=(Czo).code:=by kernel_rfl
theorem wz32:lowCode Try.prog cfgA cfgA.tree 77 0 (rfAt Try.prog 77 0).2=(Czp).code:=by kernel_rfl
theorem wz3m:lowFn Try.prog cfgA cfgA.tree 64=some (Cz14 (cs [77])):=by kernel_rfl
theorem wz52:lowFn Try.prog cfgA cfgA.tree 67=some (Cz21 80):=by kernel_rfl
theorem wz9q:lowFn Try.prog cfgA cfgA.tree 53=some (Cz3l 67):=by kernel_rfl
theorem wz3d:lowFn Try.prog cfgA cfgA.tree 51=some (Czb (cs [64,65])):=by kernel_rfl
theorem wz45:lowFn Try.prog cfgA cfgA.tree 28=some (Cz10 (cs [52,51,53])):=by kernel_rfl
theorem wz3f:lowFn Try.prog cfgA cfgA.tree 10=some (Cz4 (cs [12,24,25,13,16,28])):=by kernel_rfl
theorem wz3g:lowFn Try.prog cfgA cfgA.tree 63=some (Czx):=by kernel_rfl
theorem wz46:lowFn Try.prog cfgA cfgA.tree 47=some (Czh (cs [62,63])):=by kernel_rfl
theorem wz47:lowFn Try.prog cfgA cfgA.tree 23=some (Czc (cs [47,48])):=by kernel_rfl
theorem wz5x:lowFn Try.prog cfgA cfgA.tree 44=some (Cz19 (cs [53])):=by kernel_rfl
theorem wz48:lowFn Try.prog cfgA cfgA.tree 17=some (Cz1a (cs [28,44,16])):=by kernel_rfl
theorem wz3n:lowFn Try.prog cfgA cfgA.tree 50=some (Cz12):=by kernel_rfl
theorem wz3o:lowFn Try.prog cfgA cfgA.tree 26=some (Czn (cs [38,50])):=by kernel_rfl
theorem wz3i:lowFn Try.prog cfgA cfgA.tree 27=some (Cz11):=by kernel_rfl
theorem wz2r:lowFn Try.prog cfgA cfgA.tree 8=some (Cz0 (cs [10,12,24,13,25,17,26,23,28,27])):=by kernel_rfl
end Go.AM
namespace Go.AM
open Go Go.Proofs
set_option maxRecDepth 20000
def ren_K:Shelf.Ren:=⟨fun | 6=>65 | 15=>79 | 14=>78 | 28=>94 | 29=>95 | 20=>86 | 21=>87 | 22=>88 | 23=>89 | 24=>90 | 25=>91 | 26=>92 | 27=>93 | 46=>100 | 47=>101 | 48=>102 | 49=>103 | 50=>104 | 57=>106 | n=>n,fun | 22=>65 | 24=>40 | 25=>55 | 3=>3 | 39=>123 | 0=>0 | 53=>136 | 55=>138 | 4=>4 | 46=>130 | 45=>129 | 50=>102 | 5=>5 | 9=>9 | 66=>143 | 70=>147 | 76=>149 | 77=>98 | n=>n,fun n=>n⟩
theorem lay_K:Proofs.SlLaysF0.n6 Try.prog ren_K:={ mixed:=by kernel_rfl,f6:=bears Try.func65 (by decide) (by kernel_rfl),f14:=bears Try.func78 (by decide) (by kernel_rfl),f15:=Try.func79.trans (congrArg some (by kernel_rfl)),f20:=bears Try.func86 (by decide) (by kernel_rfl),f21:=bears Try.func87 (by decide) (by kernel_rfl),f22:=bears Try.func88 (by decide) (by kernel_rfl),f23:=bears Try.func89 (by decide) (by kernel_rfl),f24:=bears Try.func90 (by decide) (by kernel_rfl),f25:=bears Try.func91 (by decide) (by kernel_rfl),f26:=bears Try.func92 (by decide) (by kernel_rfl),f27:=bears Try.func93 (by decide) (by kernel_rfl),f28:=Try.func94.trans (congrArg some (by kernel_rfl)),f29:=Try.func95.trans (congrArg some (by kernel_rfl)),f46:=bears Try.func100 (by decide) (by kernel_rfl),f47:=Try.func101.trans (congrArg some (by kernel_rfl)),f48:=Try.func102.trans (congrArg some (by kernel_rfl)),f49:=bears Try.func103 (by decide) (by kernel_rfl),f50:=bears Try.func104 (by decide) (by kernel_rfl),f57:=bears Try.func106 (by decide) (by kernel_rfl),t0:=Try.underlying0,a0:=Try.isAgg0,z0:=Try.sizeOf0,v0:=Try.zeroValue0,t3:=Try.underlying3,a3:=Try.isAgg3,z3:=Try.sizeOf3,v3:=Try.zeroValue3,t4:=Try.underlying4,a4:=Try.isAgg4,z4:=Try.sizeOf4,v4:=Try.zeroValue4,t5:=Try.underlying5,a5:=Try.isAgg5,z5:=Try.sizeOf5,v5:=Try.zeroValue5,t9:=Try.underlying9,a9:=Try.isAgg9,z9:=Try.sizeOf9,v9:=Try.zeroValue9,t22:=Try.underlying65,a22:=Try.isAgg65,z22:=Try.sizeOf65,v22:=Try.zeroValue65,t25:=Try.underlying55,a25:=Try.isAgg55,z25:=Try.sizeOf55,v25:=Try.zeroValue55,t39:=Try.underlying123,a39:=Try.isAgg123,z39:=Try.sizeOf123,v39:=Try.zeroValue123,t45:=Try.underlying129,a45:=Try.isAgg129,z45:=Try.sizeOf129,v45:=Try.zeroValue129,t46:=Try.underlying130,a46:=Try.isAgg130,z46:=Try.sizeOf130,v46:=Try.zeroValue130,t50:=Try.underlying102,a50:=Try.isAgg102,z50:=Try.sizeOf102,v50:=Try.zeroValue102,t53:=Try.underlying136,a53:=Try.isAgg136,z53:=Try.sizeOf136,v53:=Try.zeroValue136,t55:=Try.underlying138,a55:=Try.isAgg138,z55:=Try.sizeOf138,v55:=Try.zeroValue138,t66:=Try.underlying143,a66:=Try.isAgg143,z66:=Try.sizeOf143,v66:=Try.zeroValue143,t70:=Try.underlying147,a70:=Try.isAgg147,z70:=Try.sizeOf147,v70:=Try.zeroValue147,t76:=Try.underlying149,a76:=Try.isAgg149,z76:=Try.sizeOf149,v76:=Try.zeroValue149,t77:=Try.underlying98,a77:=Try.isAgg98,z77:=Try.sizeOf98,v77:=Try.zeroValue98 }
theorem lay_K_a:∀w,(Go.isAgg (ren_K.t 24)).run Try.prog w = .ok true w:=Try.isAgg40
theorem lay_K_z:∀w,(Go.sizeOf (ren_K.t 24)).run Try.prog w = .ok 16 w:=Try.sizeOf40
def ren_V:Shelf.Ren:=⟨fun | 22=>61 | 29=>75 | 30=>76 | 36=>85 | 17=>99 | n=>n,fun | 9=>77 | 24=>78 | n=>n,fun n=>n⟩
def zrV:Value := .agg #[.int .i64 0,.int .u8 0,.string ⟨#[]⟩,.bool false]
theorem lay_V:Proofs.InsL Try.prog ren_V 4 zrV 40:={ mixed:=by kernel_rfl,f22:=bears Try.func61 (by decide) (by kernel_rfl),f29:=⟨_,Try.func75,by kernel_rfl,by kernel_rfl,by kernel_rfl,by kernel_rfl⟩,t0:=Try.underlying0,a0:=Try.isAgg0,z0:=Try.sizeOf0,v0:=Try.zeroValue0,t3:=Try.underlying3,a3:=Try.isAgg3,z3:=Try.sizeOf3,v3:=Try.zeroValue3,t4:=Try.underlying4,a4:=Try.isAgg4,z4:=Try.sizeOf4,v4:=Try.zeroValue4,z9:=Try.sizeOf77,t24:=Try.underlying78,a24:=Try.isAgg78,z24:=Try.sizeOf78,v24:=Try.zeroValue78,i9:=by kernel_rfl,pos:=by decide,zc:=rfl,one:=by decide,byt:=by decide }
theorem E_kit:KitW Try.prog E:=EvW.kit
theorem EC:LeC E E:=EvW.le
theorem EW:WkC E:=fun _ _ _ _ _ h h2=>EvW.args h h2
theorem scan_res {f:FuncId} (h:ScanRS E f):ScanS E f:=fun x Q O a b s m S H K t a1 hK=>EvW.res (h x Q O a b s m S H _ t a1 fun v G hv=>⟨_,.inr hv.wk,hK G⟩)
theorem asBytes_row {S:List (List AV)} {H:List HObj} {r:Nat} {a:List UInt8} (h:S[r]? = some (bs a)) (ha:a.length=16):asBytes ⟨S,H⟩ (.row (.stk r) 0 16 16)=some a:=by
  have e:(bs a).take 16=bs a:=List.take_of_length_le (by rw [bs_length,ha]; exact Nat.le_refl _)
  have e2:16≤(bs a).length:=by rw [bs_length,ha]; exact Nat.le_refl _
  simp only [asBytes,readCells,boxOf_stk,h,Option.bind_some,Nat.zero_add,e2,(show ((16:Nat)≠1)=True from eq_true (by decide)),true_or,and_self,if_true,List.drop_zero,e,map_look_bs,bytesIn_bs]
end Go.AM
namespace Go.AM
open Go Go.Proofs
theorem qz5e:StNewS E 12:=fun S H K hK=>runL_ok rfl wz78 (store_New_spec _ S H K hK)
theorem qz2t:AtS E 24:=fun t S H K hK=>runL_ok rfl wz3s (law12_at_spec _ t S H K hK)
theorem qz4p:OfR E 49:=fun s S H K hK=>runL_ok rfl wz3t (ref10_Of_spec EC _ s S H K hK)
theorem qz33:kS E 25:=fun s S H K hK=>runL_ok rfl wz43 (law12_k_spec _ qz4p s S H K hK)
theorem qz4x:∀s:Stp,FnS E 35 [.agg (stc s)] (.bool (goodS s)):=fun s S H K hK=>runL_ok rfl wz5t (stamp_Good_spec _ s S H K hK)
theorem qz85:∀l:List Wr,FnS E 36 [lstW l] (.bool (decide (1≤l.length) && decide (l.length≤16))):=fun l S H K hK=>runL_ok rfl wz5u (store_Many_spec _ l S H K hK)
theorem qzbx:TextS E 71:=fun k S H K hK=>runL_ok rfl wz83 (key_text_spec EC _ k S H K hK)
theorem qz27:IdxS E 105:=fun l S H K hK=>primW (p:=primIndexByte) rfl (v := .i (Lib.indexByte l 0)) (σ':=⟨S,H⟩) rfl hK
theorem qz2k:IdxS E 96:=fun l S H K hK=>runL_ok rfl wz26 (stringslite_IndexByte_spec EC _ qz27 l S H K hK)
theorem qz4q:IdxS E 81:=fun l S H K hK=>runL_ok rfl wz3u (strings_IndexByte_spec EC _ qz2k l S H K hK)
theorem qzfb:OfK E 70:=fun s S H K hK=>runL_ok rfl wzbw (key_Of_spec EC _ qz4q s S H K hK)
theorem qzby:BoolK goodK E 59:=fun k S H K hK=>runL_ok rfl wz84 (key_Good_spec EC _ qzbx qzfb k S H K hK)
theorem qz86:GoodWS E 37:=fun l S H K hl hK=>runL_ok rfl wz5v (store_Good_spec EC _ qzby l S H K hl hK)
theorem qz9r:ChNewS E 45:=fun S H K hK=>runL_ok rfl wz79 (chain_New_spec _ S H K hK)
theorem qz1y:OfS E 38:=fun h hm l O k S H K t k1 k2=>runL_ok rfl wz4v (store_of_spec _ qz9r h hm l O k S H K t k1 k2)
theorem qz2m:BsS E 72:=fun vs s g S H K h1 h2 h3 hK=>runL_ok rfl wz2j (bs_spec EC _ vs s g S H K h1 h2 h3 hK)
theorem qz53:∀x:Int,FnS E 97 [.s (.int .i64 x)] (.bool false):=fun x S H K hK=>runL_ok rfl wz4i (isNaN_spec _ x S H K hK)
theorem qz4r:∀x y:Int,FnS E 83 [.s (.int .i64 x),.s (.int .i64 y)] (.i (cmpI x y)):=fun x y S H K hK=>runL_ok rfl wz3v (Compare_spec _ qz53 x y S H K hK)
theorem qz54:∀x:UInt8,FnS E 98 [u8 x] (.bool false):=fun x S H K hK=>runL_ok rfl wz4j (isNaN8_spec _ x S H K hK)
theorem qz4s:∀x y:UInt8,FnS E 84 [u8 x,u8 y] (.i (cmpU x y)):=fun x y S H K hK=>runL_ok rfl wz3w (Compare8_spec _ qz54 x y S H K hK)
theorem qz87:∀x y:Int,FnS E 82 [.list .sh 1 [.i x,.i y]] (.i (if x≠0 then x else y)):=fun x y S H K hK=>runL_ok rfl wz5w (Or_spec EC _ x y S H K hK)
theorem qz9s:CmpSS E 74:=fun a b S H K hK=>runL_ok rfl wz7a (stamp_Cmp_spec EC EW _ qz4r qz4s qz87 a b S H K hK)
theorem qz41:CmpVS E 73:=fun v s S H K hK=>runL_ok rfl wz3h (place1_spec _ qz9s v s S H K hK)
theorem qz20:RPlaceS E 60:=fun vs s S H K h1 h2 hK=>runL_ok rfl wz3x (place_spec _ qz2m qz41 vs s S H K h1 h2 hK)
theorem qz55:RHasS E 39:=fun vs s S H K h1 h2 hK=>runL_ok rfl wz4k (has_spec _ qz20 vs s S H K h1 h2 hK)
theorem qz39:RLenS E 48:=fun vs S H K hK=>runL_ok rfl wz4l (len_spec _ vs S H K hK)
theorem qz4y:RoomS E 40:=fun h Q O l S H K t a1 a2 hK=>runL_ok rfl wz44 (store_room_spec EC _ (stOfR_of qz1y) (p_len E_kit qz39) h Q O l S H K t a1 a2 hK)
theorem qz3j:InsVS E 61:=kit_InsV E_kit lay_V
theorem qz56:PPutS E 41:=fun b vs v S H K hb h1 h2 hK=>runL_ok rfl wz4m (put_spec _ qz4x (p_place E_kit qz20) qz3j b vs v S H K hb h1 h2 hK)
theorem qz2u:ApplyS E 13:=fun h Q O s l S H K t a1 a2 hK=>runL_ok rfl wz3y (store_Apply_spec EC _ qz4x qz85 qz86 qz1y (p_has E_kit qz55) qz4y qz56 h Q O s l S H K t a1 a2 hK)
theorem qz2v:RUntS E 62:=fun vs s S H K h1 h2 hK=>runL_ok rfl wz3z (until_spec _ qz20 vs s S H K h1 h2 hK)
theorem qz5f:RAtS E 43:=fun vs s S H K h1 h2 hK=>runL_ok rfl wz4w (at_spec _ qz2v vs s S H K h1 h2 hK)
theorem qz3a:StGetS E 16:=fun h Q O k s S H K t hK=>runL_ok rfl wz4n (store_Get_spec _ (stOfR_of qz1y) (p_at E_kit qz5f) h Q O k s S H K t hK)
theorem qz4t:KeysItKc E 66:=fun G N h bx hm c es x S K a1 a2 a3 a4 a5 a6 a7 a8=>runL_ok rfl wz40 (maps_KeysKc1_spec EC _ G N h bx hm c es x S K a1 a2 a3 a4 a5 a6 a7 a8)
theorem qz57:KeysSKc E 52 66:=fun hm S H K hK=>runL_ok rfl wz4o (maps_KeysKc_spec _ hm S H K hK)
theorem round_slices_AppendSeq_Key:RoundOK E Try.prog 77 (rfAt Try.prog 77 0).1 (rfAt Try.prog 77 0).2 (Czo).code (Czp).code:=roundE tr_slices_AppendSeq_Key_a0 tr_slices_AppendSeq_Key_b0 wz31 wz32
theorem qz3p:AppSeqKcS E 77 66:=fun bx hm cc es x S H K hM hK=>runL_ok rfl wz3e (AppendSeq_specKc EC _ qz4t (by kernel_rfl) round_slices_AppendSeq_Key bx hm cc es x S H K hM hK)
theorem qz49:CollKcS E 64 66:=fun bx hm cc es x S H K hM hK=>runL_ok rfl wz3m (Collect_specKc _ qz3p bx hm cc es x S H K hM hK)
theorem qz35:CmpB E 80:=fun a b S H r1 r2 K h1 h2 ha hb hK=>primW (p:=primCompare) rfl (v := .i (Lib.compareBytes a b)) (σ':=⟨S,H⟩) (by simp only [primCompare,asBytes_row h1 ha,asBytes_row h2 hb]) hK
theorem qz5g:CmpB E 67:=fun a b S H r1 r2 K h1 h2 ha hb hK=>runL_ok rfl wz52 (bytes_Compare_spec EC _ qz35 a b S H r1 r2 K h1 h2 ha hb hK)
theorem qz6h:KCmp E 53:=fun a b S H K hK=>runL_ok rfl wz9q (key_Cmp_spec EC _ qz5g a b S H K hK)
theorem qz2l:SortFSKc E 53 65∧SortFNKc E 65:=kit_SortFSKc E_kit lay_K lay_K_a lay_K_z qz6h (by kernel_rfl)
theorem qz3k:SortedKcS E 51 66 53:=fun bx hm cc es x S H K hM hnd hK=>EvW.res (runL_ok rfl wz3d (SortedFunc_specKc _ qz49 qz2l.1 qz2l.2 bx hm cc es x S H K hM hnd hK))
theorem qz23:StKeysS E 28:=fun h Q O S H K t a1 hK=>runL_ok rfl wz45 (store_Keys_spec _ qz57 qz3k h Q O S H K t a1 hK)
theorem qz3q:AwSS E 10:=fun S H K hK=>runL_ok rfl wz3f (law12_awake_spec EW _ qz5e qz2t qz33 qz2u qz3a qz23 S H K hK)
theorem qz3r:CloneVS E 63:=fun l S H K hl hK=>runL_ok rfl wz3g (cloneV_spec EC _ l S H K hl hK)
theorem qz4z:PTrimS E 47:=p_trim E_kit fun b vs s S H K hb h1 h2 hK=>runL_ok rfl wz46 (trim_spec _ (p_unt E_kit qz2v) qz3r b vs s S H K hb h1 h2 hK)
theorem qz50:STrimS E 23:=fun h Q O s S H K t a1 hK=>runL_ok rfl wz47 (store_Trim_spec EC _ qz4z (p_len E_kit qz39) h Q O s S H K t a1 hK)
theorem qz88:WithinS E 44:=fun k a b S H K hK=>runL_ok rfl wz5x (key_Within_spec _ qz6h k a b S H K hK)
theorem qz51:ScanRS E 17:=fun h Q O a b s m S H K t a1 hK=>runL_ok rfl wz48 (store_Scan_spec EC _ qz23 qz88 qz3a h Q O a b s m S H K t a1 hK)
theorem qz4a:RNewS E 50:=fun vs S H K h2 hK=>runL_ok rfl wz3n (newest_spec _ vs S H K h2 hK)
theorem qz4b:StNewestS E 26:=fun h Q O k S H K t hK=>runL_ok rfl wz3o (store_Newest_spec _ (stOfR_of qz1y) (p_new E_kit qz4a) h Q O k S H K t hK)
theorem qz42:KeysEqS E 27:=fun a b S H K h1 h2 hK=>runL_ok rfl wz3i (law12_keys_spec EC _ a b S H K h1 h2 hK)
theorem qz34:∀S H (K:AV→St→Prop),(∀H',K (.bool true) ⟨S,H'⟩)→E (.fn 8) [] ⟨S,H⟩ K:=fun S H K hK=>runL_ok rfl wz2r (StoreKnown_spec EW _ qz3q qz5e qz2t qz2u qz33 (scan_res qz51) qz4b qz50 qz23 qz42 S H K hK)
end Go.AM
