import Derived.Test.YtmboeclchocpcaaM7
import Derived.Test.YtmboeclchocpcaaChecked
import Derived.KernelRfl
import Derived.Test.YtmboeclchocpcaaM13
import Derived.Test.YtmboeclchocpcaaM10
import Derived.Test.YtmboeclchocpcaaM12
set_option linter.unusedSimpArgs false
set_option linter.unusedVariables false
namespace Go.AM
open Go Go.Proofs
set_option maxRecDepth 100000
def rlB : Bool → List Nat → List Bool
  | _, [] => []
  | b, n :: l => List.replicate n b ++ rlB (!b) l
def rlN : List (Nat × Nat) → List Nat
  | [] => []
  | (a, n) :: l => List.range' a n ++ rlN l
def cfgA.heap (f d:Nat):Bool :=
  match f with
  | 7=>[13].contains d
  | 25=>[1].contains d
  | 42=>[2].contains d
  | _=>false
def cfgA.take (f d:Nat):Bool :=
  match f with
  | 9=>[33,52].contains d
  | 15=>[27].contains d
  | 17=>[33,51].contains d
  | 20=>[7].contains d
  | 24=>[8].contains d
  | 26=>[26,33].contains d
  | 30=>[5].contains d
  | 35=>[49].contains d
  | 42=>[2,8,12].contains d
  | 43=>[24,30].contains d
  | 47=>[9].contains d
  | 48=>[32].contains d
  | 52=>[44].contains d
  | 60=>[7].contains d
  | 61=>[28].contains d
  | _=>false
def cfgA.mask (f b:Nat):List Bool :=
  match f,b with
  | 3,0=>rlB true [2, 3, 1, 1, 1, 190]
  | 3,2=>rlB true [2, 3, 1, 2, 3, 187]
  | 3,4=>rlB true [2, 3, 1, 2, 5, 185]
  | 3,6=>rlB true [1, 4, 1, 2, 2, 4, 2, 182]
  | 5,0=>rlB false [1, 1, 3, 1, 1, 2, 144]
  | 9,0=>rlB false [1, 2, 2, 1, 18, 1, 28]
  | 9,2=>rlB false [2, 1, 2, 1, 34, 3, 10]
  | 14,0=>rlB true [3, 4, 2, 105]
  | 14,2=>rlB true [3, 6, 1, 104]
  | 15,0=>rlB true [2, 3, 2, 43]
  | 16,0=>rlB true [2, 3, 1, 20]
  | 17,0=>rlB true [2, 3, 1, 46]
  | 22,0=>rlB false [3, 1, 2, 3, 9]
  | 26,0=>rlB true [5, 5, 2, 136]
  | 31,0=>rlB true [1, 5, 1, 8]
  | 32,0=>rlB true [4, 4, 1, 44]
  | 32,2=>rlB true [4, 4, 2, 43]
  | 33,0=>rlB true [1, 2, 1, 4, 4, 48]
  | 33,2=>rlB true [1, 2, 1, 4, 2, 2, 1, 47]
  | 34,0=>rlB true [2, 6, 4, 55]
  | 36,0=>rlB true [1, 7, 2, 24]
  | 37,0=>rlB true [4, 5, 2, 130]
  | 37,2=>rlB true [4, 5, 2, 130]
  | 37,4=>rlB true [4, 5, 3, 129]
  | 37,6=>rlB true [4, 5, 2, 1, 1, 128]
  | 38,0=>rlB true [2, 2, 1, 6, 2, 77]
  | 38,2=>rlB true [2, 2, 1, 6, 2, 77]
  | 38,4=>rlB true [2, 2, 1, 6, 2, 77]
  | 39,0=>rlB true [2, 2, 1, 7, 2, 164]
  | 39,2=>rlB true [2, 2, 1, 7, 2, 164]
  | 39,4=>rlB true [2, 2, 1, 7, 2, 164]
  | 39,6=>rlB true [2, 2, 1, 7, 2, 164]
  | 39,8=>rlB true [2, 2, 1, 7, 2, 164]
  | 42,0=>rlB false [2, 1, 10]
  | 43,0=>rlB true [4, 4, 2, 124]
  | 44,0=>rlB true [1, 1, 3, 5, 1, 71]
  | 49,0=>rlB true [3, 3, 1, 42]
  | 49,2=>rlB true [3, 3, 2, 41]
  | 50,0=>rlB true [1, 5, 4, 46]
  | 50,2=>rlB true [1, 5, 2, 2, 1, 45]
  | 51,0=>rlB true [2, 4, 4, 55]
  | 53,0=>rlB true [1, 5, 2, 24]
  | 54,0=>rlB true [3, 4, 2, 124]
  | 54,2=>rlB true [3, 4, 2, 124]
  | 54,4=>rlB true [3, 4, 3, 123]
  | 54,6=>rlB true [3, 4, 2, 1, 1, 122]
  | 56,0=>rlB true [2, 7, 2, 73]
  | 56,2=>rlB true [2, 7, 2, 73]
  | 56,4=>rlB true [2, 7, 2, 73]
  | 57,0=>rlB true [2, 8, 2, 156]
  | 57,2=>rlB true [2, 8, 2, 156]
  | 57,4=>rlB true [2, 8, 2, 156]
  | 57,6=>rlB true [2, 8, 2, 156]
  | 57,8=>rlB true [2, 8, 2, 156]
  | 59,0=>rlB true [1, 1, 2, 4, 1, 67]
  | _,_=>[]
def cfgA.plan (f k:Nat):List Nat :=
  match f,k with
  | 3,27=>rlN [(0, 53)]
  | 5,16=>rlN [(0, 11), (12, 11), (11, 1), (23, 3)]
  | 5,18=>[0,1,2,3,4,5,7,8,9,10,11,12,6,13,14,15]
  | 5,14=>[0,1,2,3,4,5,7,8,9,10,11,12,6,13,14,15]
  | 5,21=>rlN [(0, 14), (15, 1), (14, 1), (16, 5), (22, 4), (21, 1), (26, 2)]
  | 8,4=>rlN [(0, 15)]
  | 14,15=>rlN [(0, 8), (9, 4), (14, 6), (8, 1), (13, 1), (20, 4)]
  | 16,6=>rlN [(0, 9)]
  | 21,1=>rlN [(0, 12), (13, 2), (12, 1), (15, 4)]
  | 26,17=>rlN [(0, 17)]
  | 32,4=>rlN [(0, 17)]
  | 32,6=>rlN [(0, 18)]
  | 33,10=>rlN [(0, 20)]
  | 34,10=>rlN [(0, 20)]
  | 36,3=>rlN [(0, 16)]
  | 37,5=>rlN [(0, 18)]
  | 37,11=>rlN [(0, 18)]
  | 37,16=>rlN [(0, 13)]
  | 37,17=>rlN [(0, 18)]
  | 37,22=>rlN [(0, 13)]
  | 37,23=>rlN [(0, 18)]
  | 38,1=>rlN [(0, 16)]
  | 38,3=>rlN [(0, 17)]
  | 38,5=>rlN [(0, 16)]
  | 38,8=>rlN [(0, 16)]
  | 39,1=>rlN [(0, 16)]
  | 39,3=>rlN [(0, 16)]
  | 39,5=>rlN [(0, 17)]
  | 39,8=>rlN [(0, 16)]
  | 39,10=>rlN [(0, 16)]
  | 39,13=>rlN [(0, 16)]
  | 39,15=>rlN [(0, 17)]
  | 39,18=>rlN [(0, 16)]
  | 39,21=>rlN [(0, 16)]
  | 43,17=>rlN [(0, 15)]
  | 44,3=>rlN [(0, 22)]
  | 44,5=>rlN [(0, 16)]
  | 44,6=>rlN [(0, 24)]
  | 46,1=>rlN [(0, 10)]
  | 46,2=>rlN [(0, 10)]
  | 46,3=>rlN [(0, 10)]
  | 49,4=>rlN [(0, 15)]
  | 49,6=>rlN [(0, 18)]
  | 50,10=>rlN [(0, 20)]
  | 51,10=>rlN [(0, 20)]
  | 53,3=>rlN [(0, 16)]
  | 54,5=>rlN [(0, 16)]
  | 54,11=>rlN [(0, 18)]
  | 54,16=>rlN [(0, 11)]
  | 54,17=>rlN [(0, 18)]
  | 54,22=>rlN [(0, 11)]
  | 54,23=>rlN [(0, 18)]
  | 56,1=>rlN [(0, 16)]
  | 56,3=>rlN [(0, 15)]
  | 56,5=>rlN [(0, 14)]
  | 56,8=>rlN [(0, 16)]
  | 57,1=>rlN [(0, 16)]
  | 57,3=>rlN [(0, 14)]
  | 57,5=>rlN [(0, 15)]
  | 57,8=>rlN [(0, 16)]
  | 57,10=>rlN [(0, 16)]
  | 57,13=>rlN [(0, 14)]
  | 57,15=>rlN [(0, 15)]
  | 57,18=>rlN [(0, 16)]
  | 57,21=>rlN [(0, 16)]
  | 58,1=>rlN [(0, 11)]
  | 59,3=>rlN [(0, 20)]
  | 59,5=>rlN [(0, 14)]
  | 59,6=>rlN [(0, 24)]
  | 62,1=>rlN [(0, 9)]
  | _,_=>[]
def cfgA.tree (f k:Nat):PT :=
  match f,k with
  | 3,27 => .rd 0 (.rd 1 (.rd 2 (.rd 3 (.rd 4 (.rd 5 (.rd 6 (.rd 7 (.rd 8 (.rd 9 (.rd 10 (.rd 11 (.rd 12 (.rd 13 (.rd 14 (.rd 15 (.rd 16 (.rd 17 (.rd 18 (.rd 19 (.rd 20 (.rd 21 (.rd 22 (.rd 23 (.rd 24 (.rd 25 (.rd 26 (.rd 27 (.rd 28 (.rd 29 (.rd 30 (.rd 31 (.rd 32 (.rd 33 (.rd 34 (.rd 35 (.rd 36 (.rd 37 (.rd 38 (.rd 39 (.rd 40 (.rd 41 (.rd 42 (.rd 43 (.rd 44 (.rd 45 (.rd 46 (.rd 47 (.rd 48 (.rd 49 (.rd 50 (.rd 51 (.rd 52 (.done)))))))))))))))))))))))))))))))))))))))))))))))))))))
  | 5,16 => .rd 0 (.rd 1 (.rd 2 (.rd 3 (.rd 4 (.rd 5 (.rd 6 (.rd 7 (.rd 8 (.rd 9 (.rd 10 (.rd 12 (.rd 13 (.rd 14 (.rd 15 (.rd 16 (.rd 17 (.rd 18 (.rd 19 (.rd 20 (.rd 21 (.rd 22 (.mv 11 (.mv 23 (.rd 24 (.mv 25 (.done) (.stop))) (.stop)) (.stop)))))))))))))))))))))))
  | 5,18 => .rd 0 (.rd 1 (.rd 2 (.rd 3 (.rd 4 (.rd 5 (.rd 7 (.rd 8 (.rd 9 (.rd 10 (.rd 11 (.rd 12 (.mv 6 (.mv 13 (.rd 14 (.mv 15 (.done) (.stop))) (.stop)) (.stop)))))))))))))
  | 5,14 => .rd 0 (.rd 1 (.rd 2 (.rd 3 (.rd 4 (.rd 5 (.rd 7 (.rd 8 (.rd 9 (.rd 10 (.rd 11 (.rd 12 (.mv 6 (.mv 13 (.mv 14 (.mv 15 (.done) (.stop)) (.stop)) (.stop)) (.stop)))))))))))))
  | 5,21 => .rd 0 (.rd 1 (.rd 2 (.rd 3 (.rd 4 (.rd 5 (.rd 6 (.rd 7 (.rd 8 (.rd 9 (.rd 10 (.rd 11 (.rd 12 (.rd 13 (.rd 15 (.mv 14 (.mv 16 (.rd 17 (.rd 18 (.rd 19 (.rd 20 (.rd 22 (.rd 23 (.rd 24 (.rd 25 (.mv 21 (.rd 26 (.rd 27 (.done))) (.stop)))))))))) (.stop)) (.stop))))))))))))))))
  | 8,4 => .rd 0 (.rd 1 (.rd 2 (.rd 3 (.rd 4 (.rd 5 (.rd 6 (.rd 7 (.rd 8 (.rd 9 (.rd 10 (.rd 11 (.rd 12 (.rd 13 (.mv 14 (.done) (.stop)))))))))))))))
  | 14,15 => .rd 0 (.rd 1 (.rd 2 (.rd 3 (.rd 4 (.rd 5 (.rd 6 (.rd 7 (.rd 9 (.rd 10 (.rd 11 (.rd 12 (.rd 14 (.rd 15 (.rd 16 (.rd 17 (.rd 18 (.rd 19 (.mv 8 (.mv 13 (.mv 20 (.rd 21 (.rd 22 (.mv 23 (.done) (.stop)))) (.stop)) (.stop)) (.stop)))))))))))))))))))
  | 16,6 => .rd 0 (.rd 1 (.rd 2 (.rd 3 (.rd 4 (.rd 5 (.rd 6 (.rd 7 (.rd 8 (.done)))))))))
  | 21,1 => .rd 0 (.rd 1 (.rd 2 (.rd 3 (.rd 4 (.rd 5 (.rd 6 (.rd 7 (.rd 8 (.rd 9 (.rd 10 (.rd 11 (.rd 13 (.rd 14 (.mv 12 (.mv 15 (.rd 16 (.mv 17 (.mv 18 (.done) (.stop)) (.stop))) (.stop)) (.stop)))))))))))))))
  | 26,17 => .rd 0 (.rd 1 (.rd 2 (.rd 3 (.rd 4 (.rd 5 (.rd 6 (.rd 7 (.rd 8 (.rd 9 (.rd 10 (.rd 11 (.rd 12 (.mv 13 (.rd 14 (.rd 15 (.rd 16 (.done)))) (.stop))))))))))))))
  | 32,4 => .rd 0 (.rd 1 (.rd 2 (.rd 3 (.rd 4 (.rd 5 (.rd 6 (.rd 7 (.rd 8 (.rd 9 (.rd 10 (.rd 11 (.rd 12 (.rd 13 (.mv 14 (.rd 15 (.rd 16 (.done))) (.stop)))))))))))))))
  | 32,6 => .rd 0 (.rd 1 (.rd 2 (.rd 3 (.rd 4 (.rd 5 (.rd 6 (.rd 7 (.rd 8 (.rd 9 (.rd 10 (.rd 11 (.rd 12 (.rd 13 (.rd 14 (.mv 15 (.rd 16 (.mv 17 (.done) (.stop))) (.stop))))))))))))))))
  | 33,10 => .rd 0 (.rd 1 (.rd 2 (.rd 3 (.rd 4 (.rd 5 (.rd 6 (.rd 7 (.rd 8 (.rd 9 (.rd 10 (.rd 11 (.rd 12 (.rd 13 (.rd 14 (.rd 15 (.rd 16 (.mv 17 (.rd 18 (.mv 19 (.done) (.stop))) (.stop))))))))))))))))))
  | 34,10 => .rd 0 (.rd 1 (.rd 2 (.rd 3 (.rd 4 (.rd 5 (.rd 6 (.rd 7 (.rd 8 (.rd 9 (.rd 10 (.rd 11 (.rd 12 (.rd 13 (.rd 14 (.rd 15 (.rd 16 (.mv 17 (.rd 18 (.mv 19 (.done) (.stop))) (.stop))))))))))))))))))
  | 36,3 => .rd 0 (.rd 1 (.rd 2 (.rd 3 (.rd 4 (.rd 5 (.rd 6 (.rd 7 (.rd 8 (.rd 9 (.rd 10 (.rd 11 (.rd 12 (.mv 13 (.rd 14 (.mv 15 (.done) (.stop))) (.stop))))))))))))))
  | 37,5 => .rd 0 (.rd 1 (.rd 2 (.rd 3 (.rd 4 (.rd 5 (.rd 6 (.rd 7 (.rd 8 (.rd 9 (.rd 10 (.rd 11 (.rd 12 (.rd 13 (.mv 14 (.rd 15 (.rd 16 (.rd 17 (.done)))) (.stop)))))))))))))))
  | 37,11 => .rd 0 (.rd 1 (.rd 2 (.rd 3 (.rd 4 (.rd 5 (.rd 6 (.rd 7 (.rd 8 (.rd 9 (.rd 10 (.rd 11 (.rd 12 (.rd 13 (.rd 14 (.mv 15 (.rd 16 (.mv 17 (.done) (.stop))) (.stop))))))))))))))))
  | 37,16 => .rd 0 (.rd 1 (.rd 2 (.rd 3 (.rd 4 (.rd 5 (.rd 6 (.rd 7 (.rd 8 (.rd 9 (.mv 10 (.rd 11 (.rd 12 (.done))) (.stop)))))))))))
  | 37,17 => .rd 0 (.rd 1 (.rd 2 (.rd 3 (.rd 4 (.rd 5 (.rd 6 (.rd 7 (.rd 8 (.rd 9 (.rd 10 (.rd 11 (.rd 12 (.rd 13 (.rd 14 (.mv 15 (.rd 16 (.mv 17 (.done) (.stop))) (.stop))))))))))))))))
  | 37,22 => .rd 0 (.rd 1 (.rd 2 (.rd 3 (.rd 4 (.rd 5 (.rd 6 (.rd 7 (.rd 8 (.rd 9 (.mv 10 (.rd 11 (.rd 12 (.done))) (.stop)))))))))))
  | 37,23 => .rd 0 (.rd 1 (.rd 2 (.rd 3 (.rd 4 (.rd 5 (.rd 6 (.rd 7 (.rd 8 (.rd 9 (.rd 10 (.rd 11 (.rd 12 (.rd 13 (.rd 14 (.mv 15 (.rd 16 (.mv 17 (.done) (.stop))) (.stop))))))))))))))))
  | 38,1 => .rd 0 (.rd 1 (.rd 2 (.rd 3 (.rd 4 (.rd 5 (.rd 6 (.rd 7 (.rd 8 (.rd 9 (.rd 10 (.rd 11 (.rd 12 (.mv 13 (.rd 14 (.mv 15 (.done) (.stop))) (.stop))))))))))))))
  | 38,3 => .rd 0 (.rd 1 (.rd 2 (.rd 3 (.rd 4 (.rd 5 (.rd 6 (.rd 7 (.rd 8 (.rd 9 (.rd 10 (.rd 11 (.rd 12 (.mv 13 (.rd 14 (.rd 15 (.rd 16 (.done)))) (.stop))))))))))))))
  | 38,5 => .rd 0 (.rd 1 (.rd 2 (.rd 3 (.rd 4 (.rd 5 (.rd 6 (.rd 7 (.rd 8 (.rd 9 (.rd 10 (.rd 11 (.rd 12 (.mv 13 (.rd 14 (.rd 15 (.done))) (.stop))))))))))))))
  | 38,8 => .rd 0 (.rd 1 (.rd 2 (.rd 3 (.rd 4 (.rd 5 (.rd 6 (.rd 7 (.rd 8 (.rd 9 (.rd 10 (.rd 11 (.rd 12 (.mv 13 (.rd 14 (.mv 15 (.done) (.stop))) (.stop))))))))))))))
  | 39,1 => .rd 0 (.rd 1 (.rd 2 (.rd 3 (.rd 4 (.rd 5 (.rd 6 (.rd 7 (.rd 8 (.rd 9 (.rd 10 (.rd 11 (.rd 12 (.mv 13 (.rd 14 (.mv 15 (.done) (.stop))) (.stop))))))))))))))
  | 39,3 => .rd 0 (.rd 1 (.rd 2 (.rd 3 (.rd 4 (.rd 5 (.rd 6 (.rd 7 (.rd 8 (.rd 9 (.rd 10 (.rd 11 (.rd 12 (.mv 13 (.rd 14 (.rd 15 (.done))) (.stop))))))))))))))
  | 39,5 => .rd 0 (.rd 1 (.rd 2 (.rd 3 (.rd 4 (.rd 5 (.rd 6 (.rd 7 (.rd 8 (.rd 9 (.rd 10 (.rd 11 (.rd 12 (.mv 13 (.rd 14 (.rd 15 (.rd 16 (.done)))) (.stop))))))))))))))
  | 39,8 => .rd 0 (.rd 1 (.rd 2 (.rd 3 (.rd 4 (.rd 5 (.rd 6 (.rd 7 (.rd 8 (.rd 9 (.rd 10 (.rd 11 (.rd 12 (.mv 13 (.rd 14 (.mv 15 (.done) (.stop))) (.stop))))))))))))))
  | 39,10 => .rd 0 (.rd 1 (.rd 2 (.rd 3 (.rd 4 (.rd 5 (.rd 6 (.rd 7 (.rd 8 (.rd 9 (.rd 10 (.rd 11 (.rd 12 (.mv 13 (.rd 14 (.mv 15 (.done) (.stop))) (.stop))))))))))))))
  | 39,13 => .rd 0 (.rd 1 (.rd 2 (.rd 3 (.rd 4 (.rd 5 (.rd 6 (.rd 7 (.rd 8 (.rd 9 (.rd 10 (.rd 11 (.rd 12 (.mv 13 (.rd 14 (.rd 15 (.done))) (.stop))))))))))))))
  | 39,15 => .rd 0 (.rd 1 (.rd 2 (.rd 3 (.rd 4 (.rd 5 (.rd 6 (.rd 7 (.rd 8 (.rd 9 (.rd 10 (.rd 11 (.rd 12 (.mv 13 (.rd 14 (.rd 15 (.rd 16 (.done)))) (.stop))))))))))))))
  | 39,18 => .rd 0 (.rd 1 (.rd 2 (.rd 3 (.rd 4 (.rd 5 (.rd 6 (.rd 7 (.rd 8 (.rd 9 (.rd 10 (.rd 11 (.rd 12 (.mv 13 (.rd 14 (.mv 15 (.done) (.stop))) (.stop))))))))))))))
  | 39,21 => .rd 0 (.rd 1 (.rd 2 (.rd 3 (.rd 4 (.rd 5 (.rd 6 (.rd 7 (.rd 8 (.rd 9 (.rd 10 (.rd 11 (.rd 12 (.mv 13 (.rd 14 (.mv 15 (.done) (.stop))) (.stop))))))))))))))
  | 43,17 => .rd 0 (.rd 1 (.rd 2 (.rd 3 (.rd 4 (.rd 5 (.rd 6 (.rd 7 (.rd 8 (.rd 9 (.rd 10 (.rd 11 (.mv 12 (.rd 13 (.rd 14 (.done))) (.stop)))))))))))))
  | 44,3 => .rd 0 (.rd 1 (.rd 2 (.rd 3 (.rd 4 (.rd 5 (.rd 6 (.rd 7 (.rd 8 (.rd 9 (.rd 10 (.rd 11 (.rd 12 (.rd 13 (.rd 14 (.rd 15 (.rd 16 (.rd 17 (.rd 18 (.mv 19 (.rd 20 (.rd 21 (.done))) (.stop))))))))))))))))))))
  | 44,5 => .rd 0 (.rd 1 (.rd 2 (.rd 3 (.rd 4 (.rd 5 (.rd 6 (.rd 7 (.rd 8 (.rd 9 (.rd 10 (.rd 11 (.rd 12 (.mv 13 (.rd 14 (.rd 15 (.done))) (.stop))))))))))))))
  | 44,6 => .rd 0 (.rd 1 (.rd 2 (.rd 3 (.rd 4 (.rd 5 (.rd 6 (.rd 7 (.rd 8 (.rd 9 (.rd 10 (.rd 11 (.rd 12 (.rd 13 (.rd 14 (.rd 15 (.rd 16 (.rd 17 (.rd 18 (.rd 19 (.rd 20 (.mv 21 (.rd 22 (.mv 23 (.done) (.stop))) (.stop))))))))))))))))))))))
  | 46,1 => .rd 0 (.rd 1 (.rd 2 (.rd 3 (.rd 4 (.rd 5 (.rd 6 (.rd 7 (.rd 8 (.mv 9 (.done) (.stop))))))))))
  | 46,2 => .rd 0 (.rd 1 (.rd 2 (.rd 3 (.rd 4 (.rd 5 (.rd 6 (.rd 7 (.rd 8 (.mv 9 (.done) (.stop))))))))))
  | 46,3 => .rd 0 (.rd 1 (.rd 2 (.rd 3 (.rd 4 (.rd 5 (.rd 6 (.rd 7 (.rd 8 (.mv 9 (.done) (.stop))))))))))
  | 49,4 => .rd 0 (.rd 1 (.rd 2 (.rd 3 (.rd 4 (.rd 5 (.rd 6 (.rd 7 (.rd 8 (.rd 9 (.rd 10 (.rd 11 (.rd 12 (.mv 13 (.rd 14 (.done)) (.stop))))))))))))))
  | 49,6 => .rd 0 (.rd 1 (.rd 2 (.rd 3 (.rd 4 (.rd 5 (.rd 6 (.rd 7 (.rd 8 (.rd 9 (.rd 10 (.rd 11 (.rd 12 (.rd 13 (.rd 14 (.mv 15 (.rd 16 (.mv 17 (.done) (.stop))) (.stop))))))))))))))))
  | 50,10 => .rd 0 (.rd 1 (.rd 2 (.rd 3 (.rd 4 (.rd 5 (.rd 6 (.rd 7 (.rd 8 (.rd 9 (.rd 10 (.rd 11 (.rd 12 (.rd 13 (.rd 14 (.rd 15 (.rd 16 (.mv 17 (.rd 18 (.mv 19 (.done) (.stop))) (.stop))))))))))))))))))
  | 51,10 => .rd 0 (.rd 1 (.rd 2 (.rd 3 (.rd 4 (.rd 5 (.rd 6 (.rd 7 (.rd 8 (.rd 9 (.rd 10 (.rd 11 (.rd 12 (.rd 13 (.rd 14 (.rd 15 (.rd 16 (.mv 17 (.rd 18 (.mv 19 (.done) (.stop))) (.stop))))))))))))))))))
  | 53,3 => .rd 0 (.rd 1 (.rd 2 (.rd 3 (.rd 4 (.rd 5 (.rd 6 (.rd 7 (.rd 8 (.rd 9 (.rd 10 (.rd 11 (.rd 12 (.mv 13 (.rd 14 (.mv 15 (.done) (.stop))) (.stop))))))))))))))
  | 54,5 => .rd 0 (.rd 1 (.rd 2 (.rd 3 (.rd 4 (.rd 5 (.rd 6 (.rd 7 (.rd 8 (.rd 9 (.rd 10 (.rd 11 (.rd 12 (.mv 13 (.rd 14 (.rd 15 (.done))) (.stop))))))))))))))
  | 54,11 => .rd 0 (.rd 1 (.rd 2 (.rd 3 (.rd 4 (.rd 5 (.rd 6 (.rd 7 (.rd 8 (.rd 9 (.rd 10 (.rd 11 (.rd 12 (.rd 13 (.rd 14 (.mv 15 (.rd 16 (.mv 17 (.done) (.stop))) (.stop))))))))))))))))
  | 54,16 => .rd 0 (.rd 1 (.rd 2 (.rd 3 (.rd 4 (.rd 5 (.rd 6 (.rd 7 (.rd 8 (.mv 9 (.rd 10 (.done)) (.stop))))))))))
  | 54,17 => .rd 0 (.rd 1 (.rd 2 (.rd 3 (.rd 4 (.rd 5 (.rd 6 (.rd 7 (.rd 8 (.rd 9 (.rd 10 (.rd 11 (.rd 12 (.rd 13 (.rd 14 (.mv 15 (.rd 16 (.mv 17 (.done) (.stop))) (.stop))))))))))))))))
  | 54,22 => .rd 0 (.rd 1 (.rd 2 (.rd 3 (.rd 4 (.rd 5 (.rd 6 (.rd 7 (.rd 8 (.mv 9 (.rd 10 (.done)) (.stop))))))))))
  | 54,23 => .rd 0 (.rd 1 (.rd 2 (.rd 3 (.rd 4 (.rd 5 (.rd 6 (.rd 7 (.rd 8 (.rd 9 (.rd 10 (.rd 11 (.rd 12 (.rd 13 (.rd 14 (.mv 15 (.rd 16 (.mv 17 (.done) (.stop))) (.stop))))))))))))))))
  | 56,1 => .rd 0 (.rd 1 (.rd 2 (.rd 3 (.rd 4 (.rd 5 (.rd 6 (.rd 7 (.rd 8 (.rd 9 (.rd 10 (.rd 11 (.rd 12 (.mv 13 (.rd 14 (.mv 15 (.done) (.stop))) (.stop))))))))))))))
  | 56,3 => .rd 0 (.rd 1 (.rd 2 (.rd 3 (.rd 4 (.rd 5 (.rd 6 (.rd 7 (.rd 8 (.rd 9 (.rd 10 (.rd 11 (.mv 12 (.rd 13 (.rd 14 (.done))) (.stop)))))))))))))
  | 56,5 => .rd 0 (.rd 1 (.rd 2 (.rd 3 (.rd 4 (.rd 5 (.rd 6 (.rd 7 (.rd 8 (.rd 9 (.rd 10 (.rd 11 (.mv 12 (.rd 13 (.done)) (.stop)))))))))))))
  | 56,8 => .rd 0 (.rd 1 (.rd 2 (.rd 3 (.rd 4 (.rd 5 (.rd 6 (.rd 7 (.rd 8 (.rd 9 (.rd 10 (.rd 11 (.rd 12 (.mv 13 (.rd 14 (.mv 15 (.done) (.stop))) (.stop))))))))))))))
  | 57,1 => .rd 0 (.rd 1 (.rd 2 (.rd 3 (.rd 4 (.rd 5 (.rd 6 (.rd 7 (.rd 8 (.rd 9 (.rd 10 (.rd 11 (.rd 12 (.mv 13 (.rd 14 (.mv 15 (.done) (.stop))) (.stop))))))))))))))
  | 57,3 => .rd 0 (.rd 1 (.rd 2 (.rd 3 (.rd 4 (.rd 5 (.rd 6 (.rd 7 (.rd 8 (.rd 9 (.rd 10 (.rd 11 (.mv 12 (.rd 13 (.done)) (.stop)))))))))))))
  | 57,5 => .rd 0 (.rd 1 (.rd 2 (.rd 3 (.rd 4 (.rd 5 (.rd 6 (.rd 7 (.rd 8 (.rd 9 (.rd 10 (.rd 11 (.mv 12 (.rd 13 (.rd 14 (.done))) (.stop)))))))))))))
  | 57,8 => .rd 0 (.rd 1 (.rd 2 (.rd 3 (.rd 4 (.rd 5 (.rd 6 (.rd 7 (.rd 8 (.rd 9 (.rd 10 (.rd 11 (.rd 12 (.mv 13 (.rd 14 (.mv 15 (.done) (.stop))) (.stop))))))))))))))
  | 57,10 => .rd 0 (.rd 1 (.rd 2 (.rd 3 (.rd 4 (.rd 5 (.rd 6 (.rd 7 (.rd 8 (.rd 9 (.rd 10 (.rd 11 (.rd 12 (.mv 13 (.rd 14 (.mv 15 (.done) (.stop))) (.stop))))))))))))))
  | 57,13 => .rd 0 (.rd 1 (.rd 2 (.rd 3 (.rd 4 (.rd 5 (.rd 6 (.rd 7 (.rd 8 (.rd 9 (.rd 10 (.rd 11 (.mv 12 (.rd 13 (.done)) (.stop)))))))))))))
  | 57,15 => .rd 0 (.rd 1 (.rd 2 (.rd 3 (.rd 4 (.rd 5 (.rd 6 (.rd 7 (.rd 8 (.rd 9 (.rd 10 (.rd 11 (.mv 12 (.rd 13 (.rd 14 (.done))) (.stop)))))))))))))
  | 57,18 => .rd 0 (.rd 1 (.rd 2 (.rd 3 (.rd 4 (.rd 5 (.rd 6 (.rd 7 (.rd 8 (.rd 9 (.rd 10 (.rd 11 (.rd 12 (.mv 13 (.rd 14 (.mv 15 (.done) (.stop))) (.stop))))))))))))))
  | 57,21 => .rd 0 (.rd 1 (.rd 2 (.rd 3 (.rd 4 (.rd 5 (.rd 6 (.rd 7 (.rd 8 (.rd 9 (.rd 10 (.rd 11 (.rd 12 (.mv 13 (.rd 14 (.mv 15 (.done) (.stop))) (.stop))))))))))))))
  | 58,1 => .rd 0 (.rd 1 (.rd 2 (.rd 3 (.rd 4 (.rd 5 (.rd 6 (.rd 7 (.rd 8 (.mv 9 (.rd 10 (.done)) (.stop))))))))))
  | 59,3 => .rd 0 (.rd 1 (.rd 2 (.rd 3 (.rd 4 (.rd 5 (.rd 6 (.rd 7 (.rd 8 (.rd 9 (.rd 10 (.rd 11 (.rd 12 (.rd 13 (.rd 14 (.rd 15 (.rd 16 (.rd 17 (.mv 18 (.rd 19 (.done)) (.stop)))))))))))))))))))
  | 59,5 => .rd 0 (.rd 1 (.rd 2 (.rd 3 (.rd 4 (.rd 5 (.rd 6 (.rd 7 (.rd 8 (.rd 9 (.rd 10 (.rd 11 (.mv 12 (.rd 13 (.done)) (.stop)))))))))))))
  | 59,6 => .rd 0 (.rd 1 (.rd 2 (.rd 3 (.rd 4 (.rd 5 (.rd 6 (.rd 7 (.rd 8 (.rd 9 (.rd 10 (.rd 11 (.rd 12 (.rd 13 (.rd 14 (.rd 15 (.rd 16 (.rd 17 (.rd 18 (.rd 19 (.rd 20 (.mv 21 (.rd 22 (.mv 23 (.done) (.stop))) (.stop))))))))))))))))))))))
  | 62,1 => .rd 0 (.rd 1 (.rd 2 (.rd 3 (.rd 4 (.rd 5 (.rd 6 (.rd 7 (.mv 8 (.done) (.stop)))))))))
  | _,_ => .stop
def cfgA.thaw (f d:Nat):Bool:=(f == 9 && d == 37) || (f == 24 && d == 6)
def cfgA.freeze (f d:Nat):Bool:=(f == 9 && d == 52) || (f == 24 && d == 8)
def cfgA:Cfg:={ heap:=cfgA.heap,take:=cfgA.take,thaw:=cfgA.thaw,freeze:=cfgA.freeze,mask:=cfgA.mask,plan:=cfgA.plan,prim:=fun f=>match f with  | _=>none,keep:=fun f=>[42].contains f }
theorem plans:plansOK Try.prog cfgA=true:=by kernel_rfl
theorem trees:treesOK Try.prog cfgA cfgA.tree=true:=by kernel_rfl
theorem named:(Try.prog.funcs.all fun fn=>fn.name != "runtime.NumGoroutine")=true:=by kernel_rfl
theorem names_ok:∀(f:FuncId) (fn:Func),Try.prog.funcs[f]? = some fn→fn.name≠"runtime.NumGoroutine" := by
  intro f fn hf
  have:=Array.all_eq_true_iff_forall_mem.1 named fn (Array.mem_of_getElem? hf)
  simpa using this
theorem prims:PrimOK Try.prog cfgA:=by
  intro f p hp args σ v σ' h g w ow xs r
  simp only [cfgA] at hp
  cases hp
theorem sound (n:Nat):Sound Try.prog (ev Try.prog cfgA n):=ev_sound Try.checked.mixed plans names_ok prims n
abbrev E:CallW:=EvW Try.prog cfgA cfgA.tree
theorem E_sound {t:Tgt} {args:List AV} {σ:St} {K:AV→St→Prop} (h:E t args σ K):ModelW Try.prog t args σ K:=EvW_sound Try.checked.mixed trees names_ok prims h
end Go.AM
namespace Go.AM
open Go Go.Proofs
set_option maxRecDepth 20000
theorem wz7l:lowFn Try.prog cfgA cfgA.tree 7=some (Cz3d):=by kernel_rfl
theorem wz61:lowFn Try.prog cfgA cfgA.tree 8=some (Cz2a):=by kernel_rfl
theorem wz5o:lowFn Try.prog cfgA cfgA.tree 31=some (Cz14):=by kernel_rfl
theorem wz5v:lowFn Try.prog cfgA cfgA.tree 25=some (Cz2u (cs [31])):=by kernel_rfl
theorem wz57:lowFn Try.prog cfgA cfgA.tree 42=some (Cz22 (cs [42]) (rfAt Try.prog 42 0).1 (rfAt Try.prog 42 0).2):=by kernel_rfl
theorem tr_slices_AppendSeq_int64_a0:treesIn cfgA cfgA.tree 42 (rfAt Try.prog 42 0).1=true:=by kernel_rfl
theorem tr_slices_AppendSeq_int64_b0:treesIn cfgA cfgA.tree 42 (rfAt Try.prog 42 0).2=true:=by kernel_rfl
theorem wz4u:lowCode Try.prog cfgA cfgA.tree 42 0 (rfAt Try.prog 42 0).1=(Cz1p).code:=by kernel_rfl
theorem wz4v:lowCode Try.prog cfgA cfgA.tree 42 0 (rfAt Try.prog 42 0).2=(Cz1q).code:=by kernel_rfl
theorem wz5k:lowFn Try.prog cfgA cfgA.tree 29=some (Cz2e (cs [42])):=by kernel_rfl
theorem wz62:lowFn Try.prog cfgA cfgA.tree 41=some (Cz19):=by kernel_rfl
theorem wz69:lowFn Try.prog cfgA cfgA.tree 27=some (Cz3i (cs [40,41])):=by kernel_rfl
theorem wz63:lowFn Try.prog cfgA cfgA.tree 28=some (Cz35):=by kernel_rfl
theorem wz68:lowFn Try.prog cfgA cfgA.tree 55=some (Cz3c (cs [28])):=by kernel_rfl
theorem wz2j:lowFn Try.prog cfgA cfgA.tree 49=some (Czv (cs [55])):=by kernel_rfl
theorem wz48:lowFn Try.prog cfgA cfgA.tree 59=some (Cz1t (cs [55])):=by kernel_rfl
theorem wz49:lowFn Try.prog cfgA cfgA.tree 50=some (Cz1u (cs [59])):=by kernel_rfl
theorem wz5h:lowFn Try.prog cfgA cfgA.tree 45=some (Cz2i (cs [27])):=by kernel_rfl
theorem wz5l:lowFn Try.prog cfgA cfgA.tree 46=some (Cz2l):=by kernel_rfl
theorem wz3k:lowFn Try.prog cfgA cfgA.tree 51=some (Cz16 (cs [45,46])):=by kernel_rfl
theorem wz4l:lowFn Try.prog cfgA cfgA.tree 62=some (Cz24 (cs [55])):=by kernel_rfl
theorem wz4m:lowFn Try.prog cfgA cfgA.tree 61=some (Cz25 (cs [62])):=by kernel_rfl
theorem wz3e:lowFn Try.prog cfgA cfgA.tree 60=some (Cz1f (cs [61])):=by kernel_rfl
theorem wz3s:lowFn Try.prog cfgA cfgA.tree 52=some (Cz12 (cs [60,61])):=by kernel_rfl
theorem wz3m:lowFn Try.prog cfgA cfgA.tree 53=some (Cz1j):=by kernel_rfl
theorem wz30:lowFn Try.prog cfgA cfgA.tree 54=some (Cz0 (cs [55])):=by kernel_rfl
theorem wz3f:lowFn Try.prog cfgA cfgA.tree 56=some (Cza (cs [55])):=by kernel_rfl
theorem wz42:lowFn Try.prog cfgA cfgA.tree 57=some (Cz6 (cs [55])):=by kernel_rfl
theorem wz2v:lowFn Try.prog cfgA cfgA.tree 43=some (Cz10 (cs [49,50,51,52,53,54,55,56,57,43])):=by kernel_rfl
theorem wz4d:lowFn Try.prog cfgA cfgA.tree 30=some (Cz2h (cs [27,43])):=by kernel_rfl
theorem wz5p:lowFn Try.prog cfgA cfgA.tree 24=some (Cz15 (cs [29,30])):=by kernel_rfl
theorem wz5z:lowFn Try.prog cfgA cfgA.tree 12=some (Cz21 (cs [25,24])):=by kernel_rfl
theorem wz5w:lowFn Try.prog cfgA cfgA.tree 23=some (Cz2t (cs [28])):=by kernel_rfl
theorem wz6l:lowFn Try.prog cfgA cfgA.tree 22=some (Cz4i):=by kernel_rfl
theorem wz5i:lowFn Try.prog cfgA cfgA.tree 21=some (Cz1e (cs [23,22])):=by kernel_rfl
theorem wz2k:lowFn Try.prog cfgA cfgA.tree 32=some (Czw):=by kernel_rfl
theorem wz4a:lowFn Try.prog cfgA cfgA.tree 44=some (Cz1v):=by kernel_rfl
theorem wz4b:lowFn Try.prog cfgA cfgA.tree 33=some (Cz1w (cs [44])):=by kernel_rfl
theorem wz3l:lowFn Try.prog cfgA cfgA.tree 34=some (Cz17 (cs [45,46])):=by kernel_rfl
theorem wz4n:lowFn Try.prog cfgA cfgA.tree 58=some (Cz27):=by kernel_rfl
theorem wz4o:lowFn Try.prog cfgA cfgA.tree 48=some (Cz28 (cs [58])):=by kernel_rfl
theorem wz3g:lowFn Try.prog cfgA cfgA.tree 47=some (Cz1g (cs [48])):=by kernel_rfl
theorem wz3t:lowFn Try.prog cfgA cfgA.tree 35=some (Cz13 (cs [47,48])):=by kernel_rfl
theorem wz3n:lowFn Try.prog cfgA cfgA.tree 36=some (Cz1l):=by kernel_rfl
theorem wz31:lowFn Try.prog cfgA cfgA.tree 37=some (Cz1):=by kernel_rfl
theorem wz3h:lowFn Try.prog cfgA cfgA.tree 38=some (Czb):=by kernel_rfl
theorem wz43:lowFn Try.prog cfgA cfgA.tree 39=some (Cz7):=by kernel_rfl
theorem wz2w:lowFn Try.prog cfgA cfgA.tree 26=some (Cz11 (cs [32,33,34,35,36,37,38,39,26])):=by kernel_rfl
theorem wz3j:lowFn Try.prog cfgA cfgA.tree 20=some (Cz1r (cs [27,26])):=by kernel_rfl
theorem wz5q:lowFn Try.prog cfgA cfgA.tree 9=some (Czg (cs [21,20])):=by kernel_rfl
theorem wz5j:lowFn Try.prog cfgA cfgA.tree 16=some (Cz18):=by kernel_rfl
theorem wz64:lowFn Try.prog cfgA cfgA.tree 10=some (Cz36):=by kernel_rfl
theorem wz65:lowFn Try.prog cfgA cfgA.tree 13=some (Cz37):=by kernel_rfl
theorem wz5m:lowFn Try.prog cfgA cfgA.tree 6=some (Czt (cs [7,8,12,9,16,10,13])):=by kernel_rfl
theorem wz4f:lowFn Try.prog cfgA cfgA.tree 15=some (Czr):=by kernel_rfl
theorem wz4z:lowFn Try.prog cfgA cfgA.tree 14=some (Czn (cs [15])):=by kernel_rfl
theorem wz5s:lowFn Try.prog cfgA cfgA.tree 11=some (Cz2r):=by kernel_rfl
theorem wz4c:lowFn Try.prog cfgA cfgA.tree 17=some (Czj):=by kernel_rfl
theorem wz4w:lowFn Try.prog cfgA cfgA.tree 18=some (Cz1b):=by kernel_rfl
theorem wz50:lowFn Try.prog cfgA cfgA.tree 19=some (Cz1s):=by kernel_rfl
theorem wz4x:lowFn Try.prog cfgA cfgA.tree 5=some (Cz2 (cs [6,7,8,14,11,15,9,17,16,12,18,10,19,13])):=by kernel_rfl
end Go.AM
namespace Go.AM
open Go Go.Proofs
theorem EC:LeC E E:=EvW.le
theorem EW:WkC E:=fun _ _ _ _ _ h h2=>EvW.args h h2
end Go.AM
namespace Go.AM
open Go Go.Proofs
theorem qz6b:NewWS E 7:=fun room S H K h1 h2=>runL_ok rfl wz7l (wheel_New_spec _ room S H K h1 h2)
theorem qz5d:SetWS E 8:=fun h hm room now l id a S H K t hK=>runL_ok rfl wz61 (wheel_Set_spec _ h hm room now l id a S H K t hK)
theorem qz5x:ValsItS E 31:=fun G N h bx hm c es x S K a1 a2 a3 a4 a5 a6 a7 a8=>runL_ok rfl wz5o (maps_Values1_spec EC _ G N h bx hm c es x S K a1 a2 a3 a4 a5 a6 a7 a8)
theorem qz66:ValsS E 25 31:=fun hm S H K hK=>runL_ok rfl wz5v (maps_Values_spec _ hm S H K hK)
theorem round_slices_AppendSeq_int64:RoundOK E Try.prog 42 (rfAt Try.prog 42 0).1 (rfAt Try.prog 42 0).2 (Cz1p).code (Cz1q).code:=roundE tr_slices_AppendSeq_int64_a0 tr_slices_AppendSeq_int64_b0 wz4u wz4v
theorem qz5n:AppSeqVS E 42 31:=fun bx hm cc es x S H K hM hK=>runL_ok rfl wz57 (AppendSeq_specV EC _ qz5x (by kernel_rfl) round_slices_AppendSeq_int64 bx hm cc es x S H K hM hK)
theorem qz5t:CollVS E 29 31:=fun bx hm cc es x S H K hM hK=>runL_ok rfl wz5k (Collect_specV _ qz5n bx hm cc es x S H K hM hK)
theorem qz6a:LenS E 41:=fun x hx S H K hK=>runL_ok rfl wz62 (Len64_spec _ x S H K hx hK)
theorem qz2y:LenS E 27:=fun x hx S H K hK=>runL_ok rfl wz69 (Len_spec _ qz6a x S H K hx hK)
theorem qz5e:∀x:Int,FnS E 28 [.s (.int .i64 x)] (.bool false):=fun x S H K hK=>runL_ok rfl wz63 (isNaN_spec _ x S H K hK)
theorem qz2f:LessS E 55:=fun x y S H K hK=>runL_ok rfl wz68 (cmp_Less_spec _ qz5e x y S H K hK)
theorem qz2n:SrtS E 49 (Sort.insertionSort ltI)∧SrtN E 49:=⟨fun n d a b S H K h1 h2 h3 h4 hK=>runL_ok rfl wz2j (insertionSort_spec EC _ qz2f n d a b S H K h1 h2 h3 h4 hK),fun S H K hK=>runL_ok rfl wz2j (insertionSort_nil EC _ S H K hK)⟩
theorem qz4p:SiftS E 59:=fun n d lo hi first S H K h1 h2 h3 h4 hK=>runL_ok rfl wz48 (siftDown_spec EC _ qz2f n d lo hi first S H K h1 h2 h3 h4 hK)
theorem qz4q:SrtT E 50 (Sort.heapSort ltI):=fun n d a b S H K h1 h2 h3 h4 hK=>runL_ok rfl wz49 (heapSort_spec EC _ qz4p n d a b S H K h1 h2 h3 h4 hK)
theorem qz3w:NpS E 45:=fun n hn S H K hK=>runL_ok rfl wz5h (nextPow_spec _ qz2y n S H K hn hK)
theorem qz44:XorS E 46:=fun m r S H K h hK=>runL_ok rfl wz5l (xorshift_spec _ m r S H K h hK)
theorem qz3u:SrtT E 51 Sort.breakPatterns:=fun n d a b S H K h1 h2 h3 h4 hK=>runL_ok rfl wz3k (breakPatterns_spec EC _ qz3w qz44 n d a b S H K h1 h2 h3 h4 hK)
theorem qz51:Ord2S E 62:=fun n m d a b sw S H K h1 h2 h3 h4 h5 hK=>runL_ok rfl wz4l (order2_spec _ qz2f n m d a b sw S H K h1 h2 h3 h4 h5 hK)
theorem qz38:MedS E 61:=fun n m d a b e sw S H K h0 h1 h2 h3 h4 h5 h6 hK=>runL_ok rfl wz4m (median_spec _ qz51 n m d a b e sw S H K h0 h1 h2 h3 h4 h5 h6 hK)
theorem qz3o:MadS E 60:=fun n m d a sw S H K h0 h1 h2 h3 h4 h5 h6 hK=>runL_ok rfl wz3e (medianAdjacent_spec _ qz38 n m d a sw S H K h0 h1 h2 h3 h4 h5 h6 hK)
theorem qz45:ChpS E 52:=fun n d a b S H K h1 h2 h3 h4 hK=>runL_ok rfl wz3s (choosePivot_spec _ qz3o qz38 n d a b S H K h1 h2 h3 h4 hK)
theorem qz3z:SrtT E 53 Sort.reverseRange:=fun n d a b S H K h1 h2 h3 h4 hK=>runL_ok rfl wz3m (reverseRange_spec EC _ n d a b S H K h1 h2 h3 h4 hK)
theorem qz39:PinS E 54:=fun n d a b S H K h1 h2 h3 h4 hK=>runL_ok rfl wz30 (partialIns_spec EC _ qz2f n d a b S H K h1 h2 h3 h4 hK)
theorem qz3p:PeqS E 56:=fun n d a b p S H K h1 h2 h3 h4 h5 hK=>runL_ok rfl wz3f (partitionEqual_spec EC _ qz2f n d a b p S H K h1 h2 h3 h4 h5 hK)
theorem qz4g:PartS E 57:=fun n d a b p S H K h1 h2 h3 h4 h5 hK=>runL_ok rfl wz42 (partition_spec EC _ qz2f n d a b p S H K h1 h2 h3 h4 h5 hK)
theorem qz32:(∀m,PdqS E 43 m)∧PdqN E 43:=⟨fun m=>by induction m with | zero=>exact fun n d a b lim S H K h1 h2 h3 h4 h5=>absurd h5 (by omega) | succ m ih=>exact fun n d a b lim S H K h1 h2 h3 h4 h5 h6 h7 hK=>runL_ok rfl wz2v (pdqsort_spec EC _ qz2n.1 qz4q qz3u qz45 qz3z qz39 qz2f qz3p qz4g ih n d a b lim S H K h1 h2 h3 h4 h5 h6 h7 hK),fun S H K hK=>runL_ok rfl wz2v (pdqsort_nil EC _ qz2n.2 S H K hK)⟩
theorem qz4y:SortIS E 30∧OneN E 30 (.tup []):=⟨fun n d S H K h1 h2 hK=>runL_ok rfl wz4d (Sort_int_spec _ qz2y qz32.1 n d S H K h1 h2 hK),fun S H K hK=>runL_ok rfl wz4d (Sort_int_nil _ qz2y qz32.2 S H K hK)⟩
theorem qz5y:SortedVS E 24 31:=fun bx hm cc es x S H K hM hK=>EvW.res (runL_ok rfl wz5p (Sorted_specV _ qz5t qz4y.1 qz4y.2 bx hm cc es x S H K hM hK))
theorem qz54:WNextS E 12:=fun h hm room now l S H K t hK=>runL_ok rfl wz5z (wheel_Next_spec _ qz66 qz5y h hm room now l S H K t hK)
theorem qz67:CmpNS E 23:=fun x y S H K hK=>runL_ok rfl wz5w (Compare_spec _ qz5e x y S H K hK)
theorem qz82:OrS E 22:=fun x y S H K hK=>runL_ok rfl wz6l (Or_spec EC _ x y S H K hK)
theorem qz5r:CvS E 21:=fun h hm r room now l x y S H K t hr hK=>runL_ok rfl wz5i (Advance1_spec EW _ qz67 qz82 h hm r room now l x y S H K t hr hK)
theorem qz2o:(∀(g:FuncId) (q:List AV) (cv:Int→Int→Int),SrtSF E g q cv 32 (Sort.insertionSort (ltC cv)))∧SrtNF E 32:=⟨fun g q cv n d a b S H K hq h1 h2 h3 h4 hK=>runL_ok rfl wz2k (insertionSort_specF EC _ n d a b S H K hq h1 h2 h3 h4 hK),fun g q S H K hx hK=>runL_ok rfl wz2k (insertionSort_nilF EC _ g q S H K hx hK)⟩
theorem qz4r:∀(g:FuncId) (q:List AV) (cv:Int→Int→Int),SiftSF E g q cv 44:=fun g q cv n d lo hi first S H K hq h1 h2 h3 h4 hK=>runL_ok rfl wz4a (siftDown_specF EC _ n d lo hi first S H K hq h1 h2 h3 h4 hK)
theorem qz4s:∀(g:FuncId) (q:List AV) (cv:Int→Int→Int),SrtTF E g q cv 33 (Sort.heapSort (ltC cv)):=fun g q cv n d a b S H K hq h1 h2 h3 h4 hK=>runL_ok rfl wz4b (heapSort_specF EC _ (qz4r g q cv) n d a b S H K hq h1 h2 h3 h4 hK)
theorem qz3v:∀(g:FuncId) (q:List AV) (cv:Int→Int→Int),SrtTF E g q cv 34 Sort.breakPatterns:=fun g q cv n d a b S H K hq h1 h2 h3 h4 hK=>runL_ok rfl wz3l (breakPatterns_specF EC _ qz3w qz44 n d a b S H K hq h1 h2 h3 h4 hK)
theorem qz52:∀(g:FuncId) (q:List AV) (cv:Int→Int→Int),Ord2SF E g q cv 58:=fun g q cv n m d a b sw S H K hq h1 h2 h3 h4 h5 hK=>runL_ok rfl wz4n (order2_specF _ n m d a b sw S H K hq h1 h2 h3 h4 h5 hK)
theorem qz3a:∀(g:FuncId) (q:List AV) (cv:Int→Int→Int),MedSF E g q cv 48:=fun g q cv n m d a b e sw S H K hq h0 h1 h2 h3 h4 h5 h6 hK=>runL_ok rfl wz4o (median_specF _ (qz52 g q cv) n m d a b e sw S H K hq h0 h1 h2 h3 h4 h5 h6 hK)
theorem qz3q:∀(g:FuncId) (q:List AV) (cv:Int→Int→Int),MadSF E g q cv 47:=fun g q cv n m d a sw S H K hq h0 h1 h2 h3 h4 h5 h6 hK=>runL_ok rfl wz3g (medianAdjacent_specF _ (qz3a g q cv) n m d a sw S H K hq h0 h1 h2 h3 h4 h5 h6 hK)
theorem qz46:∀(g:FuncId) (q:List AV) (cv:Int→Int→Int),ChpSF E g q cv 35:=fun g q cv n d a b S H K hq h1 h2 h3 h4 hK=>runL_ok rfl wz3t (choosePivot_specF _ (qz3q g q cv) (qz3a g q cv) n d a b S H K hq h1 h2 h3 h4 hK)
theorem qz40:∀(g:FuncId) (q:List AV) (cv:Int→Int→Int),SrtTF E g q cv 36 Sort.reverseRange:=fun g q cv n d a b S H K hq h1 h2 h3 h4 hK=>runL_ok rfl wz3n (reverseRange_specF EC _ n d a b S H K hq h1 h2 h3 h4 hK)
theorem qz3b:∀(g:FuncId) (q:List AV) (cv:Int→Int→Int),PinSF E g q cv 37:=fun g q cv n d a b S H K hq h1 h2 h3 h4 hK=>runL_ok rfl wz31 (partialIns_specF EC _ n d a b S H K hq h1 h2 h3 h4 hK)
theorem qz3r:∀(g:FuncId) (q:List AV) (cv:Int→Int→Int),PeqSF E g q cv 38:=fun g q cv n d a b p S H K hq h1 h2 h3 h4 h5 hK=>runL_ok rfl wz3h (partitionEqual_specF EC _ n d a b p S H K hq h1 h2 h3 h4 h5 hK)
theorem qz4h:∀(g:FuncId) (q:List AV) (cv:Int→Int→Int),PartSF E g q cv 39:=fun g q cv n d a b p S H K hq h1 h2 h3 h4 h5 hK=>runL_ok rfl wz43 (partition_specF EC _ n d a b p S H K hq h1 h2 h3 h4 h5 hK)
theorem qz33:(∀(g:FuncId) (q:List AV) (cv:Int→Int→Int),Sort.SWO (ltC cv)→∀m,PdqSF E g q cv 26 m)∧PdqNF E 26:=⟨fun g q cv hw m=>by induction m with | zero=>exact fun n d a b lim S H K hq h1 h2 h3 h4 h5=>absurd h5 (by omega) | succ m ih=>exact fun n d a b lim S H K hq h1 h2 h3 h4 h5 h6 h7 hK=>runL_ok rfl wz2w (pdqsort_specF hw EC _ (qz2o.1 g q cv) (qz4s g q cv) (qz3v g q cv) (qz46 g q cv) (qz40 g q cv) (qz3b g q cv) (qz3r g q cv) (qz4h g q cv) ih n d a b lim S H K hq h1 h2 h3 h4 h5 h6 h7 hK),fun g q S H K hx hK=>runL_ok rfl wz2w (pdqsort_nilF EC _ qz2o.2 g q S H K hx hK)⟩
theorem qz3x:(∀(g:FuncId) (q:List AV) (cv:Int→Int→Int),Sort.SWO (ltC cv)→SortFS E g q cv 20)∧SortFN E 20:=⟨fun g q cv hw n d S H K hq h1 h2 hK=>runL_ok rfl wz3j (SortFunc_spec _ qz2y (qz33.1 g q cv hw) n d S H K hq h1 h2 hK),fun g q S H K hx hK=>runL_ok rfl wz3j (SortFunc_nil _ qz2y qz33.2 g q S H K hx hK)⟩
theorem qz4e:AdvS E 9:=fun h hm room now l to S H K t h1 h2=>EvW.res (runL_ok rfl wz5q (wheel_Advance_spec EC _ qz5r (fun r due=>qz3x.1 _ _ _ (swo_cvW due)) qz3x.2 h hm room now l to S H K t h1 h2))
theorem qz3y:SameIS E 16:=fun a b S H K ha hb hK=>runL_ok rfl wz5j (sameI_spec EC _ a b S H K ha hb hK)
theorem qz5f:WLenS E 10:=fun h hm room now l S H K t hK=>runL_ok rfl wz64 (wheel_Len_spec _ h hm room now l S H K t hK)
theorem qz5g:WNowS E 13:=fun h hm room now l S H K t hK=>runL_ok rfl wz65 (wheel_Now_spec _ h hm room now l S H K t hK)
theorem qz5u:AwWS E 6:=fun S H K hK=>runL_ok rfl wz5m (law21_awake_spec EC EW _ qz6b qz5d qz54 qz4e qz3y qz5f qz5g S H K hK)
theorem qz34:RCancS E 15:=fun q room now v L id S H K h1 h2 h3 hK=>runL_ok rfl wz4f (RCancel_spec EC _ q room now v L id S H K h1 h2 h3 hK)
theorem qz58:RSetS E 14:=fun q room now v L id a S H K h1 h2 h3 hK=>runL_ok rfl wz4z (RSet_spec EC _ qz34 q room now v L id a S H K h1 h2 h3 hK)
theorem qz60:CancS E 11:=fun h hm room now l id S H K t hK=>runL_ok rfl wz5s (wheel_Cancel_spec _ h hm room now l id S H K t hK)
theorem qz4t:RAdvS E 17:=fun q room now v L to S H K h1 h2 h3 h4 h5=>EvW.res (runL_ok rfl wz4c (RAdvance_spec EC _ q room now v L to S H K h1 h2 h3 h4 h5))
theorem qz55:RNextS E 18:=fun q room now v L S H K h1 h2 hK=>runL_ok rfl wz4w (RNext_spec _ q room now v L S H K h1 h2 hK)
theorem qz59:RLenS E 19:=fun q room now v L S H K h1 h2 hK=>runL_ok rfl wz50 (RLen_spec _ q room now v L S H K h1 h2 hK)
theorem qz56:∀(room:Int) (l:List WAct) (S:List (List AV)) (H:List HObj) (K:AV→St→Prop),l.length≤9223372036854775807→(∀H',K (.bool true) ⟨S,H'⟩)→E (.fn 5) [.s (.int .i64 room),.list .sh 3 (l.map wacA)] ⟨S,H⟩ K:=fun room l S H K hl hK=>runL_ok rfl wz4x (WheelPlays_spec EC _ qz5u qz6b qz5d qz58 qz60 qz34 qz4e qz4t qz3y qz54 qz55 qz5f qz59 qz5g room l S H K hl hK)
end Go.AM
