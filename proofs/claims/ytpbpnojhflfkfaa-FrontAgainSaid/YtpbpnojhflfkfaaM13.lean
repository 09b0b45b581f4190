import Derived.Test.YtpbpnojhflfkfaaM7
import Derived.Test.YtpbpnojhflfkfaaChecked
import Derived.KernelRfl
import Derived.Test.YtpbpnojhflfkfaaM12
import Derived.Test.YtpbpnojhflfkfaaM10
import Derived.Test.YtpbpnojhflfkfaaM11
set_option linter.unusedSimpArgs false
set_option linter.unusedVariables false
namespace Go.AM
open Go Go.Proofs
set_option maxRecDepth 100000
def rlB : Bool → List Nat → List Bool
  | _, [] => []
  | b, n :: l => List.replicate n b ++ rlB (!b) l
def rlN : List (Nat × Nat) → List Nat
  | [] => []
  | (a, n) :: l => List.range' a n ++ rlN l
def cfgA.heap (f d:Nat):Bool :=
  match f with
  | 6=>[37].contains d
  | 7=>[6].contains d
  | 8=>[29].contains d
  | 28=>[11].contains d
  | 40=>[1].contains d
  | 63=>[2].contains d
  | _=>false
def cfgA.take (f d:Nat):Bool :=
  match f with
  | 3=>[38].contains d
  | 4=>[41].contains d
  | 6=>[34].contains d
  | 10=>[53].contains d
  | 27=>[21,28].contains d
  | 28=>[29,35].contains d
  | 29=>[24,32].contains d
  | 30=>[5].contains d
  | 38=>[5,6].contains d
  | 39=>[11].contains d
  | 43=>[5].contains d
  | 44=>[9,60].contains d
  | 54=>[7].contains d
  | 56=>[24,30].contains d
  | 63=>[2,8,9,12].contains d
  | 64=>[26,33].contains d
  | 68=>[44].contains d
  | 82=>[49].contains d
  | 90=>[7].contains d
  | 91=>[28].contains d
  | 94=>[9].contains d
  | 95=>[32].contains d
  | _=>false
def cfgA.mask (f b:Nat):List Bool :=
  match f,b with
  | 3,0=>rlB false [2, 2, 1, 1, 5, 2, 179]
  | 3,2=>rlB false [3, 1, 1, 1, 5, 1, 1, 1, 1, 3, 174]
  | 3,4=>rlB false [5, 1, 7, 1, 1, 2, 1, 1, 1, 2, 170]
  | 4,0=>rlB false [2, 2, 7, 3, 160]
  | 4,2=>rlB false [3, 1, 7, 2, 1, 1, 1, 2, 156]
  | 4,4=>rlB false [3, 1, 7, 2, 5, 1, 155]
  | 6,0=>rlB true [1, 5, 3, 29]
  | 11,0=>rlB false [1, 1, 1, 1, 47]
  | 11,2=>rlB false [1, 1, 2, 1, 46]
  | 25,0=>rlB false [3, 1, 3, 3, 32]
  | 27,0=>rlB true [1, 4, 1, 3, 3, 18]
  | 28,0=>rlB true [1, 4, 1, 6, 3, 21]
  | 29,0=>rlB true [2, 3, 1, 5, 3, 19]
  | 32,0=>rlB true [2, 10, 2, 12]
  | 33,0=>rlB true [2, 10, 2, 12]
  | 35,0=>rlB true [1, 1, 1, 1, 2, 27]
  | 37,0=>rlB false [1, 1, 1, 1, 13]
  | 42,0=>rlB false [3, 1, 1, 1, 8, 3, 11]
  | 44,0=>rlB true [1, 2, 1, 57]
  | 44,2=>rlB true [1, 2, 3, 55]
  | 47,0=>rlB true [2, 5, 2, 10]
  | 55,0=>rlB true [1, 5, 1, 8]
  | 56,0=>rlB true [4, 4, 2, 124]
  | 59,0=>rlB false [3, 1, 2, 3, 9]
  | 63,0=>rlB false [2, 1, 10]
  | 64,0=>rlB true [5, 5, 2, 136]
  | 65,0=>rlB true [3, 3, 1, 42]
  | 65,2=>rlB true [3, 3, 2, 41]
  | 66,0=>rlB true [1, 5, 4, 46]
  | 66,2=>rlB true [1, 5, 2, 2, 1, 45]
  | 67,0=>rlB true [2, 4, 4, 55]
  | 69,0=>rlB true [1, 5, 2, 24]
  | 70,0=>rlB true [3, 4, 2, 124]
  | 70,2=>rlB true [3, 4, 2, 124]
  | 70,4=>rlB true [3, 4, 3, 123]
  | 70,6=>rlB true [3, 4, 2, 1, 1, 122]
  | 72,0=>rlB true [2, 7, 2, 73]
  | 72,2=>rlB true [2, 7, 2, 73]
  | 72,4=>rlB true [2, 7, 2, 73]
  | 73,0=>rlB true [2, 8, 2, 156]
  | 73,2=>rlB true [2, 8, 2, 156]
  | 73,4=>rlB true [2, 8, 2, 156]
  | 73,6=>rlB true [2, 8, 2, 156]
  | 73,8=>rlB true [2, 8, 2, 156]
  | 79,0=>rlB true [4, 4, 1, 44]
  | 79,2=>rlB true [4, 4, 2, 43]
  | 80,0=>rlB true [1, 2, 1, 4, 4, 48]
  | 80,2=>rlB true [1, 2, 1, 4, 2, 2, 1, 47]
  | 81,0=>rlB true [2, 6, 4, 55]
  | 83,0=>rlB true [1, 7, 2, 24]
  | 84,0=>rlB true [4, 5, 2, 130]
  | 84,2=>rlB true [4, 5, 2, 130]
  | 84,4=>rlB true [4, 5, 3, 129]
  | 84,6=>rlB true [4, 5, 2, 1, 1, 128]
  | 85,0=>rlB true [2, 2, 1, 6, 2, 77]
  | 85,2=>rlB true [2, 2, 1, 6, 2, 77]
  | 85,4=>rlB true [2, 2, 1, 6, 2, 77]
  | 86,0=>rlB true [2, 2, 1, 7, 2, 164]
  | 86,2=>rlB true [2, 2, 1, 7, 2, 164]
  | 86,4=>rlB true [2, 2, 1, 7, 2, 164]
  | 86,6=>rlB true [2, 2, 1, 7, 2, 164]
  | 86,8=>rlB true [2, 2, 1, 7, 2, 164]
  | 87,0=>rlB true [1, 1, 2, 4, 1, 67]
  | 93,0=>rlB true [1, 1, 3, 5, 1, 71]
  | _,_=>[]
def cfgA.plan (f k:Nat):List Nat :=
  match f,k with
  | 3,35=>rlN [(0, 35)]
  | 3,38=>rlN [(0, 26)]
  | 4,24=>rlN [(0, 10)]
  | 5,8=>rlN [(0, 53)]
  | 6,4=>rlN [(0, 17)]
  | 8,5=>rlN [(0, 10)]
  | 9,6=>rlN [(0, 13)]
  | 9,9=>rlN [(0, 8)]
  | 13,1=>rlN [(0, 8)]
  | 13,2=>rlN [(0, 21)]
  | 13,7=>[0,1,2,3,4,5,6]
  | 13,8=>rlN [(0, 11)]
  | 16,1=>[0,1,2,3,5,6,7,8,4,9,10,11]
  | 16,2=>[0,1,2,3,4,5,7,6,8,9,10,11]
  | 17,4=>rlN [(0, 11)]
  | 21,1=>[0,1,2,3]
  | 28,7=>[0,1,2,3,4,6,7,5,8,9,10]
  | 31,1=>[0,1,2,3,4,5,6]
  | 31,2=>rlN [(0, 19)]
  | 31,7=>rlN [(0, 11)]
  | 31,8=>rlN [(0, 11)]
  | 32,6=>rlN [(0, 9)]
  | 33,6=>rlN [(0, 9)]
  | 44,6=>rlN [(0, 10)]
  | 44,11=>rlN [(0, 10)]
  | 46,4=>rlN [(0, 11), (12, 1), (11, 1), (13, 5)]
  | 46,6=>rlN [(0, 8)]
  | 48,1=>[0,1,2,3,5,6,7,8,4,9,10,11,12]
  | 56,17=>rlN [(0, 15)]
  | 64,17=>rlN [(0, 17)]
  | 65,4=>rlN [(0, 15)]
  | 65,6=>rlN [(0, 18)]
  | 66,10=>rlN [(0, 20)]
  | 67,10=>rlN [(0, 20)]
  | 69,3=>rlN [(0, 16)]
  | 70,5=>rlN [(0, 16)]
  | 70,11=>rlN [(0, 18)]
  | 70,16=>rlN [(0, 11)]
  | 70,17=>rlN [(0, 18)]
  | 70,22=>rlN [(0, 11)]
  | 70,23=>rlN [(0, 18)]
  | 72,1=>rlN [(0, 16)]
  | 72,3=>rlN [(0, 15)]
  | 72,5=>rlN [(0, 14)]
  | 72,8=>rlN [(0, 16)]
  | 73,1=>rlN [(0, 16)]
  | 73,3=>rlN [(0, 14)]
  | 73,5=>rlN [(0, 15)]
  | 73,8=>rlN [(0, 16)]
  | 73,10=>rlN [(0, 16)]
  | 73,13=>rlN [(0, 14)]
  | 73,15=>rlN [(0, 15)]
  | 73,18=>rlN [(0, 16)]
  | 73,21=>rlN [(0, 16)]
  | 79,4=>rlN [(0, 17)]
  | 79,6=>rlN [(0, 18)]
  | 80,10=>rlN [(0, 20)]
  | 81,10=>rlN [(0, 20)]
  | 83,3=>rlN [(0, 16)]
  | 84,5=>rlN [(0, 18)]
  | 84,11=>rlN [(0, 18)]
  | 84,16=>rlN [(0, 13)]
  | 84,17=>rlN [(0, 18)]
  | 84,22=>rlN [(0, 13)]
  | 84,23=>rlN [(0, 18)]
  | 85,1=>rlN [(0, 16)]
  | 85,3=>rlN [(0, 17)]
  | 85,5=>rlN [(0, 16)]
  | 85,8=>rlN [(0, 16)]
  | 86,1=>rlN [(0, 16)]
  | 86,3=>rlN [(0, 16)]
  | 86,5=>rlN [(0, 17)]
  | 86,8=>rlN [(0, 16)]
  | 86,10=>rlN [(0, 16)]
  | 86,13=>rlN [(0, 16)]
  | 86,15=>rlN [(0, 17)]
  | 86,18=>rlN [(0, 16)]
  | 86,21=>rlN [(0, 16)]
  | 87,3=>rlN [(0, 20)]
  | 87,5=>rlN [(0, 14)]
  | 87,6=>rlN [(0, 24)]
  | 89,1=>rlN [(0, 10)]
  | 89,2=>rlN [(0, 10)]
  | 89,3=>rlN [(0, 10)]
  | 93,3=>rlN [(0, 22)]
  | 93,5=>rlN [(0, 16)]
  | 93,6=>rlN [(0, 24)]
  | 96,1=>rlN [(0, 9)]
  | 97,1=>rlN [(0, 11)]
  | _,_=>[]
def cfgA.tree (f k:Nat):PT :=
  match f,k with
  | 3,35 => .rd 0 (.rd 1 (.rd 2 (.rd 3 (.rd 4 (.rd 5 (.rd 6 (.rd 7 (.rd 8 (.rd 9 (.rd 10 (.rd 11 (.rd 12 (.rd 13 (.rd 14 (.rd 15 (.rd 16 (.rd 17 (.rd 18 (.rd 19 (.rd 20 (.rd 21 (.rd 22 (.rd 23 (.rd 24 (.rd 25 (.rd 26 (.rd 27 (.rd 28 (.rd 29 (.rd 30 (.rd 31 (.rd 32 (.rd 33 (.rd 34 (.done)))))))))))))))))))))))))))))))))))
  | 3,38 => .rd 0 (.rd 1 (.rd 2 (.rd 3 (.rd 4 (.rd 5 (.rd 6 (.rd 7 (.rd 8 (.rd 9 (.rd 10 (.rd 11 (.rd 12 (.mv 13 (.rd 14 (.rd 15 (.rd 16 (.rd 17 (.rd 18 (.rd 19 (.rd 20 (.rd 21 (.mv 22 (.rd 23 (.rd 24 (.mv 25 (.done) (.stop)))) (.stop)))))))))) (.stop))))))))))))))
  | 4,24 => .rd 0 (.rd 1 (.rd 2 (.rd 3 (.rd 4 (.rd 5 (.rd 6 (.rd 7 (.mv 8 (.rd 9 (.done)) (.stop)))))))))
  | 5,8 => .rd 0 (.rd 1 (.rd 2 (.rd 3 (.rd 4 (.rd 5 (.rd 6 (.rd 7 (.rd 8 (.rd 9 (.rd 10 (.rd 11 (.rd 12 (.rd 13 (.rd 14 (.rd 15 (.rd 16 (.rd 17 (.rd 18 (.rd 19 (.rd 20 (.rd 21 (.rd 22 (.rd 23 (.rd 24 (.rd 25 (.rd 26 (.rd 27 (.rd 28 (.rd 29 (.rd 30 (.rd 31 (.rd 32 (.rd 33 (.rd 34 (.rd 35 (.rd 36 (.rd 37 (.rd 38 (.rd 39 (.rd 40 (.mv 41 (.rd 42 (.rd 43 (.rd 44 (.rd 45 (.rd 46 (.rd 47 (.rd 48 (.rd 49 (.rd 50 (.rd 51 (.mv 52 (.done) (.stop)))))))))))) (.stop))))))))))))))))))))))))))))))))))))))))))
  | 6,4 => .rd 0 (.mv 1 (.rd 2 (.rd 3 (.rd 4 (.rd 5 (.rd 6 (.rd 7 (.rd 8 (.rd 9 (.rd 10 (.rd 11 (.rd 12 (.mv 13 (.rd 14 (.rd 15 (.rd 16 (.done)))) (.stop))))))))))))) (.stop))
  | 8,5 => .rd 0 (.rd 1 (.rd 2 (.rd 3 (.rd 4 (.rd 5 (.mv 6 (.rd 7 (.mv 8 (.mv 9 (.done) (.stop)) (.stop))) (.stop)))))))
  | 9,6 => .rd 0 (.rd 1 (.rd 2 (.rd 3 (.rd 4 (.rd 5 (.rd 6 (.rd 7 (.rd 8 (.rd 9 (.mv 10 (.mv 11 (.mv 12 (.done) (.stop)) (.stop)) (.stop)))))))))))
  | 9,9 => .rd 0 (.rd 1 (.rd 2 (.rd 3 (.rd 4 (.rd 5 (.rd 6 (.mv 7 (.done) (.stop))))))))
  | 10,8 => .rd 0 (.rd 1 (.rd 2 (.rd 3 (.rd 4 (.rd 5 (.rd 6 (.rd 7 (.rd 8 (.rd 10 (.rd 11 (.rd 12 (.rd 13 (.mv 9 (.mv 14 (.mv 15 (.rd 17 (.rd 18 (.mv 16 (.mv 19 (.rd 20 (.rd 21 (.mv 22 (.rd 23 (.rd 24 (.mv 25 (.rd 26 (.rd 27 (.mv 28 (.done) (.stop)))) (.stop)))) (.stop)))) (.stop)) (.mv 19 (.rd 20 (.rd 21 (.mv 16 (.mv 22 (.rd 23 (.rd 24 (.mv 25 (.rd 26 (.rd 27 (.mv 28 (.done) (.stop)))) (.stop)))) (.stop)) (.mv 22 (.rd 23 (.rd 24 (.mv 16 (.mv 25 (.rd 26 (.rd 27 (.mv 28 (.done) (.stop)))) (.stop)) (.mv 25 (.mv 16 (.rd 26 (.rd 27 (.mv 28 (.done) (.stop)))) (.stop)) (.stop))))) (.stop))))) (.stop))))) (.mv 16 (.mv 15 (.rd 17 (.rd 18 (.mv 19 (.rd 20 (.rd 21 (.mv 22 (.rd 23 (.rd 24 (.mv 25 (.rd 26 (.rd 27 (.mv 28 (.done) (.stop)))) (.stop)))) (.stop)))) (.stop)))) (.stop)) (.stop))) (.mv 16 (.mv 14 (.mv 15 (.rd 17 (.rd 18 (.mv 19 (.rd 20 (.rd 21 (.mv 22 (.rd 23 (.rd 24 (.mv 25 (.rd 26 (.rd 27 (.mv 28 (.done) (.stop)))) (.stop)))) (.stop)))) (.stop)))) (.stop)) (.stop)) (.stop))) (.mv 14 (.mv 9 (.mv 15 (.rd 17 (.rd 18 (.mv 16 (.mv 19 (.rd 20 (.rd 21 (.mv 22 (.rd 23 (.rd 24 (.mv 25 (.rd 26 (.rd 27 (.mv 28 (.done) (.stop)))) (.stop)))) (.stop)))) (.stop)) (.mv 19 (.rd 20 (.rd 21 (.mv 16 (.mv 22 (.rd 23 (.rd 24 (.mv 25 (.rd 26 (.rd 27 (.mv 28 (.done) (.stop)))) (.stop)))) (.stop)) (.mv 22 (.rd 23 (.rd 24 (.mv 16 (.mv 25 (.rd 26 (.rd 27 (.mv 28 (.done) (.stop)))) (.stop)) (.mv 25 (.mv 16 (.rd 26 (.rd 27 (.mv 28 (.done) (.stop)))) (.stop)) (.stop))))) (.stop))))) (.stop))))) (.mv 16 (.mv 15 (.rd 17 (.rd 18 (.mv 19 (.rd 20 (.rd 21 (.mv 22 (.rd 23 (.rd 24 (.mv 25 (.rd 26 (.rd 27 (.mv 28 (.done) (.stop)))) (.stop)))) (.stop)))) (.stop)))) (.stop)) (.stop))) (.mv 16 (.mv 9 (.mv 15 (.rd 17 (.rd 18 (.mv 19 (.rd 20 (.rd 21 (.mv 22 (.rd 23 (.rd 24 (.mv 25 (.rd 26 (.rd 27 (.mv 28 (.done) (.stop)))) (.stop)))) (.stop)))) (.stop)))) (.stop)) (.stop)) (.stop))) (.mv 16 (.mv 9 (.mv 14 (.mv 15 (.rd 17 (.rd 18 (.mv 19 (.rd 20 (.rd 21 (.mv 22 (.rd 23 (.rd 24 (.mv 25 (.rd 26 (.rd 27 (.mv 28 (.done) (.stop)))) (.stop)))) (.stop)))) (.stop)))) (.stop)) (.stop)) (.mv 14 (.mv 9 (.mv 15 (.rd 17 (.rd 18 (.mv 19 (.rd 20 (.rd 21 (.mv 22 (.rd 23 (.rd 24 (.mv 25 (.rd 26 (.rd 27 (.mv 28 (.done) (.stop)))) (.stop)))) (.stop)))) (.stop)))) (.stop)) (.stop)) (.stop))) (.stop))))))))))))))))
  | 13,1 => .rd 0 (.rd 1 (.rd 2 (.rd 3 (.rd 4 (.rd 5 (.rd 6 (.mv 7 (.done) (.stop))))))))
  | 13,2 => .rd 0 (.rd 1 (.rd 2 (.rd 3 (.rd 4 (.rd 5 (.rd 6 (.rd 7 (.rd 8 (.mv 9 (.rd 10 (.rd 11 (.rd 12 (.rd 13 (.rd 14 (.rd 15 (.rd 16 (.rd 17 (.rd 18 (.rd 19 (.rd 20 (.done)))))))))))) (.stop))))))))))
  | 13,7 => .rd 0 (.rd 1 (.rd 2 (.rd 3 (.rd 4 (.rd 5 (.mv 6 (.done) (.stop)))))))
  | 13,8 => .rd 0 (.rd 1 (.rd 2 (.rd 3 (.rd 4 (.rd 5 (.rd 6 (.rd 7 (.rd 8 (.rd 9 (.rd 10 (.done)))))))))))
  | 16,1 => .rd 0 (.rd 1 (.rd 2 (.rd 3 (.rd 5 (.rd 6 (.rd 7 (.rd 8 (.mv 4 (.mv 9 (.mv 10 (.mv 11 (.done) (.stop)) (.stop)) (.stop)) (.stop)))))))))
  | 16,2 => .rd 0 (.rd 1 (.rd 2 (.rd 3 (.rd 4 (.rd 5 (.rd 7 (.mv 6 (.mv 8 (.rd 9 (.rd 10 (.mv 11 (.done) (.stop)))) (.stop)) (.stop))))))))
  | 17,4 => .rd 0 (.rd 1 (.rd 2 (.rd 3 (.rd 4 (.rd 5 (.rd 6 (.rd 7 (.mv 8 (.mv 9 (.mv 10 (.done) (.stop)) (.stop)) (.stop)))))))))
  | 21,1 => .rd 0 (.rd 1 (.mv 2 (.mv 3 (.done) (.stop)) (.stop)))
  | 28,7 => .rd 0 (.rd 1 (.rd 2 (.rd 3 (.rd 4 (.rd 6 (.rd 7 (.mv 5 (.mv 8 (.rd 9 (.mv 10 (.done) (.stop))) (.stop)) (.stop))))))))
  | 31,1 => .rd 0 (.rd 1 (.rd 2 (.rd 3 (.rd 4 (.rd 5 (.mv 6 (.done) (.stop)))))))
  | 31,2 => .rd 0 (.rd 1 (.rd 2 (.rd 3 (.rd 4 (.rd 5 (.mv 6 (.rd 7 (.rd 8 (.rd 9 (.rd 10 (.rd 11 (.rd 12 (.rd 13 (.rd 14 (.rd 15 (.mv 16 (.rd 17 (.rd 18 (.done))) (.stop))))))))))) (.stop)))))))
  | 31,7 => .rd 0 (.rd 1 (.rd 2 (.rd 3 (.rd 4 (.rd 5 (.rd 6 (.mv 7 (.rd 8 (.rd 9 (.mv 10 (.done) (.stop)))) (.stop))))))))
  | 31,8 => .rd 0 (.rd 1 (.rd 2 (.rd 3 (.rd 4 (.rd 5 (.rd 6 (.rd 7 (.rd 8 (.rd 9 (.rd 10 (.done)))))))))))
  | 32,6 => .rd 0 (.rd 1 (.rd 2 (.rd 3 (.rd 4 (.rd 5 (.rd 6 (.rd 7 (.rd 8 (.done)))))))))
  | 33,6 => .rd 0 (.rd 1 (.rd 2 (.rd 3 (.rd 4 (.rd 5 (.rd 6 (.rd 7 (.rd 8 (.done)))))))))
  | 44,6 => .rd 0 (.rd 1 (.rd 2 (.rd 3 (.rd 4 (.rd 5 (.rd 6 (.rd 7 (.rd 8 (.rd 9 (.done))))))))))
  | 44,11 => .rd 0 (.rd 1 (.rd 2 (.rd 3 (.rd 4 (.rd 5 (.rd 6 (.rd 7 (.rd 8 (.rd 9 (.done))))))))))
  | 46,4 => .rd 0 (.rd 1 (.rd 2 (.rd 3 (.rd 4 (.rd 5 (.rd 6 (.rd 7 (.rd 8 (.rd 9 (.rd 10 (.rd 12 (.mv 11 (.mv 13 (.rd 14 (.mv 15 (.rd 16 (.mv 17 (.done) (.stop))) (.stop))) (.stop)) (.stop)))))))))))))
  | 46,6 => .rd 0 (.rd 1 (.rd 2 (.rd 3 (.rd 4 (.mv 5 (.rd 6 (.mv 7 (.done) (.stop))) (.stop))))))
  | 48,1 => .rd 0 (.rd 1 (.rd 2 (.rd 3 (.rd 5 (.rd 6 (.rd 7 (.rd 8 (.mv 4 (.mv 9 (.rd 10 (.mv 11 (.mv 12 (.done) (.stop)) (.stop))) (.stop)) (.stop)))))))))
  | 56,17 => .rd 0 (.rd 1 (.rd 2 (.rd 3 (.rd 4 (.rd 5 (.rd 6 (.rd 7 (.rd 8 (.rd 9 (.rd 10 (.rd 11 (.mv 12 (.rd 13 (.rd 14 (.done))) (.stop)))))))))))))
  | 64,17 => .rd 0 (.rd 1 (.rd 2 (.rd 3 (.rd 4 (.rd 5 (.rd 6 (.rd 7 (.rd 8 (.rd 9 (.rd 10 (.rd 11 (.rd 12 (.mv 13 (.rd 14 (.rd 15 (.rd 16 (.done)))) (.stop))))))))))))))
  | 65,4 => .rd 0 (.rd 1 (.rd 2 (.rd 3 (.rd 4 (.rd 5 (.rd 6 (.rd 7 (.rd 8 (.rd 9 (.rd 10 (.rd 11 (.rd 12 (.mv 13 (.rd 14 (.done)) (.stop))))))))))))))
  | 65,6 => .rd 0 (.rd 1 (.rd 2 (.rd 3 (.rd 4 (.rd 5 (.rd 6 (.rd 7 (.rd 8 (.rd 9 (.rd 10 (.rd 11 (.rd 12 (.rd 13 (.rd 14 (.mv 15 (.rd 16 (.mv 17 (.done) (.stop))) (.stop))))))))))))))))
  | 66,10 => .rd 0 (.rd 1 (.rd 2 (.rd 3 (.rd 4 (.rd 5 (.rd 6 (.rd 7 (.rd 8 (.rd 9 (.rd 10 (.rd 11 (.rd 12 (.rd 13 (.rd 14 (.rd 15 (.rd 16 (.mv 17 (.rd 18 (.mv 19 (.done) (.stop))) (.stop))))))))))))))))))
  | 67,10 => .rd 0 (.rd 1 (.rd 2 (.rd 3 (.rd 4 (.rd 5 (.rd 6 (.rd 7 (.rd 8 (.rd 9 (.rd 10 (.rd 11 (.rd 12 (.rd 13 (.rd 14 (.rd 15 (.rd 16 (.mv 17 (.rd 18 (.mv 19 (.done) (.stop))) (.stop))))))))))))))))))
  | 69,3 => .rd 0 (.rd 1 (.rd 2 (.rd 3 (.rd 4 (.rd 5 (.rd 6 (.rd 7 (.rd 8 (.rd 9 (.rd 10 (.rd 11 (.rd 12 (.mv 13 (.rd 14 (.mv 15 (.done) (.stop))) (.stop))))))))))))))
  | 70,5 => .rd 0 (.rd 1 (.rd 2 (.rd 3 (.rd 4 (.rd 5 (.rd 6 (.rd 7 (.rd 8 (.rd 9 (.rd 10 (.rd 11 (.rd 12 (.mv 13 (.rd 14 (.rd 15 (.done))) (.stop))))))))))))))
  | 70,11 => .rd 0 (.rd 1 (.rd 2 (.rd 3 (.rd 4 (.rd 5 (.rd 6 (.rd 7 (.rd 8 (.rd 9 (.rd 10 (.rd 11 (.rd 12 (.rd 13 (.rd 14 (.mv 15 (.rd 16 (.mv 17 (.done) (.stop))) (.stop))))))))))))))))
  | 70,16 => .rd 0 (.rd 1 (.rd 2 (.rd 3 (.rd 4 (.rd 5 (.rd 6 (.rd 7 (.rd 8 (.mv 9 (.rd 10 (.done)) (.stop))))))))))
  | 70,17 => .rd 0 (.rd 1 (.rd 2 (.rd 3 (.rd 4 (.rd 5 (.rd 6 (.rd 7 (.rd 8 (.rd 9 (.rd 10 (.rd 11 (.rd 12 (.rd 13 (.rd 14 (.mv 15 (.rd 16 (.mv 17 (.done) (.stop))) (.stop))))))))))))))))
  | 70,22 => .rd 0 (.rd 1 (.rd 2 (.rd 3 (.rd 4 (.rd 5 (.rd 6 (.rd 7 (.rd 8 (.mv 9 (.rd 10 (.done)) (.stop))))))))))
  | 70,23 => .rd 0 (.rd 1 (.rd 2 (.rd 3 (.rd 4 (.rd 5 (.rd 6 (.rd 7 (.rd 8 (.rd 9 (.rd 10 (.rd 11 (.rd 12 (.rd 13 (.rd 14 (.mv 15 (.rd 16 (.mv 17 (.done) (.stop))) (.stop))))))))))))))))
  | 72,1 => .rd 0 (.rd 1 (.rd 2 (.rd 3 (.rd 4 (.rd 5 (.rd 6 (.rd 7 (.rd 8 (.rd 9 (.rd 10 (.rd 11 (.rd 12 (.mv 13 (.rd 14 (.mv 15 (.done) (.stop))) (.stop))))))))))))))
  | 72,3 => .rd 0 (.rd 1 (.rd 2 (.rd 3 (.rd 4 (.rd 5 (.rd 6 (.rd 7 (.rd 8 (.rd 9 (.rd 10 (.rd 11 (.mv 12 (.rd 13 (.rd 14 (.done))) (.stop)))))))))))))
  | 72,5 => .rd 0 (.rd 1 (.rd 2 (.rd 3 (.rd 4 (.rd 5 (.rd 6 (.rd 7 (.rd 8 (.rd 9 (.rd 10 (.rd 11 (.mv 12 (.rd 13 (.done)) (.stop)))))))))))))
  | 72,8 => .rd 0 (.rd 1 (.rd 2 (.rd 3 (.rd 4 (.rd 5 (.rd 6 (.rd 7 (.rd 8 (.rd 9 (.rd 10 (.rd 11 (.rd 12 (.mv 13 (.rd 14 (.mv 15 (.done) (.stop))) (.stop))))))))))))))
  | 73,1 => .rd 0 (.rd 1 (.rd 2 (.rd 3 (.rd 4 (.rd 5 (.rd 6 (.rd 7 (.rd 8 (.rd 9 (.rd 10 (.rd 11 (.rd 12 (.mv 13 (.rd 14 (.mv 15 (.done) (.stop))) (.stop))))))))))))))
  | 73,3 => .rd 0 (.rd 1 (.rd 2 (.rd 3 (.rd 4 (.rd 5 (.rd 6 (.rd 7 (.rd 8 (.rd 9 (.rd 10 (.rd 11 (.mv 12 (.rd 13 (.done)) (.stop)))))))))))))
  | 73,5 => .rd 0 (.rd 1 (.rd 2 (.rd 3 (.rd 4 (.rd 5 (.rd 6 (.rd 7 (.rd 8 (.rd 9 (.rd 10 (.rd 11 (.mv 12 (.rd 13 (.rd 14 (.done))) (.stop)))))))))))))
  | 73,8 => .rd 0 (.rd 1 (.rd 2 (.rd 3 (.rd 4 (.rd 5 (.rd 6 (.rd 7 (.rd 8 (.rd 9 (.rd 10 (.rd 11 (.rd 12 (.mv 13 (.rd 14 (.mv 15 (.done) (.stop))) (.stop))))))))))))))
  | 73,10 => .rd 0 (.rd 1 (.rd 2 (.rd 3 (.rd 4 (.rd 5 (.rd 6 (.rd 7 (.rd 8 (.rd 9 (.rd 10 (.rd 11 (.rd 12 (.mv 13 (.rd 14 (.mv 15 (.done) (.stop))) (.stop))))))))))))))
  | 73,13 => .rd 0 (.rd 1 (.rd 2 (.rd 3 (.rd 4 (.rd 5 (.rd 6 (.rd 7 (.rd 8 (.rd 9 (.rd 10 (.rd 11 (.mv 12 (.rd 13 (.done)) (.stop)))))))))))))
  | 73,15 => .rd 0 (.rd 1 (.rd 2 (.rd 3 (.rd 4 (.rd 5 (.rd 6 (.rd 7 (.rd 8 (.rd 9 (.rd 10 (.rd 11 (.mv 12 (.rd 13 (.rd 14 (.done))) (.stop)))))))))))))
  | 73,18 => .rd 0 (.rd 1 (.rd 2 (.rd 3 (.rd 4 (.rd 5 (.rd 6 (.rd 7 (.rd 8 (.rd 9 (.rd 10 (.rd 11 (.rd 12 (.mv 13 (.rd 14 (.mv 15 (.done) (.stop))) (.stop))))))))))))))
  | 73,21 => .rd 0 (.rd 1 (.rd 2 (.rd 3 (.rd 4 (.rd 5 (.rd 6 (.rd 7 (.rd 8 (.rd 9 (.rd 10 (.rd 11 (.rd 12 (.mv 13 (.rd 14 (.mv 15 (.done) (.stop))) (.stop))))))))))))))
  | 79,4 => .rd 0 (.rd 1 (.rd 2 (.rd 3 (.rd 4 (.rd 5 (.rd 6 (.rd 7 (.rd 8 (.rd 9 (.rd 10 (.rd 11 (.rd 12 (.rd 13 (.mv 14 (.rd 15 (.rd 16 (.done))) (.stop)))))))))))))))
  | 79,6 => .rd 0 (.rd 1 (.rd 2 (.rd 3 (.rd 4 (.rd 5 (.rd 6 (.rd 7 (.rd 8 (.rd 9 (.rd 10 (.rd 11 (.rd 12 (.rd 13 (.rd 14 (.mv 15 (.rd 16 (.mv 17 (.done) (.stop))) (.stop))))))))))))))))
  | 80,10 => .rd 0 (.rd 1 (.rd 2 (.rd 3 (.rd 4 (.rd 5 (.rd 6 (.rd 7 (.rd 8 (.rd 9 (.rd 10 (.rd 11 (.rd 12 (.rd 13 (.rd 14 (.rd 15 (.rd 16 (.mv 17 (.rd 18 (.mv 19 (.done) (.stop))) (.stop))))))))))))))))))
  | 81,10 => .rd 0 (.rd 1 (.rd 2 (.rd 3 (.rd 4 (.rd 5 (.rd 6 (.rd 7 (.rd 8 (.rd 9 (.rd 10 (.rd 11 (.rd 12 (.rd 13 (.rd 14 (.rd 15 (.rd 16 (.mv 17 (.rd 18 (.mv 19 (.done) (.stop))) (.stop))))))))))))))))))
  | 83,3 => .rd 0 (.rd 1 (.rd 2 (.rd 3 (.rd 4 (.rd 5 (.rd 6 (.rd 7 (.rd 8 (.rd 9 (.rd 10 (.rd 11 (.rd 12 (.mv 13 (.rd 14 (.mv 15 (.done) (.stop))) (.stop))))))))))))))
  | 84,5 => .rd 0 (.rd 1 (.rd 2 (.rd 3 (.rd 4 (.rd 5 (.rd 6 (.rd 7 (.rd 8 (.rd 9 (.rd 10 (.rd 11 (.rd 12 (.rd 13 (.mv 14 (.rd 15 (.rd 16 (.rd 17 (.done)))) (.stop)))))))))))))))
  | 84,11 => .rd 0 (.rd 1 (.rd 2 (.rd 3 (.rd 4 (.rd 5 (.rd 6 (.rd 7 (.rd 8 (.rd 9 (.rd 10 (.rd 11 (.rd 12 (.rd 13 (.rd 14 (.mv 15 (.rd 16 (.mv 17 (.done) (.stop))) (.stop))))))))))))))))
  | 84,16 => .rd 0 (.rd 1 (.rd 2 (.rd 3 (.rd 4 (.rd 5 (.rd 6 (.rd 7 (.rd 8 (.rd 9 (.mv 10 (.rd 11 (.rd 12 (.done))) (.stop)))))))))))
  | 84,17 => .rd 0 (.rd 1 (.rd 2 (.rd 3 (.rd 4 (.rd 5 (.rd 6 (.rd 7 (.rd 8 (.rd 9 (.rd 10 (.rd 11 (.rd 12 (.rd 13 (.rd 14 (.mv 15 (.rd 16 (.mv 17 (.done) (.stop))) (.stop))))))))))))))))
  | 84,22 => .rd 0 (.rd 1 (.rd 2 (.rd 3 (.rd 4 (.rd 5 (.rd 6 (.rd 7 (.rd 8 (.rd 9 (.mv 10 (.rd 11 (.rd 12 (.done))) (.stop)))))))))))
  | 84,23 => .rd 0 (.rd 1 (.rd 2 (.rd 3 (.rd 4 (.rd 5 (.rd 6 (.rd 7 (.rd 8 (.rd 9 (.rd 10 (.rd 11 (.rd 12 (.rd 13 (.rd 14 (.mv 15 (.rd 16 (.mv 17 (.done) (.stop))) (.stop))))))))))))))))
  | 85,1 => .rd 0 (.rd 1 (.rd 2 (.rd 3 (.rd 4 (.rd 5 (.rd 6 (.rd 7 (.rd 8 (.rd 9 (.rd 10 (.rd 11 (.rd 12 (.mv 13 (.rd 14 (.mv 15 (.done) (.stop))) (.stop))))))))))))))
  | 85,3 => .rd 0 (.rd 1 (.rd 2 (.rd 3 (.rd 4 (.rd 5 (.rd 6 (.rd 7 (.rd 8 (.rd 9 (.rd 10 (.rd 11 (.rd 12 (.mv 13 (.rd 14 (.rd 15 (.rd 16 (.done)))) (.stop))))))))))))))
  | 85,5 => .rd 0 (.rd 1 (.rd 2 (.rd 3 (.rd 4 (.rd 5 (.rd 6 (.rd 7 (.rd 8 (.rd 9 (.rd 10 (.rd 11 (.rd 12 (.mv 13 (.rd 14 (.rd 15 (.done))) (.stop))))))))))))))
  | 85,8 => .rd 0 (.rd 1 (.rd 2 (.rd 3 (.rd 4 (.rd 5 (.rd 6 (.rd 7 (.rd 8 (.rd 9 (.rd 10 (.rd 11 (.rd 12 (.mv 13 (.rd 14 (.mv 15 (.done) (.stop))) (.stop))))))))))))))
  | 86,1 => .rd 0 (.rd 1 (.rd 2 (.rd 3 (.rd 4 (.rd 5 (.rd 6 (.rd 7 (.rd 8 (.rd 9 (.rd 10 (.rd 11 (.rd 12 (.mv 13 (.rd 14 (.mv 15 (.done) (.stop))) (.stop))))))))))))))
  | 86,3 => .rd 0 (.rd 1 (.rd 2 (.rd 3 (.rd 4 (.rd 5 (.rd 6 (.rd 7 (.rd 8 (.rd 9 (.rd 10 (.rd 11 (.rd 12 (.mv 13 (.rd 14 (.rd 15 (.done))) (.stop))))))))))))))
  | 86,5 => .rd 0 (.rd 1 (.rd 2 (.rd 3 (.rd 4 (.rd 5 (.rd 6 (.rd 7 (.rd 8 (.rd 9 (.rd 10 (.rd 11 (.rd 12 (.mv 13 (.rd 14 (.rd 15 (.rd 16 (.done)))) (.stop))))))))))))))
  | 86,8 => .rd 0 (.rd 1 (.rd 2 (.rd 3 (.rd 4 (.rd 5 (.rd 6 (.rd 7 (.rd 8 (.rd 9 (.rd 10 (.rd 11 (.rd 12 (.mv 13 (.rd 14 (.mv 15 (.done) (.stop))) (.stop))))))))))))))
  | 86,10 => .rd 0 (.rd 1 (.rd 2 (.rd 3 (.rd 4 (.rd 5 (.rd 6 (.rd 7 (.rd 8 (.rd 9 (.rd 10 (.rd 11 (.rd 12 (.mv 13 (.rd 14 (.mv 15 (.done) (.stop))) (.stop))))))))))))))
  | 86,13 => .rd 0 (.rd 1 (.rd 2 (.rd 3 (.rd 4 (.rd 5 (.rd 6 (.rd 7 (.rd 8 (.rd 9 (.rd 10 (.rd 11 (.rd 12 (.mv 13 (.rd 14 (.rd 15 (.done))) (.stop))))))))))))))
  | 86,15 => .rd 0 (.rd 1 (.rd 2 (.rd 3 (.rd 4 (.rd 5 (.rd 6 (.rd 7 (.rd 8 (.rd 9 (.rd 10 (.rd 11 (.rd 12 (.mv 13 (.rd 14 (.rd 15 (.rd 16 (.done)))) (.stop))))))))))))))
  | 86,18 => .rd 0 (.rd 1 (.rd 2 (.rd 3 (.rd 4 (.rd 5 (.rd 6 (.rd 7 (.rd 8 (.rd 9 (.rd 10 (.rd 11 (.rd 12 (.mv 13 (.rd 14 (.mv 15 (.done) (.stop))) (.stop))))))))))))))
  | 86,21 => .rd 0 (.rd 1 (.rd 2 (.rd 3 (.rd 4 (.rd 5 (.rd 6 (.rd 7 (.rd 8 (.rd 9 (.rd 10 (.rd 11 (.rd 12 (.mv 13 (.rd 14 (.mv 15 (.done) (.stop))) (.stop))))))))))))))
  | 87,3 => .rd 0 (.rd 1 (.rd 2 (.rd 3 (.rd 4 (.rd 5 (.rd 6 (.rd 7 (.rd 8 (.rd 9 (.rd 10 (.rd 11 (.rd 12 (.rd 13 (.rd 14 (.rd 15 (.rd 16 (.rd 17 (.mv 18 (.rd 19 (.done)) (.stop)))))))))))))))))))
  | 87,5 => .rd 0 (.rd 1 (.rd 2 (.rd 3 (.rd 4 (.rd 5 (.rd 6 (.rd 7 (.rd 8 (.rd 9 (.rd 10 (.rd 11 (.mv 12 (.rd 13 (.done)) (.stop)))))))))))))
  | 87,6 => .rd 0 (.rd 1 (.rd 2 (.rd 3 (.rd 4 (.rd 5 (.rd 6 (.rd 7 (.rd 8 (.rd 9 (.rd 10 (.rd 11 (.rd 12 (.rd 13 (.rd 14 (.rd 15 (.rd 16 (.rd 17 (.rd 18 (.rd 19 (.rd 20 (.mv 21 (.rd 22 (.mv 23 (.done) (.stop))) (.stop))))))))))))))))))))))
  | 89,1 => .rd 0 (.rd 1 (.rd 2 (.rd 3 (.rd 4 (.rd 5 (.rd 6 (.rd 7 (.rd 8 (.mv 9 (.done) (.stop))))))))))
  | 89,2 => .rd 0 (.rd 1 (.rd 2 (.rd 3 (.rd 4 (.rd 5 (.rd 6 (.rd 7 (.rd 8 (.mv 9 (.done) (.stop))))))))))
  | 89,3 => .rd 0 (.rd 1 (.rd 2 (.rd 3 (.rd 4 (.rd 5 (.rd 6 (.rd 7 (.rd 8 (.mv 9 (.done) (.stop))))))))))
  | 93,3 => .rd 0 (.rd 1 (.rd 2 (.rd 3 (.rd 4 (.rd 5 (.rd 6 (.rd 7 (.rd 8 (.rd 9 (.rd 10 (.rd 11 (.rd 12 (.rd 13 (.rd 14 (.rd 15 (.rd 16 (.rd 17 (.rd 18 (.mv 19 (.rd 20 (.rd 21 (.done))) (.stop))))))))))))))))))))
  | 93,5 => .rd 0 (.rd 1 (.rd 2 (.rd 3 (.rd 4 (.rd 5 (.rd 6 (.rd 7 (.rd 8 (.rd 9 (.rd 10 (.rd 11 (.rd 12 (.mv 13 (.rd 14 (.rd 15 (.done))) (.stop))))))))))))))
  | 93,6 => .rd 0 (.rd 1 (.rd 2 (.rd 3 (.rd 4 (.rd 5 (.rd 6 (.rd 7 (.rd 8 (.rd 9 (.rd 10 (.rd 11 (.rd 12 (.rd 13 (.rd 14 (.rd 15 (.rd 16 (.rd 17 (.rd 18 (.rd 19 (.rd 20 (.mv 21 (.rd 22 (.mv 23 (.done) (.stop))) (.stop))))))))))))))))))))))
  | 96,1 => .rd 0 (.rd 1 (.rd 2 (.rd 3 (.rd 4 (.rd 5 (.rd 6 (.rd 7 (.mv 8 (.done) (.stop)))))))))
  | 97,1 => .rd 0 (.rd 1 (.rd 2 (.rd 3 (.rd 4 (.rd 5 (.rd 6 (.rd 7 (.rd 8 (.mv 9 (.rd 10 (.done)) (.stop))))))))))
  | _,_ => .stop
def cfgA.thaw (f d:Nat):Bool:=(f == 39 && d == 8) || (f == 27 && d == 26)
def cfgA.freeze (f d:Nat):Bool:=(f == 39 && d == 11) || (f == 27 && d == 4)
def cfgA:Cfg:={ heap:=cfgA.heap,take:=cfgA.take,thaw:=cfgA.thaw,freeze:=cfgA.freeze,mask:=cfgA.mask,plan:=cfgA.plan,prim:=fun f=>match f with | 78=>some primIndexByte | 52=>some primCompare | _=>none,keep:=fun f=>[63].contains f }
theorem plans:plansOK Try.prog cfgA=true:=by kernel_rfl
theorem trees:treesOK Try.prog cfgA cfgA.tree=true:=by kernel_rfl
theorem named:(Try.prog.funcs.all fun fn=>fn.name != "runtime.NumGoroutine")=true:=by kernel_rfl
theorem names_ok:∀(f:FuncId) (fn:Func),Try.prog.funcs[f]? = some fn→fn.name≠"runtime.NumGoroutine" := by
  intro f fn hf
  have:=Array.all_eq_true_iff_forall_mem.1 named fn (Array.mem_of_getElem? hf)
  simpa using this
theorem prims:PrimOK Try.prog cfgA:=by
  intro f p hp args σ v σ' h g w ow xs r
  simp only [cfgA] at hp
  split at hp
  · injection hp with hp; subst hp
    exact indexByte_prim Try.func78 (by kernel_rfl) (by kernel_rfl) (by kernel_rfl) (by kernel_rfl) h r
  · injection hp with hp; subst hp
    exact compare_prim Try.func52 (by kernel_rfl) (by kernel_rfl) (by kernel_rfl) (by kernel_rfl) h r
  · cases hp
theorem sound (n:Nat):Sound Try.prog (ev Try.prog cfgA n):=ev_sound Try.checked.mixed plans names_ok prims n
abbrev E:CallW:=EvW Try.prog cfgA cfgA.tree
theorem E_sound {t:Tgt} {args:List AV} {σ:St} {K:AV→St→Prop} (h:E t args σ K):ModelW Try.prog t args σ K:=EvW_sound Try.checked.mixed trees names_ok prims h
end Go.AM
namespace Go.AM
open Go Go.Proofs
set_option maxRecDepth 20000
theorem wz4o:lowFn Try.prog cfgA cfgA.tree 35=some (Cz14):=by kernel_rfl
theorem wz53:lowFn Try.prog cfgA cfgA.tree 18=some (Cz1v 35):=by kernel_rfl
theorem wza5:lowFn Try.prog cfgA cfgA.tree 37=some (Cz3r):=by kernel_rfl
theorem wz28:lowFn Try.prog cfgA cfgA.tree 62=some (Czr 78):=by kernel_rfl
theorem wz4p:lowFn Try.prog cfgA cfgA.tree 51=some (Cz1o 62):=by kernel_rfl
theorem wzdd:lowFn Try.prog cfgA cfgA.tree 36=some (Cz3c 51):=by kernel_rfl
theorem wza6:lowFn Try.prog cfgA cfgA.tree 20=some (Cz3s 37 36):=by kernel_rfl
theorem wz6q:lowFn Try.prog cfgA cfgA.tree 38=some (Cz25 52):=by kernel_rfl
theorem wzbr:lowFn Try.prog cfgA cfgA.tree 21=some (Cz42 38):=by kernel_rfl
theorem wz54:lowFn Try.prog cfgA cfgA.tree 22=some (Cz1f):=by kernel_rfl
theorem wz9d:lowFn Try.prog cfgA cfgA.tree 6=some (Cz3e 20 21 22):=by kernel_rfl
theorem wz9e:lowFn Try.prog cfgA cfgA.tree 7=some (Cz3f):=by kernel_rfl
theorem wz4q:lowFn Try.prog cfgA cfgA.tree 19=some (Cz1s):=by kernel_rfl
theorem wz8b:lowFn Try.prog cfgA cfgA.tree 23=some (Cz22):=by kernel_rfl
theorem wz4r:lowFn Try.prog cfgA cfgA.tree 8=some (Czi (cs [23])):=by kernel_rfl
theorem wz4s:lowFn Try.prog cfgA cfgA.tree 24=some (Cz15):=by kernel_rfl
theorem wz8c:lowFn Try.prog cfgA cfgA.tree 25=some (Cz2t (cs [20])):=by kernel_rfl
theorem wz5i:lowFn Try.prog cfgA cfgA.tree 9=some (Czh (cs [24,25])):=by kernel_rfl
theorem wz40:lowFn Try.prog cfgA cfgA.tree 55=some (Czd):=by kernel_rfl
theorem wz4t:lowFn Try.prog cfgA cfgA.tree 40=some (Cz1q (cs [55])):=by kernel_rfl
theorem wz6r:lowFn Try.prog cfgA cfgA.tree 41=some (Cz1w (cs [21])):=by kernel_rfl
theorem wz3l:lowFn Try.prog cfgA cfgA.tree 63=some (Czw (cs [63]) (rfAt Try.prog 63 0).1 (rfAt Try.prog 63 0).2):=by kernel_rfl
theorem tr_slices_AppendSeq_Write_a0:treesIn cfgA cfgA.tree 63 (rfAt Try.prog 63 0).1=true:=by kernel_rfl
theorem tr_slices_AppendSeq_Write_b0:treesIn cfgA cfgA.tree 63 (rfAt Try.prog 63 0).2=true:=by kernel_rfl
theorem wz2z:lowCode Try.prog cfgA cfgA.tree 63 0 (rfAt Try.prog 63 0).1=(Czp).code:=by kernel_rfl
theorem wz30:lowCode Try.prog cfgA cfgA.tree 63 0 (rfAt Try.prog 63 0).2=(Czq).code:=by kernel_rfl
theorem wz3v:lowFn Try.prog cfgA cfgA.tree 53=some (Cz17 (cs [63])):=by kernel_rfl
theorem wz3j:lowFn Try.prog cfgA cfgA.tree 39=some (Cz9 (cs [53,54])):=by kernel_rfl
theorem wz7m:lowFn Try.prog cfgA cfgA.tree 26=some (Cz1u (cs [40,39,41])):=by kernel_rfl
theorem wz65:lowFn Try.prog cfgA cfgA.tree 42=some (Cz23 20 21):=by kernel_rfl
theorem wz2m:lowFn Try.prog cfgA cfgA.tree 44=some (Cz8):=by kernel_rfl
theorem wz4u:lowFn Try.prog cfgA cfgA.tree 27=some (Cz7 (cs [42,43,44])):=by kernel_rfl
theorem wz4v:lowFn Try.prog cfgA cfgA.tree 45=some (Cz1p):=by kernel_rfl
theorem wz4w:lowFn Try.prog cfgA cfgA.tree 28=some (Cz1t (cs [45,42])):=by kernel_rfl
theorem wz44:lowFn Try.prog cfgA cfgA.tree 58=some (Cz1c):=by kernel_rfl
theorem wz6s:lowFn Try.prog cfgA cfgA.tree 46=some (Cz1a (cs [58])):=by kernel_rfl
theorem wz6t:lowFn Try.prog cfgA cfgA.tree 29=some (Czo (cs [46])):=by kernel_rfl
theorem wz45:lowFn Try.prog cfgA cfgA.tree 10=some (Czg (cs [24,26,27,28,29])):=by kernel_rfl
theorem wz3w:lowFn Try.prog cfgA cfgA.tree 5=some (Cz5 (cs [18,6,7,19,8,9,10])):=by kernel_rfl
theorem wz4x:lowFn Try.prog cfgA cfgA.tree 12=some (Czj (cs [29])):=by kernel_rfl
theorem wz46:lowFn Try.prog cfgA cfgA.tree 32=some (Cz18):=by kernel_rfl
theorem wz4y:lowFn Try.prog cfgA cfgA.tree 33=some (Cz1d):=by kernel_rfl
theorem wz9f:lowFn Try.prog cfgA cfgA.tree 34=some (Cz3h):=by kernel_rfl
theorem wza7:lowFn Try.prog cfgA cfgA.tree 16=some (Cz3t (cs [32,33,34])):=by kernel_rfl
theorem wz3x:lowFn Try.prog cfgA cfgA.tree 11=some (Cz1e):=by kernel_rfl
theorem wz55:lowFn Try.prog cfgA cfgA.tree 47=some (Czy):=by kernel_rfl
theorem wz41:lowFn Try.prog cfgA cfgA.tree 30=some (Czu (cs [47])):=by kernel_rfl
theorem wz5j:lowFn Try.prog cfgA cfgA.tree 76=some (Cz20):=by kernel_rfl
theorem wz4z:lowFn Try.prog cfgA cfgA.tree 60=some (Cz1m (cs [76])):=by kernel_rfl
theorem wz5k:lowFn Try.prog cfgA cfgA.tree 77=some (Cz21):=by kernel_rfl
theorem wz50:lowFn Try.prog cfgA cfgA.tree 61=some (Cz1n (cs [77])):=by kernel_rfl
theorem wz8d:lowFn Try.prog cfgA cfgA.tree 59=some (Cz2u):=by kernel_rfl
theorem wz9g:lowFn Try.prog cfgA cfgA.tree 48=some (Cz3d (cs [60,61,59])):=by kernel_rfl
theorem wz56:lowFn Try.prog cfgA cfgA.tree 49=some (Czx (cs [29])):=by kernel_rfl
theorem wz9h:lowFn Try.prog cfgA cfgA.tree 50=some (Cz24 (cs [48])):=by kernel_rfl
theorem wz66:lowFn Try.prog cfgA cfgA.tree 31=some (Cz2 (cs [23,48,49,50])):=by kernel_rfl
theorem wz57:lowFn Try.prog cfgA cfgA.tree 13=some (Cz6 (cs [30,31])):=by kernel_rfl
theorem wz47:lowFn Try.prog cfgA cfgA.tree 17=some (Cz10):=by kernel_rfl
theorem wz31:lowFn Try.prog cfgA cfgA.tree 4=some (Cz0 (cs [5,6,7,8,9,10,12,16,11,13,17])):=by kernel_rfl
end Go.AM
namespace Go.AM
open Go Go.Proofs
set_option maxRecDepth 20000
def ren_W:Shelf.Ren:=⟨fun | 6=>54 | 15=>57 | 14=>64 | 28=>74 | 29=>75 | 20=>79 | 21=>80 | 22=>81 | 23=>82 | 24=>83 | 25=>84 | 26=>85 | 27=>86 | 46=>93 | 47=>88 | 48=>89 | 49=>94 | 50=>95 | 57=>97 | n=>n,fun | 22=>25 | 24=>39 | 25=>99 | 3=>3 | 39=>113 | 0=>0 | 53=>130 | 55=>132 | 4=>4 | 46=>122 | 45=>121 | 50=>127 | 5=>5 | 9=>9 | 66=>140 | 70=>144 | 76=>149 | 77=>150 | n=>n,fun n=>n⟩
theorem lay_W:Proofs.SlLaysF0.n6 Try.prog ren_W:={ mixed:=by kernel_rfl,f6:=bears Try.func54 (by decide) (by kernel_rfl),f14:=bears Try.func64 (by decide) (by kernel_rfl),f15:=Try.func57.trans (congrArg some (by kernel_rfl)),f20:=bears Try.func79 (by decide) (by kernel_rfl),f21:=bears Try.func80 (by decide) (by kernel_rfl),f22:=bears Try.func81 (by decide) (by kernel_rfl),f23:=bears Try.func82 (by decide) (by kernel_rfl),f24:=bears Try.func83 (by decide) (by kernel_rfl),f25:=bears Try.func84 (by decide) (by kernel_rfl),f26:=bears Try.func85 (by decide) (by kernel_rfl),f27:=bears Try.func86 (by decide) (by kernel_rfl),f28:=Try.func74.trans (congrArg some (by kernel_rfl)),f29:=Try.func75.trans (congrArg some (by kernel_rfl)),f46:=bears Try.func93 (by decide) (by kernel_rfl),f47:=Try.func88.trans (congrArg some (by kernel_rfl)),f48:=Try.func89.trans (congrArg some (by kernel_rfl)),f49:=bears Try.func94 (by decide) (by kernel_rfl),f50:=bears Try.func95 (by decide) (by kernel_rfl),f57:=bears Try.func97 (by decide) (by kernel_rfl),t0:=Try.underlying0,a0:=Try.isAgg0,z0:=Try.sizeOf0,v0:=Try.zeroValue0,t3:=Try.underlying3,a3:=Try.isAgg3,z3:=Try.sizeOf3,v3:=Try.zeroValue3,t4:=Try.underlying4,a4:=Try.isAgg4,z4:=Try.sizeOf4,v4:=Try.zeroValue4,t5:=Try.underlying5,a5:=Try.isAgg5,z5:=Try.sizeOf5,v5:=Try.zeroValue5,t9:=Try.underlying9,a9:=Try.isAgg9,z9:=Try.sizeOf9,v9:=Try.zeroValue9,t22:=Try.underlying25,a22:=Try.isAgg25,z22:=Try.sizeOf25,v22:=Try.zeroValue25,t25:=Try.underlying99,a25:=Try.isAgg99,z25:=Try.sizeOf99,v25:=Try.zeroValue99,t39:=Try.underlying113,a39:=Try.isAgg113,z39:=Try.sizeOf113,v39:=Try.zeroValue113,t45:=Try.underlying121,a45:=Try.isAgg121,z45:=Try.sizeOf121,v45:=Try.zeroValue121,t46:=Try.underlying122,a46:=Try.isAgg122,z46:=Try.sizeOf122,v46:=Try.zeroValue122,t50:=Try.underlying127,a50:=Try.isAgg127,z50:=Try.sizeOf127,v50:=Try.zeroValue127,t53:=Try.underlying130,a53:=Try.isAgg130,z53:=Try.sizeOf130,v53:=Try.zeroValue130,t55:=Try.underlying132,a55:=Try.isAgg132,z55:=Try.sizeOf132,v55:=Try.zeroValue132,t66:=Try.underlying140,a66:=Try.isAgg140,z66:=Try.sizeOf140,v66:=Try.zeroValue140,t70:=Try.underlying144,a70:=Try.isAgg144,z70:=Try.sizeOf144,v70:=Try.zeroValue144,t76:=Try.underlying149,a76:=Try.isAgg149,z76:=Try.sizeOf149,v76:=Try.zeroValue149,t77:=Try.underlying150,a77:=Try.isAgg150,z77:=Try.sizeOf150,v77:=Try.zeroValue150 }
theorem lay_W_a:∀w,(Go.isAgg (ren_W.t 24)).run Try.prog w = .ok true w:=Try.isAgg39
theorem lay_W_z:∀w,(Go.sizeOf (ren_W.t 24)).run Try.prog w = .ok 18 w:=Try.sizeOf39
def ren_I:Shelf.Ren:=⟨fun | 5=>43 | 8=>57 | 7=>56 | 19=>74 | 20=>75 | 10=>65 | 11=>66 | 12=>67 | 13=>68 | 14=>69 | 15=>70 | 16=>71 | 17=>72 | 18=>73 | 30=>87 | 31=>88 | 32=>89 | 33=>90 | 34=>91 | 35=>92 | 40=>96 | n=>n,fun | 23=>67 | 25=>3 | 3=>3 | 32=>113 | 22=>67 | 0=>0 | 44=>130 | 46=>132 | 4=>4 | 36=>122 | 35=>121 | 41=>127 | 5=>5 | 9=>9 | 53=>140 | 57=>144 | 63=>149 | 64=>150 | n=>n,fun n=>n⟩
theorem lay_I:Proofs.SlLaysM.n5 Try.prog ren_I:={ mixed:=by kernel_rfl,f5:=bears Try.func43 (by decide) (by kernel_rfl),f7:=bears Try.func56 (by decide) (by kernel_rfl),f8:=Try.func57.trans (congrArg some (by kernel_rfl)),f10:=bears Try.func65 (by decide) (by kernel_rfl),f11:=bears Try.func66 (by decide) (by kernel_rfl),f12:=bears Try.func67 (by decide) (by kernel_rfl),f13:=bears Try.func68 (by decide) (by kernel_rfl),f14:=bears Try.func69 (by decide) (by kernel_rfl),f15:=bears Try.func70 (by decide) (by kernel_rfl),f16:=bears Try.func71 (by decide) (by kernel_rfl),f17:=bears Try.func72 (by decide) (by kernel_rfl),f18:=bears Try.func73 (by decide) (by kernel_rfl),f19:=Try.func74.trans (congrArg some (by kernel_rfl)),f20:=Try.func75.trans (congrArg some (by kernel_rfl)),f30:=bears Try.func87 (by decide) (by kernel_rfl),f31:=Try.func88.trans (congrArg some (by kernel_rfl)),f32:=Try.func89.trans (congrArg some (by kernel_rfl)),f33:=bears Try.func90 (by decide) (by kernel_rfl),f34:=bears Try.func91 (by decide) (by kernel_rfl),f35:=bears Try.func92 (by decide) (by kernel_rfl),f40:=bears Try.func96 (by decide) (by kernel_rfl),t0:=Try.underlying0,a0:=Try.isAgg0,z0:=Try.sizeOf0,v0:=Try.zeroValue0,t3:=Try.underlying3,a3:=Try.isAgg3,z3:=Try.sizeOf3,v3:=Try.zeroValue3,t4:=Try.underlying4,a4:=Try.isAgg4,z4:=Try.sizeOf4,v4:=Try.zeroValue4,t5:=Try.underlying5,a5:=Try.isAgg5,z5:=Try.sizeOf5,v5:=Try.zeroValue5,t9:=Try.underlying9,a9:=Try.isAgg9,z9:=Try.sizeOf9,v9:=Try.zeroValue9,t22:=Try.underlying67,a22:=Try.isAgg67,z22:=Try.sizeOf67,v22:=Try.zeroValue67,t23:=Try.underlying67,a23:=Try.isAgg67,z23:=Try.sizeOf67,v23:=Try.zeroValue67,t25:=Try.underlying3,a25:=Try.isAgg3,z25:=Try.sizeOf3,v25:=Try.zeroValue3,t32:=Try.underlying113,a32:=Try.isAgg113,z32:=Try.sizeOf113,v32:=Try.zeroValue113,t35:=Try.underlying121,a35:=Try.isAgg121,z35:=Try.sizeOf121,v35:=Try.zeroValue121,t36:=Try.underlying122,a36:=Try.isAgg122,z36:=Try.sizeOf122,v36:=Try.zeroValue122,t41:=Try.underlying127,a41:=Try.isAgg127,z41:=Try.sizeOf127,v41:=Try.zeroValue127,t44:=Try.underlying130,a44:=Try.isAgg130,z44:=Try.sizeOf130,v44:=Try.zeroValue130,t46:=Try.underlying132,a46:=Try.isAgg132,z46:=Try.sizeOf132,v46:=Try.zeroValue132,t53:=Try.underlying140,a53:=Try.isAgg140,z53:=Try.sizeOf140,v53:=Try.zeroValue140,t57:=Try.underlying144,a57:=Try.isAgg144,z57:=Try.sizeOf144,v57:=Try.zeroValue144,t63:=Try.underlying149,a63:=Try.isAgg149,z63:=Try.sizeOf149,v63:=Try.zeroValue149,t64:=Try.underlying150,a64:=Try.isAgg150,z64:=Try.sizeOf150,v64:=Try.zeroValue150 }
theorem E_kit:KitW Try.prog E:=EvW.kit
theorem EC:LeC E E:=EvW.le
theorem EW:WkC E:=fun _ _ _ _ _ h h2=>EvW.args h h2
theorem asBytes_row {S:List (List AV)} {H:List HObj} {r:Nat} {a:List UInt8} (h:S[r]? = some (bs a)) (ha:a.length=16):asBytes ⟨S,H⟩ (.row (.stk r) 0 16 16)=some a:=by
  have e:(bs a).take 16=bs a:=List.take_of_length_le (by rw [bs_length,ha]; exact Nat.le_refl _)
  have e2:16≤(bs a).length:=by rw [bs_length,ha]; exact Nat.le_refl _
  simp only [asBytes,readCells,boxOf_stk,h,Option.bind_some,Nat.zero_add,e2,(show ((16:Nat)≠1)=True from eq_true (by decide)),true_or,and_self,if_true,List.drop_zero,e,map_look_bs,bytesIn_bs]
end Go.AM
namespace Go.AM
open Go Go.Proofs
theorem qz5l:OfR E 35:=fun s S H K hK=>runL_ok rfl wz4o (ref10_Of_spec EC _ s S H K hK)
theorem qz67:kS E 18:=fun s S H K hK=>runL_ok rfl wz53 (law_k_spec EC _ qz5l s S H K hK)
theorem qzde:TextS E 37:=fun k S H K hK=>runL_ok rfl wza5 (key_text_spec EC _ k S H K hK)
theorem qz29:IdxS E 78:=fun l S H K hK=>primW (p:=primIndexByte) rfl (v := .i (Lib.indexByte l 0)) (σ':=⟨S,H⟩) rfl hK
theorem qz2o:IdxS E 62:=fun l S H K hK=>runL_ok rfl wz28 (stringslite_IndexByte_spec EC _ qz29 l S H K hK)
theorem qz5m:IdxS E 51:=fun l S H K hK=>runL_ok rfl wz4p (strings_IndexByte_spec EC _ qz2o l S H K hK)
theorem qzfz:OfK E 36:=fun s S H K hK=>runL_ok rfl wzdd (key_Of_spec EC _ qz5m s S H K hK)
theorem qz58:BoolK goodK E 20:=fun k S H K hK=>runL_ok rfl wza6 (key_Good_spec EC _ qzde qzfz k S H K hK)
theorem qz3m:CmpB E 52:=fun a b S H r1 r2 K h1 h2 ha hb hK=>primW (p:=primCompare) rfl (v := .i (Lib.compareBytes a b)) (σ':=⟨S,H⟩) (by simp only [primCompare,asBytes_row h1 ha,asBytes_row h2 hb]) hK
theorem qz7n:CmpB E 38:=fun a b S H r1 r2 K h1 h2 ha hb hK=>runL_ok rfl wz6q (bytes_Compare_spec EC _ qz3m a b S H r1 r2 K h1 h2 ha hb hK)
theorem qz68:KCmp E 21:=fun a b S H K hK=>runL_ok rfl wzbr (key_Cmp_spec EC _ qz7n a b S H K hK)
theorem qz69:CloneS E 22:=fun l S H K hl hK=>EvW.res (runL_ok rfl wz54 (slices_Clone_spec EC _ l S H _ hl fun v hv=>⟨_,.inr (cloneA_wk hv),hK⟩))
theorem qz76:NewS E 6:=fun l S H K hl hK=>runL_ok rfl wz9d (New_spec EC _ qz58 qz68 qz69 l S H K hl hK)
theorem qz77:NewFS E 7:=fun ht pts S H K t hK=>runL_ok rfl wz9e (front_New_spec _ ht pts S H K t hK)
theorem qz5n:∀t:Int,FnS E 19 [.s (.int .i64 t)] (.agg (stc ⟨t,0⟩)):=fun t S H K hK=>runL_ok rfl wz4q (law13_at_spec _ t S H K hK)
theorem qz6a:∀s:Stp,FnS E 23 [.agg (stc s)] (.bool (goodS s)):=fun s S H K hK=>runL_ok rfl wz8b (stamp_Good_spec _ s S H K hK)
theorem qz3a:FBegS E 8:=fun h ht pts O q id s S H K t hK=>runL_ok rfl wz4r (front_Begin_spec _ qz6a h ht pts O q id s S H K t hK)
theorem qz3b:FreshS E 24:=fun h hl ht pts O l id S H K t hK=>runL_ok rfl wz4s (front_fresh_spec _ h hl ht pts O l id S H K t hK)
theorem qza8:GoodWS E 25:=fun l S H K hl hK=>runL_ok rfl wz8c (store_Good_spec EC _ qz58 l S H K hl hK)
theorem qz3p:FPutS E 9:=fun h ht pts O q id w S H K t hK=>runL_ok rfl wz5i (front_Put_spec EW _ qz3b qza8 h ht pts O q id w S H K t hK)
theorem qz51:ValsItW E 55:=fun G N h bx hm c es x S K a1 a2 a3 a4 a5 a6 a7 a8=>runL_ok rfl wz40 (maps_ValuesW1_spec EC _ G N h bx hm c es x S K a1 a2 a3 a4 a5 a6 a7 a8)
theorem qz5o:ValsSW E 40 55:=fun hm S H K hK=>runL_ok rfl wz4t (maps_ValuesW_spec _ hm S H K hK)
theorem qz43:CvKS E 41:=fun x y S H K hK=>runL_ok rfl wz6r (solo_Sorted1_spec _ qz68 x y S H K hK)
theorem round_slices_AppendSeq_Write:RoundOK E Try.prog 63 (rfAt Try.prog 63 0).1 (rfAt Try.prog 63 0).2 (Czp).code (Czq).code:=roundE tr_slices_AppendSeq_Write_a0 tr_slices_AppendSeq_Write_b0 wz2z wz30
theorem qz3y:AppSeqWS E 63 55:=fun bx hm cc es x S H K hM hK=>runL_ok rfl wz3l (AppendSeq_specW EC _ qz51 (by kernel_rfl) round_slices_AppendSeq_Write bx hm cc es x S H K hM hK)
theorem qz48:CollWS E 53 55:=fun bx hm cc es x S H K hM hK=>runL_ok rfl wz3v (Collect_specW _ qz3y bx hm cc es x S H K hM hK)
theorem qz27:SortFSW E 41 [] cvK 54∧SortFNW E 54:=kit_SortFSW E_kit lay_W lay_W_a lay_W_z qz43 (by kernel_rfl)
theorem qz3u:SortedWS E 39 55 41:=fun bx hm cc es x S H K hM hnd hK=>EvW.res (runL_ok rfl wz3j (SortedFunc_specW _ qz48 qz43 qz27.1 qz27.2 bx hm cc es x S H K hM hnd hK))
theorem qz9i:SoloS E 26:=fun hm ws S H K t hK=>runL_ok rfl wz7m (solo_Sorted_spec _ qz5o qz3u hm ws S H K t hK)
theorem qz3z:TOfS E 42:=fun l k h S H K hh hl hK=>runL_ok rfl wz65 (Of_spec EC _ qz58 qz68 l k h S H K hh hl hK)
theorem qz3q:SortIS E 43∧OneN E 43 (.tup []):=kit_SortIS E_kit lay_I
theorem qz2w:CompS E 44∧OneN E 44 (.s .nilS):=⟨fun n d S H K h1 h2 hK=>runL_ok rfl wz2m (Compact_spec EC _ n d S H K h1 h2 hK),fun S H K hK=>runL_ok rfl wz2m (Compact_nil _ S H K hK)⟩
theorem qz5p:RPartsS E 27:=fun pts l h S H K hok hh hp hl hK=>EvW.res (runL_ok rfl wz4u (Parts_spec EC _ qz3z qz3q.1 qz3q.2 qz2w.1 qz2w.2 pts l h S H _ hh hp hl fun R h1 h2=>⟨_,.inr (parts_wk h1 h2),hK⟩))
theorem qz5q:TNodesS E 45:=fun l h S H K hh hl hK=>runL_ok rfl wz4v (Nodes_spec EC _ l h S H K hh hl hK)
theorem qz5r:SplitS E 28:=fun pts l h S H K hh hp hl hK=>runL_ok rfl wz4w (Split_spec EC _ qz5q qz3z pts l h S H K hh hp hl hK)
theorem qz59:CloneWS E 58:=fun l S H K hl hK=>EvW.res (runL_ok rfl wz44 (slices_CloneW_spec EC _ l S H _ hl fun v hv=>⟨_,.inr (cloneW_wk hv),hK⟩))
theorem qz7o:SayS E 46:=fun O b pts x id n S H K t hn hK=>EvW.res (runL_ok rfl wz6s (txn_say_spec _ qz59 O b pts x id n S H K t hn hK))
theorem qz2x:FAllS E 29:=fun O b pts x id S H K t hK=>EvW.res (runL_ok rfl wz6t (txn_all_spec EC _ qz7o O b pts x id S H K t hK))
theorem qz2y:FComS E 10:=fun h ht pts O q id S H K t hp hl hK=>EvW.res (runL_ok rfl wz45 (front_Commit_spec _ qz3b qz9i qz5p qz5r qz2x h ht pts O q id S H K t hp hl hK))
theorem qz49:AwFS E 5:=fun S H K hK=>runL_ok rfl wz3w (law25_awake_spec EC EW _ qz67 qz76 qz77 qz5n qz3a qz3p qz2y S H K hK)
theorem qz5s:FAgS E 12:=fun h ht pts O q id S H K t hK=>EvW.res (runL_ok rfl wz4x (front_Again_spec _ qz2x h ht pts O q id S H K t hK))
theorem qz5a:EqWS E 32:=fun a b S H K ha hb hK=>runL_ok rfl wz46 (Equal_Write_spec EC _ a b S H K ha hb hK)
theorem qz5t:EqItS E 33:=fun a b S H K ha hb hK=>runL_ok rfl wz4y (Equal_Item_spec EC _ a b S H K ha hb hK)
theorem qzbs:PlainS E 34:=fun m S H K hK=>runL_ok rfl wz9f (msg_plain_spec _ m S H K hK)
theorem qzdf:SameMS E 16:=fun a b S H K ha hb hK=>runL_ok rfl wza7 (msg_Same_spec _ qz5a qz5t qzbs a b S H K ha hb hK)
theorem qz4a:HeavyFS E 11:=fun m S H K hm hK=>runL_ok rfl wz3x (law25_heavy_spec EC _ m S H K hm hK)
theorem qz6b:IdxIS E 47:=fun l v S H K hl hK=>runL_ok rfl wz55 (Index_int_spec EC _ l v S H K hl hK)
theorem qz52:ContIS E 30:=fun l v S H K hl hK=>runL_ok rfl wz41 (Contains_int_spec _ qz6b l v S H K hl hK)
theorem qz6u:∀x:Int,FnS E 76 [.s (.int .i64 x)] (.bool false):=fun x S H K hK=>runL_ok rfl wz5j (isNaN_spec _ x S H K hK)
theorem qz5u:∀x y:Int,FnS E 60 [.s (.int .i64 x),.s (.int .i64 y)] (.i (cmpI x y)):=fun x y S H K hK=>runL_ok rfl wz4z (Compare_spec _ qz6u x y S H K hK)
theorem qz6v:∀x:UInt8,FnS E 77 [u8 x] (.bool false):=fun x S H K hK=>runL_ok rfl wz5k (isNaN8_spec _ x S H K hK)
theorem qz5v:∀x y:UInt8,FnS E 61 [u8 x,u8 y] (.i (cmpU x y)):=fun x y S H K hK=>runL_ok rfl wz50 (Compare8_spec _ qz6v x y S H K hK)
theorem qza9:∀x y:Int,FnS E 59 [.list .sh 1 [.i x,.i y]] (.i (if x≠0 then x else y)):=fun x y S H K hK=>runL_ok rfl wz8d (Or_spec EC _ x y S H K hK)
theorem qz78:CmpSS E 48:=fun a b S H K hK=>runL_ok rfl wz9g (stamp_Cmp_spec EC EW _ qz5u qz5v qza9 a b S H K hK)
theorem qz6c:DecFS E 49:=fun O b hw hs hp pts x id yes S H K t low hK=>EvW.res (runL_ok rfl wz56 (txn_decide_spec _ qz2x O b hw hs hp pts x id yes S H K t low hK))
theorem qzbt:MaxS E 50:=fun a b S H K hK=>runL_ok rfl wz9h (stamp_Max_spec _ qz78 a b S H K hK)
theorem qz79:VotFS E 31:=fun O b hw hs hp pts x m S H K t low hn hK=>EvW.res (runL_ok rfl wz66 (txn_vote_spec _ qz6a qz78 qz6c qzbt O b hw hs hp pts x m S H K t low hn hK))
theorem qz6d:FTkS E 13:=fun h ht pts O q m S H K t hK=>EvW.res (runL_ok rfl wz57 (front_Took_spec EW _ qz52 qz79 h ht pts O q m S H K t hK))
theorem qz5b:FResS E 17:=fun h ht pts O q id S H K t hK=>runL_ok rfl wz47 (front_Result_spec _ h ht pts O q id S H K t hK)
theorem qz3k:∀(points:List Key) (snap:Stp) (w:List Wr) (an:List Msg) S H (K:AV→St→Prop),points.length≤9223372036854775807→w.length≤9223372036854775807→an.length≤9223372036854775807→(∀m∈an,okM m)→(∀H',K (.bool true) ⟨S,H'⟩)→E (.fn 4) [lstK points,.agg (stc snap),lstW w,lstM an] ⟨S,H⟩ K:=fun points snap w an S H K h1 h2 h3 h4 hK=>runL_ok rfl wz31 (FrontAgain_spec EC _ qz49 qz76 qz77 qz3a qz3p qz2y qz5s qzdf qz4a qz6d qz5b points snap w an S H K h1 h2 h3 h4 hK)
end Go.AM
