import Derived.Test.YtdkchnnbicfikaaM7
import Derived.Test.YtdkchnnbicfikaaChecked
import Derived.KernelRfl
import Derived.Test.YtdkchnnbicfikaaM13
import Derived.Test.YtdkchnnbicfikaaM10
import Derived.Test.YtdkchnnbicfikaaM12
set_option linter.unusedSimpArgs false
set_option linter.unusedVariables false
namespace Go.AM
open Go Go.Proofs
set_option maxRecDepth 100000
def cfgA.heap (f d:Nat):Bool :=
  match f with
  | 5=>[40].contains d
  | 14=>[4].contains d
  | 38=>[3].contains d
  | 40=>[9].contains d
  | 65=>[1].contains d
  | 85=>[2].contains d
  | 91=>[1].contains d
  | 117=>[2].contains d
  | 128=>[2].contains d
  | _=>false
def cfgA.take (f d:Nat):Bool :=
  match f with
  | 7=>[117].contains d
  | 8=>[146,147].contains d
  | 10=>[101].contains d
  | 18=>[17,28].contains d
  | 22=>[11].contains d
  | 29=>[35,46].contains d
  | 40=>[34].contains d
  | 43=>[40,47].contains d
  | 56=>[58,77].contains d
  | 59=>[50,59].contains d
  | 60=>[36,47].contains d
  | 61=>[5].contains d
  | 64=>[8].contains d
  | 90=>[11].contains d
  | 96=>[5].contains d
  | 100=>[5].contains d
  | 108=>[17,23,55,83,94].contains d
  | 112=>[7].contains d
  | 114=>[5,6].contains d
  | 117=>[2,8,12].contains d
  | 118=>[24,30].contains d
  | 128=>[2,8,9,12].contains d
  | 129=>[26,33].contains d
  | 134=>[44].contains d
  | 143=>[12].contains d
  | 147=>[49].contains d
  | 155=>[7].contains d
  | 156=>[28].contains d
  | 160=>[9].contains d
  | 161=>[32].contains d
  | _=>false
def mz:Bool→List Nat→List Bool
  | _,[]=>[]
  | b,n :: l=>List.replicate n b ++ mz (!b) l
def cfgA.mask (f b:Nat):List Bool :=
  match f,b with
  | 3,0=>mz false [0,1,2,2,104]
  | 3,2=>mz false [3,1,1,2,102]
  | 3,4=>mz false [3,1,1,3,101]
  | 4,0=>mz false [1,13,1,1,1,2,139]
  | 5,0=>mz false [0,1,3,2,1,3,216]
  | 5,2=>mz false [0,1,3,2,1,3,21,2,193]
  | 6,0=>mz false [0,1,1,1,1,1,2,2,99]
  | 6,2=>mz false [2,1,1,1,2,1,1,1,1,1,96]
  | 7,0=>mz false [0,1,2,1,1,2,2,2,109]
  | 7,2=>mz false [3,1,1,2,2,1,1,4,105]
  | 8,0=>mz false [0,1,5,4,1,2,137]
  | 8,2=>mz false [6,4,1,1,1,2,135]
  | 9,0=>mz false [0,2,3,2,77]
  | 9,2=>mz false [1,1,3,1,1,3,74]
  | 10,0=>mz false [0,1,4,3,1,2,99]
  | 12,0=>mz false [0,1,4,1,1,4,2,3,137]
  | 15,0=>mz false [0,1,2,1,16]
  | 16,1=>mz false [0,1,2,1,36,3,12]
  | 17,0=>mz false [0,2,2,1,1,2,12,3,17]
  | 18,0=>mz false [0,1,2,1,7,3,15]
  | 28,0=>mz false [0,1,2,1,3,1,87]
  | 28,2=>mz false [0,1,2,1,6,1,84]
  | 29,0=>mz false [0,2,2,1,1,4,41]
  | 34,0=>mz false [0,1,1,1,1,3,35]
  | 35,0=>mz false [0,2,2,1,1,1,27]
  | 37,0=>mz false [0,1,2,1,16]
  | 39,0=>mz false [0,1,1,1,1,1,20,3,40]
  | 39,2=>mz false [0,1,3,1,37,3,23]
  | 40,0=>mz false [0,1,2,3,54]
  | 40,2=>mz false [0,1,2,5,52]
  | 41,0=>mz false [0,2,3,1,35]
  | 43,0=>mz false [0,1,3,1,1,3,2,1,5,3,28]
  | 45,0=>mz false [0,2,3,1,20]
  | 47,0=>mz false [2,2,1,1,18]
  | 48,0=>mz false [3,1,10,1,24]
  | 48,2=>mz false [3,2,1,1,7,1,7,3,14]
  | 49,0=>mz false [0,1,2,1,1,1,6,1,19]
  | 53,0=>mz false [0,2,3,1,20]
  | 55,0=>mz false [0,1,1,1,1,1,2,3,64]
  | 56,0=>mz false [0,1,2,1,1,2,74]
  | 59,0=>mz false [0,1,3,1,1,3,2,3,46]
  | 60,0=>mz false [0,1,2,2,43]
  | 66,0=>mz false [0,2,2,3,26]
  | 69,0=>mz false [0,1,1,1,1,2,27]
  | 73,0=>mz false [0,1,4,1,63]
  | 73,2=>mz false [0,1,4,2,62]
  | 74,0=>mz false [0,2,3,1,20]
  | 75,0=>mz false [0,1,2,2,1,1,45]
  | 75,2=>mz false [0,1,2,2,1,2,44]
  | 77,0=>mz false [3,1,3,3,32]
  | 80,0=>mz false [0,1,4,1,7,3,22]
  | 93,0=>mz false [0,1,2,1,1,3,71]
  | 94,0=>mz false [0,1,4,2,1,1,1,1,32]
  | 95,0=>mz false [0,1,2,1,2,1,47]
  | 95,2=>mz false [0,1,2,1,2,2,46]
  | 101,0=>mz false [0,1,4,1,8]
  | 102,0=>mz false [3,1,2,3,9]
  | 105,0=>mz false [1,1,1,2,12]
  | 113,0=>mz false [0,1,4,1,8]
  | 116,0=>mz false [0,2,5,2,10]
  | 117,0=>mz false [2,1,10]
  | 118,0=>mz false [0,4,4,2,124]
  | 123,0=>mz false [1,1,1,1,13]
  | 124,0=>mz false [0,1,1,1,1,1,3,3,38]
  | 128,0=>mz false [2,1,10]
  | 129,0=>mz false [0,5,5,2,136]
  | 131,0=>mz false [0,3,3,1,42]
  | 131,2=>mz false [0,3,3,2,41]
  | 132,0=>mz false [0,1,5,4,46]
  | 132,2=>mz false [0,1,5,2,2,1,45]
  | 133,0=>mz false [0,2,4,4,55]
  | 135,0=>mz false [0,1,5,2,24]
  | 136,0=>mz false [0,3,4,2,124]
  | 136,2=>mz false [0,3,4,2,124]
  | 136,4=>mz false [0,3,4,3,123]
  | 136,6=>mz false [0,3,4,2,1,1,122]
  | 138,0=>mz false [0,2,7,2,73]
  | 138,2=>mz false [0,2,7,2,73]
  | 138,4=>mz false [0,2,7,2,73]
  | 139,0=>mz false [0,2,8,2,156]
  | 139,2=>mz false [0,2,8,2,156]
  | 139,4=>mz false [0,2,8,2,156]
  | 139,6=>mz false [0,2,8,2,156]
  | 139,8=>mz false [0,2,8,2,156]
  | 144,0=>mz false [0,4,4,1,44]
  | 144,2=>mz false [0,4,4,2,43]
  | 145,0=>mz false [0,1,2,1,4,4,48]
  | 145,2=>mz false [0,1,2,1,4,2,2,1,47]
  | 146,0=>mz false [0,2,6,4,55]
  | 148,0=>mz false [0,1,7,2,24]
  | 149,0=>mz false [0,4,5,2,130]
  | 149,2=>mz false [0,4,5,2,130]
  | 149,4=>mz false [0,4,5,3,129]
  | 149,6=>mz false [0,4,5,2,1,1,128]
  | 150,0=>mz false [0,2,2,1,6,2,77]
  | 150,2=>mz false [0,2,2,1,6,2,77]
  | 150,4=>mz false [0,2,2,1,6,2,77]
  | 151,0=>mz false [0,2,2,1,7,2,164]
  | 151,2=>mz false [0,2,2,1,7,2,164]
  | 151,4=>mz false [0,2,2,1,7,2,164]
  | 151,6=>mz false [0,2,2,1,7,2,164]
  | 151,8=>mz false [0,2,2,1,7,2,164]
  | 152,0=>mz false [0,1,1,2,4,1,67]
  | 158,0=>mz false [0,1,1,2,24]
  | 159,0=>mz false [0,1,1,3,5,1,71]
  | _,_=>[]
def cfgA.plan (f k:Nat):List Nat :=
  match f,k with
  | 3,24=>List.range 16
  | 4,21=>List.range 73
  | 5,12=>[0,1,3,4,2,5,6,7]
  | 5,15=>[0,1,2,4,5,6,3,7,8,9]
  | 5,19=>[0,1,2,3,4,6,5,7,8,9]
  | 5,30=>[0,1,2,3,4,5,6,7,8,9,10,11,12,13,14,15,16,17,18,19,20,21,22,23,24,25,26,27,28,29,30,31,32,33,34,36,35,37,38,39,40,41,42,43,44,45,46,47,48,49]
  | 5,35=>[0,1,2,3,5,6,7,8,9,10,11,4,12,13]
  | 6,11=>List.range 12
  | 6,19=>List.range 13
  | 6,22=>[0,6,7,8,9,10,11,12,13,1,2,3,4,5,14,15]
  | 7,11=>List.range 12
  | 7,19=>List.range 8
  | 7,20=>List.range 12
  | 8,11=>List.range 12
  | 8,16=>List.range 13
  | 8,17=>List.range 41
  | 8,21=>[0,1,2,3,5,6,7,8,4,9,10,11]
  | 9,11=>List.range 12
  | 9,19=>List.range 12
  | 10,11=>List.range 12
  | 11,15=>[0,1,2,3,4,5,6,7,8,9,10,11,12,13,14,15,16,17,18,19,20,21,22,23,24,25,26,27,28,29,30,31,32,33,34,35,36,37,38,39,40,41,42,43,44,45,46,47,48,49,50,51,52,53,54,55,56,57,58,59,60,61,62,63,64,65,66,67,68,69,70,71,73,72,74,75,76,77,78,79]
  | 12,16=>[0,1,2,3,4,6,7,8,9,10,5,11,12,13]
  | 12,18=>[0,1,2,4,5,6,3,7,8,9]
  | 12,23=>[0,1,2,3,4,5,6,7,8,9,10,11,12,13,14,15,16,17,18,19,20,21,22,23,24,25,26,27,29,30,31,32,33,28,34,35,36,37,38,39,41,40,42,43,44,45]
  | 16,3=>List.range 13
  | 16,10=>List.range 9
  | 16,14=>List.range 9
  | 17,5=>List.range 7
  | 19,1=>List.range 11
  | 28,15=>List.range 20
  | 28,18=>[0,1,2,3,4,5,6,7,9,10,12,13,14,15,16,17,8,11,18,19,20,21]
  | 32,1=>List.range 11
  | 32,2=>List.range 14
  | 34,5=>List.range 15
  | 39,6=>[0,1,2,4,3,5]
  | 39,16=>List.range 8
  | 40,10=>[0,1,2,3,5,6,7,8,9,10,11,12,13,14,15,16,17,18,19,20,21,22,23,24,25,4,26,27,28,29]
  | 41,1=>List.range 11
  | 41,6=>List.range 15
  | 45,6=>List.range 9
  | 47,4=>List.range 7
  | 47,6=>List.range 7
  | 48,11=>List.range 7
  | 49,7=>List.range 6
  | 53,6=>List.range 9
  | 55,8=>List.range 20
  | 56,6=>List.range 12
  | 59,6=>List.range 12
  | 59,7=>List.range 10
  | 60,5=>List.range 22
  | 66,7=>List.range 8
  | 68,1=>[0,1,2,3,5,6,7,8,4,9,10,11,12]
  | 73,11=>List.range 11
  | 74,6=>List.range 9
  | 75,7=>List.range 14
  | 78,1=>List.range 7
  | 80,5=>List.range 8
  | 81,8=>List.range 12
  | 89,3=>List.range 14
  | 92,1=>[0,1,2,3]
  | 93,5=>List.range 17
  | 93,7=>List.range 16
  | 93,11=>[0,1,2,3,4,5,6,7,9,10,12,13,14,15,16,17,8,11,18,19,20,21]
  | 94,5=>List.range 11
  | 95,2=>List.range 20
  | 95,5=>List.range 19
  | 97,1=>List.range 12
  | 107,1=>List.range 10
  | 108,11=>List.range 9
  | 108,15=>List.range 9
  | 118,17=>List.range 15
  | 124,5=>List.range 8
  | 124,8=>List.range 16
  | 129,17=>List.range 17
  | 131,4=>List.range 15
  | 131,6=>List.range 18
  | 132,10=>List.range 20
  | 133,10=>List.range 20
  | 135,3=>List.range 16
  | 136,5=>List.range 16
  | 136,11=>List.range 18
  | 136,16=>List.range 11
  | 136,17=>List.range 18
  | 136,22=>List.range 11
  | 136,23=>List.range 18
  | 138,1=>List.range 16
  | 138,3=>List.range 15
  | 138,5=>List.range 14
  | 138,8=>List.range 16
  | 139,1=>List.range 16
  | 139,3=>List.range 14
  | 139,5=>List.range 15
  | 139,8=>List.range 16
  | 139,10=>List.range 16
  | 139,13=>List.range 14
  | 139,15=>List.range 15
  | 139,18=>List.range 16
  | 139,21=>List.range 16
  | 144,4=>List.range 17
  | 144,6=>List.range 18
  | 145,10=>List.range 20
  | 146,10=>List.range 20
  | 148,3=>List.range 16
  | 149,5=>List.range 18
  | 149,11=>List.range 18
  | 149,16=>List.range 13
  | 149,17=>List.range 18
  | 149,22=>List.range 13
  | 149,23=>List.range 18
  | 150,1=>List.range 16
  | 150,3=>List.range 17
  | 150,5=>List.range 16
  | 150,8=>List.range 16
  | 151,1=>List.range 16
  | 151,3=>List.range 16
  | 151,5=>List.range 17
  | 151,8=>List.range 16
  | 151,10=>List.range 16
  | 151,13=>List.range 16
  | 151,15=>List.range 17
  | 151,18=>List.range 16
  | 151,21=>List.range 16
  | 152,3=>List.range 20
  | 152,5=>List.range 14
  | 152,6=>List.range 24
  | 154,1=>List.range 10
  | 154,2=>List.range 10
  | 154,3=>List.range 10
  | 158,3=>List.range 16
  | 159,3=>List.range 22
  | 159,5=>List.range 16
  | 159,6=>List.range 24
  | 162,1=>List.range 9
  | 164,1=>List.range 11
  | _,_=>[]
def rr (a:Nat):Nat→PT→PT
  | 0,t=>t
  | n + 1,t => .rd a (rr (a + 1) n t)
def cfgA.tree (f k:Nat):PT :=
  match f,k with
  | 3,24=>rr 0 16 .done
  | 4,21=>rr 0 23 (.mv 23 (rr 24 38 (.mv 62 (.mv 63 (rr 64 4 (.mv 68 (rr 69 3 (.mv 72 .done .stop)) .stop)) .stop) .stop)) .stop)
  | 5,12=>rr 0 2 (rr 3 2 (.mv 2 (.mv 5 (.mv 6 (.rd 7 .done) .stop) .stop) .stop))
  | 5,15=>rr 0 3 (rr 4 3 (.mv 3 (.mv 7 (.mv 8 (.rd 9 .done) .stop) .stop) .stop))
  | 5,19=>rr 0 5 (.rd 6 (.mv 5 (.mv 7 (rr 8 2 .done) .stop) .stop))
  | 5,30=>rr 0 35 (.rd 36 (.mv 35 (.mv 37 (rr 38 12 .done) .stop) .stop))
  | 5,35=>rr 0 4 (rr 5 7 (.mv 4 (.mv 12 (.rd 13 .done) .stop) .stop))
  | 6,11=>rr 0 11 (.mv 11 .done .stop)
  | 6,19=>rr 0 7 (.mv 7 (rr 8 3 (.mv 11 (.mv 12 .done .stop) .stop)) .stop)
  | 6,22 => .rd 0 (rr 6 8 (.mv 1 (rr 2 4 (.rd 14 (.mv 15 .done .stop))) .stop))
  | 7,11=>rr 0 11 (.mv 11 .done .stop)
  | 7,19=>rr 0 6 (.mv 6 (.rd 7 .done) .stop)
  | 7,20=>rr 0 11 (.mv 11 .done .stop)
  | 8,11=>rr 0 11 (.mv 11 .done .stop)
  | 8,16=>rr 0 7 (.mv 7 (rr 8 3 (.mv 11 (.mv 12 .done .stop) .stop)) .stop)
  | 8,17=>rr 0 19 (.mv 19 (rr 20 17 (.mv 37 (rr 38 3 .done) .stop)) .stop)
  | 8,21=>rr 0 4 (rr 5 4 (.mv 4 (.mv 9 (.mv 10 (.mv 11 .done .stop) .stop) .stop) .stop))
  | 9,11=>rr 0 11 (.mv 11 .done .stop)
  | 9,19=>rr 0 11 (.mv 11 .done .stop)
  | 10,11=>rr 0 11 (.mv 11 .done .stop)
  | 11,15=>rr 0 24 (.mv 24 (rr 25 26 (.mv 51 (rr 52 12 (.mv 64 (.mv 65 (.mv 66 (.rd 67 (.mv 68 (rr 69 3 (.rd 73 (.mv 72 (.mv 74 (.mv 75 (rr 76 3 (.mv 79 .done .stop)) .stop) .stop) .stop))) .stop)) .stop) .stop) .stop)) .stop)) .stop)
  | 12,16=>rr 0 5 (rr 6 5 (.mv 5 (.mv 11 (.rd 12 (.mv 13 .done .stop)) .stop) .stop))
  | 12,18=>rr 0 3 (rr 4 3 (.mv 3 (.mv 7 (.rd 8 (.mv 9 .done .stop)) .stop) .stop))
  | 12,23=>rr 0 28 (rr 29 5 (.mv 28 (.mv 34 (.mv 35 (rr 36 4 (.rd 41 (.mv 40 (.mv 42 (.mv 43 (rr 44 2 .done) .stop) .stop) .stop))) .stop) .stop) .stop))
  | 16,3=>rr 0 10 (.mv 10 (.mv 11 (.mv 12 .done .stop) .stop) .stop)
  | 16,10=>rr 0 7 (.mv 7 (.mv 8 .done .stop) .stop)
  | 16,14=>rr 0 8 (.mv 8 .done .stop)
  | 17,5=>rr 0 6 (.mv 6 .done .stop)
  | 19,1=>rr 0 9 (.mv 9 (.mv 10 .done .stop) .stop)
  | 28,15=>rr 0 20 .done
  | 28,18=>rr 0 8 (rr 9 2 (rr 12 6 (.mv 8 (.mv 11 (.mv 18 (rr 19 2 (.mv 21 .done .stop)) .stop) .stop) .stop)))
  | 32,1=>rr 0 9 (.mv 9 (.mv 10 .done .stop) .stop)
  | 32,2=>rr 0 11 (.mv 11 (rr 12 2 .done) .stop)
  | 34,5=>rr 0 12 (.mv 12 (rr 13 2 .done) .stop)
  | 39,6=>rr 0 3 (.rd 4 (.mv 3 (.mv 5 .done .stop) .stop))
  | 39,16=>rr 0 7 (.mv 7 .done .stop)
  | 40,10=>rr 0 4 (rr 5 21 (.mv 4 (.mv 26 (rr 27 2 (.mv 29 .done .stop)) .stop) .stop))
  | 41,1=>rr 0 11 .done
  | 41,6=>rr 0 15 .done
  | 42,1=>rr 0 2 (.rd 3 (.mv 2 (.mv 4 (rr 5 3 (.mv 8 (.mv 9 (.mv 10 .done .stop) .stop) .stop)) (.mv 8 (.mv 4 (rr 5 3 (.mv 9 (.mv 10 .done .stop) .stop)) .stop) .stop)) (.mv 8 (.mv 2 (.mv 4 (rr 5 3 (.mv 9 (.mv 10 .done .stop) .stop)) .stop) .stop) .stop)))
  | 45,6=>rr 0 9 .done
  | 47,4=>rr 0 7 .done
  | 47,6=>rr 0 7 .done
  | 48,11=>rr 0 6 (.mv 6 .done .stop)
  | 49,7=>rr 0 5 (.mv 5 .done .stop)
  | 53,6=>rr 0 9 .done
  | 55,8=>rr 0 18 (.mv 18 (.mv 19 .done .stop) .stop)
  | 56,5=>rr 0 10 (.mv 10 (rr 11 3 (.mv 14 (.mv 15 (.mv 16 .done .stop) .stop) .stop)) (.mv 14 (.mv 10 (rr 11 3 (.mv 15 (.mv 16 .done .stop) .stop)) .stop) .stop))
  | 56,6=>rr 0 10 (.mv 10 (.mv 11 .done .stop) .stop)
  | 59,6=>rr 0 6 (.mv 6 (rr 7 3 (.mv 10 (.mv 11 .done .stop) .stop)) .stop)
  | 59,7=>rr 0 8 (.mv 8 (.rd 9 .done) .stop)
  | 60,5=>rr 0 22 .done
  | 66,7=>rr 0 6 (.mv 6 (.rd 7 .done) .stop)
  | 68,1=>rr 0 4 (rr 5 4 (.mv 4 (.mv 9 (.rd 10 (.mv 11 (.mv 12 .done .stop) .stop)) .stop) .stop))
  | 73,11=>rr 0 11 .done
  | 74,6=>rr 0 9 .done
  | 75,7=>rr 0 14 .done
  | 78,1=>rr 0 6 (.mv 6 .done .stop)
  | 80,5=>rr 0 8 .done
  | 81,8=>rr 0 8 (.mv 8 (rr 9 2 (.mv 11 .done .stop)) .stop)
  | 89,3=>rr 0 12 (.mv 12 (.mv 13 .done .stop) .stop)
  | 92,1=>rr 0 2 (.mv 2 (.mv 3 .done .stop) .stop)
  | 93,5=>rr 0 14 (.mv 14 (rr 15 2 .done) .stop)
  | 93,7=>rr 0 16 .done
  | 93,11=>rr 0 8 (rr 9 2 (rr 12 6 (.mv 8 (.mv 11 (.mv 18 (rr 19 2 (.mv 21 .done .stop)) .stop) .stop) .stop)))
  | 94,5=>rr 0 9 (.mv 9 (.rd 10 .done) .stop)
  | 95,2=>rr 0 17 (.mv 17 (rr 18 2 .done) .stop)
  | 95,5=>rr 0 19 .done
  | 97,1=>rr 0 10 (.mv 10 (.mv 11 .done .stop) .stop)
  | 107,1=>rr 0 5 (.mv 5 (rr 6 2 (.mv 8 (.mv 9 .done .stop) .stop)) .stop)
  | 108,11=>rr 0 8 (.mv 8 .done .stop)
  | 108,15=>rr 0 8 (.mv 8 .done .stop)
  | 118,17=>rr 0 12 (.mv 12 (rr 13 2 .done) .stop)
  | 124,5=>rr 0 6 (.mv 6 (.rd 7 .done) .stop)
  | 124,8=>rr 0 11 (.mv 11 (rr 12 2 (.mv 14 (.mv 15 .done .stop) .stop)) .stop)
  | 129,17=>rr 0 13 (.mv 13 (rr 14 3 .done) .stop)
  | 131,4=>rr 0 13 (.mv 13 (.rd 14 .done) .stop)
  | 131,6=>rr 0 15 (.mv 15 (.rd 16 (.mv 17 .done .stop)) .stop)
  | 132,10=>rr 0 17 (.mv 17 (.rd 18 (.mv 19 .done .stop)) .stop)
  | 133,10=>rr 0 17 (.mv 17 (.rd 18 (.mv 19 .done .stop)) .stop)
  | 135,3=>rr 0 13 (.mv 13 (.rd 14 (.mv 15 .done .stop)) .stop)
  | 136,5=>rr 0 13 (.mv 13 (rr 14 2 .done) .stop)
  | 136,11=>rr 0 15 (.mv 15 (.rd 16 (.mv 17 .done .stop)) .stop)
  | 136,16=>rr 0 9 (.mv 9 (.rd 10 .done) .stop)
  | 136,17=>rr 0 15 (.mv 15 (.rd 16 (.mv 17 .done .stop)) .stop)
  | 136,22=>rr 0 9 (.mv 9 (.rd 10 .done) .stop)
  | 136,23=>rr 0 15 (.mv 15 (.rd 16 (.mv 17 .done .stop)) .stop)
  | 138,1=>rr 0 13 (.mv 13 (.rd 14 (.mv 15 .done .stop)) .stop)
  | 138,3=>rr 0 12 (.mv 12 (rr 13 2 .done) .stop)
  | 138,5=>rr 0 12 (.mv 12 (.rd 13 .done) .stop)
  | 138,8=>rr 0 13 (.mv 13 (.rd 14 (.mv 15 .done .stop)) .stop)
  | 139,1=>rr 0 13 (.mv 13 (.rd 14 (.mv 15 .done .stop)) .stop)
  | 139,3=>rr 0 12 (.mv 12 (.rd 13 .done) .stop)
  | 139,5=>rr 0 12 (.mv 12 (rr 13 2 .done) .stop)
  | 139,8=>rr 0 13 (.mv 13 (.rd 14 (.mv 15 .done .stop)) .stop)
  | 139,10=>rr 0 13 (.mv 13 (.rd 14 (.mv 15 .done .stop)) .stop)
  | 139,13=>rr 0 12 (.mv 12 (.rd 13 .done) .stop)
  | 139,15=>rr 0 12 (.mv 12 (rr 13 2 .done) .stop)
  | 139,18=>rr 0 13 (.mv 13 (.rd 14 (.mv 15 .done .stop)) .stop)
  | 139,21=>rr 0 13 (.mv 13 (.rd 14 (.mv 15 .done .stop)) .stop)
  | 144,4=>rr 0 14 (.mv 14 (rr 15 2 .done) .stop)
  | 144,6=>rr 0 15 (.mv 15 (.rd 16 (.mv 17 .done .stop)) .stop)
  | 145,10=>rr 0 17 (.mv 17 (.rd 18 (.mv 19 .done .stop)) .stop)
  | 146,10=>rr 0 17 (.mv 17 (.rd 18 (.mv 19 .done .stop)) .stop)
  | 148,3=>rr 0 13 (.mv 13 (.rd 14 (.mv 15 .done .stop)) .stop)
  | 149,5=>rr 0 14 (.mv 14 (rr 15 3 .done) .stop)
  | 149,11=>rr 0 15 (.mv 15 (.rd 16 (.mv 17 .done .stop)) .stop)
  | 149,16=>rr 0 10 (.mv 10 (rr 11 2 .done) .stop)
  | 149,17=>rr 0 15 (.mv 15 (.rd 16 (.mv 17 .done .stop)) .stop)
  | 149,22=>rr 0 10 (.mv 10 (rr 11 2 .done) .stop)
  | 149,23=>rr 0 15 (.mv 15 (.rd 16 (.mv 17 .done .stop)) .stop)
  | 150,1=>rr 0 13 (.mv 13 (.rd 14 (.mv 15 .done .stop)) .stop)
  | 150,3=>rr 0 13 (.mv 13 (rr 14 3 .done) .stop)
  | 150,5=>rr 0 13 (.mv 13 (rr 14 2 .done) .stop)
  | 150,8=>rr 0 13 (.mv 13 (.rd 14 (.mv 15 .done .stop)) .stop)
  | 151,1=>rr 0 13 (.mv 13 (.rd 14 (.mv 15 .done .stop)) .stop)
  | 151,3=>rr 0 13 (.mv 13 (rr 14 2 .done) .stop)
  | 151,5=>rr 0 13 (.mv 13 (rr 14 3 .done) .stop)
  | 151,8=>rr 0 13 (.mv 13 (.rd 14 (.mv 15 .done .stop)) .stop)
  | 151,10=>rr 0 13 (.mv 13 (.rd 14 (.mv 15 .done .stop)) .stop)
  | 151,13=>rr 0 13 (.mv 13 (rr 14 2 .done) .stop)
  | 151,15=>rr 0 13 (.mv 13 (rr 14 3 .done) .stop)
  | 151,18=>rr 0 13 (.mv 13 (.rd 14 (.mv 15 .done .stop)) .stop)
  | 151,21=>rr 0 13 (.mv 13 (.rd 14 (.mv 15 .done .stop)) .stop)
  | 152,3=>rr 0 18 (.mv 18 (.rd 19 .done) .stop)
  | 152,5=>rr 0 12 (.mv 12 (.rd 13 .done) .stop)
  | 152,6=>rr 0 21 (.mv 21 (.rd 22 (.mv 23 .done .stop)) .stop)
  | 154,1=>rr 0 9 (.mv 9 .done .stop)
  | 154,2=>rr 0 9 (.mv 9 .done .stop)
  | 154,3=>rr 0 9 (.mv 9 .done .stop)
  | 158,3=>rr 0 13 (.mv 13 (.rd 14 (.mv 15 .done .stop)) .stop)
  | 159,3=>rr 0 19 (.mv 19 (rr 20 2 .done) .stop)
  | 159,5=>rr 0 13 (.mv 13 (rr 14 2 .done) .stop)
  | 159,6=>rr 0 21 (.mv 21 (.rd 22 (.mv 23 .done .stop)) .stop)
  | 162,1=>rr 0 8 (.mv 8 .done .stop)
  | 164,1=>rr 0 9 (.mv 9 (.rd 10 .done) .stop)
  | _,_ => .stop
def cfgA.thaw (f d:Nat):Bool:=(f == 64 && d == 6) || (f == 90 && d == 8)
def cfgA.freeze (f d:Nat):Bool:=(f == 64 && d == 8) || (f == 90 && d == 11)
def cfgA:Cfg:={ heap:=cfgA.heap,take:=cfgA.take,thaw:=cfgA.thaw,freeze:=cfgA.freeze,mask:=cfgA.mask,plan:=cfgA.plan,prim:=fun f=>match f with | 163=>some primIndexByte | 130=>some primCompare | _=>none,keep:=fun f=>[117,128].contains f }
theorem plans:plansOK Try.prog cfgA=true:=by kernel_rfl
theorem trees:treesOK Try.prog cfgA cfgA.tree=true:=by kernel_rfl
theorem named:(Try.prog.funcs.all fun fn=>fn.name != "runtime.NumGoroutine")=true:=by kernel_rfl
theorem names_ok:∀(f:FuncId) (fn:Func),Try.prog.funcs[f]? = some fn→fn.name≠"runtime.NumGoroutine" := by
  intro f fn hf
  have:=Array.all_eq_true_iff_forall_mem.1 named fn (Array.mem_of_getElem? hf)
  simpa using this
theorem prims:PrimOK Try.prog cfgA:=by
  intro f p hp args σ v σ' h g w ow xs r
  simp only [cfgA] at hp
  split at hp
  · injection hp with hp; subst hp
    exact indexByte_prim Try.func163 (by kernel_rfl) (by kernel_rfl) (by kernel_rfl) (by kernel_rfl) h r
  · injection hp with hp; subst hp
    exact compare_prim Try.func130 (by kernel_rfl) (by kernel_rfl) (by kernel_rfl) (by kernel_rfl) h r
  · cases hp
theorem sound (n:Nat):Sound Try.prog (ev Try.prog cfgA n):=ev_sound Try.checked.mixed plans names_ok prims n
abbrev E:CallW:=EvW Try.prog cfgA cfgA.tree
theorem E_sound {t:Tgt} {args:List AV} {σ:St} {K:AV→St→Prop} (h:E t args σ K):ModelW Try.prog t args σ K:=EvW_sound Try.checked.mixed trees names_ok prims h
end Go.AM
namespace Go.AM
open Go Go.Proofs
set_option maxRecDepth 20000
theorem low_prep_New:lowFn Try.prog cfgA cfgA.tree 14=some (C_prep_New):=by kernel_rfl
theorem low_hourglasslaw13_at:lowFn Try.prog cfgA cfgA.tree 21=some (C_hourglasslaw13_at):=by kernel_rfl
theorem low_hourglassref10_Of:lowFn Try.prog cfgA cfgA.tree 69=some (C_hourglassref10_Of):=by kernel_rfl
theorem low_hourglasslaw13_k:lowFn Try.prog cfgA cfgA.tree 23=some (C_hourglasslaw17_k 69):=by kernel_rfl
theorem low_hourglasslaw13_of:lowFn Try.prog cfgA cfgA.tree 20=some (C_hourglasslaw13_of (cs [21,23])):=by kernel_rfl
theorem low_stamp_Good:lowFn Try.prog cfgA cfgA.tree 71=some (C_stamp_Good):=by kernel_rfl
theorem low_store_Many:lowFn Try.prog cfgA cfgA.tree 76=some (C_store_Many):=by kernel_rfl
theorem low_key_text:lowFn Try.prog cfgA cfgA.tree 123=some (C_key_text):=by kernel_rfl
theorem low_internal_stringslite_IndexByte:lowFn Try.prog cfgA cfgA.tree 157=some (C_internal_stringslite_IndexByte 163):=by kernel_rfl
theorem low_strings_IndexByte:lowFn Try.prog cfgA cfgA.tree 142=some (C_strings_IndexByte 157):=by kernel_rfl
theorem low_key_Of:lowFn Try.prog cfgA cfgA.tree 122=some (C_key_Of 142):=by kernel_rfl
theorem low_key_Good:lowFn Try.prog cfgA cfgA.tree 106=some (C_key_Good 123 122):=by kernel_rfl
theorem low_store_Good:lowFn Try.prog cfgA cfgA.tree 77=some (C_store_Good (cs [106])):=by kernel_rfl
theorem low_prep_May:lowFn Try.prog cfgA cfgA.tree 70=some (C_prep_May (cs [71,76,77])):=by kernel_rfl
theorem low_cmp_isNaN_int64:lowFn Try.prog cfgA cfgA.tree 120=some (C_cmp_isNaN_int64):=by kernel_rfl
theorem low_cmp_Compare_int64:lowFn Try.prog cfgA cfgA.tree 103=some (C_cmp_Compare_int64 (cs [120])):=by kernel_rfl
theorem low_cmp_isNaN_uint8:lowFn Try.prog cfgA cfgA.tree 121=some (C_cmp_isNaN_uint8):=by kernel_rfl
theorem low_cmp_Compare_uint8:lowFn Try.prog cfgA cfgA.tree 104=some (C_cmp_Compare_uint8 (cs [121])):=by kernel_rfl
theorem low_cmp_Or_int:lowFn Try.prog cfgA cfgA.tree 102=some (C_cmp_Or_int):=by kernel_rfl
theorem low_stamp_Cmp:lowFn Try.prog cfgA cfgA.tree 68=some (C_stamp_Cmp (cs [103,104,102])):=by kernel_rfl
theorem low_prep_Good:lowFn Try.prog cfgA cfgA.tree 25=some (C_prep_Good (cs [70,71,68])):=by kernel_rfl
theorem low_prep_Table_Held_1:lowFn Try.prog cfgA cfgA.tree 97=some (C_prep_Table_Held_1):=by kernel_rfl
theorem low_slices_IndexFunc_Write:lowFn Try.prog cfgA cfgA.tree 116=some (C_slices_IndexFunc_Write):=by kernel_rfl
theorem low_slices_ContainsFunc_Write:lowFn Try.prog cfgA cfgA.tree 96=some (C_slices_ContainsFunc_Write (cs [116])):=by kernel_rfl
theorem low_prep_Table_Held:lowFn Try.prog cfgA cfgA.tree 61=some (C_prep_Table_Held (cs [97,96])):=by kernel_rfl
theorem low_prep_Table_Full:lowFn Try.prog cfgA cfgA.tree 62=some (C_prep_Table_Full):=by kernel_rfl
theorem low_slices_Clone_Write:lowFn Try.prog cfgA cfgA.tree 98=some (C_slices_Clone_Write):=by kernel_rfl
theorem low_prep_copied:lowFn Try.prog cfgA cfgA.tree 63=some (C_prep_copied (cs [98])):=by kernel_rfl
theorem low_prep_Table_Add:lowFn Try.prog cfgA cfgA.tree 16=some (C_prep_Table_Add (cs [25,61,62,63])):=by kernel_rfl
theorem low_prep_Table_Blocks:lowFn Try.prog cfgA cfgA.tree 32=some (C_prep_Table_Blocks (cs [68])):=by kernel_rfl
theorem low_maps_Keys_Entry_1:lowFn Try.prog cfgA cfgA.tree 101=some (C_maps_Keys_Entry_1):=by kernel_rfl
theorem low_maps_Keys_Entry:lowFn Try.prog cfgA cfgA.tree 65=some (C_maps_Keys_Entry (cs [101])):=by kernel_rfl
theorem low_slices_AppendSeq_int64:lowFn Try.prog cfgA cfgA.tree 117=some (C_slices_AppendSeq_int64 (cs [117]) (rfAt Try.prog 117 0).1 (rfAt Try.prog 117 0).2):=by kernel_rfl
theorem tr_slices_AppendSeq_int64_a0:treesIn cfgA cfgA.tree 117 (rfAt Try.prog 117 0).1=true:=by kernel_rfl
theorem tr_slices_AppendSeq_int64_b0:treesIn cfgA cfgA.tree 117 (rfAt Try.prog 117 0).2=true:=by kernel_rfl
theorem low_slices_AppendSeq_int64_a0:lowCode Try.prog cfgA cfgA.tree 117 0 (rfAt Try.prog 117 0).1=(C_slices_AppendSeq_int64_a0).code:=by kernel_rfl
theorem low_slices_AppendSeq_int64_b0:lowCode Try.prog cfgA cfgA.tree 117 0 (rfAt Try.prog 117 0).2=(C_slices_AppendSeq_int64_b0).code:=by kernel_rfl
theorem low_slices_Collect_int64:lowFn Try.prog cfgA cfgA.tree 99=some (C_slices_Collect_int64 (cs [117])):=by kernel_rfl
theorem low_math_bits_Len64:lowFn Try.prog cfgA cfgA.tree 141=some (C_math_bits_Len64):=by kernel_rfl
theorem low_math_bits_Len:lowFn Try.prog cfgA cfgA.tree 119=some (C_math_bits_Len (cs [140,141])):=by kernel_rfl
theorem low_cmp_Less_int64:lowFn Try.prog cfgA cfgA.tree 137=some (C_cmp_Less_int64 (cs [120])):=by kernel_rfl
theorem low_slices_insertionSortOrdered_int64:lowFn Try.prog cfgA cfgA.tree 131=some (C_slices_insertionSortOrdered_int64 (cs [137])):=by kernel_rfl
theorem low_slices_siftDownOrdered_int64:lowFn Try.prog cfgA cfgA.tree 152=some (C_slices_siftDownOrdered_int64 (cs [137])):=by kernel_rfl
theorem low_slices_heapSortOrdered_int64:lowFn Try.prog cfgA cfgA.tree 132=some (C_slices_heapSortOrdered_int64 (cs [152])):=by kernel_rfl
theorem low_slices_nextPowerOfTwo:lowFn Try.prog cfgA cfgA.tree 153=some (C_slices_nextPowerOfTwo (cs [119])):=by kernel_rfl
theorem low_slices_xorshift_Next:lowFn Try.prog cfgA cfgA.tree 154=some (C_slices_xorshift_Next):=by kernel_rfl
theorem low_slices_breakPatternsOrdered_int64:lowFn Try.prog cfgA cfgA.tree 133=some (C_slices_breakPatternsOrdered_int64 (cs [153,154])):=by kernel_rfl
theorem low_slices_order2Ordered_int64:lowFn Try.prog cfgA cfgA.tree 162=some (C_slices_order2Ordered_int64 (cs [137])):=by kernel_rfl
theorem low_slices_medianOrdered_int64:lowFn Try.prog cfgA cfgA.tree 156=some (C_slices_medianOrdered_int64 (cs [162])):=by kernel_rfl
theorem low_slices_medianAdjacentOrdered_int64:lowFn Try.prog cfgA cfgA.tree 155=some (C_slices_medianAdjacentOrdered_int64 (cs [156])):=by kernel_rfl
theorem low_slices_choosePivotOrdered_int64:lowFn Try.prog cfgA cfgA.tree 134=some (C_slices_choosePivotOrdered_int64 (cs [155,156])):=by kernel_rfl
theorem low_slices_reverseRangeOrdered_int64:lowFn Try.prog cfgA cfgA.tree 135=some (C_slices_reverseRangeOrdered_int64):=by kernel_rfl
theorem low_slices_partialInsertionSortOrdered_int64:lowFn Try.prog cfgA cfgA.tree 136=some (C_slices_partialInsertionSortOrdered_int64 (cs [137])):=by kernel_rfl
theorem low_slices_partitionEqualOrdered_int64:lowFn Try.prog cfgA cfgA.tree 138=some (C_slices_partitionEqualOrdered_int64 (cs [137])):=by kernel_rfl
theorem low_slices_partitionOrdered_int64:lowFn Try.prog cfgA cfgA.tree 139=some (C_slices_partitionOrdered_int64 (cs [137])):=by kernel_rfl
theorem low_slices_pdqsortOrdered_int64:lowFn Try.prog cfgA cfgA.tree 118=some (C_slices_pdqsortOrdered_int64 (cs [131,132,133,134,135,136,137,138,139,118])):=by kernel_rfl
theorem low_slices_Sort_int64:lowFn Try.prog cfgA cfgA.tree 100=some (C_slices_Sort_int (cs [119,118])):=by kernel_rfl
theorem low_slices_Sorted_int64:lowFn Try.prog cfgA cfgA.tree 64=some (C_slices_Sorted_int64 (cs [99,100])):=by kernel_rfl
theorem low_prep_Table_All:lowFn Try.prog cfgA cfgA.tree 18=some (C_prep_Table_All (cs [65,64,63])):=by kernel_rfl
theorem low_hourglasslaw13_awake:lowFn Try.prog cfgA cfgA.tree 13=some (C_hourglasslaw13_awake (cs [14,20,16,23,32,21,18])):=by kernel_rfl
theorem low_hourglasslaw13_long:lowFn Try.prog cfgA cfgA.tree 15=some (C_hourglasslaw17_long):=by kernel_rfl
theorem low_hourglasslaw13_ent:lowFn Try.prog cfgA cfgA.tree 27=some (C_hourglasslaw13_ent):=by kernel_rfl
theorem low_hourglassref6_Good:lowFn Try.prog cfgA cfgA.tree 72=some (C_hourglassref6_Good):=by kernel_rfl
theorem low_hourglassref6_Cmp:lowFn Try.prog cfgA cfgA.tree 44=some (C_hourglassref6_Cmp):=by kernel_rfl
theorem low_hourglassref10_Good:lowFn Try.prog cfgA cfgA.tree 105=some (C_hourglassref10_Good):=by kernel_rfl
theorem low_hourglassref10_MayWrites:lowFn Try.prog cfgA cfgA.tree 73=some (C_hourglassref10_MayWrites (cs [105])):=by kernel_rfl
theorem low_hourglassref10_GoodEntry:lowFn Try.prog cfgA cfgA.tree 26=some (C_hourglassref10_GoodEntry (cs [72,44,73])):=by kernel_rfl
theorem low_hourglassref10_Table_Has:lowFn Try.prog cfgA cfgA.tree 35=some (C_hourglassref10_Table_Has):=by kernel_rfl
theorem low_hourglassref10_Table_holder:lowFn Try.prog cfgA cfgA.tree 75=some (C_hourglassref10_Table_holder):=by kernel_rfl
theorem low_hourglassref10_Table_Holder:lowFn Try.prog cfgA cfgA.tree 31=some (C_hourglassref10_Table_Holder (cs [75])):=by kernel_rfl
theorem low_hourglassref10_Table_Add:lowFn Try.prog cfgA cfgA.tree 28=some (C_hourglassref10_Table_Add (cs [26,35,31])):=by kernel_rfl
theorem low_prep_Table_Drop:lowFn Try.prog cfgA cfgA.tree 17=some (C_prep_Table_Drop):=by kernel_rfl
theorem low_hourglassref10_Table_Drop:lowFn Try.prog cfgA cfgA.tree 29=some (C_hourglassref10_Table_Drop (cs [35])):=by kernel_rfl
theorem low_hourglassref10_Writes:lowFn Try.prog cfgA cfgA.tree 74=some (C_hourglassref10_Writes):=by kernel_rfl
theorem low_hourglassref10_SameEntry:lowFn Try.prog cfgA cfgA.tree 30=some (C_hourglassref10_SameEntry (cs [74])):=by kernel_rfl
theorem low_prep_Table_Holder:lowFn Try.prog cfgA cfgA.tree 19=some (C_prep_Table_Holder):=by kernel_rfl
theorem low_hourglassref10_Table_Blocks:lowFn Try.prog cfgA cfgA.tree 33=some (C_hourglassref10_Table_Blocks (cs [75,44])):=by kernel_rfl
theorem low_prep_Table_Least_1:lowFn Try.prog cfgA cfgA.tree 67=some (C_prep_Table_Least_1 (cs [68])):=by kernel_rfl
theorem low_slices_MinFunc_Entry:lowFn Try.prog cfgA cfgA.tree 66=some (C_slices_MinFunc_Entry):=by kernel_rfl
theorem low_prep_Table_Least:lowFn Try.prog cfgA cfgA.tree 22=some (C_prep_Table_Least (cs [18,66,67])):=by kernel_rfl
theorem low_hourglassref10_Table_Least:lowFn Try.prog cfgA cfgA.tree 34=some (C_hourglassref10_Table_Least (cs [44])):=by kernel_rfl
theorem low_prep_Table_Has:lowFn Try.prog cfgA cfgA.tree 24=some (C_prep_Table_Has (cs [63])):=by kernel_rfl
theorem low_hourglasslaw13_PrepPlays:lowFn Try.prog cfgA cfgA.tree 5=some (C_hourglasslaw13_PrepPlays (cs [13,14,15,25,27,26,16,28,17,29,30,19,31,32,33,22,34,24,35,18])):=by kernel_rfl
end Go.AM
namespace Go.AM
open Go Go.Proofs
theorem EC:LeC E E:=EvW.le
theorem EW:WkC E:=fun _ _ _ _ _ h h2=>EvW.args h h2
end Go.AM
namespace Go.AM
open Go Go.Proofs
theorem q_prep_New:NewTS E 14:=fun S H K hK=>runL_ok rfl low_prep_New (prep_New_spec _ S H K hK)
theorem q_hourglasslaw13_at:∀t:Int,FnS E 21 [.s (.int .i64 t)] (.agg (stc ⟨t,0⟩)):=fun t S H K hK=>runL_ok rfl low_hourglasslaw13_at (law13_at_spec _ t S H K hK)
theorem q_hourglassref10_Of:OfR E 69:=fun s S H K hK=>runL_ok rfl low_hourglassref10_Of (ref10_Of_spec EC _ s S H K hK)
theorem q_hourglasslaw13_k:kS E 23:=fun s S H K hK=>runL_ok rfl low_hourglasslaw13_k (law_k_spec EC _ q_hourglassref10_Of s S H K hK)
theorem q_hourglasslaw13_of:OfES E 20:=fun id s t S H K hK=>EvW.res (runL_ok rfl low_hourglasslaw13_of (law13_of_spec _ q_hourglasslaw13_at q_hourglasslaw13_k id s t S H K hK))
theorem q_stamp_Good:∀s:Stp,FnS E 71 [.agg (stc s)] (.bool (goodS s)):=fun s S H K hK=>runL_ok rfl low_stamp_Good (stamp_Good_spec _ s S H K hK)
theorem q_store_Many:∀l:List Wr,FnS E 76 [lstW l] (.bool (decide (1≤l.length) && decide (l.length≤16))):=fun l S H K hK=>runL_ok rfl low_store_Many (store_Many_spec _ l S H K hK)
theorem q_key_text:TextS E 123:=fun k S H K hK=>runL_ok rfl low_key_text (key_text_spec EC _ k S H K hK)
theorem q_internal_bytealg_IndexByteString:IdxS E 163:=fun l S H K hK=>primW (p:=primIndexByte) rfl (v := .i (Lib.indexByte l 0)) (σ':=⟨S,H⟩) rfl hK
theorem q_internal_stringslite_IndexByte:IdxS E 157:=fun l S H K hK=>runL_ok rfl low_internal_stringslite_IndexByte (stringslite_IndexByte_spec EC _ q_internal_bytealg_IndexByteString l S H K hK)
theorem q_strings_IndexByte:IdxS E 142:=fun l S H K hK=>runL_ok rfl low_strings_IndexByte (strings_IndexByte_spec EC _ q_internal_stringslite_IndexByte l S H K hK)
theorem q_key_Of:OfK E 122:=fun s S H K hK=>runL_ok rfl low_key_Of (key_Of_spec EC _ q_strings_IndexByte s S H K hK)
theorem q_key_Good:BoolK goodK E 106:=fun k S H K hK=>runL_ok rfl low_key_Good (key_Good_spec EC _ q_key_text q_key_Of k S H K hK)
theorem q_store_Good:GoodWS E 77:=fun l S H K hl hK=>runL_ok rfl low_store_Good (store_Good_spec EC _ q_key_Good l S H K hl hK)
theorem q_prep_May:EntS mayE E 70:=fun e S H K he hK=>runL_ok rfl low_prep_May (prep_May_spec _ q_stamp_Good q_store_Many q_store_Good e S H K he hK)
theorem q_cmp_isNaN_int64:∀x:Int,FnS E 120 [.s (.int .i64 x)] (.bool false):=fun x S H K hK=>runL_ok rfl low_cmp_isNaN_int64 (isNaN_spec _ x S H K hK)
theorem q_cmp_Compare_int64:∀x y:Int,FnS E 103 [.s (.int .i64 x),.s (.int .i64 y)] (.i (cmpI x y)):=fun x y S H K hK=>runL_ok rfl low_cmp_Compare_int64 (Compare_spec _ q_cmp_isNaN_int64 x y S H K hK)
theorem q_cmp_isNaN_uint8:∀x:UInt8,FnS E 121 [u8 x] (.bool false):=fun x S H K hK=>runL_ok rfl low_cmp_isNaN_uint8 (isNaN8_spec _ x S H K hK)
theorem q_cmp_Compare_uint8:∀x y:UInt8,FnS E 104 [u8 x,u8 y] (.i (cmpU x y)):=fun x y S H K hK=>runL_ok rfl low_cmp_Compare_uint8 (Compare8_spec _ q_cmp_isNaN_uint8 x y S H K hK)
theorem q_cmp_Or_int:∀x y:Int,FnS E 102 [.list .sh 1 [.i x,.i y]] (.i (if x≠0 then x else y)):=fun x y S H K hK=>runL_ok rfl low_cmp_Or_int (Or_spec EC _ x y S H K hK)
theorem q_stamp_Cmp:CmpSS E 68:=fun a b S H K hK=>runL_ok rfl low_stamp_Cmp (stamp_Cmp_spec EC EW _ q_cmp_Compare_int64 q_cmp_Compare_uint8 q_cmp_Or_int a b S H K hK)
theorem q_prep_Good:EntS goodE E 25:=fun e S H K he hK=>runL_ok rfl low_prep_Good (prep_Good_spec _ q_prep_May q_stamp_Good q_stamp_Cmp e S H K he hK)
theorem q_prep_Table_Held_1:Held1S E 97:=fun w r h h1 h2 tb hl S H K hr t hK=>runL_ok rfl low_prep_Table_Held_1 (prep_Held1_spec _ w r h h1 h2 tb hl S H K hr t hK)
theorem q_slices_IndexFunc_Write:IdxFS E 116:=fun l g cp p S H K hl hc1 hc2 hu hask G0 hK=>runL_ok rfl low_slices_IndexFunc_Write (IndexFunc_spec EC _ l g cp p S H K hl hc1 hc2 hu hask G0 hK)
theorem q_slices_ContainsFunc_Write:ContS E 96:=fun l g cp p S H K hl hc1 hc2 hu hask G0 hK=>runL_ok rfl low_slices_ContainsFunc_Write (ContainsFunc_spec _ q_slices_IndexFunc_Write l g cp p S H K hl hc1 hc2 hu hask G0 hK)
theorem q_prep_Table_Held:HeldS E 61:=fun ws h h1 h2 tb hl S H K hw t hK=>runL_ok rfl low_prep_Table_Held (prep_Held_spec _ q_prep_Table_Held_1 q_slices_ContainsFunc_Write ws h h1 h2 tb hl S H K hw t hK)
theorem q_prep_Table_Full:FullS E 62:=fun h h1 h2 tb hl S H K t hK=>runL_ok rfl low_prep_Table_Full (prep_Full_spec _ h h1 h2 tb hl S H K t hK)
theorem q_slices_Clone_Write:CloneWS E 98:=fun l S H K hl hK=>EvW.res (runL_ok rfl low_slices_Clone_Write (slices_CloneW_spec EC _ l S H _ hl fun v hv=>⟨_,.inr (cloneW_wk hv),hK⟩))
theorem q_prep_copied:CopS E 63:=fun e S H K he hK=>runL_ok rfl low_prep_copied (prep_copied_spec _ q_slices_Clone_Write e S H K he hK)
theorem q_prep_Table_Add:AddS E 16:=fun h j1 j2 tb hl e S H K hw t hK=>runL_ok rfl low_prep_Table_Add (prep_Add_spec EC _ q_prep_Good q_prep_Table_Held q_prep_Table_Full q_prep_copied h j1 j2 tb hl e S H K hw t hK)
theorem q_prep_Table_Blocks:BlocksS E 32:=fun h h1 h2 tb hl k s S H K t hK=>runL_ok rfl low_prep_Table_Blocks (prep_Blocks_spec _ q_stamp_Cmp h h1 h2 tb hl k s S H K t hK)
theorem q_maps_Keys_Entry_1:KeysItS E 101:=fun G N h bx hm c es x S K a1 a2 a3 a4 a5 a6 a7 a8=>runL_ok rfl low_maps_Keys_Entry_1 (maps_Keys1_spec EC _ G N h bx hm c es x S K a1 a2 a3 a4 a5 a6 a7 a8)
theorem q_maps_Keys_Entry:KeysS E 65 101:=fun hm S H K hK=>runL_ok rfl low_maps_Keys_Entry (maps_Keys_spec _ hm S H K hK)
theorem round_slices_AppendSeq_int64:RoundOK E Try.prog 117 (rfAt Try.prog 117 0).1 (rfAt Try.prog 117 0).2 (C_slices_AppendSeq_int64_a0).code (C_slices_AppendSeq_int64_b0).code:=roundE tr_slices_AppendSeq_int64_a0 tr_slices_AppendSeq_int64_b0 low_slices_AppendSeq_int64_a0 low_slices_AppendSeq_int64_b0
theorem q_slices_AppendSeq_int64:AppSeqS E 117 101:=fun bx hm cc es x S H K hM hK=>runL_ok rfl low_slices_AppendSeq_int64 (AppendSeq_spec EC _ q_maps_Keys_Entry_1 (by kernel_rfl) round_slices_AppendSeq_int64 bx hm cc es x S H K hM hK)
theorem q_slices_Collect_int64:CollS E 99 101:=fun bx hm cc es x S H K hM hK=>runL_ok rfl low_slices_Collect_int64 (Collect_spec _ q_slices_AppendSeq_int64 bx hm cc es x S H K hM hK)
theorem q_math_bits_Len64:LenS E 141:=fun x hx S H K hK=>runL_ok rfl low_math_bits_Len64 (Len64_spec _ x S H K hx hK)
theorem q_math_bits_Len:LenS E 119:=fun x hx S H K hK=>runL_ok rfl low_math_bits_Len (Len_spec _ q_math_bits_Len64 x S H K hx hK)
theorem q_cmp_Less_int64:LessS E 137:=fun x y S H K hK=>runL_ok rfl low_cmp_Less_int64 (cmp_Less_spec _ q_cmp_isNaN_int64 x y S H K hK)
theorem q_slices_insertionSortOrdered_int64:SrtS E 131 (Sort.insertionSort ltI)∧SrtN E 131:=⟨fun n d a b S H K h1 h2 h3 h4 hK=>runL_ok rfl low_slices_insertionSortOrdered_int64 (insertionSort_spec EC _ q_cmp_Less_int64 n d a b S H K h1 h2 h3 h4 hK),fun S H K hK=>runL_ok rfl low_slices_insertionSortOrdered_int64 (insertionSort_nil EC _ S H K hK)⟩
theorem q_slices_siftDownOrdered_int64:SiftS E 152:=fun n d lo hi first S H K h1 h2 h3 h4 hK=>runL_ok rfl low_slices_siftDownOrdered_int64 (siftDown_spec EC _ q_cmp_Less_int64 n d lo hi first S H K h1 h2 h3 h4 hK)
theorem q_slices_heapSortOrdered_int64:SrtT E 132 (Sort.heapSort ltI):=fun n d a b S H K h1 h2 h3 h4 hK=>runL_ok rfl low_slices_heapSortOrdered_int64 (heapSort_spec EC _ q_slices_siftDownOrdered_int64 n d a b S H K h1 h2 h3 h4 hK)
theorem q_slices_nextPowerOfTwo:NpS E 153:=fun n hn S H K hK=>runL_ok rfl low_slices_nextPowerOfTwo (nextPow_spec _ q_math_bits_Len n S H K hn hK)
theorem q_slices_xorshift_Next:XorS E 154:=fun m r S H K h hK=>runL_ok rfl low_slices_xorshift_Next (xorshift_spec _ m r S H K h hK)
theorem q_slices_breakPatternsOrdered_int64:SrtT E 133 Sort.breakPatterns:=fun n d a b S H K h1 h2 h3 h4 hK=>runL_ok rfl low_slices_breakPatternsOrdered_int64 (breakPatterns_spec EC _ q_slices_nextPowerOfTwo q_slices_xorshift_Next n d a b S H K h1 h2 h3 h4 hK)
theorem q_slices_order2Ordered_int64:Ord2S E 162:=fun n m d a b sw S H K h1 h2 h3 h4 h5 hK=>runL_ok rfl low_slices_order2Ordered_int64 (order2_spec _ q_cmp_Less_int64 n m d a b sw S H K h1 h2 h3 h4 h5 hK)
theorem q_slices_medianOrdered_int64:MedS E 156:=fun n m d a b e sw S H K h0 h1 h2 h3 h4 h5 h6 hK=>runL_ok rfl low_slices_medianOrdered_int64 (median_spec _ q_slices_order2Ordered_int64 n m d a b e sw S H K h0 h1 h2 h3 h4 h5 h6 hK)
theorem q_slices_medianAdjacentOrdered_int64:MadS E 155:=fun n m d a sw S H K h0 h1 h2 h3 h4 h5 h6 hK=>runL_ok rfl low_slices_medianAdjacentOrdered_int64 (medianAdjacent_spec _ q_slices_medianOrdered_int64 n m d a sw S H K h0 h1 h2 h3 h4 h5 h6 hK)
theorem q_slices_choosePivotOrdered_int64:ChpS E 134:=fun n d a b S H K h1 h2 h3 h4 hK=>runL_ok rfl low_slices_choosePivotOrdered_int64 (choosePivot_spec _ q_slices_medianAdjacentOrdered_int64 q_slices_medianOrdered_int64 n d a b S H K h1 h2 h3 h4 hK)
theorem q_slices_reverseRangeOrdered_int64:SrtT E 135 Sort.reverseRange:=fun n d a b S H K h1 h2 h3 h4 hK=>runL_ok rfl low_slices_reverseRangeOrdered_int64 (reverseRange_spec EC _ n d a b S H K h1 h2 h3 h4 hK)
theorem q_slices_partialInsertionSortOrdered_int64:PinS E 136:=fun n d a b S H K h1 h2 h3 h4 hK=>runL_ok rfl low_slices_partialInsertionSortOrdered_int64 (partialIns_spec EC _ q_cmp_Less_int64 n d a b S H K h1 h2 h3 h4 hK)
theorem q_slices_partitionEqualOrdered_int64:PeqS E 138:=fun n d a b p S H K h1 h2 h3 h4 h5 hK=>runL_ok rfl low_slices_partitionEqualOrdered_int64 (partitionEqual_spec EC _ q_cmp_Less_int64 n d a b p S H K h1 h2 h3 h4 h5 hK)
theorem q_slices_partitionOrdered_int64:PartS E 139:=fun n d a b p S H K h1 h2 h3 h4 h5 hK=>runL_ok rfl low_slices_partitionOrdered_int64 (partition_spec EC _ q_cmp_Less_int64 n d a b p S H K h1 h2 h3 h4 h5 hK)
theorem q_slices_pdqsortOrdered_int64:(∀m,PdqS E 118 m)∧PdqN E 118:=⟨fun m=>by induction m with | zero=>exact fun n d a b lim S H K h1 h2 h3 h4 h5=>absurd h5 (by omega) | succ m ih=>exact fun n d a b lim S H K h1 h2 h3 h4 h5 h6 h7 hK=>runL_ok rfl low_slices_pdqsortOrdered_int64 (pdqsort_spec EC _ q_slices_insertionSortOrdered_int64.1 q_slices_heapSortOrdered_int64 q_slices_breakPatternsOrdered_int64 q_slices_choosePivotOrdered_int64 q_slices_reverseRangeOrdered_int64 q_slices_partialInsertionSortOrdered_int64 q_cmp_Less_int64 q_slices_partitionEqualOrdered_int64 q_slices_partitionOrdered_int64 ih n d a b lim S H K h1 h2 h3 h4 h5 h6 h7 hK),fun S H K hK=>runL_ok rfl low_slices_pdqsortOrdered_int64 (pdqsort_nil EC _ q_slices_insertionSortOrdered_int64.2 S H K hK)⟩
theorem q_slices_Sort_int64:SortIS E 100∧OneN E 100 (.tup []):=⟨fun n d S H K h1 h2 hK=>runL_ok rfl low_slices_Sort_int64 (Sort_int_spec _ q_math_bits_Len q_slices_pdqsortOrdered_int64.1 n d S H K h1 h2 hK),fun S H K hK=>runL_ok rfl low_slices_Sort_int64 (Sort_int_nil _ q_math_bits_Len q_slices_pdqsortOrdered_int64.2 S H K hK)⟩
theorem q_slices_Sorted_int64:SortedS E 64 101:=fun bx hm cc es x S H K hM hK=>EvW.res (runL_ok rfl low_slices_Sorted_int64 (Sorted_spec _ q_slices_Collect_int64 q_slices_Sort_int64.1 q_slices_Sort_int64.2 bx hm cc es x S H K hM hK))
theorem q_prep_Table_All:AllS E 18:=fun h j1 j2 tb hl S H K t hn hlen hw hK=>EvW.res (runL_ok rfl low_prep_Table_All (prep_All_spec EC _ q_maps_Keys_Entry q_slices_Sorted_int64 q_prep_copied h j1 j2 tb hl S H K t hn hlen hw hK))
theorem q_hourglasslaw13_awake:AwPS E 13:=fun S H K hK=>runL_ok rfl low_hourglasslaw13_awake (law13_awake_spec EC _ q_prep_New q_hourglasslaw13_of q_prep_Table_Add q_hourglasslaw13_k q_prep_Table_Blocks q_hourglasslaw13_at q_prep_Table_All S H K hK)
theorem q_hourglasslaw13_long:LongS E 15:=fun l S H K hl hK=>runL_ok rfl low_hourglasslaw13_long (long_spec EC _ l S H K hl hK)
theorem q_hourglasslaw13_ent:EntIS E 27:=fun e S H K hK=>runL_ok rfl low_hourglasslaw13_ent (law13_ent_spec _ e S H K hK)
theorem q_hourglassref6_Good:∀a:Stp,FnS E 72 [.agg (stc a)] (.bool (goodS a)):=fun a S H K hK=>runL_ok rfl low_hourglassref6_Good (ref6_Good_spec _ a S H K hK)
theorem q_hourglassref6_Cmp:CmpSS E 44:=fun a b S H K hK=>runL_ok rfl low_hourglassref6_Cmp (ref6_Cmp_spec _ a b S H K hK)
theorem q_hourglassref10_Good:BoolK goodR E 105:=fun k S H K hK=>runL_ok rfl low_hourglassref10_Good (ref10_Good_spec EC _ k S H K hK)
theorem q_hourglassref10_MayWrites:MayWS E 73:=fun l n S H K hl hK=>runL_ok rfl low_hourglassref10_MayWrites (ref10_MayWrites_spec EC _ q_hourglassref10_Good l n S H K hl hK)
theorem q_hourglassref10_GoodEntry:∀(e:Ent) S H (K:AV→St→Prop),e.writes.length≤9223372036854775807→K (.bool (goodE e)) ⟨S,H⟩→E (.fn 26) [.agg (enc e)] ⟨S,H⟩ K:=fun e S H K he hK=>runL_ok rfl low_hourglassref10_GoodEntry (ref10_GoodEntry_spec _ q_hourglassref6_Good q_hourglassref6_Cmp q_hourglassref10_MayWrites e S H K he hK)
theorem q_hourglassref10_Table_Has:RHasS E 35:=fun h L id S H K hh hl hK=>EvW.res (runL_ok rfl low_hourglassref10_Table_Has (RHas_spec EC _ h L id S H K hh hl hK))
theorem q_hourglassref10_Table_holder:RhS E 75:=fun h L k S H K hh hl hwl hK=>EvW.res (runL_ok rfl low_hourglassref10_Table_holder (Rholder_spec EC _ h L k S H K hh hl hwl hK))
theorem q_hourglassref10_Table_Holder:RHolderS E 31:=fun h L k S H K hh hl hwl hK=>runL_ok rfl low_hourglassref10_Table_Holder (RHolder_spec _ q_hourglassref10_Table_holder h L k S H K hh hl hwl hK)
theorem q_hourglassref10_Table_Add:RAddS E 28:=fun h L e S H K hh hl hwl hw hK=>runL_ok rfl low_hourglassref10_Table_Add (RAdd_spec EC _ q_hourglassref10_GoodEntry q_hourglassref10_Table_Has q_hourglassref10_Table_Holder h L e S H K hh hl hwl hw hK)
theorem q_prep_Table_Drop:DropS E 17:=fun h j1 j2 tb hl id S H K t hn1 hn2 hw hK=>EvW.res (runL_ok rfl low_prep_Table_Drop (prep_Drop_spec EC _ h j1 j2 tb hl id S H K t hn1 hn2 hw hK))
theorem q_hourglassref10_Table_Drop:RDropS E 29:=fun h L id S H K hh hl hK=>runL_ok rfl low_hourglassref10_Table_Drop (RDrop_spec EC _ q_hourglassref10_Table_Has h L id S H K hh hl hK)
theorem q_hourglassref10_Writes:WritesEqS E 74:=fun a b S H K ha hb hK=>runL_ok rfl low_hourglassref10_Writes (ref10_Writes_spec EC _ a b S H K ha hb hK)
theorem q_hourglassref10_SameEntry:SameES E 30:=fun e S H K hw hK=>runL_ok rfl low_hourglassref10_SameEntry (SameEntry_spec _ q_hourglassref10_Writes e S H K hw hK)
theorem q_prep_Table_Holder:HolderS E 19:=fun h h1 h2 tb hl k S H K t hK=>runL_ok rfl low_prep_Table_Holder (prep_Holder_spec _ h h1 h2 tb hl k S H K t hK)
theorem q_hourglassref10_Table_Blocks:RBlocksS E 33:=fun h L k s S H K hh hl hwl hK=>runL_ok rfl low_hourglassref10_Table_Blocks (RBlocks_spec _ q_hourglassref10_Table_holder q_hourglassref6_Cmp h L k s S H K hh hl hwl hK)
theorem q_prep_Table_Least_1:CmpES E 67:=fun x y S H K hK=>runL_ok rfl low_prep_Table_Least_1 (prep_Least1_spec _ q_stamp_Cmp x y S H K hK)
theorem q_slices_MinFunc_Entry:MinFS E 66 67:=fun x l S H K hl hK=>runL_ok rfl low_slices_MinFunc_Entry (MinFunc_spec EC _ q_prep_Table_Least_1 x l S H K hl hK)
theorem q_prep_Table_Least:LeastS E 22:=fun h j1 j2 tb hl S H K t hn hlen hw hK=>runL_ok rfl low_prep_Table_Least (prep_Least_spec _ q_prep_Table_All q_slices_MinFunc_Entry h j1 j2 tb hl S H K t hn hlen hw hK)
theorem q_hourglassref10_Table_Least:RLeastS E 34:=fun h L S H K hh hl hK=>runL_ok rfl low_hourglassref10_Table_Least (RLeast_spec EC _ q_hourglassref6_Cmp h L S H K hh hl hK)
theorem q_prep_Table_Has:HasS E 24:=fun h h1 h2 tb hl id S H K t hw hK=>runL_ok rfl low_prep_Table_Has (prep_Has_spec EW _ q_prep_copied h h1 h2 tb hl id S H K t hw hK)
theorem q_hourglasslaw13_PrepPlays:∀(l:List Act) (k:Key) (st:Stp) (S:List (List AV)) (H:List HObj) (K:AV→St→Prop),l.length≤9223372036854775807→(∀a∈l,a.e.writes.length≤9223372036854775807)→(∀H',K (.bool true) ⟨S,H'⟩)→E (.fn 5) [.list .sh 7 (l.map actA),.agg (bs k.b),.agg (stc st)] ⟨S,H⟩ K:=fun l k st S H K hl hw hK=>runL_ok rfl low_hourglasslaw13_PrepPlays (PrepPlays_spec EC _ q_hourglasslaw13_awake q_prep_New q_hourglasslaw13_long q_prep_Good q_hourglasslaw13_ent q_hourglassref10_GoodEntry q_prep_Table_Add q_hourglassref10_Table_Add q_prep_Table_Drop q_hourglassref10_Table_Drop q_hourglassref10_SameEntry q_prep_Table_Holder q_hourglassref10_Table_Holder q_prep_Table_Blocks q_hourglassref10_Table_Blocks q_prep_Table_Least q_hourglassref10_Table_Least q_prep_Table_Has q_hourglassref10_Table_Has q_prep_Table_All l k st S H K hl hw hK)
end Go.AM
