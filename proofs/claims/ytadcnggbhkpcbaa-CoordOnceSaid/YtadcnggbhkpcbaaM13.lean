import Derived.Test.YtadcnggbhkpcbaaM7
import Derived.Test.YtadcnggbhkpcbaaChecked
import Derived.KernelRfl
import Derived.Test.YtadcnggbhkpcbaaM12
import Derived.Test.YtadcnggbhkpcbaaM10
import Derived.Test.YtadcnggbhkpcbaaM11
set_option linter.unusedSimpArgs false
set_option linter.unusedVariables false
namespace Go.AM
open Go Go.Proofs
set_option maxRecDepth 100000
def cfgA.heap (f d:Nat):Bool :=
  match f with
  | 8=>[3].contains d
  | 9=>[34].contains d
  | 17=>[32].contains d
  | 24=>[33,36].contains d
  | 28=>[28,32].contains d
  | 48=>[1].contains d
  | 71=>[2].contains d
  | _=>false
def cfgA.take (f d:Nat):Bool :=
  match f with
  | 4=>[116].contains d
  | 9=>[31].contains d
  | 22=>[34,39].contains d
  | 33=>[40,54].contains d
  | 34=>[37,48].contains d
  | 43=>[13].contains d
  | 47=>[8].contains d
  | 56=>[5].contains d
  | 64=>[5].contains d
  | 71=>[2,8,12].contains d
  | 72=>[24,30].contains d
  | 80=>[44].contains d
  | 93=>[7].contains d
  | 94=>[28].contains d
  | _=>false
def mz:Bool→List Nat→List Bool
  | _,[]=>[]
  | b,n :: l=>List.replicate n b ++ mz (!b) l
def cfgA.mask (f b:Nat):List Bool :=
  match f,b with
  | 3,0=>mz false [1,3,3,7,149]
  | 3,2=>mz false [1,3,3,10,146]
  | 3,5=>mz false [1,3,3,7,4,2,143]
  | 4,0=>mz false [1,2,4,2,110]
  | 6,0=>mz false [0,1,2,3,224]
  | 18,0=>mz false [0,2,3,1,20]
  | 22,0=>mz false [0,1,2,1,7,3,26]
  | 23,0=>mz false [0,2,3,1,20]
  | 25,0=>mz false [12,1,1,1,106]
  | 32,0=>mz false [2,2,1,1,68]
  | 33,0=>mz false [0,1,4,3,47]
  | 34,0=>mz false [0,1,2,2,44]
  | 36,0=>mz false [0,1,4,3,27]
  | 43,0=>mz false [0,2,3,2,35]
  | 45,0=>mz false [0,2,10,2,12]
  | 46,0=>mz false [0,2,10,2,12]
  | 50,0=>mz false [0,1,2,1,37]
  | 51,0=>mz false [0,2,3,1,20]
  | 52,0=>mz false [0,1,2,2,43]
  | 53,0=>mz false [0,2,3,1,13]
  | 55,0=>mz false [0,2,3,1,20]
  | 57,0=>mz false [3,1,2,3,9]
  | 62,0=>mz false [0,2,5,2,10]
  | 65,0=>mz false [0,1,4,1,8]
  | 67,0=>mz false [0,2,5,2,10]
  | 71,0=>mz false [2,1,10]
  | 72,0=>mz false [0,4,4,2,124]
  | 74,0=>mz false [0,1,4,1,63]
  | 74,2=>mz false [0,1,4,2,62]
  | 76,0=>mz false [3,1,3,3,32]
  | 77,0=>mz false [0,3,3,1,42]
  | 77,2=>mz false [0,3,3,2,41]
  | 78,0=>mz false [0,1,5,4,46]
  | 78,2=>mz false [0,1,5,2,2,1,45]
  | 79,0=>mz false [0,2,4,4,55]
  | 81,0=>mz false [0,1,5,2,24]
  | 82,0=>mz false [0,3,4,2,124]
  | 82,2=>mz false [0,3,4,2,124]
  | 82,4=>mz false [0,3,4,3,123]
  | 82,6=>mz false [0,3,4,2,1,1,122]
  | 84,0=>mz false [0,2,7,2,73]
  | 84,2=>mz false [0,2,7,2,73]
  | 84,4=>mz false [0,2,7,2,73]
  | 85,0=>mz false [0,2,8,2,156]
  | 85,2=>mz false [0,2,8,2,156]
  | 85,4=>mz false [0,2,8,2,156]
  | 85,6=>mz false [0,2,8,2,156]
  | 85,8=>mz false [0,2,8,2,156]
  | 88,0=>mz false [1,1,1,2,12]
  | 90,0=>mz false [0,1,1,2,4,1,67]
  | 96,0=>mz false [1,1,1,1,13]
  | _,_=>[]
def cfgA.plan (f k:Nat):List Nat :=
  match f,k with
  | 3,19=>List.range 7
  | 3,40=>[0,1,2,3]
  | 4,13=>List.range 17
  | 6,16=>[0,1,2,3,4,5,6,8,9,10,11,12,13,14,7,15,16,17]
  | 6,18=>[0,1,2,3,4,5,6,7,8,10,11,12,13,14,15,16,17,18,9,19,20,21]
  | 6,20=>[0,1,2,3,4,6,7,8,9,10,5,11,12,13]
  | 6,14=>[0,1,2,4,5,6,3,7,8,9,10]
  | 6,29=>[0,1,2,3,4,5,6,7,8,9,10,11,12,13,14,15,16,17,18,19,20,21,22,23,25,24,26,27,28,29,30,31,32,34,35,36,33,37,38,39,40,41,42,44,43,45,46,47,48]
  | 9,5=>List.range 8
  | 10,4=>List.range 16
  | 10,12=>List.range 10
  | 10,13=>List.range 11
  | 14,4=>List.range 11
  | 16,4=>List.range 17
  | 17,3=>List.range 8
  | 17,5=>[0,1,2,3,4,6,7,8,9,5,10,11,12]
  | 18,6=>List.range 9
  | 23,6=>List.range 9
  | 25,5=>List.range 15
  | 25,14=>List.range 10
  | 26,6=>List.range 20
  | 27,5=>List.range 17
  | 30,4=>List.range 20
  | 31,4=>List.range 29
  | 32,6=>List.range 11
  | 40,1=>[0,1,2,3,5,6,7,8,4,9,10,11,12]
  | 42,1=>List.range 5
  | 45,6=>List.range 9
  | 46,6=>List.range 9
  | 50,4=>List.range 28
  | 52,2=>List.range 20
  | 52,4=>[0,1,2,3,4,5,6,7,9,10,12,13,14,15,16,17,8,11,18,19,20,21]
  | 55,6=>List.range 9
  | 60,4=>List.range 12
  | 60,9=>List.range 8
  | 72,17=>List.range 15
  | 74,11=>List.range 11
  | 77,4=>List.range 15
  | 77,6=>List.range 18
  | 78,10=>List.range 20
  | 79,10=>List.range 20
  | 81,3=>List.range 16
  | 82,5=>List.range 16
  | 82,11=>List.range 18
  | 82,16=>List.range 11
  | 82,17=>List.range 18
  | 82,22=>List.range 11
  | 82,23=>List.range 18
  | 84,1=>List.range 16
  | 84,3=>List.range 15
  | 84,5=>List.range 14
  | 84,8=>List.range 16
  | 85,1=>List.range 16
  | 85,3=>List.range 14
  | 85,5=>List.range 15
  | 85,8=>List.range 16
  | 85,10=>List.range 16
  | 85,13=>List.range 14
  | 85,15=>List.range 15
  | 85,18=>List.range 16
  | 85,21=>List.range 16
  | 90,3=>List.range 20
  | 90,5=>List.range 14
  | 90,6=>List.range 24
  | 92,1=>List.range 10
  | 92,2=>List.range 10
  | 92,3=>List.range 10
  | 97,1=>List.range 9
  | _,_=>[]
def rr (a:Nat):Nat→PT→PT
  | 0,t=>t
  | n + 1,t => .rd a (rr (a + 1) n t)
def cfgA.tree (f k:Nat):PT :=
  match f,k with
  | 3,19=>rr 0 7 .done
  | 3,40 => .rd 0 (.mv 1 (.mv 2 (.mv 3 .done .stop) .stop) .stop)
  | 4,13=>rr 0 16 (.mv 16 .done .stop)
  | 6,16=>rr 0 7 (rr 8 7 (.mv 7 (.mv 15 (.rd 16 (.mv 17 .done .stop)) .stop) .stop))
  | 6,18=>rr 0 9 (rr 10 9 (.mv 9 (.mv 19 (.rd 20 (.mv 21 .done .stop)) .stop) .stop))
  | 6,20=>rr 0 5 (rr 6 5 (.mv 5 (.mv 11 (.rd 12 (.mv 13 .done .stop)) .stop) .stop))
  | 6,14=>rr 0 3 (rr 4 3 (.mv 3 (.mv 7 (.mv 8 (.rd 9 (.mv 10 .done .stop)) .stop) .stop) .stop))
  | 6,29=>rr 0 24 (.rd 25 (.mv 24 (.mv 26 (rr 27 6 (rr 34 3 (.mv 33 (.mv 37 (.mv 38 (rr 39 4 (.rd 44 (.mv 43 (.mv 45 (.mv 46 (rr 47 2 .done) .stop) .stop) .stop))) .stop) .stop) .stop))) .stop) .stop))
  | 9,5=>rr 0 3 (.mv 3 (.mv 4 (.rd 5 (.mv 6 (.mv 7 .done .stop) .stop)) .stop) .stop)
  | 10,4=>rr 0 3 (.mv 3 (rr 4 7 (.mv 11 (rr 12 3 (.mv 15 .done .stop)) .stop)) .stop)
  | 10,12=>rr 0 6 (.mv 6 (rr 7 2 (.mv 9 .done .stop)) .stop)
  | 10,13=>rr 0 11 .done
  | 14,4=>rr 0 8 (.mv 8 (.mv 9 (.mv 10 .done .stop) .stop) .stop)
  | 16,4=>rr 0 13 (.mv 13 (.rd 14 (.mv 15 (.mv 16 .done .stop) .stop)) .stop)
  | 17,3=>rr 0 8 .done
  | 17,5=>rr 0 5 (rr 6 4 (.mv 5 (.rd 10 (.mv 11 (.mv 12 .done .stop) .stop)) .stop))
  | 18,6=>rr 0 9 .done
  | 23,6=>rr 0 9 .done
  | 24,5=>rr 0 5 (rr 6 2 (rr 9 2 (.mv 5 (.mv 8 (.mv 11 (.rd 12 (.mv 13 .done .stop)) .stop) (.mv 11 (.mv 8 (.rd 12 (.mv 13 .done .stop)) .stop) .stop)) (.mv 8 (.mv 5 (.mv 11 (.rd 12 (.mv 13 .done .stop)) .stop) (.mv 11 (.mv 5 (.rd 12 (.mv 13 .done .stop)) .stop) .stop)) (.mv 11 (.mv 5 (.mv 8 (.rd 12 (.mv 13 .done .stop)) .stop) (.mv 8 (.mv 5 (.rd 12 (.mv 13 .done .stop)) .stop) .stop)) .stop)))))
  | 25,5=>rr 0 3 (.mv 3 (rr 4 7 (.mv 11 (rr 12 3 .done) .stop)) .stop)
  | 25,14=>rr 0 6 (.mv 6 (rr 7 2 (.mv 9 .done .stop)) .stop)
  | 26,6=>rr 0 17 (.mv 17 (.rd 18 (.mv 19 .done .stop)) .stop)
  | 27,5=>rr 0 13 (.mv 13 (rr 14 2 (.mv 16 .done .stop)) .stop)
  | 28,5=>rr 0 5 (rr 6 3 (rr 10 3 (rr 14 2 (.mv 5 (.mv 9 (.mv 13 (.rd 16 (.mv 17 (.mv 18 .done .stop) .stop)) (.mv 17 (.mv 13 (.rd 16 (.mv 18 .done .stop)) .stop) .stop)) (.mv 13 (.mv 9 (.rd 16 (.mv 17 (.mv 18 .done .stop) .stop)) (.mv 17 (.mv 9 (.rd 16 (.mv 18 .done .stop)) .stop) .stop)) (.mv 17 (.mv 9 (.mv 13 (.rd 16 (.mv 18 .done .stop)) .stop) (.mv 13 (.mv 9 (.rd 16 (.mv 18 .done .stop)) .stop) .stop)) .stop))) (.mv 9 (.mv 5 (.mv 13 (.rd 16 (.mv 17 (.mv 18 .done .stop) .stop)) (.mv 17 (.mv 13 (.rd 16 (.mv 18 .done .stop)) .stop) .stop)) (.mv 13 (.mv 5 (.rd 16 (.mv 17 (.mv 18 .done .stop) .stop)) (.mv 17 (.mv 5 (.rd 16 (.mv 18 .done .stop)) .stop) .stop)) (.mv 17 (.mv 5 (.mv 13 (.rd 16 (.mv 18 .done .stop)) .stop) (.mv 13 (.mv 5 (.rd 16 (.mv 18 .done .stop)) .stop) .stop)) .stop))) (.mv 13 (.mv 5 (.mv 9 (.rd 16 (.mv 17 (.mv 18 .done .stop) .stop)) (.mv 17 (.mv 9 (.rd 16 (.mv 18 .done .stop)) .stop) .stop)) (.mv 9 (.mv 5 (.rd 16 (.mv 17 (.mv 18 .done .stop) .stop)) (.mv 17 (.mv 5 (.rd 16 (.mv 18 .done .stop)) .stop) .stop)) (.mv 17 (.mv 5 (.mv 9 (.rd 16 (.mv 18 .done .stop)) .stop) (.mv 9 (.mv 5 (.rd 16 (.mv 18 .done .stop)) .stop) .stop)) .stop))) (.mv 17 (.mv 5 (.mv 9 (.mv 13 (.rd 16 (.mv 18 .done .stop)) .stop) (.mv 13 (.mv 9 (.rd 16 (.mv 18 .done .stop)) .stop) .stop)) (.mv 9 (.mv 5 (.mv 13 (.rd 16 (.mv 18 .done .stop)) .stop) (.mv 13 (.mv 5 (.rd 16 (.mv 18 .done .stop)) .stop) .stop)) (.mv 13 (.mv 5 (.mv 9 (.rd 16 (.mv 18 .done .stop)) .stop) (.mv 9 (.mv 5 (.rd 16 (.mv 18 .done .stop)) .stop) .stop)) .stop))) .stop)))))))
  | 30,4=>rr 0 17 (.mv 17 (.mv 18 (.mv 19 .done .stop) .stop) .stop)
  | 31,4=>rr 0 27 (.mv 27 (.mv 28 .done .stop) .stop)
  | 32,6=>rr 0 11 .done
  | 40,1=>rr 0 4 (rr 5 4 (.mv 4 (.mv 9 (.rd 10 (.mv 11 (.mv 12 .done .stop) .stop)) .stop) .stop))
  | 42,1=>rr 0 2 (.mv 2 (.mv 3 (.rd 4 .done) .stop) .stop)
  | 45,6=>rr 0 9 .done
  | 46,6=>rr 0 9 .done
  | 50,4=>rr 0 28 .done
  | 52,2=>rr 0 20 .done
  | 52,4=>rr 0 8 (rr 9 2 (rr 12 6 (.mv 8 (.mv 11 (.mv 18 (rr 19 2 (.mv 21 .done .stop)) .stop) .stop) .stop)))
  | 55,6=>rr 0 9 .done
  | 60,4=>rr 0 7 (.mv 7 (.rd 8 (.mv 9 (.rd 10 (.mv 11 .done .stop)) .stop)) .stop)
  | 60,9=>rr 0 5 (.mv 5 (.rd 6 (.mv 7 .done .stop)) .stop)
  | 72,17=>rr 0 12 (.mv 12 (rr 13 2 .done) .stop)
  | 74,11=>rr 0 11 .done
  | 77,4=>rr 0 13 (.mv 13 (.rd 14 .done) .stop)
  | 77,6=>rr 0 15 (.mv 15 (.rd 16 (.mv 17 .done .stop)) .stop)
  | 78,10=>rr 0 17 (.mv 17 (.rd 18 (.mv 19 .done .stop)) .stop)
  | 79,10=>rr 0 17 (.mv 17 (.rd 18 (.mv 19 .done .stop)) .stop)
  | 81,3=>rr 0 13 (.mv 13 (.rd 14 (.mv 15 .done .stop)) .stop)
  | 82,5=>rr 0 13 (.mv 13 (rr 14 2 .done) .stop)
  | 82,11=>rr 0 15 (.mv 15 (.rd 16 (.mv 17 .done .stop)) .stop)
  | 82,16=>rr 0 9 (.mv 9 (.rd 10 .done) .stop)
  | 82,17=>rr 0 15 (.mv 15 (.rd 16 (.mv 17 .done .stop)) .stop)
  | 82,22=>rr 0 9 (.mv 9 (.rd 10 .done) .stop)
  | 82,23=>rr 0 15 (.mv 15 (.rd 16 (.mv 17 .done .stop)) .stop)
  | 84,1=>rr 0 13 (.mv 13 (.rd 14 (.mv 15 .done .stop)) .stop)
  | 84,3=>rr 0 12 (.mv 12 (rr 13 2 .done) .stop)
  | 84,5=>rr 0 12 (.mv 12 (.rd 13 .done) .stop)
  | 84,8=>rr 0 13 (.mv 13 (.rd 14 (.mv 15 .done .stop)) .stop)
  | 85,1=>rr 0 13 (.mv 13 (.rd 14 (.mv 15 .done .stop)) .stop)
  | 85,3=>rr 0 12 (.mv 12 (.rd 13 .done) .stop)
  | 85,5=>rr 0 12 (.mv 12 (rr 13 2 .done) .stop)
  | 85,8=>rr 0 13 (.mv 13 (.rd 14 (.mv 15 .done .stop)) .stop)
  | 85,10=>rr 0 13 (.mv 13 (.rd 14 (.mv 15 .done .stop)) .stop)
  | 85,13=>rr 0 12 (.mv 12 (.rd 13 .done) .stop)
  | 85,15=>rr 0 12 (.mv 12 (rr 13 2 .done) .stop)
  | 85,18=>rr 0 13 (.mv 13 (.rd 14 (.mv 15 .done .stop)) .stop)
  | 85,21=>rr 0 13 (.mv 13 (.rd 14 (.mv 15 .done .stop)) .stop)
  | 90,3=>rr 0 18 (.mv 18 (.rd 19 .done) .stop)
  | 90,5=>rr 0 12 (.mv 12 (.rd 13 .done) .stop)
  | 90,6=>rr 0 21 (.mv 21 (.rd 22 (.mv 23 .done .stop)) .stop)
  | 92,1=>rr 0 9 (.mv 9 .done .stop)
  | 92,2=>rr 0 9 (.mv 9 .done .stop)
  | 92,3=>rr 0 9 (.mv 9 .done .stop)
  | 97,1=>rr 0 8 (.mv 8 .done .stop)
  | _,_ => .stop
def cfgA.thaw (f d:Nat):Bool:=(f == 43 && d == 8) || (f == 47 && d == 6)
def cfgA.freeze (f d:Nat):Bool:=(f == 43 && d == 13) || (f == 43 && d == 39) || (f == 47 && d == 8)
def cfgA:Cfg:={ heap:=cfgA.heap,take:=cfgA.take,thaw:=cfgA.thaw,freeze:=cfgA.freeze,mask:=cfgA.mask,plan:=cfgA.plan,prim:=fun f=>match f with | 100=>some primIndexByte | _=>none,keep:=fun f=>[71].contains f }
theorem plans:plansOK Try.prog cfgA=true:=by kernel_rfl
theorem trees:treesOK Try.prog cfgA cfgA.tree=true:=by kernel_rfl
theorem named:(Try.prog.funcs.all fun fn=>fn.name != "runtime.NumGoroutine")=true:=by kernel_rfl
theorem names_ok:∀(f:FuncId) (fn:Func),Try.prog.funcs[f]? = some fn→fn.name≠"runtime.NumGoroutine" := by
  intro f fn hf
  have:=Array.all_eq_true_iff_forall_mem.1 named fn (Array.mem_of_getElem? hf)
  simpa using this
theorem prims:PrimOK Try.prog cfgA:=by
  intro f p hp args σ v σ' h g w ow xs r
  simp only [cfgA] at hp
  split at hp
  · injection hp with hp; subst hp
    exact indexByte_prim Try.func100 (by kernel_rfl) (by kernel_rfl) (by kernel_rfl) (by kernel_rfl) h r
  · cases hp
theorem sound (n:Nat):Sound Try.prog (ev Try.prog cfgA n):=ev_sound Try.checked.mixed plans names_ok prims n
abbrev E:CallW:=EvW Try.prog cfgA cfgA.tree
theorem E_sound {t:Tgt} {args:List AV} {σ:St} {K:AV→St→Prop} (h:E t args σ K):ModelW Try.prog t args σ K:=EvW_sound Try.checked.mixed trees names_ok prims h
end Go.AM
namespace Go.AM
open Go Go.Proofs
set_option maxRecDepth 20000
theorem low_coord_New:lowFn Try.prog cfgA cfgA.tree 8=some (C_coord_New):=by kernel_rfl
theorem low_hourglasslaw18_at:lowFn Try.prog cfgA cfgA.tree 20=some (C_hourglasslaw13_at):=by kernel_rfl
theorem low_stamp_Good:lowFn Try.prog cfgA cfgA.tree 35=some (C_stamp_Good):=by kernel_rfl
theorem low_rec_GoodParts:lowFn Try.prog cfgA cfgA.tree 36=some (C_rec_GoodParts):=by kernel_rfl
theorem low_slices_Clone_int:lowFn Try.prog cfgA cfgA.tree 38=some (C_slices_Clone_int):=by kernel_rfl
theorem low_coord_Coord_add:lowFn Try.prog cfgA cfgA.tree 37=some (C_coord_Coord_add):=by kernel_rfl
theorem low_coord_Coord_Begin:lowFn Try.prog cfgA cfgA.tree 9=some (C_coord_Coord_Begin (cs [35,36,38,37])):=by kernel_rfl
theorem low_slices_Index_int:lowFn Try.prog cfgA cfgA.tree 67=some (C_slices_Index_int):=by kernel_rfl
theorem low_slices_Contains_int:lowFn Try.prog cfgA cfgA.tree 56=some (C_slices_Contains_int (cs [67])):=by kernel_rfl
theorem low_coord_Coord_of:lowFn Try.prog cfgA cfgA.tree 39=some (C_coord_Coord_of (cs [56])):=by kernel_rfl
theorem low_cmp_isNaN_int64:lowFn Try.prog cfgA cfgA.tree 68=some (C_cmp_isNaN_int64):=by kernel_rfl
theorem low_cmp_Compare_int64:lowFn Try.prog cfgA cfgA.tree 58=some (C_cmp_Compare_int64 (cs [68])):=by kernel_rfl
theorem low_cmp_isNaN_uint8:lowFn Try.prog cfgA cfgA.tree 69=some (C_cmp_isNaN_uint8):=by kernel_rfl
theorem low_cmp_Compare_uint8:lowFn Try.prog cfgA cfgA.tree 59=some (C_cmp_Compare_uint8 (cs [69])):=by kernel_rfl
theorem low_cmp_Or_int:lowFn Try.prog cfgA cfgA.tree 57=some (C_cmp_Or_int):=by kernel_rfl
theorem low_stamp_Cmp:lowFn Try.prog cfgA cfgA.tree 40=some (C_stamp_Cmp (cs [58,59,57])):=by kernel_rfl
theorem low_stamp_Max:lowFn Try.prog cfgA cfgA.tree 41=some (C_stamp_Max (cs [40])):=by kernel_rfl
theorem low_coord_Coord_Vote:lowFn Try.prog cfgA cfgA.tree 10=some (C_coord_Coord_Vote (cs [39,35,40,41])):=by kernel_rfl
theorem low_coord_Coord_Decision:lowFn Try.prog cfgA cfgA.tree 14=some (C_coord_Coord_Decision):=by kernel_rfl
theorem low_coord_Coord_Owes_1:lowFn Try.prog cfgA cfgA.tree 44=some (C_coord_Coord_Owes_1):=by kernel_rfl
theorem low_slices_IndexFunc_int:lowFn Try.prog cfgA cfgA.tree 62=some (C_slices_IndexFunc_int):=by kernel_rfl
theorem low_slices_DeleteFunc_int:lowFn Try.prog cfgA cfgA.tree 43=some (C_slices_DeleteFunc_int (cs [62])):=by kernel_rfl
theorem low_coord_Coord_Owes:lowFn Try.prog cfgA cfgA.tree 19=some (C_coord_Coord_Owes (cs [38,44,43])):=by kernel_rfl
theorem low_hourglasslaw18_same:lowFn Try.prog cfgA cfgA.tree 18=some (C_hourglasslaw17_same):=by kernel_rfl
theorem low_maps_Keys_txn_1:lowFn Try.prog cfgA cfgA.tree 65=some (C_maps_Keys_Entry_1):=by kernel_rfl
theorem low_maps_Keys_txn:lowFn Try.prog cfgA cfgA.tree 48=some (C_maps_Keys_Entry (cs [65])):=by kernel_rfl
theorem low_slices_AppendSeq_int64:lowFn Try.prog cfgA cfgA.tree 71=some (C_slices_AppendSeq_int64 (cs [71]) (rfAt Try.prog 71 0).1 (rfAt Try.prog 71 0).2):=by kernel_rfl
theorem tr_slices_AppendSeq_int64_a0:treesIn cfgA cfgA.tree 71 (rfAt Try.prog 71 0).1=true:=by kernel_rfl
theorem tr_slices_AppendSeq_int64_b0:treesIn cfgA cfgA.tree 71 (rfAt Try.prog 71 0).2=true:=by kernel_rfl
theorem low_slices_AppendSeq_int64_a0:lowCode Try.prog cfgA cfgA.tree 71 0 (rfAt Try.prog 71 0).1=(C_slices_AppendSeq_int64_a0).code:=by kernel_rfl
theorem low_slices_AppendSeq_int64_b0:lowCode Try.prog cfgA cfgA.tree 71 0 (rfAt Try.prog 71 0).2=(C_slices_AppendSeq_int64_b0).code:=by kernel_rfl
theorem low_slices_Collect_int64:lowFn Try.prog cfgA cfgA.tree 63=some (C_slices_Collect_int64 (cs [71])):=by kernel_rfl
theorem low_math_bits_Len64:lowFn Try.prog cfgA cfgA.tree 87=some (C_math_bits_Len64):=by kernel_rfl
theorem low_math_bits_Len:lowFn Try.prog cfgA cfgA.tree 73=some (C_math_bits_Len (cs [86,87])):=by kernel_rfl
theorem low_cmp_Less_int64:lowFn Try.prog cfgA cfgA.tree 83=some (C_cmp_Less_int64 (cs [68])):=by kernel_rfl
theorem low_slices_insertionSortOrdered_int64:lowFn Try.prog cfgA cfgA.tree 77=some (C_slices_insertionSortOrdered_int64 (cs [83])):=by kernel_rfl
theorem low_slices_siftDownOrdered_int64:lowFn Try.prog cfgA cfgA.tree 90=some (C_slices_siftDownOrdered_int64 (cs [83])):=by kernel_rfl
theorem low_slices_heapSortOrdered_int64:lowFn Try.prog cfgA cfgA.tree 78=some (C_slices_heapSortOrdered_int64 (cs [90])):=by kernel_rfl
theorem low_slices_nextPowerOfTwo:lowFn Try.prog cfgA cfgA.tree 91=some (C_slices_nextPowerOfTwo (cs [73])):=by kernel_rfl
theorem low_slices_xorshift_Next:lowFn Try.prog cfgA cfgA.tree 92=some (C_slices_xorshift_Next):=by kernel_rfl
theorem low_slices_breakPatternsOrdered_int64:lowFn Try.prog cfgA cfgA.tree 79=some (C_slices_breakPatternsOrdered_int64 (cs [91,92])):=by kernel_rfl
theorem low_slices_order2Ordered_int64:lowFn Try.prog cfgA cfgA.tree 97=some (C_slices_order2Ordered_int64 (cs [83])):=by kernel_rfl
theorem low_slices_medianOrdered_int64:lowFn Try.prog cfgA cfgA.tree 94=some (C_slices_medianOrdered_int64 (cs [97])):=by kernel_rfl
theorem low_slices_medianAdjacentOrdered_int64:lowFn Try.prog cfgA cfgA.tree 93=some (C_slices_medianAdjacentOrdered_int64 (cs [94])):=by kernel_rfl
theorem low_slices_choosePivotOrdered_int64:lowFn Try.prog cfgA cfgA.tree 80=some (C_slices_choosePivotOrdered_int64 (cs [93,94])):=by kernel_rfl
theorem low_slices_reverseRangeOrdered_int64:lowFn Try.prog cfgA cfgA.tree 81=some (C_slices_reverseRangeOrdered_int64):=by kernel_rfl
theorem low_slices_partialInsertionSortOrdered_int64:lowFn Try.prog cfgA cfgA.tree 82=some (C_slices_partialInsertionSortOrdered_int64 (cs [83])):=by kernel_rfl
theorem low_slices_partitionEqualOrdered_int64:lowFn Try.prog cfgA cfgA.tree 84=some (C_slices_partitionEqualOrdered_int64 (cs [83])):=by kernel_rfl
theorem low_slices_partitionOrdered_int64:lowFn Try.prog cfgA cfgA.tree 85=some (C_slices_partitionOrdered_int64 (cs [83])):=by kernel_rfl
theorem low_slices_pdqsortOrdered_int64:lowFn Try.prog cfgA cfgA.tree 72=some (C_slices_pdqsortOrdered_int64 (cs [77,78,79,80,81,82,83,84,85,72])):=by kernel_rfl
theorem low_slices_Sort_int64:lowFn Try.prog cfgA cfgA.tree 64=some (C_slices_Sort_int (cs [73,72])):=by kernel_rfl
theorem low_slices_Sorted_int64:lowFn Try.prog cfgA cfgA.tree 47=some (C_slices_Sorted_int64 (cs [63,64])):=by kernel_rfl
theorem low_coord_Coord_Open:lowFn Try.prog cfgA cfgA.tree 22=some (C_coord_Coord_Open (cs [48,47,19])):=by kernel_rfl
theorem low_hourglasslaw18_same64:lowFn Try.prog cfgA cfgA.tree 23=some (C_hourglasslaw17_same):=by kernel_rfl
theorem low_hourglasslaw18_awake:lowFn Try.prog cfgA cfgA.tree 7=some (C_hourglasslaw18_awake (cs [8,20,9,10,14,19,18,22,23])):=by kernel_rfl
theorem low_hourglassref6_Cmp:lowFn Try.prog cfgA cfgA.tree 15=some (C_hourglassref6_Cmp):=by kernel_rfl
theorem low_hourglassref6_Max:lowFn Try.prog cfgA cfgA.tree 11=some (C_hourglassref6_Max (cs [15])):=by kernel_rfl
theorem low_coord_Coord_Ack:lowFn Try.prog cfgA cfgA.tree 12=some (C_coord_Coord_Ack (cs [39])):=by kernel_rfl
theorem low_coord_Coord_Give:lowFn Try.prog cfgA cfgA.tree 13=some (C_coord_Coord_Give):=by kernel_rfl
theorem low_hourglasslaw18_CoordOnce:lowFn Try.prog cfgA cfgA.tree 3=some (C_hourglasslaw18_CoordOnce (cs [7,8,9,10,11,12,13,14,15])):=by kernel_rfl
end Go.AM
namespace Go.AM
open Go Go.Proofs
theorem EC:LeC E E:=EvW.le
theorem EW:WkC E:=fun _ _ _ _ _ h h2=>EvW.args h h2
end Go.AM
namespace Go.AM
open Go Go.Proofs
theorem q_coord_New:NewCS E 8:=fun S H K hK=>runL_ok rfl low_coord_New (coord_New_spec _ S H K hK)
theorem q_hourglasslaw18_at:∀t:Int,FnS E 20 [.s (.int .i64 t)] (.agg (stc ⟨t,0⟩)):=fun t S H K hK=>runL_ok rfl low_hourglasslaw18_at (law13_at_spec _ t S H K hK)
theorem q_stamp_Good:∀s:Stp,FnS E 35 [.agg (stc s)] (.bool (goodS s)):=fun s S H K hK=>runL_ok rfl low_stamp_Good (stamp_Good_spec _ s S H K hK)
theorem q_rec_GoodParts:PartsS E 36:=fun l S H K hl hK=>runL_ok rfl low_rec_GoodParts (rec_GoodParts_spec EC _ l S H K hl hK)
theorem q_slices_Clone_int:CloneIS E 38∧CloneIH E 38:=⟨fun l S H K hne hl hK=>runL_ok rfl low_slices_Clone_int (Clone_int_spec _ l S H K hne hl hK),fun l S H K hne hl hK=>EvW.res (runL_ok rfl low_slices_Clone_int (Clone_int_spec _ l S H _ hne hl ⟨_,.inr (.same .nil),hK⟩))⟩
theorem q_coord_Coord_add:AddCS E 37:=fun h hm b id x S H K t hb nb nbm ok hv0 ha0 hK=>runL_ok rfl low_coord_Coord_add (coord_add_spec _ h hm b id x S H K t hb nb nbm ok hv0 ha0 hK)
theorem q_coord_Coord_Begin:BegS E 9∧BegXS E 9:=⟨fun h hm id s l S H K t hl hb hok=>runL_ok rfl low_coord_Coord_Begin (coord_Begin_spec _ q_stamp_Good q_rec_GoodParts q_slices_Clone_int.2 q_coord_Coord_add h hm id s l S H K t hl hb hok),fun h hm b hv ha id x s l S H K t hl hg hK=>runL_ok rfl low_coord_Coord_Begin (coord_BeginX_spec _ q_stamp_Good q_rec_GoodParts h hm b hv ha id x s l S H K t hl hg hK)⟩
theorem q_slices_Index_int:IdxIS E 67:=fun l v S H K hl hK=>runL_ok rfl low_slices_Index_int (Index_int_spec EC _ l v S H K hl hK)
theorem q_slices_Contains_int:ContIS E 56:=fun l v S H K hl hK=>runL_ok rfl low_slices_Contains_int (Contains_int_spec _ q_slices_Index_int l v S H K hl hK)
theorem q_coord_Coord_of:OfXS E 39:=fun h hm b hv ha id x part S H K t hy hn=>runL_ok rfl low_coord_Coord_of (coord_of_spec _ q_slices_Contains_int h hm b hv ha id x part S H K t hy hn)
theorem q_cmp_isNaN_int64:∀x:Int,FnS E 68 [.s (.int .i64 x)] (.bool false):=fun x S H K hK=>runL_ok rfl low_cmp_isNaN_int64 (isNaN_spec _ x S H K hK)
theorem q_cmp_Compare_int64:∀x y:Int,FnS E 58 [.s (.int .i64 x),.s (.int .i64 y)] (.i (cmpI x y)):=fun x y S H K hK=>runL_ok rfl low_cmp_Compare_int64 (Compare_spec _ q_cmp_isNaN_int64 x y S H K hK)
theorem q_cmp_isNaN_uint8:∀x:UInt8,FnS E 69 [u8 x] (.bool false):=fun x S H K hK=>runL_ok rfl low_cmp_isNaN_uint8 (isNaN8_spec _ x S H K hK)
theorem q_cmp_Compare_uint8:∀x y:UInt8,FnS E 59 [u8 x,u8 y] (.i (cmpU x y)):=fun x y S H K hK=>runL_ok rfl low_cmp_Compare_uint8 (Compare8_spec _ q_cmp_isNaN_uint8 x y S H K hK)
theorem q_cmp_Or_int:∀x y:Int,FnS E 57 [.list .sh 1 [.i x,.i y]] (.i (if x≠0 then x else y)):=fun x y S H K hK=>runL_ok rfl low_cmp_Or_int (Or_spec EC _ x y S H K hK)
theorem q_stamp_Cmp:CmpSS E 40:=fun a b S H K hK=>runL_ok rfl low_stamp_Cmp (stamp_Cmp_spec EC EW _ q_cmp_Compare_int64 q_cmp_Compare_uint8 q_cmp_Or_int a b S H K hK)
theorem q_stamp_Max:MaxS E 41:=fun a b S H K hK=>runL_ok rfl low_stamp_Max (stamp_Max_spec _ q_stamp_Cmp a b S H K hK)
theorem q_coord_Coord_Vote:VoteS E 10:=fun h hm b hv ha id x part y a S H K t hK=>runL_ok rfl low_coord_Coord_Vote (coord_Vote_spec _ q_coord_Coord_of q_stamp_Good q_stamp_Cmp q_stamp_Max h hm b hv ha id x part y a S H K t hK)
theorem q_coord_Coord_Decision:DecS E 14:=fun h hm b hv ha id x S H K t hK=>runL_ok rfl low_coord_Coord_Decision (coord_Decision_spec _ h hm b hv ha id x S H K t hK)
theorem q_coord_Coord_Owes_1:Owes1S E 44:=fun h hm b hv ha id x v r S H K t hr hK=>runL_ok rfl low_coord_Coord_Owes_1 (coord_Owes1_spec _ h hm b hv ha id x v r S H K t hr hK)
theorem q_slices_IndexFunc_int:IdxRS E 62:=fun d g r p S H K hd hr hask hy hn=>runL_ok rfl low_slices_IndexFunc_int (IndexFunc_int_spec EC _ d g r p S H K hd hr hask hy hn)
theorem q_slices_DeleteFunc_int:DelFS E 43:=fun l g r p S H K hne hl hr hask hK=>runL_ok rfl low_slices_DeleteFunc_int (DeleteFunc_spec EC _ q_slices_IndexFunc_int l g r p S H K hne hl hr hask hK)
theorem q_coord_Coord_Owes:OwesS E 19:=fun h hm b hv ha id x S H K t hK=>runL_ok rfl low_coord_Coord_Owes (coord_Owes_spec _ q_slices_Clone_int.1 q_coord_Coord_Owes_1 q_slices_DeleteFunc_int h hm b hv ha id x S H K t hK)
theorem q_hourglasslaw18_same:SameIS E 18:=fun a b S H K ha hb hK=>runL_ok rfl low_hourglasslaw18_same (sameI_spec EC _ a b S H K ha hb hK)
theorem q_maps_Keys_txn_1:KeysItS E 65:=fun G N h bx hm c es x S K a1 a2 a3 a4 a5 a6 a7 a8=>runL_ok rfl low_maps_Keys_txn_1 (maps_Keys1_spec EC _ G N h bx hm c es x S K a1 a2 a3 a4 a5 a6 a7 a8)
theorem q_maps_Keys_txn:KeysS E 48 65:=fun hm S H K hK=>runL_ok rfl low_maps_Keys_txn (maps_Keys_spec _ hm S H K hK)
theorem round_slices_AppendSeq_int64:RoundOK E Try.prog 71 (rfAt Try.prog 71 0).1 (rfAt Try.prog 71 0).2 (C_slices_AppendSeq_int64_a0).code (C_slices_AppendSeq_int64_b0).code:=roundE tr_slices_AppendSeq_int64_a0 tr_slices_AppendSeq_int64_b0 low_slices_AppendSeq_int64_a0 low_slices_AppendSeq_int64_b0
theorem q_slices_AppendSeq_int64:AppSeqS E 71 65:=fun bx hm cc es x S H K hM hK=>runL_ok rfl low_slices_AppendSeq_int64 (AppendSeq_spec EC _ q_maps_Keys_txn_1 (by kernel_rfl) round_slices_AppendSeq_int64 bx hm cc es x S H K hM hK)
theorem q_slices_Collect_int64:CollS E 63 65:=fun bx hm cc es x S H K hM hK=>runL_ok rfl low_slices_Collect_int64 (Collect_spec _ q_slices_AppendSeq_int64 bx hm cc es x S H K hM hK)
theorem q_math_bits_Len64:LenS E 87:=fun x hx S H K hK=>runL_ok rfl low_math_bits_Len64 (Len64_spec _ x S H K hx hK)
theorem q_math_bits_Len:LenS E 73:=fun x hx S H K hK=>runL_ok rfl low_math_bits_Len (Len_spec _ q_math_bits_Len64 x S H K hx hK)
theorem q_cmp_Less_int64:LessS E 83:=fun x y S H K hK=>runL_ok rfl low_cmp_Less_int64 (cmp_Less_spec _ q_cmp_isNaN_int64 x y S H K hK)
theorem q_slices_insertionSortOrdered_int64:SrtS E 77 (Sort.insertionSort ltI)∧SrtN E 77:=⟨fun n d a b S H K h1 h2 h3 h4 hK=>runL_ok rfl low_slices_insertionSortOrdered_int64 (insertionSort_spec EC _ q_cmp_Less_int64 n d a b S H K h1 h2 h3 h4 hK),fun S H K hK=>runL_ok rfl low_slices_insertionSortOrdered_int64 (insertionSort_nil EC _ S H K hK)⟩
theorem q_slices_siftDownOrdered_int64:SiftS E 90:=fun n d lo hi first S H K h1 h2 h3 h4 hK=>runL_ok rfl low_slices_siftDownOrdered_int64 (siftDown_spec EC _ q_cmp_Less_int64 n d lo hi first S H K h1 h2 h3 h4 hK)
theorem q_slices_heapSortOrdered_int64:SrtT E 78 (Sort.heapSort ltI):=fun n d a b S H K h1 h2 h3 h4 hK=>runL_ok rfl low_slices_heapSortOrdered_int64 (heapSort_spec EC _ q_slices_siftDownOrdered_int64 n d a b S H K h1 h2 h3 h4 hK)
theorem q_slices_nextPowerOfTwo:NpS E 91:=fun n hn S H K hK=>runL_ok rfl low_slices_nextPowerOfTwo (nextPow_spec _ q_math_bits_Len n S H K hn hK)
theorem q_slices_xorshift_Next:XorS E 92:=fun m r S H K h hK=>runL_ok rfl low_slices_xorshift_Next (xorshift_spec _ m r S H K h hK)
theorem q_slices_breakPatternsOrdered_int64:SrtT E 79 Sort.breakPatterns:=fun n d a b S H K h1 h2 h3 h4 hK=>runL_ok rfl low_slices_breakPatternsOrdered_int64 (breakPatterns_spec EC _ q_slices_nextPowerOfTwo q_slices_xorshift_Next n d a b S H K h1 h2 h3 h4 hK)
theorem q_slices_order2Ordered_int64:Ord2S E 97:=fun n m d a b sw S H K h1 h2 h3 h4 h5 hK=>runL_ok rfl low_slices_order2Ordered_int64 (order2_spec _ q_cmp_Less_int64 n m d a b sw S H K h1 h2 h3 h4 h5 hK)
theorem q_slices_medianOrdered_int64:MedS E 94:=fun n m d a b e sw S H K h0 h1 h2 h3 h4 h5 h6 hK=>runL_ok rfl low_slices_medianOrdered_int64 (median_spec _ q_slices_order2Ordered_int64 n m d a b e sw S H K h0 h1 h2 h3 h4 h5 h6 hK)
theorem q_slices_medianAdjacentOrdered_int64:MadS E 93:=fun n m d a sw S H K h0 h1 h2 h3 h4 h5 h6 hK=>runL_ok rfl low_slices_medianAdjacentOrdered_int64 (medianAdjacent_spec _ q_slices_medianOrdered_int64 n m d a sw S H K h0 h1 h2 h3 h4 h5 h6 hK)
theorem q_slices_choosePivotOrdered_int64:ChpS E 80:=fun n d a b S H K h1 h2 h3 h4 hK=>runL_ok rfl low_slices_choosePivotOrdered_int64 (choosePivot_spec _ q_slices_medianAdjacentOrdered_int64 q_slices_medianOrdered_int64 n d a b S H K h1 h2 h3 h4 hK)
theorem q_slices_reverseRangeOrdered_int64:SrtT E 81 Sort.reverseRange:=fun n d a b S H K h1 h2 h3 h4 hK=>runL_ok rfl low_slices_reverseRangeOrdered_int64 (reverseRange_spec EC _ n d a b S H K h1 h2 h3 h4 hK)
theorem q_slices_partialInsertionSortOrdered_int64:PinS E 82:=fun n d a b S H K h1 h2 h3 h4 hK=>runL_ok rfl low_slices_partialInsertionSortOrdered_int64 (partialIns_spec EC _ q_cmp_Less_int64 n d a b S H K h1 h2 h3 h4 hK)
theorem q_slices_partitionEqualOrdered_int64:PeqS E 84:=fun n d a b p S H K h1 h2 h3 h4 h5 hK=>runL_ok rfl low_slices_partitionEqualOrdered_int64 (partitionEqual_spec EC _ q_cmp_Less_int64 n d a b p S H K h1 h2 h3 h4 h5 hK)
theorem q_slices_partitionOrdered_int64:PartS E 85:=fun n d a b p S H K h1 h2 h3 h4 h5 hK=>runL_ok rfl low_slices_partitionOrdered_int64 (partition_spec EC _ q_cmp_Less_int64 n d a b p S H K h1 h2 h3 h4 h5 hK)
theorem q_slices_pdqsortOrdered_int64:(∀m,PdqS E 72 m)∧PdqN E 72:=⟨fun m=>by induction m with | zero=>exact fun n d a b lim S H K h1 h2 h3 h4 h5=>absurd h5 (by omega) | succ m ih=>exact fun n d a b lim S H K h1 h2 h3 h4 h5 h6 h7 hK=>runL_ok rfl low_slices_pdqsortOrdered_int64 (pdqsort_spec EC _ q_slices_insertionSortOrdered_int64.1 q_slices_heapSortOrdered_int64 q_slices_breakPatternsOrdered_int64 q_slices_choosePivotOrdered_int64 q_slices_reverseRangeOrdered_int64 q_slices_partialInsertionSortOrdered_int64 q_cmp_Less_int64 q_slices_partitionEqualOrdered_int64 q_slices_partitionOrdered_int64 ih n d a b lim S H K h1 h2 h3 h4 h5 h6 h7 hK),fun S H K hK=>runL_ok rfl low_slices_pdqsortOrdered_int64 (pdqsort_nil EC _ q_slices_insertionSortOrdered_int64.2 S H K hK)⟩
theorem q_slices_Sort_int64:SortIS E 64∧OneN E 64 (.tup []):=⟨fun n d S H K h1 h2 hK=>runL_ok rfl low_slices_Sort_int64 (Sort_int_spec _ q_math_bits_Len q_slices_pdqsortOrdered_int64.1 n d S H K h1 h2 hK),fun S H K hK=>runL_ok rfl low_slices_Sort_int64 (Sort_int_nil _ q_math_bits_Len q_slices_pdqsortOrdered_int64.2 S H K hK)⟩
theorem q_slices_Sorted_int64:SortedS E 47 65:=fun bx hm cc es x S H K hM hK=>EvW.res (runL_ok rfl low_slices_Sorted_int64 (Sorted_spec _ q_slices_Collect_int64 q_slices_Sort_int64.1 q_slices_Sort_int64.2 bx hm cc es x S H K hM hK))
theorem q_coord_Coord_Open:OpenS E 22:=fun h hm b hv ha id x S H K t hK=>EvW.res (runL_ok rfl low_coord_Coord_Open (coord_Open_spec EC _ q_maps_Keys_txn q_slices_Sorted_int64 q_coord_Coord_Owes h hm b hv ha id x S H K t hK))
theorem q_hourglasslaw18_same64:SameIS E 23:=fun a b S H K ha hb hK=>runL_ok rfl low_hourglasslaw18_same64 (sameI_spec EC _ a b S H K ha hb hK)
theorem q_hourglasslaw18_awake:AwCS E 7:=fun S H K hK=>runL_ok rfl low_hourglasslaw18_awake (law18_awake_spec EC EW _ q_coord_New q_hourglasslaw18_at q_coord_Coord_Begin.1 q_coord_Coord_Vote q_coord_Coord_Decision q_coord_Coord_Owes q_hourglasslaw18_same q_coord_Coord_Open q_hourglasslaw18_same64 S H K hK)
theorem q_hourglassref6_Cmp:CmpSS E 15:=fun a b S H K hK=>runL_ok rfl low_hourglassref6_Cmp (ref6_Cmp_spec _ a b S H K hK)
theorem q_hourglassref6_Max:MaxS E 11:=fun a b S H K hK=>runL_ok rfl low_hourglassref6_Max (ref6_Max_spec _ q_hourglassref6_Cmp a b S H K hK)
theorem q_coord_Coord_Ack:AckS E 12:=fun h hm b hv ha id x part S H K t hK=>runL_ok rfl low_coord_Coord_Ack (coord_Ack_spec _ q_coord_Coord_of h hm b hv ha id x part S H K t hK)
theorem q_coord_Coord_Give:GiveS E 13:=fun h hm b hv ha id x S H K t hK=>runL_ok rfl low_coord_Coord_Give (coord_Give_spec _ h hm b hv ha id x S H K t hK)
theorem q_hourglasslaw18_CoordOnce:∀(snap:Stp) (parts:List Int) (l:List CAct) (S:List (List AV)) (H:List HObj) (K:AV→St→Prop),parts.length≤9223372036854775807→l.length≤9223372036854775807→(∀H',K (.bool true) ⟨S,H'⟩)→E (.fn 3) [.agg (stc snap),lstN parts,.list .sh 16 (l.map cactA)] ⟨S,H⟩ K:=fun snap parts l S H K hp hl hK=>runL_ok rfl low_hourglasslaw18_CoordOnce (CoordOnce_spec EC _ q_hourglasslaw18_awake q_coord_New q_coord_Coord_Begin.1 q_coord_Coord_Vote q_hourglassref6_Max q_coord_Coord_Ack q_coord_Coord_Give q_coord_Coord_Decision q_hourglassref6_Cmp snap parts l S H K hp hl hK)
end Go.AM
