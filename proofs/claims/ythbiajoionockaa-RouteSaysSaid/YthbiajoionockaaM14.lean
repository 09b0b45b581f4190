import Derived.Test.YthbiajoionockaaM7
import Derived.Test.YthbiajoionockaaChecked
import Derived.KernelRfl
import Derived.Test.YthbiajoionockaaM13
import Derived.Test.YthbiajoionockaaM10
import Derived.Test.YthbiajoionockaaM12
set_option linter.unusedSimpArgs false
set_option linter.unusedVariables false
namespace Go.AM
open Go Go.Proofs
set_option maxRecDepth 100000
def cfgA.heap (f d : Nat) : Bool :=
  match f with
  | 13 => [37].contains d
  | 14 => [11].contains d
  | 35 => [41].contains d
  | 36 => [14].contains d
  | 45 => [3, 4, 5].contains d
  | 62 => [1].contains d
  | _ => false
def cfgA.take (f d : Nat) : Bool :=
  match f with
  | 3 => [22].contains d
  | 6 => [30].contains d
  | 7 => [18, 25, 27].contains d
  | 8 => [52].contains d
  | 9 => [73].contains d
  | 13 => [34].contains d
  | 14 => [29, 35].contains d
  | 19 => [69, 74].contains d
  | 26 => [33].contains d
  | 29 => [59, 70, 74].contains d
  | 34 => [21, 28].contains d
  | 36 => [35, 43].contains d
  | 39 => [9, 23, 27].contains d
  | 40 => [76, 80].contains d
  | 57 => [5].contains d
  | 58 => [9, 60].contains d
  | 61 => [5, 6].contains d
  | 62 => [1].contains d
  | 67 => [5].contains d
  | 69 => [24, 30].contains d
  | 80 => [44].contains d
  | 92 => [7].contains d
  | 93 => [28].contains d
  | _ => false
def mz : Bool → List Nat → List Bool
  | _, [] => []
  | b, n :: l => List.replicate n b ++ mz (!b) l
def cfgA.mask (f b : Nat) : List Bool :=
  match f, b with
  | 3, 0 => mz false [1, 1, 3, 1, 1, 3, 100]
  | 3, 2 => mz false [7, 2, 2, 1, 98]
  | 4, 0 => mz false [6, 1, 1, 2, 3, 1, 1, 3, 91]
  | 7, 0 => mz false [0, 1, 2, 2, 39]
  | 10, 0 => mz false [2, 1, 3, 1, 1, 2, 1, 1, 1, 1, 1, 3, 99]
  | 12, 0 => mz false [0, 1, 2, 1, 16]
  | 13, 0 => mz false [0, 1, 5, 3, 29]
  | 14, 0 => mz false [0, 1, 4, 1, 6, 3, 21]
  | 15, 0 => mz false [3, 1, 1, 1, 8, 3, 11]
  | 16, 0 => mz false [1, 1, 1, 2, 12]
  | 18, 0 => mz false [2, 2, 1, 1, 18]
  | 19, 0 => mz false [0, 1, 3, 2, 1, 2, 15, 2, 49]
  | 25, 0 => mz false [4, 2, 2, 3, 4, 3, 45]
  | 27, 0 => mz false [0, 1, 2, 1, 25]
  | 28, 0 => mz false [0, 1, 1, 2, 198]
  | 28, 2 => mz false [0, 1, 1, 1, 1, 1, 197]
  | 28, 4 => mz false [0, 1, 1, 1, 1, 2, 196]
  | 28, 6 => mz false [0, 1, 1, 1, 1, 3, 195]
  | 28, 8 => mz false [0, 1, 1, 1, 6, 1, 192]
  | 28, 10 => mz false [0, 1, 1, 1, 6, 2, 191]
  | 29, 0 => mz false [0, 1, 2, 2, 70]
  | 29, 2 => mz false [0, 1, 2, 4, 68]
  | 30, 0 => mz false [0, 1, 3, 2, 2, 4, 67]
  | 33, 0 => mz false [0, 2, 3, 1, 20]
  | 34, 0 => mz false [0, 1, 4, 1, 3, 3, 18]
  | 35, 0 => mz false [0, 1, 3, 1, 37]
  | 36, 0 => mz false [0, 2, 3, 2, 37]
  | 37, 0 => mz false [0, 2, 3, 1, 20]
  | 38, 0 => mz false [0, 1, 2, 1, 1, 1, 25]
  | 39, 0 => mz false [5, 3, 20]
  | 40, 0 => mz false [0, 1, 3, 2, 1, 3, 71]
  | 44, 0 => mz false [0, 1, 1, 1, 1, 2, 27]
  | 45, 0 => mz false [3, 3, 13]
  | 47, 0 => mz false [2, 1, 3, 3, 18]
  | 48, 0 => mz false [0, 3, 3, 1, 4, 3, 36]
  | 48, 2 => mz false [0, 3, 3, 1, 1, 6, 36]
  | 53, 0 => mz false [0, 1, 1, 1, 9, 3, 43]
  | 53, 2 => mz false [0, 1, 1, 1, 1, 2, 6, 3, 5, 3, 35]
  | 55, 0 => mz false [0, 2, 3, 1, 19]
  | 56, 0 => mz false [0, 1, 2, 2, 1, 1, 19]
  | 58, 0 => mz false [0, 1, 2, 1, 57]
  | 58, 2 => mz false [0, 1, 2, 3, 55]
  | 60, 0 => mz false [1, 1, 1, 1, 13]
  | 63, 0 => mz false [3, 1, 2, 3, 9]
  | 69, 0 => mz false [0, 4, 4, 2, 124]
  | 73, 0 => mz false [0, 2, 1, 1, 15]
  | 76, 0 => mz false [0, 2, 5, 2, 10]
  | 77, 0 => mz false [0, 3, 3, 1, 42]
  | 77, 2 => mz false [0, 3, 3, 2, 41]
  | 78, 0 => mz false [0, 1, 5, 4, 46]
  | 78, 2 => mz false [0, 1, 5, 2, 2, 1, 45]
  | 79, 0 => mz false [0, 2, 4, 4, 55]
  | 81, 0 => mz false [0, 1, 5, 2, 24]
  | 82, 0 => mz false [0, 3, 4, 2, 124]
  | 82, 2 => mz false [0, 3, 4, 2, 124]
  | 82, 4 => mz false [0, 3, 4, 3, 123]
  | 82, 6 => mz false [0, 3, 4, 2, 1, 1, 122]
  | 84, 0 => mz false [0, 2, 7, 2, 73]
  | 84, 2 => mz false [0, 2, 7, 2, 73]
  | 84, 4 => mz false [0, 2, 7, 2, 73]
  | 85, 0 => mz false [0, 2, 8, 2, 156]
  | 85, 2 => mz false [0, 2, 8, 2, 156]
  | 85, 4 => mz false [0, 2, 8, 2, 156]
  | 85, 6 => mz false [0, 2, 8, 2, 156]
  | 85, 8 => mz false [0, 2, 8, 2, 156]
  | 89, 0 => mz false [0, 1, 1, 2, 4, 1, 67]
  | _, _ => []
def cfgA.plan (f k : Nat) : List Nat :=
  match f, k with
  | 3, 17 => List.range 33
  | 3, 23 => List.range 10
  | 4, 6 => [0, 1, 3, 4, 2, 5, 6, 7]
  | 4, 15 => List.range 15
  | 5, 9 => List.range 11
  | 6, 8 => [2, 3, 0, 1, 4, 5, 6, 7, 8, 9]
  | 8, 5 => [0, 1, 2, 3, 5, 6, 7, 8, 4, 9, 10]
  | 9, 11 => [0, 1, 2, 3, 4, 5, 6, 7, 8, 9, 10, 11, 12, 13, 14, 15, 16, 17, 18, 19, 20, 21, 24, 22, 23, 25, 26, 27, 28, 29, 30, 31, 32, 33, 34, 35, 36, 37, 38, 39, 40, 41, 42, 43, 44, 45, 46, 47, 48, 49, 50, 51, 52, 53, 54, 55, 56, 57, 61, 58, 59, 60, 62, 63, 64, 65, 69, 66, 67, 68, 70, 71, 72, 73, 75, 77, 74, 76, 78, 79, 80, 81, 82, 83, 84, 85, 86, 87, 88, 89, 90, 91, 93, 92, 94, 95, 96]
  | 10, 15 => List.range 10
  | 10, 17 => [0, 1, 3, 4, 2, 5, 6, 7, 8, 9, 11, 12, 10, 13, 14, 15, 16, 17, 18, 19, 21, 22, 23, 20, 24, 25, 26, 27]
  | 13, 4 => List.range 17
  | 14, 7 => [0, 1, 2, 3, 4, 6, 7, 5, 8, 9, 10]
  | 18, 4 => List.range 7
  | 18, 6 => List.range 7
  | 19, 8 => List.range 20
  | 19, 9 => List.range 19
  | 25, 9 => List.range 6
  | 28, 4 => List.range 28
  | 28, 29 => List.range 14
  | 29, 5 => List.range 28
  | 30, 7 => List.range 33
  | 30, 8 => List.range 9
  | 33, 6 => List.range 9
  | 35, 6 => List.range 23
  | 36, 7 => [0, 1, 2, 3, 4, 6, 7, 8, 9, 10, 5, 11, 12, 13]
  | 37, 6 => List.range 9
  | 38, 4 => List.range 19
  | 40, 6 => List.range 20
  | 40, 7 => List.range 21
  | 42, 1 => [0, 1, 2, 3]
  | 46, 1 => [0, 1, 2, 3, 5, 6, 7, 8, 4, 9, 10, 11, 12]
  | 48, 7 => List.range 18
  | 56, 4 => List.range 7
  | 58, 6 => List.range 10
  | 58, 11 => List.range 10
  | 69, 17 => List.range 15
  | 77, 4 => List.range 15
  | 77, 6 => List.range 18
  | 78, 10 => List.range 20
  | 79, 10 => List.range 20
  | 81, 3 => List.range 16
  | 82, 5 => List.range 16
  | 82, 11 => List.range 18
  | 82, 16 => List.range 11
  | 82, 17 => List.range 18
  | 82, 22 => List.range 11
  | 82, 23 => List.range 18
  | 84, 1 => List.range 16
  | 84, 3 => List.range 15
  | 84, 5 => List.range 14
  | 84, 8 => List.range 16
  | 85, 1 => List.range 16
  | 85, 3 => List.range 14
  | 85, 5 => List.range 15
  | 85, 8 => List.range 16
  | 85, 10 => List.range 16
  | 85, 13 => List.range 14
  | 85, 15 => List.range 15
  | 85, 18 => List.range 16
  | 85, 21 => List.range 16
  | 89, 3 => List.range 20
  | 89, 5 => List.range 14
  | 89, 6 => List.range 24
  | 91, 1 => List.range 10
  | 91, 2 => List.range 10
  | 91, 3 => List.range 10
  | 96, 1 => List.range 9
  | _, _ => []
def rr (a : Nat) : Nat → PT → PT
  | 0, t => t
  | n + 1, t => .rd a (rr (a + 1) n t)
def cfgA.tree (f k : Nat) : PT :=
  match f, k with
  | 3, 17 => rr 0 33 .done
  | 3, 23 => rr 0 10 .done
  | 4, 6 => rr 0 2 (rr 3 2 (.mv 2 (.mv 5 (.mv 6 (.mv 7 .done .stop) .stop) .stop) .stop))
  | 4, 15 => rr 0 15 .done
  | 5, 9 => .rd 0 (.mv 1 (.rd 2 (.mv 3 (.mv 4 (.mv 5 (rr 6 3 (.mv 9 (.mv 10 .done .stop) .stop)) .stop) .stop) .stop)) .stop)
  | 6, 8 => rr 2 2 (.mv 0 (.mv 1 (.mv 4 (rr 5 3 (.mv 8 (.mv 9 .done .stop) .stop)) .stop) .stop) .stop)
  | 8, 5 => rr 0 4 (rr 5 4 (.mv 4 (.mv 9 (.mv 10 .done .stop) .stop) .stop))
  | 9, 11 => rr 0 17 (.mv 17 (rr 18 4 (.rd 24 (.mv 22 (.mv 23 (.mv 25 (rr 26 20 (.mv 46 (rr 47 11 (.rd 61 (.mv 58 (.mv 59 (.mv 60 (.mv 62 (rr 63 3 (.rd 69 (.mv 66 (.mv 67 (.mv 68 (.mv 70 (rr 71 3 (.rd 75 (.rd 77 (.mv 74 (.mv 76 (.mv 78 (rr 79 3 (.mv 82 (.mv 83 (.mv 84 (rr 85 7 (.rd 93 (.mv 92 (.mv 94 (.rd 95 (.mv 96 .done .stop)) .stop) .stop))) .stop) .stop) .stop)) .stop) .stop) .stop)))) .stop) .stop) .stop) .stop))) .stop) .stop) .stop) .stop))) .stop)) .stop) .stop) .stop))) .stop)
  | 10, 15 => rr 0 8 (.mv 8 (.rd 9 .done) .stop)
  | 10, 17 => rr 0 2 (rr 3 2 (.mv 2 (.mv 5 (rr 6 4 (rr 11 2 (.mv 10 (.mv 13 (.mv 14 (rr 15 5 (rr 21 3 (.mv 20 (.mv 24 (.mv 25 (.rd 26 (.mv 27 .done .stop)) .stop) .stop) .stop))) .stop) .stop) .stop))) .stop) .stop))
  | 13, 4 => .rd 0 (.mv 1 (rr 2 11 (.mv 13 (rr 14 3 .done) .stop)) .stop)
  | 14, 7 => rr 0 5 (rr 6 2 (.mv 5 (.mv 8 (.rd 9 (.mv 10 .done .stop)) .stop) .stop))
  | 18, 4 => rr 0 7 .done
  | 18, 6 => rr 0 7 .done
  | 19, 8 => rr 0 16 (.mv 16 (rr 17 2 (.mv 19 .done .stop)) .stop)
  | 19, 9 => rr 0 15 (.mv 15 (rr 16 2 (.mv 18 .done .stop)) .stop)
  | 25, 9 => rr 0 3 (.mv 3 (.mv 4 (.mv 5 .done .stop) .stop) .stop)
  | 28, 4 => rr 0 25 (.mv 25 (rr 26 2 .done) .stop)
  | 28, 15 => rr 0 8 (.mv 8 (.mv 9 (.mv 10 (.mv 11 .done .stop) .stop) .stop) (.mv 9 (.mv 8 (.mv 10 (.mv 11 .done .stop) .stop) .stop) .stop))
  | 28, 28 => rr 0 7 (.mv 7 (rr 8 3 (.mv 11 (.mv 12 (.mv 13 .done .stop) .stop) .stop)) (.mv 11 (.mv 7 (rr 8 3 (.mv 12 (.mv 13 .done .stop) .stop)) .stop) .stop))
  | 28, 29 => rr 0 8 (.mv 8 (rr 9 3 (.mv 12 (.mv 13 .done .stop) .stop)) .stop)
  | 29, 5 => rr 0 26 (.mv 26 (.mv 27 .done .stop) .stop)
  | 30, 6 => rr 0 6 (.mv 6 (rr 7 3 (.mv 10 (.mv 11 (.mv 12 .done .stop) .stop) .stop)) (.mv 10 (.mv 6 (rr 7 3 (.mv 11 (.mv 12 .done .stop) .stop)) .stop) .stop))
  | 30, 7 => rr 0 17 (.mv 17 (rr 18 11 (.mv 29 (rr 30 3 .done) .stop)) .stop)
  | 30, 8 => rr 0 6 (.mv 6 (.mv 7 (.mv 8 .done .stop) .stop) .stop)
  | 33, 6 => rr 0 9 .done
  | 35, 6 => rr 0 4 (.mv 4 (rr 5 14 (.mv 19 (rr 20 3 .done) .stop)) .stop)
  | 36, 7 => rr 0 5 (rr 6 5 (.mv 5 (.mv 11 (.rd 12 (.mv 13 .done .stop)) .stop) .stop))
  | 37, 6 => rr 0 9 .done
  | 38, 4 => rr 0 16 (.mv 16 (rr 17 2 .done) .stop)
  | 40, 6 => rr 0 16 (.mv 16 (rr 17 2 (.mv 19 .done .stop)) .stop)
  | 40, 7 => rr 0 17 (.mv 17 (rr 18 2 (.mv 20 .done .stop)) .stop)
  | 42, 1 => rr 0 2 (.mv 2 (.mv 3 .done .stop) .stop)
  | 46, 1 => rr 0 4 (rr 5 4 (.mv 4 (.mv 9 (.rd 10 (.mv 11 (.mv 12 .done .stop) .stop)) .stop) .stop))
  | 48, 7 => .rd 0 (.mv 1 (rr 2 5 (.mv 7 (rr 8 8 (.mv 16 (.rd 17 .done) .stop)) .stop)) .stop)
  | 56, 4 => rr 0 7 .done
  | 58, 6 => rr 0 10 .done
  | 58, 11 => rr 0 10 .done
  | 69, 17 => rr 0 12 (.mv 12 (rr 13 2 .done) .stop)
  | 77, 4 => rr 0 13 (.mv 13 (.rd 14 .done) .stop)
  | 77, 6 => rr 0 15 (.mv 15 (.rd 16 (.mv 17 .done .stop)) .stop)
  | 78, 10 => rr 0 17 (.mv 17 (.rd 18 (.mv 19 .done .stop)) .stop)
  | 79, 10 => rr 0 17 (.mv 17 (.rd 18 (.mv 19 .done .stop)) .stop)
  | 81, 3 => rr 0 13 (.mv 13 (.rd 14 (.mv 15 .done .stop)) .stop)
  | 82, 5 => rr 0 13 (.mv 13 (rr 14 2 .done) .stop)
  | 82, 11 => rr 0 15 (.mv 15 (.rd 16 (.mv 17 .done .stop)) .stop)
  | 82, 16 => rr 0 9 (.mv 9 (.rd 10 .done) .stop)
  | 82, 17 => rr 0 15 (.mv 15 (.rd 16 (.mv 17 .done .stop)) .stop)
  | 82, 22 => rr 0 9 (.mv 9 (.rd 10 .done) .stop)
  | 82, 23 => rr 0 15 (.mv 15 (.rd 16 (.mv 17 .done .stop)) .stop)
  | 84, 1 => rr 0 13 (.mv 13 (.rd 14 (.mv 15 .done .stop)) .stop)
  | 84, 3 => rr 0 12 (.mv 12 (rr 13 2 .done) .stop)
  | 84, 5 => rr 0 12 (.mv 12 (.rd 13 .done) .stop)
  | 84, 8 => rr 0 13 (.mv 13 (.rd 14 (.mv 15 .done .stop)) .stop)
  | 85, 1 => rr 0 13 (.mv 13 (.rd 14 (.mv 15 .done .stop)) .stop)
  | 85, 3 => rr 0 12 (.mv 12 (.rd 13 .done) .stop)
  | 85, 5 => rr 0 12 (.mv 12 (rr 13 2 .done) .stop)
  | 85, 8 => rr 0 13 (.mv 13 (.rd 14 (.mv 15 .done .stop)) .stop)
  | 85, 10 => rr 0 13 (.mv 13 (.rd 14 (.mv 15 .done .stop)) .stop)
  | 85, 13 => rr 0 12 (.mv 12 (.rd 13 .done) .stop)
  | 85, 15 => rr 0 12 (.mv 12 (rr 13 2 .done) .stop)
  | 85, 18 => rr 0 13 (.mv 13 (.rd 14 (.mv 15 .done .stop)) .stop)
  | 85, 21 => rr 0 13 (.mv 13 (.rd 14 (.mv 15 .done .stop)) .stop)
  | 89, 3 => rr 0 18 (.mv 18 (.rd 19 .done) .stop)
  | 89, 5 => rr 0 12 (.mv 12 (.rd 13 .done) .stop)
  | 89, 6 => rr 0 21 (.mv 21 (.rd 22 (.mv 23 .done .stop)) .stop)
  | 91, 1 => rr 0 9 (.mv 9 .done .stop)
  | 91, 2 => rr 0 9 (.mv 9 .done .stop)
  | 91, 3 => rr 0 9 (.mv 9 .done .stop)
  | 96, 1 => rr 0 8 (.mv 8 .done .stop)
  | _, _ => .stop
def cfgA.thaw (f d : Nat) : Bool := (f == 34 && d == 26)
def cfgA.freeze (f d : Nat) : Bool := (f == 34 && d == 4)
def cfgA : Cfg := { heap := cfgA.heap, take := cfgA.take, thaw := cfgA.thaw, freeze := cfgA.freeze, mask := cfgA.mask, plan := cfgA.plan, prim := fun f => match f with | 95 => some primIndexByte | 72 => some primCompare | _ => none, keep := fun f => [].contains f }
theorem plans : plansOK Try.prog cfgA = true := by kernel_rfl
theorem trees : treesOK Try.prog cfgA cfgA.tree = true := by kernel_rfl
theorem named : (Try.prog.funcs.all fun fn => fn.name != "runtime.NumGoroutine") = true := by kernel_rfl
theorem names_ok : ∀ (f : FuncId) (fn : Func), Try.prog.funcs[f]? = some fn → fn.name ≠ "runtime.NumGoroutine" := by
  intro f fn hf
  have := Array.all_eq_true_iff_forall_mem.1 named fn (Array.mem_of_getElem? hf)
  simpa using this
theorem prims : PrimOK Try.prog cfgA := by
  intro f p hp args σ v σ' h g w ow xs r
  simp only [cfgA] at hp
  split at hp
  · injection hp with hp; subst hp
    exact indexByte_prim Try.func95 (by kernel_rfl) (by kernel_rfl) (by kernel_rfl) (by kernel_rfl) h r
  · injection hp with hp; subst hp
    exact compare_prim Try.func72 (by kernel_rfl) (by kernel_rfl) (by kernel_rfl) (by kernel_rfl) h r
  · cases hp
theorem sound (n : Nat) : Sound Try.prog (ev Try.prog cfgA n) := ev_sound Try.checked.mixed plans names_ok prims n
abbrev E : CallW := EvW Try.prog cfgA cfgA.tree
theorem E_sound {t : Tgt} {args : List AV} {σ : St} {K : AV → St → Prop} (h : E t args σ K) : ModelW Try.prog t args σ K := EvW_sound Try.checked.mixed trees names_ok prims h
end Go.AM
namespace Go.AM
open Go Go.Proofs
set_option maxRecDepth 20000
theorem low_hourglassref10_Of : lowFn Try.prog cfgA cfgA.tree 44 = some (C_hourglassref10_Of) := by kernel_rfl
theorem low_hourglasslaw17_k : lowFn Try.prog cfgA cfgA.tree 32 = some (C_hourglasslaw17_k 44) := by kernel_rfl
theorem low_key_text : lowFn Try.prog cfgA cfgA.tree 60 = some (C_key_text) := by kernel_rfl
theorem low_internal_stringslite_IndexByte : lowFn Try.prog cfgA cfgA.tree 88 = some (C_internal_stringslite_IndexByte 95) := by kernel_rfl
theorem low_strings_IndexByte : lowFn Try.prog cfgA cfgA.tree 71 = some (C_strings_IndexByte 88) := by kernel_rfl
theorem low_key_Of : lowFn Try.prog cfgA cfgA.tree 59 = some (C_key_Of 71) := by kernel_rfl
theorem low_key_Good : lowFn Try.prog cfgA cfgA.tree 41 = some (C_key_Good 60 59) := by kernel_rfl
theorem low_bytes_Compare : lowFn Try.prog cfgA cfgA.tree 61 = some (C_bytes_Compare 72) := by kernel_rfl
theorem low_key_Cmp : lowFn Try.prog cfgA cfgA.tree 42 = some (C_key_Cmp 61) := by kernel_rfl
theorem low_slices_Clone_Key : lowFn Try.prog cfgA cfgA.tree 43 = some (C_slices_Clone_Key) := by kernel_rfl
theorem low_route_New : lowFn Try.prog cfgA cfgA.tree 13 = some (C_route_New 41 42 43) := by kernel_rfl
theorem low_route_Table_Of : lowFn Try.prog cfgA cfgA.tree 15 = some (C_route_Table_Of 41 42) := by kernel_rfl
theorem low_route_Table_Nodes : lowFn Try.prog cfgA cfgA.tree 17 = some (C_route_Table_Nodes) := by kernel_rfl
theorem low_hourglasslaw17_awake : lowFn Try.prog cfgA cfgA.tree 11 = some (C_hourglasslaw17_awake 32 13 15 17) := by kernel_rfl
theorem low_hourglasslaw17_long : lowFn Try.prog cfgA cfgA.tree 12 = some (C_hourglasslaw17_long) := by kernel_rfl
theorem low_hourglassref10_Good : lowFn Try.prog cfgA cfgA.tree 16 = some (C_hourglassref10_Good) := by kernel_rfl
theorem low_hourglassref10_Cmp : lowFn Try.prog cfgA cfgA.tree 18 = some (C_hourglassref10_Cmp) := by kernel_rfl
theorem low_hourglassref14_NewRoute : lowFn Try.prog cfgA cfgA.tree 35 = some (C_hourglassref14_NewRoute (cs [16, 18])) := by kernel_rfl
theorem low_route_Table_Split : lowFn Try.prog cfgA cfgA.tree 14 = some (C_route_Table_Split (cs [17, 15])) := by kernel_rfl
theorem low_hourglassref14_Route_Of : lowFn Try.prog cfgA cfgA.tree 38 = some (C_hourglassref14_Route_Of (cs [16, 18])) := by kernel_rfl
theorem low_hourglassref14_Route_Split : lowFn Try.prog cfgA cfgA.tree 36 = some (C_hourglassref14_Route_Split (cs [38])) := by kernel_rfl
theorem low_hourglassref10_Writes : lowFn Try.prog cfgA cfgA.tree 37 = some (C_hourglassref10_Writes) := by kernel_rfl
theorem low_math_bits_Len64 : lowFn Try.prog cfgA cfgA.tree 87 = some (C_math_bits_Len64) := by kernel_rfl
theorem low_math_bits_Len : lowFn Try.prog cfgA cfgA.tree 70 = some (C_math_bits_Len (cs [86, 87])) := by kernel_rfl
theorem low_cmp_isNaN_int : lowFn Try.prog cfgA cfgA.tree 94 = some (C_cmp_isNaN_int64) := by kernel_rfl
theorem low_cmp_Less_int : lowFn Try.prog cfgA cfgA.tree 83 = some (C_cmp_Less_int64 (cs [94])) := by kernel_rfl
theorem low_slices_insertionSortOrdered_int : lowFn Try.prog cfgA cfgA.tree 77 = some (C_slices_insertionSortOrdered_int64 (cs [83])) := by kernel_rfl
theorem low_slices_siftDownOrdered_int : lowFn Try.prog cfgA cfgA.tree 89 = some (C_slices_siftDownOrdered_int64 (cs [83])) := by kernel_rfl
theorem low_slices_heapSortOrdered_int : lowFn Try.prog cfgA cfgA.tree 78 = some (C_slices_heapSortOrdered_int64 (cs [89])) := by kernel_rfl
theorem low_slices_nextPowerOfTwo : lowFn Try.prog cfgA cfgA.tree 90 = some (C_slices_nextPowerOfTwo (cs [70])) := by kernel_rfl
theorem low_slices_xorshift_Next : lowFn Try.prog cfgA cfgA.tree 91 = some (C_slices_xorshift_Next) := by kernel_rfl
theorem low_slices_breakPatternsOrdered_int : lowFn Try.prog cfgA cfgA.tree 79 = some (C_slices_breakPatternsOrdered_int64 (cs [90, 91])) := by kernel_rfl
theorem low_slices_order2Ordered_int : lowFn Try.prog cfgA cfgA.tree 96 = some (C_slices_order2Ordered_int64 (cs [83])) := by kernel_rfl
theorem low_slices_medianOrdered_int : lowFn Try.prog cfgA cfgA.tree 93 = some (C_slices_medianOrdered_int64 (cs [96])) := by kernel_rfl
theorem low_slices_medianAdjacentOrdered_int : lowFn Try.prog cfgA cfgA.tree 92 = some (C_slices_medianAdjacentOrdered_int64 (cs [93])) := by kernel_rfl
theorem low_slices_choosePivotOrdered_int : lowFn Try.prog cfgA cfgA.tree 80 = some (C_slices_choosePivotOrdered_int64 (cs [92, 93])) := by kernel_rfl
theorem low_slices_reverseRangeOrdered_int : lowFn Try.prog cfgA cfgA.tree 81 = some (C_slices_reverseRangeOrdered_int64) := by kernel_rfl
theorem low_slices_partialInsertionSortOrdered_int : lowFn Try.prog cfgA cfgA.tree 82 = some (C_slices_partialInsertionSortOrdered_int64 (cs [83])) := by kernel_rfl
theorem low_slices_partitionEqualOrdered_int : lowFn Try.prog cfgA cfgA.tree 84 = some (C_slices_partitionEqualOrdered_int64 (cs [83])) := by kernel_rfl
theorem low_slices_partitionOrdered_int : lowFn Try.prog cfgA cfgA.tree 85 = some (C_slices_partitionOrdered_int64 (cs [83])) := by kernel_rfl
theorem low_slices_pdqsortOrdered_int : lowFn Try.prog cfgA cfgA.tree 69 = some (C_slices_pdqsortOrdered_int64 (cs [77, 78, 79, 80, 81, 82, 83, 84, 85, 69])) := by kernel_rfl
theorem low_slices_Sort_int : lowFn Try.prog cfgA cfgA.tree 57 = some (C_slices_Sort_int (cs [70, 69])) := by kernel_rfl
theorem low_slices_Compact_int : lowFn Try.prog cfgA cfgA.tree 58 = some (C_slices_Compact_int) := by kernel_rfl
theorem low_route_Table_Parts : lowFn Try.prog cfgA cfgA.tree 34 = some (C_route_Table_Parts (cs [15, 57, 58])) := by kernel_rfl
theorem low_hourglassref14_Route_Parts : lowFn Try.prog cfgA cfgA.tree 39 = some (C_hourglassref14_Route_Parts (cs [36])) := by kernel_rfl
theorem low_hourglasslaw17_same : lowFn Try.prog cfgA cfgA.tree 33 = some (C_hourglasslaw17_same) := by kernel_rfl
theorem low_route_Table_Cover : lowFn Try.prog cfgA cfgA.tree 19 = some (C_route_Table_Cover 42 17) := by kernel_rfl
theorem low_hourglassref14_Route_Cover : lowFn Try.prog cfgA cfgA.tree 40 = some (C_hourglassref14_Route_Cover (cs [18])) := by kernel_rfl
theorem low_hourglasslaw17_RouteSays : lowFn Try.prog cfgA cfgA.tree 10 = some (C_hourglasslaw17_RouteSays (cs [11, 12, 13, 35, 14, 36, 17, 37, 15, 38, 34, 39, 33, 19, 40])) := by kernel_rfl
end Go.AM
namespace Go.AM
open Go Go.Proofs
theorem EC : LeC E E := EvW.le
theorem EW : WkC E := fun _ _ _ _ _ h h2 => EvW.args h h2
theorem asBytes_row {S : List (List AV)} {H : List HObj} {r : Nat} {a : List UInt8} (h : S[r]? = some (bs a)) (ha : a.length = 16) : asBytes ⟨S, H⟩ (.row (.stk r) 0 16 16) = some a := by
  have e : (bs a).take 16 = bs a := List.take_of_length_le (by rw [bs_length, ha]; exact Nat.le_refl _)
  have e2 : 16 ≤ (bs a).length := by rw [bs_length, ha]; exact Nat.le_refl _
  simp only [asBytes, readCells, boxOf_stk, h, Option.bind_some, Nat.zero_add, e2, (show ((16 : Nat) ≠ 1) = True from eq_true (by decide)), true_or, and_self, if_true, List.drop_zero, e, map_look_bs, bytesIn_bs]
end Go.AM
namespace Go.AM
open Go Go.Proofs
theorem q_hourglassref10_Of : OfR E 44 := fun s S H K hK => runL_ok rfl low_hourglassref10_Of (ref10_Of_spec EC _ s S H K hK)
theorem q_hourglasslaw17_k : kS E 32 := fun s S H K hK => runL_ok rfl low_hourglasslaw17_k (law_k_spec EC _ q_hourglassref10_Of s S H K hK)
theorem q_key_text : TextS E 60 := fun k S H K hK => runL_ok rfl low_key_text (key_text_spec EC _ k S H K hK)
theorem q_internal_bytealg_IndexByteString : IdxS E 95 := fun l S H K hK => primW (p := primIndexByte) rfl (v := .i (Lib.indexByte l 0)) (σ' := ⟨S, H⟩) rfl hK
theorem q_internal_stringslite_IndexByte : IdxS E 88 := fun l S H K hK => runL_ok rfl low_internal_stringslite_IndexByte (stringslite_IndexByte_spec EC _ q_internal_bytealg_IndexByteString l S H K hK)
theorem q_strings_IndexByte : IdxS E 71 := fun l S H K hK => runL_ok rfl low_strings_IndexByte (strings_IndexByte_spec EC _ q_internal_stringslite_IndexByte l S H K hK)
theorem q_key_Of : OfK E 59 := fun s S H K hK => runL_ok rfl low_key_Of (key_Of_spec EC _ q_strings_IndexByte s S H K hK)
theorem q_key_Good : BoolK goodK E 41 := fun k S H K hK => runL_ok rfl low_key_Good (key_Good_spec EC _ q_key_text q_key_Of k S H K hK)
theorem q_internal_bytealg_Compare : CmpB E 72 := fun a b S H r1 r2 K h1 h2 ha hb hK => primW (p := primCompare) rfl (v := .i (Lib.compareBytes a b)) (σ' := ⟨S, H⟩) (by simp only [primCompare, asBytes_row h1 ha, asBytes_row h2 hb]) hK
theorem q_bytes_Compare : CmpB E 61 := fun a b S H r1 r2 K h1 h2 ha hb hK => runL_ok rfl low_bytes_Compare (bytes_Compare_spec EC _ q_internal_bytealg_Compare a b S H r1 r2 K h1 h2 ha hb hK)
theorem q_key_Cmp : KCmp E 42 := fun a b S H K hK => runL_ok rfl low_key_Cmp (key_Cmp_spec EC _ q_bytes_Compare a b S H K hK)
theorem q_slices_Clone_Key : CloneS E 43 := fun l S H K hl hK => EvW.res (runL_ok rfl low_slices_Clone_Key (slices_Clone_spec EC _ l S H _ hl fun v hv => ⟨_, .inr (cloneA_wk hv), hK⟩))
theorem q_route_New : NewS E 13 := fun l S H K hl hK => runL_ok rfl low_route_New (New_spec EC _ q_key_Good q_key_Cmp q_slices_Clone_Key l S H K hl hK)
theorem q_route_Table_Of : TOfS E 15 := fun l k h S H K hh hl hK => runL_ok rfl low_route_Table_Of (Of_spec EC _ q_key_Good q_key_Cmp l k h S H K hh hl hK)
theorem q_route_Table_Nodes : TNodesS E 17 := fun l h S H K hh hl hK => runL_ok rfl low_route_Table_Nodes (Nodes_spec EC _ l h S H K hh hl hK)
theorem q_hourglasslaw17_awake : AwS E 11 := fun S H K hK => runL_ok rfl low_hourglasslaw17_awake (awake_spec EC EW _ q_hourglasslaw17_k q_route_New q_route_Table_Of q_route_Table_Nodes S H K hK)
theorem q_hourglasslaw17_long : LongS E 12 := fun l S H K hl hK => runL_ok rfl low_hourglasslaw17_long (long_spec EC _ l S H K hl hK)
theorem q_hourglassref10_Good : BoolK goodR E 16 := fun k S H K hK => runL_ok rfl low_hourglassref10_Good (ref10_Good_spec EC _ k S H K hK)
theorem q_hourglassref10_Cmp : KCmp E 18 := fun a b S H K hK => runL_ok rfl low_hourglassref10_Cmp (ref10_Cmp_spec EC _ a b S H K hK)
theorem q_hourglassref14_NewRoute : NewRS E 35 := fun l S H K hl hK => runL_ok rfl low_hourglassref14_NewRoute (NewRoute_spec EC _ q_hourglassref10_Good q_hourglassref10_Cmp l S H K hl hK)
theorem q_route_Table_Split : SplitS E 14 := fun pts l h S H K hh hp hl hK => runL_ok rfl low_route_Table_Split (Split_spec EC _ q_route_Table_Nodes q_route_Table_Of pts l h S H K hh hp hl hK)
theorem q_hourglassref14_Route_Of : OfRS E 38 := fun l k h S H K hok hh hl hK => runL_ok rfl low_hourglassref14_Route_Of (RouteOf_spec EC _ q_hourglassref10_Good q_hourglassref10_Cmp l k h S H K hok hh hl hK)
theorem q_hourglassref14_Route_Split : SplitRS E 36 := fun pts l h S H K hok hh hp hl hK => runL_ok rfl low_hourglassref14_Route_Split (RouteSplit_spec EC _ q_hourglassref14_Route_Of pts l h S H K hok hh hp hl hK)
theorem q_hourglassref10_Writes : WritesEqS E 37 := fun a b S H K ha hb hK => runL_ok rfl low_hourglassref10_Writes (ref10_Writes_spec EC _ a b S H K ha hb hK)
theorem q_math_bits_Len64 : LenS E 87 := fun x hx S H K hK => runL_ok rfl low_math_bits_Len64 (Len64_spec _ x S H K hx hK)
theorem q_math_bits_Len : LenS E 70 := fun x hx S H K hK => runL_ok rfl low_math_bits_Len (Len_spec _ q_math_bits_Len64 x S H K hx hK)
theorem q_cmp_isNaN_int : ∀ x : Int, FnS E 94 [.s (.int .i64 x)] (.bool false) := fun x S H K hK => runL_ok rfl low_cmp_isNaN_int (isNaN_spec _ x S H K hK)
theorem q_cmp_Less_int : LessS E 83 := fun x y S H K hK => runL_ok rfl low_cmp_Less_int (cmp_Less_spec _ q_cmp_isNaN_int x y S H K hK)
theorem q_slices_insertionSortOrdered_int : SrtS E 77 (Sort.insertionSort ltI) ∧ SrtN E 77 := ⟨fun n d a b S H K h1 h2 h3 h4 hK => runL_ok rfl low_slices_insertionSortOrdered_int (insertionSort_spec EC _ q_cmp_Less_int n d a b S H K h1 h2 h3 h4 hK), fun S H K hK => runL_ok rfl low_slices_insertionSortOrdered_int (insertionSort_nil EC _ S H K hK)⟩
theorem q_slices_siftDownOrdered_int : SiftS E 89 := fun n d lo hi first S H K h1 h2 h3 h4 hK => runL_ok rfl low_slices_siftDownOrdered_int (siftDown_spec EC _ q_cmp_Less_int n d lo hi first S H K h1 h2 h3 h4 hK)
theorem q_slices_heapSortOrdered_int : SrtT E 78 (Sort.heapSort ltI) := fun n d a b S H K h1 h2 h3 h4 hK => runL_ok rfl low_slices_heapSortOrdered_int (heapSort_spec EC _ q_slices_siftDownOrdered_int n d a b S H K h1 h2 h3 h4 hK)
theorem q_slices_nextPowerOfTwo : NpS E 90 := fun n hn S H K hK => runL_ok rfl low_slices_nextPowerOfTwo (nextPow_spec _ q_math_bits_Len n S H K hn hK)
theorem q_slices_xorshift_Next : XorS E 91 := fun m r S H K h hK => runL_ok rfl low_slices_xorshift_Next (xorshift_spec _ m r S H K h hK)
theorem q_slices_breakPatternsOrdered_int : SrtT E 79 Sort.breakPatterns := fun n d a b S H K h1 h2 h3 h4 hK => runL_ok rfl low_slices_breakPatternsOrdered_int (breakPatterns_spec EC _ q_slices_nextPowerOfTwo q_slices_xorshift_Next n d a b S H K h1 h2 h3 h4 hK)
theorem q_slices_order2Ordered_int : Ord2S E 96 := fun n m d a b sw S H K h1 h2 h3 h4 h5 hK => runL_ok rfl low_slices_order2Ordered_int (order2_spec _ q_cmp_Less_int n m d a b sw S H K h1 h2 h3 h4 h5 hK)
theorem q_slices_medianOrdered_int : MedS E 93 := fun n m d a b e sw S H K h0 h1 h2 h3 h4 h5 h6 hK => runL_ok rfl low_slices_medianOrdered_int (median_spec _ q_slices_order2Ordered_int n m d a b e sw S H K h0 h1 h2 h3 h4 h5 h6 hK)
theorem q_slices_medianAdjacentOrdered_int : MadS E 92 := fun n m d a sw S H K h0 h1 h2 h3 h4 h5 h6 hK => runL_ok rfl low_slices_medianAdjacentOrdered_int (medianAdjacent_spec _ q_slices_medianOrdered_int n m d a sw S H K h0 h1 h2 h3 h4 h5 h6 hK)
theorem q_slices_choosePivotOrdered_int : ChpS E 80 := fun n d a b S H K h1 h2 h3 h4 hK => runL_ok rfl low_slices_choosePivotOrdered_int (choosePivot_spec _ q_slices_medianAdjacentOrdered_int q_slices_medianOrdered_int n d a b S H K h1 h2 h3 h4 hK)
theorem q_slices_reverseRangeOrdered_int : SrtT E 81 Sort.reverseRange := fun n d a b S H K h1 h2 h3 h4 hK => runL_ok rfl low_slices_reverseRangeOrdered_int (reverseRange_spec EC _ n d a b S H K h1 h2 h3 h4 hK)
theorem q_slices_partialInsertionSortOrdered_int : PinS E 82 := fun n d a b S H K h1 h2 h3 h4 hK => runL_ok rfl low_slices_partialInsertionSortOrdered_int (partialIns_spec EC _ q_cmp_Less_int n d a b S H K h1 h2 h3 h4 hK)
theorem q_slices_partitionEqualOrdered_int : PeqS E 84 := fun n d a b p S H K h1 h2 h3 h4 h5 hK => runL_ok rfl low_slices_partitionEqualOrdered_int (partitionEqual_spec EC _ q_cmp_Less_int n d a b p S H K h1 h2 h3 h4 h5 hK)
theorem q_slices_partitionOrdered_int : PartS E 85 := fun n d a b p S H K h1 h2 h3 h4 h5 hK => runL_ok rfl low_slices_partitionOrdered_int (partition_spec EC _ q_cmp_Less_int n d a b p S H K h1 h2 h3 h4 h5 hK)
theorem q_slices_pdqsortOrdered_int : (∀ m, PdqS E 69 m) ∧ PdqN E 69 := ⟨fun m => by induction m with | zero => exact fun n d a b lim S H K h1 h2 h3 h4 h5 => absurd h5 (by omega) | succ m ih => exact fun n d a b lim S H K h1 h2 h3 h4 h5 h6 h7 hK => runL_ok rfl low_slices_pdqsortOrdered_int (pdqsort_spec EC _ q_slices_insertionSortOrdered_int.1 q_slices_heapSortOrdered_int q_slices_breakPatternsOrdered_int q_slices_choosePivotOrdered_int q_slices_reverseRangeOrdered_int q_slices_partialInsertionSortOrdered_int q_cmp_Less_int q_slices_partitionEqualOrdered_int q_slices_partitionOrdered_int ih n d a b lim S H K h1 h2 h3 h4 h5 h6 h7 hK), fun S H K hK => runL_ok rfl low_slices_pdqsortOrdered_int (pdqsort_nil EC _ q_slices_insertionSortOrdered_int.2 S H K hK)⟩
theorem q_slices_Sort_int : SortIS E 57 ∧ OneN E 57 (.tup []) := ⟨fun n d S H K h1 h2 hK => runL_ok rfl low_slices_Sort_int (Sort_int_spec _ q_math_bits_Len q_slices_pdqsortOrdered_int.1 n d S H K h1 h2 hK), fun S H K hK => runL_ok rfl low_slices_Sort_int (Sort_int_nil _ q_math_bits_Len q_slices_pdqsortOrdered_int.2 S H K hK)⟩
theorem q_slices_Compact_int : CompS E 58 ∧ OneN E 58 (.s .nilS) := ⟨fun n d S H K h1 h2 hK => runL_ok rfl low_slices_Compact_int (Compact_spec EC _ n d S H K h1 h2 hK), fun S H K hK => runL_ok rfl low_slices_Compact_int (Compact_nil _ S H K hK)⟩
theorem q_route_Table_Parts : PartsS E 34 := fun pts l h S H K hok hh hp hl hK => EvW.res (runL_ok rfl low_route_Table_Parts (Parts_spec EC _ q_route_Table_Of q_slices_Sort_int.1 q_slices_Sort_int.2 q_slices_Compact_int.1 q_slices_Compact_int.2 pts l h S H _ hh hp hl fun R h1 h2 => ⟨_, .inr (parts_wk h1 h2), hK⟩))
theorem q_hourglassref14_Route_Parts : PartsRS E 39 := fun pts l h S H K hok hh hp hl hK => EvW.res (runL_ok rfl low_hourglassref14_Route_Parts (RouteParts_spec EC _ q_hourglassref14_Route_Split pts l h S H _ hok hh hp hl fun o => ⟨_, .inr (slI_wk _), hK o⟩))
theorem q_hourglasslaw17_same : SameS E 33 := fun a b S H K ha hb hK => runL_ok rfl low_hourglasslaw17_same (same_spec EC _ a b S H K ha hb hK)
theorem q_route_Table_Cover : CoverS E 19 := fun l a b h S H K hh hl hK => EvW.res (runL_ok rfl low_route_Table_Cover (Cover_spec EC _ q_key_Cmp q_route_Table_Nodes l a b h S H _ hh hl ⟨_, .inr (slI_wk _), hK⟩))
theorem q_hourglassref14_Route_Cover : CoverRS E 40 := fun pts a b h S H K hh hl hK => EvW.res (runL_ok rfl low_hourglassref14_Route_Cover (RouteCover_spec EC _ q_hourglassref10_Cmp pts a b h S H _ hh hl ⟨_, .inr (slI_wk _), hK⟩))
theorem q_hourglasslaw17_RouteSays : ∀ (pts : List Key) (k : Key) (l : List Wr) (a b : Key) (S : List (List AV)) (H : List HObj) (K : AV → St → Prop), pts.length ≤ 9223372036854775807 → l.length ≤ 9223372036854775807 → (∀ H', K (.bool true) ⟨S, H'⟩) → E (.fn 10) [lstK pts, .agg (bs k.b), lstW l, .agg (bs a.b), .agg (bs b.b)] ⟨S, H⟩ K := fun pts k l a b S H K hl hl2 hK => runL_ok rfl low_hourglasslaw17_RouteSays (RouteSays_spec EC EW _ q_hourglasslaw17_awake q_hourglasslaw17_long q_route_New q_hourglassref14_NewRoute q_route_Table_Split q_hourglassref14_Route_Split q_route_Table_Nodes q_hourglassref10_Writes q_route_Table_Of q_hourglassref14_Route_Of q_route_Table_Parts q_hourglassref14_Route_Parts q_hourglasslaw17_same q_route_Table_Cover q_hourglassref14_Route_Cover pts k l a b S H K hl hl2 hK)
end Go.AM
