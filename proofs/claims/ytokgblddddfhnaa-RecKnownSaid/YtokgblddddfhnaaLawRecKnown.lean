/- RecKnown returns true, and nothing that was there before the call is changed: for every world in which it is called. No conditions. -/
import Derived.Test.YtokgblddddfhnaaCfg
import Derived.Test.YtokgblddddfhnaaRows
import Derived.WalkKit
import Derived.ProofKit
import Derived.OpenShut
import Derived.ShutString
import Derived.ChangeOld
import Derived.Below
import Derived.SizedLaws

namespace Go.Proofs.Ytokgblddddfhnaa.recKnown
open Go.ChangeShapes Go.WideShapes Go.ChangeAt Go.RowKit
open Go.AM (ev cfgA)
set_option linter.unusedVariables false

def isTrue : Option (AM.AV × AM.St) → Bool
  | some (.s (.bool b), _) => b
  | _ => false

theorem isTrue_some {o : Option (AM.AV × AM.St)} (h : isTrue o = true) : ∃ s, o = some (.s (.bool true), s) := by
  unfold isTrue at h
  split at h
  · subst h; exact ⟨_, rfl⟩
  · cases h

/-- The run of it. -/
theorem runs : isTrue (ev Try.prog cfgA 100 (.fn 5) [] ⟨[], []⟩) = true := by kernel_rfl

theorem walk (w : World) : Calls Try.prog 5 #[] w fun e w' => e = .returned (.bool true) ∧ Below w.heap.size w w' := by
  obtain ⟨s, hs⟩ := isTrue_some runs
  exact AM.calls_alone (AM.sound 100) Try.func5 (AM.names_ok _ _ Try.func5) (by kernel_rfl) hs w rfl (fun i a h => by simp at h)

theorem own : ownKnob Try.prog.godebug = none := by kernel_rfl
set_option maxRecDepth 100000 in
theorem lifted (os : Os) (started : os.Started) (H : Type) (enc : TypeId × Value → H) :
    ReturnsInHanded {} Try.checked os 5 .any (Rows.recKnownSpec.pre6 enc Try.prog Try.f5 Rows.recKnownRow.domain false) (Rows.recKnownSpec.post enc Try.prog Try.f5 false true false false) := by
  refine returnsInHanded_of_change_sized (C := Try.checked) own started (by kernel_rfl) Try.func5
    (ChangeSpec.witness6 (enc := enc) (C := Try.checked) false ⟨#[], #[], []⟩ 8 (by kernel_rfl) (by kernel_rfl) (by kernel_rfl) (by kernel_rfl)) ?_
  intro W base args ds gs before hval0 hW hcnd hsz0 _
  have hW' := hW
  obtain ⟨p, q, hA0, hV, rfl, hfz, hnd⟩ := hW
  have hA : DataW.TrodAll enc Try.prog W 0 (fun _ => true) true Try.f5.params.toList args.toList ds p := hA0
  rw [Try.params5] at hA
  obtain ⟨hargs, rfl, rfl⟩ := trodAll_none hA
  obtain rfl : args = #[] := by cases args; simp_all
  obtain ⟨rfl, rfl⟩ := trodVars_none hV
  clear hA0 hval0 hsz0
  refine (walk W).mono fun e W' ⟨he, bel⟩ => ?_
  subst he
  exact ⟨_, rfl, _, _, _, [], _, [], hW', trodAll_mk1 (shut_bool Try.underlying4 _), trodAll_mk0, rfl, bel.frame _, fun h => by cases h⟩
theorem over : Rows.recKnownRow.holds Try.pinned (OpenSpec.ofChange Rows.recKnownSpec) :=
  OpenClaim.holds_of_wide 5 Try.f5 rfl rfl rfl rfl rfl rfl rfl ⟨rfl, rfl, rfl, rfl, rfl⟩ rfl rfl rfl rfl rfl (by kernel_rfl) Try.func5 (by kernel_rfl)
    (of_decide_eq_true (by kernel_rfl)) (by unfold Func.isWrapper; first | (rw [if_pos (by decide +kernel)]; kernel_rfl) | (rw [if_neg (by decide +kernel)]; exact ⟨rfl, rfl⟩))
    (fun os started H enc _ => lifted os started H enc)
theorem proved : Rows.RecKnownSaid := over
#print axioms proved
end Go.Proofs.Ytokgblddddfhnaa.recKnown
namespace Go.Proofs.Ytokgblddddfhnaa
/-- The row, under a short name, for the claim. -/
theorem recKnown_holds : Rows.RecKnownSaid := recKnown.proved
end Go.Proofs.Ytokgblddddfhnaa
