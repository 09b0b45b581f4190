/- WheelOnce returns true, and nothing that was there before the call is changed: for every world in which it is called. No conditions. -/
import Derived.Test.YtmboeclchocpcaaM14
import Derived.Test.YtmboeclchocpcaaM13
import Derived.Test.YtmboeclchocpcaaRows
import Derived.WalkKit
import Derived.ProofKit
import Derived.OpenShut
import Derived.ShutString
import Derived.ChangeOld
import Derived.Below
import Derived.SizedLaws

namespace Go.Proofs.Ytmboeclchocpcaa.wheelOnce
open Go.ChangeShapes Go.WideShapes Go.ChangeAt Go.RowKit
set_option linter.unusedVariables false
set_option maxRecDepth 100000

theorem own : ownKnob Try.prog.godebug = none := by kernel_rfl
theorem laid : laidOutB Try.prog = true := by kernel_rfl
theorem rd22 : Try.prog.readableRec 22 = true ∧ decide (22 < Try.prog.types.size) = true := ⟨by kernel_rfl, by kernel_rfl⟩
theorem pl22 : AM.plainT Try.prog 9 22 = true := by kernel_rfl
theorem ag2 : AM.isAgg Try.prog 2 = false := by kernel_rfl
theorem ag22 : AM.isAgg Try.prog 22 = false := by kernel_rfl
theorem ce2 : Try.prog.cellsOf 2 = 1 := by kernel_rfl
theorem rdT22 {d : Nat} {l0 : List AM.AV} (h : AM.shp Try.prog (d + 2) 22 l0) : ∃ x : List (Int), l0 = [.list .sh 1 (x.map AM.pI)] ∧ (x.length ≤ 9223372036854775807 ∧ ∀ a ∈ x, -9223372036854775808 ≤ a ∧ a ≤ 9223372036854775807) :=
  AM.shp_sliceQ (d := d + 1) (c := 1) AM.pI (fun a => -9223372036854775808 ≤ a ∧ a ≤ 9223372036854775807) Try.underlying22 ce2 (fun x hx hag hone => by obtain ⟨a, ha, q⟩ := (AM.shp_i64 (d := d) Try.underlying2 hx); exact ⟨a, by have h1 := hone ag2; rw [ha] at h1; injection h1 with h1; exact h1.symm, q⟩) h
theorem readable : ∀ t ∈ [22, 22], Try.prog.readableRec t = true ∧ t < Try.prog.types.size := by
  intro t ht
  simp only [List.mem_cons, List.not_mem_nil, or_false] at ht
  rcases ht with rfl | rfl
  · exact ⟨rd22.1, of_decide_eq_true rd22.2⟩
  · exact ⟨rd22.1, of_decide_eq_true rd22.2⟩

set_option maxRecDepth 100000 in
theorem lifted (os : Os) (started : os.Started) (H : Type) (enc : TypeId × Value → H) :
    ReturnsInHanded {} Try.checked os 3 .any (Rows.wheelOnceSpec.pre6 enc Try.prog Try.f3 Rows.wheelOnceRow.domain false) (Rows.wheelOnceSpec.post enc Try.prog Try.f3 false true false false) := by
  refine returnsInHanded_of_change_sized (C := Try.checked) own started (by kernel_rfl) Try.func3
    (ChangeSpec.witness6 (enc := enc) (C := Try.checked) false ⟨#[], #[.slice none 0 0, .slice none 0 0], []⟩ 8 (by kernel_rfl) (by kernel_rfl) (by kernel_rfl) (by kernel_rfl)) ?_
  intro W base args ds gs before hval0 hW hcnd hsz0 _
  have hW' := hW
  obtain ⟨p, q, hA0, hV, rfl, hfz, hnd⟩ := hW
  have hA : DataW.TrodAll enc Try.prog W 0 (fun _ => true) true Try.f3.params.toList args.toList ds p := hA0
  have hval : ∀ (j : Nat) t v, Try.f3.params[j]? = some t → args[j]? = some v → Value.okWide Try.prog W .any 0 t v := hval0
  rw [Try.params3] at hA hval
  have hA1 := hA
  obtain ⟨v0, vs0, d0, ds0, p0, q0, e0, rfl, rfl, h0, hA⟩ := trodAll_cons hA
  obtain ⟨v1, vs1, d1, ds1, p1, q1, rfl, rfl, rfl, h1, hA⟩ := trodAll_cons hA
  obtain ⟨rfl, rfl, rfl⟩ := trodAll_nil hA
  obtain rfl : args = #[v0, v1] := by apply Array.ext'; simpa using e0
  obtain ⟨rfl, rfl⟩ := trodVars_none hV
  obtain ⟨c0, s0, hv0⟩ := AM.trod_arg (d := 9) pl22 (hval 0 22 v0 rfl rfl) h0
  rw [ag22] at hv0
  obtain ⟨x0, rfl, b0⟩ := (rdT22 (d := 7) s0)
  obtain ⟨c1, s1, hv1⟩ := AM.trod_arg (d := 9) pl22 (hval 1 22 v1 rfl rfl) h1
  rw [ag22] at hv1
  obtain ⟨x1, rfl, b1⟩ := (rdT22 (d := 7) s1)
  have walk : Calls Try.prog 3 #[v0, v1] W fun e w' => e = .returned (.bool true) ∧ Below W.heap.size W w' := by
    refine AM.callsW_alone (x := .bool true) (args := [.list .sh 1 (x0.map AM.pI), .list .sh 1 (x1.map AM.pI)]) Try.func3 (AM.names_ok _ _ Try.func3) (by kernel_rfl) (AM.E_sound (AM.qz4l x0 x1 [] [] _ b0.1 b1.1 fun _ => rfl)) W rfl ?_
    intro i a hi
    match i, hi with
    | 0, hi => simp only [List.getElem?_cons_zero, List.getElem?_cons_succ, Option.some.injEq] at hi; subst hi; exact ⟨v0, rfl, hv0⟩
    | 1, hi => simp only [List.getElem?_cons_zero, List.getElem?_cons_succ, Option.some.injEq] at hi; subst hi; exact ⟨v1, rfl, hv1⟩
    | i + 2, hi => simp at hi
  refine walk.mono fun e W' ⟨he, bel⟩ => ?_
  subst he
  exact ⟨_, rfl, _, _, _, [], _, [], hW', trodAll_mk1 (shut_bool Try.underlying4 _), AM.trodAll_stays laid bel readable hA1, rfl, bel.frame _, fun h => by cases h⟩
theorem over : Rows.wheelOnceRow.holds Try.pinned (OpenSpec.ofChange Rows.wheelOnceSpec) :=
  OpenClaim.holds_of_wide 3 Try.f3 rfl rfl rfl rfl rfl rfl rfl ⟨rfl, rfl, rfl, rfl, rfl⟩ rfl rfl rfl rfl rfl (by kernel_rfl) Try.func3 (by kernel_rfl)
    (of_decide_eq_true (by kernel_rfl)) (by unfold Func.isWrapper; first | (rw [if_pos (by decide +kernel)]; kernel_rfl) | (rw [if_neg (by decide +kernel)]; exact ⟨rfl, rfl⟩))
    (fun os started H enc _ => lifted os started H enc)
theorem proved : Rows.WheelOnceSaid := over
#print axioms proved
end Go.Proofs.Ytmboeclchocpcaa.wheelOnce
namespace Go.Proofs.Ytmboeclchocpcaa
/-- The row, under a short name, for the claim. -/
theorem wheelOnce_holds : Rows.WheelOnceSaid := wheelOnce.proved
end Go.Proofs.Ytmboeclchocpcaa
