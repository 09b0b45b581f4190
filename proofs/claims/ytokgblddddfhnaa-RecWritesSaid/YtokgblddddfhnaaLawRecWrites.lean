/- RecWrites returns true, and nothing that was there before the call is changed: for every world in which it is called. No conditions. -/
import Derived.Test.YtokgblddddfhnaaM14
import Derived.Test.YtokgblddddfhnaaM13
import Derived.Test.YtokgblddddfhnaaRows
import Derived.WalkKit
import Derived.ProofKit
import Derived.OpenShut
import Derived.ShutString
import Derived.ChangeOld
import Derived.Below
import Derived.SizedLaws

namespace Go.Proofs.Ytokgblddddfhnaa.recWrites
open Go.ChangeShapes Go.WideShapes Go.ChangeAt Go.RowKit
set_option linter.unusedVariables false
set_option maxRecDepth 100000

theorem own : ownKnob Try.prog.godebug = none := by kernel_rfl
theorem laid : laidOutB Try.prog = true := by kernel_rfl
theorem rd24 : Try.prog.readableRec 24 = true ∧ decide (24 < Try.prog.types.size) = true := ⟨by kernel_rfl, by kernel_rfl⟩
theorem pl24 : AM.plainT Try.prog 9 24 = true := by kernel_rfl
theorem rd28 : Try.prog.readableRec 28 = true ∧ decide (28 < Try.prog.types.size) = true := ⟨by kernel_rfl, by kernel_rfl⟩
theorem pl28 : AM.plainT Try.prog 9 28 = true := by kernel_rfl
theorem ag5 : AM.isAgg Try.prog 5 = false := by kernel_rfl
theorem ag24 : AM.isAgg Try.prog 24 = false := by kernel_rfl
theorem ag28 : AM.isAgg Try.prog 28 = false := by kernel_rfl
theorem ag48 : AM.isAgg Try.prog 48 = true := by kernel_rfl
theorem ce5 : Try.prog.cellsOf 5 = 1 := by kernel_rfl
theorem ce48 : Try.prog.cellsOf 48 = 18 := by kernel_rfl
theorem rdT24 {d : Nat} {l0 : List AM.AV} (h : AM.shp Try.prog (d + 4) 24 l0) : ∃ x : List (AM.Wr), l0 = [.list .sh 18 (x.map AM.wA)] ∧ (x.length ≤ 9223372036854775807 ∧ ∀ a ∈ x, True) :=
  AM.shp_sliceQ (d := d + 3) (c := 18) AM.wA (fun a => True) Try.underlying24 ce48 (fun x hx hag hone => by obtain ⟨a, ha, q⟩ := (AM.wT (AM.shp_wr (d := d) Try.underlying48 rfl Try.underlying46 Try.underlying5 Try.underlying9 Try.underlying4 hx)); exact ⟨a, by rw [hag ag48, ha]; rfl, q⟩) h
theorem rdT28 {d : Nat} {l0 : List AM.AV} (h : AM.shp Try.prog (d + 2) 28 l0) : ∃ x : List (UInt8), l0 = [.list .sh 1 (x.map AM.u8)] ∧ (x.length ≤ 9223372036854775807 ∧ ∀ a ∈ x, True) :=
  AM.shp_sliceQ (d := d + 1) (c := 1) AM.u8 (fun a => True) Try.underlying28 ce5 (fun x hx hag hone => by obtain ⟨a, ha, q⟩ := (AM.wT (AM.shp_u8 (d := d) Try.underlying5 hx)); exact ⟨a, by have h1 := hone ag5; rw [ha] at h1; injection h1 with h1; exact h1.symm, q⟩) h
theorem readable : ∀ t ∈ [24, 28], Try.prog.readableRec t = true ∧ t < Try.prog.types.size := by
  intro t ht
  simp only [List.mem_cons, List.not_mem_nil, or_false] at ht
  rcases ht with rfl | rfl
  · exact ⟨rd24.1, of_decide_eq_true rd24.2⟩
  · exact ⟨rd28.1, of_decide_eq_true rd28.2⟩

set_option maxRecDepth 100000 in
theorem lifted (os : Os) (started : os.Started) (H : Type) (enc : TypeId × Value → H) :
    ReturnsInHanded {} Try.checked os 6 .any (Rows.recWritesSpec.pre6 enc Try.prog Try.f6 Rows.recWritesRow.domain false) (Rows.recWritesSpec.post enc Try.prog Try.f6 false true false false) := by
  refine returnsInHanded_of_change_sized (C := Try.checked) own started (by kernel_rfl) Try.func6
    (ChangeSpec.witness6 (enc := enc) (C := Try.checked) false ⟨#[], #[.slice none 0 0, .slice none 0 0], []⟩ 8 (by kernel_rfl) (by kernel_rfl) (by kernel_rfl) (by kernel_rfl)) ?_
  intro W base args ds gs before hval0 hW hcnd hsz0 _
  have hW' := hW
  obtain ⟨p, q, hA0, hV, rfl, hfz, hnd⟩ := hW
  have hA : DataW.TrodAll enc Try.prog W 0 (fun _ => true) true Try.f6.params.toList args.toList ds p := hA0
  have hval : ∀ (j : Nat) t v, Try.f6.params[j]? = some t → args[j]? = some v → Value.okWide Try.prog W .any 0 t v := hval0
  rw [Try.params6] at hA hval
  have hA1 := hA
  obtain ⟨v0, vs0, d0, ds0, p0, q0, e0, rfl, rfl, h0, hA⟩ := trodAll_cons hA
  obtain ⟨v1, vs1, d1, ds1, p1, q1, rfl, rfl, rfl, h1, hA⟩ := trodAll_cons hA
  obtain ⟨rfl, rfl, rfl⟩ := trodAll_nil hA
  obtain rfl : args = #[v0, v1] := by apply Array.ext'; simpa using e0
  obtain ⟨rfl, rfl⟩ := trodVars_none hV
  obtain ⟨c0, s0, hv0⟩ := AM.trod_arg (d := 9) pl24 (hval 0 24 v0 rfl rfl) h0
  rw [ag24] at hv0
  obtain ⟨x0, rfl, b0⟩ := (rdT24 (d := 5) s0)
  obtain ⟨c1, s1, hv1⟩ := AM.trod_arg (d := 9) pl28 (hval 1 28 v1 rfl rfl) h1
  rw [ag28] at hv1
  obtain ⟨x1, rfl, b1⟩ := (rdT28 (d := 7) s1)
  have walk : Calls Try.prog 6 #[v0, v1] W fun e w' => e = .returned (.bool true) ∧ Below W.heap.size W w' := by
    refine AM.callsW_alone (x := .bool true) (args := [.list .sh 18 (x0.map AM.wA), .list .sh 1 (x1.map AM.u8)]) Try.func6 (AM.names_ok _ _ Try.func6) (by kernel_rfl) (AM.E_sound (AM.q_hourglasslaw14_RecWrites x0 x1 [] [] _ b0.1 b1.1 fun _ => rfl)) W rfl ?_
    intro i a hi
    match i, hi with
    | 0, hi => simp only [List.getElem?_cons_zero, List.getElem?_cons_succ, Option.some.injEq] at hi; subst hi; exact ⟨v0, rfl, hv0⟩
    | 1, hi => simp only [List.getElem?_cons_zero, List.getElem?_cons_succ, Option.some.injEq] at hi; subst hi; exact ⟨v1, rfl, hv1⟩
    | i + 2, hi => simp at hi
  refine walk.mono fun e W' ⟨he, bel⟩ => ?_
  subst he
  exact ⟨_, rfl, _, _, _, [], _, [], hW', trodAll_mk1 (shut_bool Try.underlying4 _), AM.trodAll_stays laid bel readable hA1, rfl, bel.frame _, fun h => by cases h⟩
theorem over : Rows.recWritesRow.holds Try.pinned (OpenSpec.ofChange Rows.recWritesSpec) :=
  OpenClaim.holds_of_wide 6 Try.f6 rfl rfl rfl rfl rfl rfl rfl ⟨rfl, rfl, rfl, rfl, rfl⟩ rfl rfl rfl rfl rfl (by kernel_rfl) Try.func6 (by kernel_rfl)
    (of_decide_eq_true (by kernel_rfl)) (by unfold Func.isWrapper; first | (rw [if_pos (by decide +kernel)]; kernel_rfl) | (rw [if_neg (by decide +kernel)]; exact ⟨rfl, rfl⟩))
    (fun os started H enc _ => lifted os started H enc)
theorem proved : Rows.RecWritesSaid := over
#print axioms proved
end Go.Proofs.Ytokgblddddfhnaa.recWrites
namespace Go.Proofs.Ytokgblddddfhnaa
/-- The row, under a short name, for the claim. -/
theorem recWrites_holds : Rows.RecWritesSaid := recWrites.proved
end Go.Proofs.Ytokgblddddfhnaa
