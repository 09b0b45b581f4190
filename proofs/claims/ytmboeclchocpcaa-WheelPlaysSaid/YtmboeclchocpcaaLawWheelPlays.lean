/- WheelPlays returns true, and nothing that was there before the call is changed: for every world in which it is called. No conditions. -/
import Derived.Test.YtmboeclchocpcaaM14
import Derived.Test.YtmboeclchocpcaaM13
import Derived.Test.YtmboeclchocpcaaRows
import Derived.WalkKit
import Derived.ProofKit
import Derived.OpenShut
import Derived.ShutString
import Derived.ChangeOld
import Derived.Below
import Derived.SizedLaws

namespace Go.Proofs.Ytmboeclchocpcaa.wheelPlays
open Go.ChangeShapes Go.WideShapes Go.ChangeAt Go.RowKit
set_option linter.unusedVariables false
set_option maxRecDepth 100000

theorem own : ownKnob Try.prog.godebug = none := by kernel_rfl
theorem laid : laidOutB Try.prog = true := by kernel_rfl
theorem rd3 : Try.prog.readableRec 3 = true ∧ decide (3 < Try.prog.types.size) = true := ⟨by kernel_rfl, by kernel_rfl⟩
theorem pl3 : AM.plainT Try.prog 9 3 = true := by kernel_rfl
theorem rd36 : Try.prog.readableRec 36 = true ∧ decide (36 < Try.prog.types.size) = true := ⟨by kernel_rfl, by kernel_rfl⟩
theorem pl36 : AM.plainT Try.prog 9 36 = true := by kernel_rfl
theorem ag3 : AM.isAgg Try.prog 3 = false := by kernel_rfl
theorem ag36 : AM.isAgg Try.prog 36 = false := by kernel_rfl
theorem ag42 : AM.isAgg Try.prog 42 = true := by kernel_rfl
theorem ce42 : Try.prog.cellsOf 42 = 3 := by kernel_rfl
theorem rdT42 {d : Nat} {l0 : List AM.AV} (h : AM.shp Try.prog (d + 2) 42 l0) : ∃ x : AM.WAct, l0 = AM.wacc x ∧ ((-9223372036854775808 ≤ x.op ∧ x.op ≤ 9223372036854775807) ∧ (-9223372036854775808 ≤ x.id ∧ x.id ≤ 9223372036854775807) ∧ (-9223372036854775808 ≤ x.at_ ∧ x.at_ ≤ 9223372036854775807)) := by
  obtain ⟨a0, r0, rfl, h0, a1, r1, rfl, h1, a2, r2, rfl, h2, rfl⟩ := AM.shp_struct Try.underlying42 rfl h
  obtain ⟨f0, rfl, q0⟩ := (AM.shp_i64 (d := d) Try.underlying3 h0)
  obtain ⟨f1, rfl, q1⟩ := (AM.shp_i64 (d := d) Try.underlying2 h1)
  obtain ⟨f2, rfl, q2⟩ := (AM.shp_i64 (d := d) Try.underlying2 h2)
  exact ⟨⟨f0, f1, f2⟩, rfl, q0, q1, q2⟩
theorem rdT36 {d : Nat} {l0 : List AM.AV} (h : AM.shp Try.prog (d + 3) 36 l0) : ∃ x : List (AM.WAct), l0 = [.list .sh 3 (x.map AM.wacA)] ∧ (x.length ≤ 9223372036854775807 ∧ ∀ a ∈ x, (-9223372036854775808 ≤ a.op ∧ a.op ≤ 9223372036854775807) ∧ (-9223372036854775808 ≤ a.id ∧ a.id ≤ 9223372036854775807) ∧ (-9223372036854775808 ≤ a.at_ ∧ a.at_ ≤ 9223372036854775807)) :=
  AM.shp_sliceQ (d := d + 2) (c := 3) AM.wacA (fun a => (-9223372036854775808 ≤ a.op ∧ a.op ≤ 9223372036854775807) ∧ (-9223372036854775808 ≤ a.id ∧ a.id ≤ 9223372036854775807) ∧ (-9223372036854775808 ≤ a.at_ ∧ a.at_ ≤ 9223372036854775807)) Try.underlying36 ce42 (fun x hx hag hone => by obtain ⟨a, ha, q⟩ := (rdT42 (d := d) hx); exact ⟨a, by rw [hag ag42, ha]; rfl, q⟩) h
theorem readable : ∀ t ∈ [3, 36], Try.prog.readableRec t = true ∧ t < Try.prog.types.size := by
  intro t ht
  simp only [List.mem_cons, List.not_mem_nil, or_false] at ht
  rcases ht with rfl | rfl
  · exact ⟨rd3.1, of_decide_eq_true rd3.2⟩
  · exact ⟨rd36.1, of_decide_eq_true rd36.2⟩

set_option maxRecDepth 100000 in
theorem lifted (os : Os) (started : os.Started) (H : Type) (enc : TypeId × Value → H) :
    ReturnsInHanded {} Try.checked os 5 .any (Rows.wheelPlaysSpec.pre6 enc Try.prog Try.f5 Rows.wheelPlaysRow.domain false) (Rows.wheelPlaysSpec.post enc Try.prog Try.f5 false true false false) := by
  refine returnsInHanded_of_change_sized (C := Try.checked) own started (by kernel_rfl) Try.func5
    (ChangeSpec.witness6 (enc := enc) (C := Try.checked) false ⟨#[], #[.int .i64 0, .slice none 0 0], []⟩ 8 (by kernel_rfl) (by kernel_rfl) (by kernel_rfl) (by kernel_rfl)) ?_
  intro W base args ds gs before hval0 hW hcnd hsz0 _
  have hW' := hW
  obtain ⟨p, q, hA0, hV, rfl, hfz, hnd⟩ := hW
  have hA : DataW.TrodAll enc Try.prog W 0 (fun _ => true) true Try.f5.params.toList args.toList ds p := hA0
  have hval : ∀ (j : Nat) t v, Try.f5.params[j]? = some t → args[j]? = some v → Value.okWide Try.prog W .any 0 t v := hval0
  rw [Try.params5] at hA hval
  have hA1 := hA
  obtain ⟨v0, vs0, d0, ds0, p0, q0, e0, rfl, rfl, h0, hA⟩ := trodAll_cons hA
  obtain ⟨v1, vs1, d1, ds1, p1, q1, rfl, rfl, rfl, h1, hA⟩ := trodAll_cons hA
  obtain ⟨rfl, rfl, rfl⟩ := trodAll_nil hA
  obtain rfl : args = #[v0, v1] := by apply Array.ext'; simpa using e0
  obtain ⟨rfl, rfl⟩ := trodVars_none hV
  obtain ⟨c0, s0, hv0⟩ := AM.trod_arg (d := 9) pl3 (hval 0 3 v0 rfl rfl) h0
  rw [ag3] at hv0
  obtain ⟨x0, rfl, b0⟩ := (AM.shp_i64 (d := 8) Try.underlying3 s0)
  obtain ⟨c1, s1, hv1⟩ := AM.trod_arg (d := 9) pl36 (hval 1 36 v1 rfl rfl) h1
  rw [ag36] at hv1
  obtain ⟨x1, rfl, b1⟩ := (rdT36 (d := 6) s1)
  have walk : Calls Try.prog 5 #[v0, v1] W fun e w' => e = .returned (.bool true) ∧ Below W.heap.size W w' := by
    refine AM.callsW_alone (x := .bool true) (args := [.s (.int .i64 x0), .list .sh 3 (x1.map AM.wacA)]) Try.func5 (AM.names_ok _ _ Try.func5) (by kernel_rfl) (AM.E_sound (AM.qz56 x0 x1 [] [] _ b1.1 fun _ => rfl)) W rfl ?_
    intro i a hi
    match i, hi with
    | 0, hi => simp only [List.getElem?_cons_zero, List.getElem?_cons_succ, Option.some.injEq] at hi; subst hi; exact ⟨v0, rfl, hv0⟩
    | 1, hi => simp only [List.getElem?_cons_zero, List.getElem?_cons_succ, Option.some.injEq] at hi; subst hi; exact ⟨v1, rfl, hv1⟩
    | i + 2, hi => simp at hi
  refine walk.mono fun e W' ⟨he, bel⟩ => ?_
  subst he
  exact ⟨_, rfl, _, _, _, [], _, [], hW', trodAll_mk1 (shut_bool Try.underlying4 _), AM.trodAll_stays laid bel readable hA1, rfl, bel.frame _, fun h => by cases h⟩
theorem over : Rows.wheelPlaysRow.holds Try.pinned (OpenSpec.ofChange Rows.wheelPlaysSpec) :=
  OpenClaim.holds_of_wide 5 Try.f5 rfl rfl rfl rfl rfl rfl rfl ⟨rfl, rfl, rfl, rfl, rfl⟩ rfl rfl rfl rfl rfl (by kernel_rfl) Try.func5 (by kernel_rfl)
    (of_decide_eq_true (by kernel_rfl)) (by unfold Func.isWrapper; first | (rw [if_pos (by decide +kernel)]; kernel_rfl) | (rw [if_neg (by decide +kernel)]; exact ⟨rfl, rfl⟩))
    (fun os started H enc _ => lifted os started H enc)
theorem proved : Rows.WheelPlaysSaid := over
#print axioms proved
end Go.Proofs.Ytmboeclchocpcaa.wheelPlays
namespace Go.Proofs.Ytmboeclchocpcaa
/-- The row, under a short name, for the claim. -/
theorem wheelPlays_holds : Rows.WheelPlaysSaid := wheelPlays.proved
end Go.Proofs.Ytmboeclchocpcaa
