/- RouteSays returns true, and nothing that was there before the call is changed: for every world in which it is called. No conditions. -/
import Derived.Test.YthbiajoionockaaM14
import Derived.Test.YthbiajoionockaaM13
import Derived.Test.YthbiajoionockaaRows
import Derived.WalkKit
import Derived.ProofKit
import Derived.OpenShut
import Derived.ShutString
import Derived.ChangeOld
import Derived.Below
import Derived.SizedLaws

namespace Go.Proofs.Ythbiajoionockaa.routeSays
open Go.ChangeShapes Go.WideShapes Go.ChangeAt Go.RowKit
set_option linter.unusedVariables false
set_option maxRecDepth 100000

theorem own : ownKnob Try.prog.godebug = none := by kernel_rfl
theorem laid : laidOutB Try.prog = true := by kernel_rfl
theorem rd22 : Try.prog.readableRec 22 = true ∧ decide (22 < Try.prog.types.size) = true := ⟨by kernel_rfl, by kernel_rfl⟩
theorem pl22 : AM.plainT Try.prog 9 22 = true := by kernel_rfl
theorem rd23 : Try.prog.readableRec 23 = true ∧ decide (23 < Try.prog.types.size) = true := ⟨by kernel_rfl, by kernel_rfl⟩
theorem pl23 : AM.plainT Try.prog 9 23 = true := by kernel_rfl
theorem rd35 : Try.prog.readableRec 35 = true ∧ decide (35 < Try.prog.types.size) = true := ⟨by kernel_rfl, by kernel_rfl⟩
theorem pl35 : AM.plainT Try.prog 9 35 = true := by kernel_rfl
theorem ag22 : AM.isAgg Try.prog 22 = false := by kernel_rfl
theorem ag23 : AM.isAgg Try.prog 23 = false := by kernel_rfl
theorem ag35 : AM.isAgg Try.prog 35 = true := by kernel_rfl
theorem ag37 : AM.isAgg Try.prog 37 = true := by kernel_rfl
theorem ce35 : Try.prog.cellsOf 35 = 16 := by kernel_rfl
theorem ce37 : Try.prog.cellsOf 37 = 18 := by kernel_rfl
theorem rdT22 {d : Nat} {l0 : List AM.AV} (h : AM.shp Try.prog (d + 3) 22 l0) : ∃ x : List (AM.Key), l0 = [.list .sh 16 (x.map AM.kA)] ∧ (x.length ≤ 9223372036854775807 ∧ ∀ a ∈ x, True) :=
  AM.shp_sliceQ (d := d + 2) (c := 16) AM.kA (fun a => True) Try.underlying22 ce35 (fun x hx hag hone => by obtain ⟨a, ha, q⟩ := (AM.wT (AM.shp_key (d := d) Try.underlying35 Try.underlying5 hx)); exact ⟨a, by rw [hag ag35, ha]; rfl, q⟩) h
theorem rdT23 {d : Nat} {l0 : List AM.AV} (h : AM.shp Try.prog (d + 4) 23 l0) : ∃ x : List (AM.Wr), l0 = [.list .sh 18 (x.map AM.wA)] ∧ (x.length ≤ 9223372036854775807 ∧ ∀ a ∈ x, True) :=
  AM.shp_sliceQ (d := d + 3) (c := 18) AM.wA (fun a => True) Try.underlying23 ce37 (fun x hx hag hone => by obtain ⟨a, ha, q⟩ := (AM.wT (AM.shp_wr (d := d) Try.underlying37 rfl Try.underlying35 Try.underlying5 Try.underlying9 Try.underlying4 hx)); exact ⟨a, by rw [hag ag37, ha]; rfl, q⟩) h
theorem readable : ∀ t ∈ [22, 35, 23, 35, 35], Try.prog.readableRec t = true ∧ t < Try.prog.types.size := by
  intro t ht
  simp only [List.mem_cons, List.not_mem_nil, or_false] at ht
  rcases ht with rfl | rfl | rfl | rfl | rfl
  · exact ⟨rd22.1, of_decide_eq_true rd22.2⟩
  · exact ⟨rd35.1, of_decide_eq_true rd35.2⟩
  · exact ⟨rd23.1, of_decide_eq_true rd23.2⟩
  · exact ⟨rd35.1, of_decide_eq_true rd35.2⟩
  · exact ⟨rd35.1, of_decide_eq_true rd35.2⟩

set_option maxRecDepth 100000 in
theorem lifted (os : Os) (started : os.Started) (H : Type) (enc : TypeId × Value → H) :
    ReturnsInHanded {} Try.checked os 10 .any (Rows.routeSaysSpec.pre6 enc Try.prog Try.f10 Rows.routeSaysRow.domain false) (Rows.routeSaysSpec.post enc Try.prog Try.f10 false true false false) := by
  refine returnsInHanded_of_change_sized (C := Try.checked) own started (by kernel_rfl) Try.func10
    (ChangeSpec.witness6 (enc := enc) (C := Try.checked) false ⟨#[], #[.slice none 0 0, .agg (Array.replicate 16 (.int .u8 0)), .slice none 0 0, .agg (Array.replicate 16 (.int .u8 0)), .agg (Array.replicate 16 (.int .u8 0))], []⟩ 8 (by kernel_rfl) (by kernel_rfl) (by kernel_rfl) (by kernel_rfl)) ?_
  intro W base args ds gs before hval0 hW hcnd hsz0 _
  have hW' := hW
  obtain ⟨p, q, hA0, hV, rfl, hfz, hnd⟩ := hW
  have hA : DataW.TrodAll enc Try.prog W 0 (fun _ => true) true Try.f10.params.toList args.toList ds p := hA0
  have hval : ∀ (j : Nat) t v, Try.f10.params[j]? = some t → args[j]? = some v → Value.okWide Try.prog W .any 0 t v := hval0
  rw [Try.params10] at hA hval
  have hA1 := hA
  obtain ⟨v0, vs0, d0, ds0, p0, q0, e0, rfl, rfl, h0, hA⟩ := trodAll_cons hA
  obtain ⟨v1, vs1, d1, ds1, p1, q1, rfl, rfl, rfl, h1, hA⟩ := trodAll_cons hA
  obtain ⟨v2, vs2, d2, ds2, p2, q2, rfl, rfl, rfl, h2, hA⟩ := trodAll_cons hA
  obtain ⟨v3, vs3, d3, ds3, p3, q3, rfl, rfl, rfl, h3, hA⟩ := trodAll_cons hA
  obtain ⟨v4, vs4, d4, ds4, p4, q4, rfl, rfl, rfl, h4, hA⟩ := trodAll_cons hA
  obtain ⟨rfl, rfl, rfl⟩ := trodAll_nil hA
  obtain rfl : args = #[v0, v1, v2, v3, v4] := by apply Array.ext'; simpa using e0
  obtain ⟨rfl, rfl⟩ := trodVars_none hV
  obtain ⟨c0, s0, hv0⟩ := AM.trod_arg (d := 9) pl22 (hval 0 22 v0 rfl rfl) h0
  rw [ag22] at hv0
  obtain ⟨x0, rfl, b0⟩ := (rdT22 (d := 6) s0)
  obtain ⟨c1, s1, hv1⟩ := AM.trod_arg (d := 9) pl35 (hval 1 35 v1 rfl rfl) h1
  rw [ag35] at hv1
  obtain ⟨x1, rfl, b1⟩ := (AM.wT (AM.shp_key (d := 7) Try.underlying35 Try.underlying5 s1))
  obtain ⟨c2, s2, hv2⟩ := AM.trod_arg (d := 9) pl23 (hval 2 23 v2 rfl rfl) h2
  rw [ag23] at hv2
  obtain ⟨x2, rfl, b2⟩ := (rdT23 (d := 5) s2)
  obtain ⟨c3, s3, hv3⟩ := AM.trod_arg (d := 9) pl35 (hval 3 35 v3 rfl rfl) h3
  rw [ag35] at hv3
  obtain ⟨x3, rfl, b3⟩ := (AM.wT (AM.shp_key (d := 7) Try.underlying35 Try.underlying5 s3))
  obtain ⟨c4, s4, hv4⟩ := AM.trod_arg (d := 9) pl35 (hval 4 35 v4 rfl rfl) h4
  rw [ag35] at hv4
  obtain ⟨x4, rfl, b4⟩ := (AM.wT (AM.shp_key (d := 7) Try.underlying35 Try.underlying5 s4))
  have walk : Calls Try.prog 10 #[v0, v1, v2, v3, v4] W fun e w' => e = .returned (.bool true) ∧ Below W.heap.size W w' := by
    refine AM.callsW_alone (x := .bool true) (args := [.list .sh 16 (x0.map AM.kA), .agg (AM.bs x1.b), .list .sh 18 (x2.map AM.wA), .agg (AM.bs x3.b), .agg (AM.bs x4.b)]) Try.func10 (AM.names_ok _ _ Try.func10) (by kernel_rfl) (AM.E_sound (AM.q_hourglasslaw17_RouteSays x0 x1 x2 x3 x4 [] [] _ b0.1 b2.1 fun _ => rfl)) W rfl ?_
    intro i a hi
    match i, hi with
    | 0, hi => simp only [List.getElem?_cons_zero, List.getElem?_cons_succ, Option.some.injEq] at hi; subst hi; exact ⟨v0, rfl, hv0⟩
    | 1, hi => simp only [List.getElem?_cons_zero, List.getElem?_cons_succ, Option.some.injEq] at hi; subst hi; exact ⟨v1, rfl, hv1⟩
    | 2, hi => simp only [List.getElem?_cons_zero, List.getElem?_cons_succ, Option.some.injEq] at hi; subst hi; exact ⟨v2, rfl, hv2⟩
    | 3, hi => simp only [List.getElem?_cons_zero, List.getElem?_cons_succ, Option.some.injEq] at hi; subst hi; exact ⟨v3, rfl, hv3⟩
    | 4, hi => simp only [List.getElem?_cons_zero, List.getElem?_cons_succ, Option.some.injEq] at hi; subst hi; exact ⟨v4, rfl, hv4⟩
    | i + 5, hi => simp at hi
  refine walk.mono fun e W' ⟨he, bel⟩ => ?_
  subst he
  exact ⟨_, rfl, _, _, _, [], _, [], hW', trodAll_mk1 (shut_bool Try.underlying4 _), AM.trodAll_stays laid bel readable hA1, rfl, bel.frame _, fun h => by cases h⟩
theorem over : Rows.routeSaysRow.holds Try.pinned (OpenSpec.ofChange Rows.routeSaysSpec) :=
  OpenClaim.holds_of_wide 10 Try.f10 rfl rfl rfl rfl rfl rfl rfl ⟨rfl, rfl, rfl, rfl, rfl⟩ rfl rfl rfl rfl rfl (by kernel_rfl) Try.func10 (by kernel_rfl)
    (of_decide_eq_true (by kernel_rfl)) (by unfold Func.isWrapper; first | (rw [if_pos (by decide +kernel)]; kernel_rfl) | (rw [if_neg (by decide +kernel)]; exact ⟨rfl, rfl⟩))
    (fun os started H enc _ => lifted os started H enc)
theorem proved : Rows.RouteSaysSaid := over
#print axioms proved
end Go.Proofs.Ythbiajoionockaa.routeSays
namespace Go.Proofs.Ythbiajoionockaa
/-- The row, under a short name, for the claim. -/
theorem routeSays_holds : Rows.RouteSaysSaid := routeSays.proved
end Go.Proofs.Ythbiajoionockaa
