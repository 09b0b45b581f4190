/- StoreCopies returns true, and nothing that was there before the call is changed: for every world in which it is called. No conditions. -/
import Derived.Test.YtlnclcpffepfaaaM13
import Derived.Test.YtlnclcpffepfaaaM12
import Derived.Test.YtlnclcpffepfaaaRows
import Derived.WalkKit
import Derived.ProofKit
import Derived.OpenShut
import Derived.ShutString
import Derived.ChangeOld
import Derived.Below
import Derived.SizedLaws

namespace Go.Proofs.Ytlnclcpffepfaaa.storeCopies
open Go.ChangeShapes Go.WideShapes Go.ChangeAt Go.RowKit
set_option linter.unusedVariables false
set_option maxRecDepth 100000

theorem own : ownKnob Try.prog.godebug = none := by kernel_rfl
theorem laid : laidOutB Try.prog = true := by kernel_rfl
theorem rd22 : Try.prog.readableRec 22 = true ∧ decide (22 < Try.prog.types.size) = true := ⟨by kernel_rfl, by kernel_rfl⟩
theorem pl22 : AM.plainT Try.prog 9 22 = true := by kernel_rfl
theorem ag22 : AM.isAgg Try.prog 22 = false := by kernel_rfl
theorem ag31 : AM.isAgg Try.prog 31 = true := by kernel_rfl
theorem ag42 : AM.isAgg Try.prog 42 = true := by kernel_rfl
theorem ce31 : Try.prog.cellsOf 31 = 4 := by kernel_rfl
theorem ce42 : Try.prog.cellsOf 42 = 18 := by kernel_rfl
theorem rdT25 {d : Nat} {l0 : List AM.AV} (h : AM.shp Try.prog (d + 4) 25 l0) : ∃ x : List (AM.Wr), l0 = [.list .sh 18 (x.map AM.wA)] ∧ (x.length ≤ 9223372036854775807 ∧ ∀ a ∈ x, True) :=
  AM.shp_sliceQ (d := d + 3) (c := 18) AM.wA (fun a => True) Try.underlying25 ce42 (fun x hx hag hone => by obtain ⟨a, ha, q⟩ := (AM.wT (AM.shp_wr (d := d) Try.underlying42 rfl Try.underlying40 Try.underlying5 Try.underlying9 Try.underlying4 hx)); exact ⟨a, by rw [hag ag42, ha]; rfl, q⟩) h
theorem rdT31 {d : Nat} {l0 : List AM.AV} (h : AM.shp Try.prog (d + 5) 31 l0) : ∃ x : AM.SAct, l0 = AM.sacc x ∧ ((-9223372036854775808 ≤ x.op ∧ x.op ≤ 9223372036854775807) ∧ (True) ∧ (x.l.length ≤ 9223372036854775807 ∧ ∀ a ∈ x.l, True)) := by
  obtain ⟨a0, r0, rfl, h0, a1, r1, rfl, h1, a2, r2, rfl, h2, rfl⟩ := AM.shp_struct Try.underlying31 rfl h
  obtain ⟨f0, rfl, q0⟩ := (AM.shp_i64 (d := d + 3) Try.underlying3 h0)
  obtain ⟨f1, rfl, q1⟩ := (AM.wT (AM.shp_stamp (d := d + 2) Try.underlying24 rfl Try.underlying2 Try.underlying5 h1))
  obtain ⟨f2, rfl, q2⟩ := (rdT25 (d := d) h2)
  exact ⟨⟨f0, f1, f2⟩, rfl, q0, q1, q2⟩
theorem rdT22 {d : Nat} {l0 : List AM.AV} (h : AM.shp Try.prog (d + 6) 22 l0) : ∃ x : List (AM.SAct), l0 = [.list .sh 4 (x.map AM.sacA)] ∧ (x.length ≤ 9223372036854775807 ∧ ∀ a ∈ x, (-9223372036854775808 ≤ a.op ∧ a.op ≤ 9223372036854775807) ∧ (True) ∧ (a.l.length ≤ 9223372036854775807 ∧ ∀ b ∈ a.l, True)) :=
  AM.shp_sliceQ (d := d + 5) (c := 4) AM.sacA (fun a => (-9223372036854775808 ≤ a.op ∧ a.op ≤ 9223372036854775807) ∧ (True) ∧ (a.l.length ≤ 9223372036854775807 ∧ ∀ b ∈ a.l, True)) Try.underlying22 ce31 (fun x hx hag hone => by obtain ⟨a, ha, q⟩ := (rdT31 (d := d) hx); exact ⟨a, by rw [hag ag31, ha]; rfl, q⟩) h
theorem readable : ∀ t ∈ [22, 22], Try.prog.readableRec t = true ∧ t < Try.prog.types.size := by
  intro t ht
  simp only [List.mem_cons, List.not_mem_nil, or_false] at ht
  rcases ht with rfl | rfl
  · exact ⟨rd22.1, of_decide_eq_true rd22.2⟩
  · exact ⟨rd22.1, of_decide_eq_true rd22.2⟩

set_option maxRecDepth 100000 in
theorem lifted (os : Os) (started : os.Started) (H : Type) (enc : TypeId × Value → H) :
    ReturnsInHanded {} Try.checked os 6 .any (Rows.storeCopiesSpec.pre6 enc Try.prog Try.f6 Rows.storeCopiesRow.domain false) (Rows.storeCopiesSpec.post enc Try.prog Try.f6 false true false false) := by
  refine returnsInHanded_of_change_sized (C := Try.checked) own started (by kernel_rfl) Try.func6
    (ChangeSpec.witness6 (enc := enc) (C := Try.checked) false ⟨#[], #[.slice none 0 0, .slice none 0 0], []⟩ 8 (by kernel_rfl) (by kernel_rfl) (by kernel_rfl) (by kernel_rfl)) ?_
  intro W base args ds gs before hval0 hW hcnd hsz0 _
  have hW' := hW
  obtain ⟨p, q, hA0, hV, rfl, hfz, hnd⟩ := hW
  have hA : DataW.TrodAll enc Try.prog W 0 (fun _ => true) true Try.f6.params.toList args.toList ds p := hA0
  have hval : ∀ (j : Nat) t v, Try.f6.params[j]? = some t → args[j]? = some v → Value.okWide Try.prog W .any 0 t v := hval0
  rw [Try.params6] at hA hval
  have hA1 := hA
  obtain ⟨v0, vs0, d0, ds0, p0, q0, e0, rfl, rfl, h0, hA⟩ := trodAll_cons hA
  obtain ⟨v1, vs1, d1, ds1, p1, q1, rfl, rfl, rfl, h1, hA⟩ := trodAll_cons hA
  obtain ⟨rfl, rfl, rfl⟩ := trodAll_nil hA
  obtain rfl : args = #[v0, v1] := by apply Array.ext'; simpa using e0
  obtain ⟨rfl, rfl⟩ := trodVars_none hV
  obtain ⟨c0, s0, hv0⟩ := AM.trod_arg (d := 9) pl22 (hval 0 22 v0 rfl rfl) h0
  rw [ag22] at hv0
  obtain ⟨x0, rfl, b0⟩ := (rdT22 (d := 3) s0)
  obtain ⟨c1, s1, hv1⟩ := AM.trod_arg (d := 9) pl22 (hval 1 22 v1 rfl rfl) h1
  rw [ag22] at hv1
  obtain ⟨x1, rfl, b1⟩ := (rdT22 (d := 3) s1)
  have walk : Calls Try.prog 6 #[v0, v1] W fun e w' => e = .returned (.bool true) ∧ Below W.heap.size W w' := by
    refine AM.callsW_alone (x := .bool true) (args := [.list .sh 4 (x0.map AM.sacA), .list .sh 4 (x1.map AM.sacA)]) Try.func6 (AM.names_ok _ _ Try.func6) (by kernel_rfl) (AM.E_sound (AM.qz2y x0 x1 [] [] _ b0.1 b1.1 (fun a ha => (b0.2 a ha).2.2.1) (fun a ha => (b1.2 a ha).2.2.1) fun _ => rfl)) W rfl ?_
    intro i a hi
    match i, hi with
    | 0, hi => simp only [List.getElem?_cons_zero, List.getElem?_cons_succ, Option.some.injEq] at hi; subst hi; exact ⟨v0, rfl, hv0⟩
    | 1, hi => simp only [List.getElem?_cons_zero, List.getElem?_cons_succ, Option.some.injEq] at hi; subst hi; exact ⟨v1, rfl, hv1⟩
    | i + 2, hi => simp at hi
  refine walk.mono fun e W' ⟨he, bel⟩ => ?_
  subst he
  exact ⟨_, rfl, _, _, _, [], _, [], hW', trodAll_mk1 (shut_bool Try.underlying4 _), AM.trodAll_stays laid bel readable hA1, rfl, bel.frame _, fun h => by cases h⟩
theorem over : Rows.storeCopiesRow.holds Try.pinned (OpenSpec.ofChange Rows.storeCopiesSpec) :=
  OpenClaim.holds_of_wide 6 Try.f6 rfl rfl rfl rfl rfl rfl rfl ⟨rfl, rfl, rfl, rfl, rfl⟩ rfl rfl rfl rfl rfl (by kernel_rfl) Try.func6 (by kernel_rfl)
    (of_decide_eq_true (by kernel_rfl)) (by unfold Func.isWrapper; first | (rw [if_pos (by decide +kernel)]; kernel_rfl) | (rw [if_neg (by decide +kernel)]; exact ⟨rfl, rfl⟩))
    (fun os started H enc _ => lifted os started H enc)
theorem proved : Rows.StoreCopiesSaid := over
#print axioms proved
end Go.Proofs.Ytlnclcpffepfaaa.storeCopies
namespace Go.Proofs.Ytlnclcpffepfaaa
/-- The row, under a short name, for the claim. -/
theorem storeCopies_holds : Rows.StoreCopiesSaid := storeCopies.proved
end Go.Proofs.Ytlnclcpffepfaaa
