/- StoreAll returns true, and nothing that was there before the call is changed: for every world in which it is called. No conditions. -/
import Derived.Test.YtlnclcpffepfaaaM12
import Derived.Test.YtlnclcpffepfaaaM11
import Derived.Test.YtlnclcpffepfaaaRows
import Derived.WalkKit
import Derived.ProofKit
import Derived.OpenShut
import Derived.ShutString
import Derived.ChangeOld
import Derived.Below
import Derived.SizedLaws

namespace Go.Proofs.Ytlnclcpffepfaaa.storeAll
open Go.ChangeShapes Go.WideShapes Go.ChangeAt Go.RowKit
set_option linter.unusedVariables false
set_option maxRecDepth 100000

theorem own : ownKnob Try.prog.godebug = none := by kernel_rfl
theorem laid : laidOutB Try.prog = true := by kernel_rfl
theorem rd22 : Try.prog.readableRec 22 = true ∧ decide (22 < Try.prog.types.size) = true := ⟨by kernel_rfl, by kernel_rfl⟩
theorem pl22 : AM.plainT Try.prog 9 22 = true := by kernel_rfl
theorem rd24 : Try.prog.readableRec 24 = true ∧ decide (24 < Try.prog.types.size) = true := ⟨by kernel_rfl, by kernel_rfl⟩
theorem pl24 : AM.plainT Try.prog 9 24 = true := by kernel_rfl
theorem rd25 : Try.prog.readableRec 25 = true ∧ decide (25 < Try.prog.types.size) = true := ⟨by kernel_rfl, by kernel_rfl⟩
theorem pl25 : AM.plainT Try.prog 9 25 = true := by kernel_rfl
theorem ag22 : AM.isAgg Try.prog 22 = false := by kernel_rfl
theorem ag24 : AM.isAgg Try.prog 24 = true := by kernel_rfl
theorem ag25 : AM.isAgg Try.prog 25 = false := by kernel_rfl
theorem ag31 : AM.isAgg Try.prog 31 = true := by kernel_rfl
theorem ag42 : AM.isAgg Try.prog 42 = true := by kernel_rfl
theorem ce31 : Try.prog.cellsOf 31 = 4 := by kernel_rfl
theorem ce42 : Try.prog.cellsOf 42 = 18 := by kernel_rfl
theorem rdT25 {d : Nat} {l0 : List AM.AV} (h : AM.shp Try.prog (d + 4) 25 l0) : ∃ x : List (AM.Wr), l0 = [.list .sh 18 (x.map AM.wA)] ∧ (x.length ≤ 9223372036854775807 ∧ ∀ a ∈ x, True) :=
  AM.shp_sliceQ (d := d + 3) (c := 18) AM.wA (fun a => True) Try.underlying25 ce42 (fun x hx hag hone => by obtain ⟨a, ha, q⟩ := (AM.wT (AM.shp_wr (d := d) Try.underlying42 rfl Try.underlying40 Try.underlying5 Try.underlying9 Try.underlying4 hx)); exact ⟨a, by rw [hag ag42, ha]; rfl, q⟩) h
theorem rdT31 {d : Nat} {l0 : List AM.AV} (h : AM.shp Try.prog (d + 5) 31 l0) : ∃ x : AM.SAct, l0 = AM.sacc x ∧ ((-9223372036854775808 ≤ x.op ∧ x.op ≤ 9223372036854775807) ∧ (True) ∧ (x.l.length ≤ 9223372036854775807 ∧ ∀ a ∈ x.l, True)) := by
  obtain ⟨a0, r0, rfl, h0, a1, r1, rfl, h1, a2, r2, rfl, h2, rfl⟩ := AM.shp_struct Try.underlying31 rfl h
  obtain ⟨f0, rfl, q0⟩ := (AM.shp_i64 (d := d + 3) Try.underlying3 h0)
  obtain ⟨f1, rfl, q1⟩ := (AM.wT (AM.shp_stamp (d := d + 2) Try.underlying24 rfl Try.underlying2 Try.underlying5 h1))
  obtain ⟨f2, rfl, q2⟩ := (rdT25 (d := d) h2)
  exact ⟨⟨f0, f1, f2⟩, rfl, q0, q1, q2⟩
theorem rdT22 {d : Nat} {l0 : List AM.AV} (h : AM.shp Try.prog (d + 6) 22 l0) : ∃ x : List (AM.SAct), l0 = [.list .sh 4 (x.map AM.sacA)] ∧ (x.length ≤ 9223372036854775807 ∧ ∀ a ∈ x, (-9223372036854775808 ≤ a.op ∧ a.op ≤ 9223372036854775807) ∧ (True) ∧ (a.l.length ≤ 9223372036854775807 ∧ ∀ b ∈ a.l, True)) :=
  AM.shp_sliceQ (d := d + 5) (c := 4) AM.sacA (fun a => (-9223372036854775808 ≤ a.op ∧ a.op ≤ 9223372036854775807) ∧ (True) ∧ (a.l.length ≤ 9223372036854775807 ∧ ∀ b ∈ a.l, True)) Try.underlying22 ce31 (fun x hx hag hone => by obtain ⟨a, ha, q⟩ := (rdT31 (d := d) hx); exact ⟨a, by rw [hag ag31, ha]; rfl, q⟩) h
theorem readable : ∀ t ∈ [22, 24, 25], Try.prog.readableRec t = true ∧ t < Try.prog.types.size := by
  intro t ht
  simp only [List.mem_cons, List.not_mem_nil, or_false] at ht
  rcases ht with rfl | rfl | rfl
  · exact ⟨rd22.1, of_decide_eq_true rd22.2⟩
  · exact ⟨rd24.1, of_decide_eq_true rd24.2⟩
  · exact ⟨rd25.1, of_decide_eq_true rd25.2⟩

set_option maxRecDepth 100000 in
theorem lifted (os : Os) (started : os.Started) (H : Type) (enc : TypeId × Value → H) :
    ReturnsInHanded {} Try.checked os 3 .any (Rows.storeAllSpec.pre6 enc Try.prog Try.f3 Rows.storeAllRow.domain false) (Rows.storeAllSpec.post enc Try.prog Try.f3 false true false false) := by
  refine returnsInHanded_of_change_sized (C := Try.checked) own started (by kernel_rfl) Try.func3
    (ChangeSpec.witness6 (enc := enc) (C := Try.checked) false ⟨#[], #[.slice none 0 0, .agg #[.int .i64 0, .int .u8 0], .slice none 0 0], []⟩ 8 (by kernel_rfl) (by kernel_rfl) (by kernel_rfl) (by kernel_rfl)) ?_
  intro W base args ds gs before hval0 hW hcnd hsz0 _
  have hW' := hW
  obtain ⟨p, q, hA0, hV, rfl, hfz, hnd⟩ := hW
  have hA : DataW.TrodAll enc Try.prog W 0 (fun _ => true) true Try.f3.params.toList args.toList ds p := hA0
  have hval : ∀ (j : Nat) t v, Try.f3.params[j]? = some t → args[j]? = some v → Value.okWide Try.prog W .any 0 t v := hval0
  rw [Try.params3] at hA hval
  have hA1 := hA
  obtain ⟨v0, vs0, d0, ds0, p0, q0, e0, rfl, rfl, h0, hA⟩ := trodAll_cons hA
  obtain ⟨v1, vs1, d1, ds1, p1, q1, rfl, rfl, rfl, h1, hA⟩ := trodAll_cons hA
  obtain ⟨v2, vs2, d2, ds2, p2, q2, rfl, rfl, rfl, h2, hA⟩ := trodAll_cons hA
  obtain ⟨rfl, rfl, rfl⟩ := trodAll_nil hA
  obtain rfl : args = #[v0, v1, v2] := by apply Array.ext'; simpa using e0
  obtain ⟨rfl, rfl⟩ := trodVars_none hV
  obtain ⟨c0, s0, hv0⟩ := AM.trod_arg (d := 9) pl22 (hval 0 22 v0 rfl rfl) h0
  rw [ag22] at hv0
  obtain ⟨x0, rfl, b0⟩ := (rdT22 (d := 3) s0)
  obtain ⟨c1, s1, hv1⟩ := AM.trod_arg (d := 9) pl24 (hval 1 24 v1 rfl rfl) h1
  rw [ag24] at hv1
  obtain ⟨x1, rfl, b1⟩ := (AM.wT (AM.shp_stamp (d := 7) Try.underlying24 rfl Try.underlying2 Try.underlying5 s1))
  obtain ⟨c2, s2, hv2⟩ := AM.trod_arg (d := 9) pl25 (hval 2 25 v2 rfl rfl) h2
  rw [ag25] at hv2
  obtain ⟨x2, rfl, b2⟩ := (rdT25 (d := 5) s2)
  have walk : Calls Try.prog 3 #[v0, v1, v2] W fun e w' => e = .returned (.bool true) ∧ Below W.heap.size W w' := by
    refine AM.callsW_alone (x := .bool true) (args := [.list .sh 4 (x0.map AM.sacA), .agg (AM.stc x1), .list .sh 18 (x2.map AM.wA)]) Try.func3 (AM.names_ok _ _ Try.func3) (by kernel_rfl) (AM.E_sound (AM.qz35 x0 x1 x2 [] [] _ b0.1 b2.1 (fun a ha => (b0.2 a ha).2.2.1) fun _ => rfl)) W rfl ?_
    intro i a hi
    match i, hi with
    | 0, hi => simp only [List.getElem?_cons_zero, List.getElem?_cons_succ, Option.some.injEq] at hi; subst hi; exact ⟨v0, rfl, hv0⟩
    | 1, hi => simp only [List.getElem?_cons_zero, List.getElem?_cons_succ, Option.some.injEq] at hi; subst hi; exact ⟨v1, rfl, hv1⟩
    | 2, hi => simp only [List.getElem?_cons_zero, List.getElem?_cons_succ, Option.some.injEq] at hi; subst hi; exact ⟨v2, rfl, hv2⟩
    | i + 3, hi => simp at hi
  refine walk.mono fun e W' ⟨he, bel⟩ => ?_
  subst he
  exact ⟨_, rfl, _, _, _, [], _, [], hW', trodAll_mk1 (shut_bool Try.underlying4 _), AM.trodAll_stays laid bel readable hA1, rfl, bel.frame _, fun h => by cases h⟩
theorem over : Rows.storeAllRow.holds Try.pinned (OpenSpec.ofChange Rows.storeAllSpec) :=
  OpenClaim.holds_of_wide 3 Try.f3 rfl rfl rfl rfl rfl rfl rfl ⟨rfl, rfl, rfl, rfl, rfl⟩ rfl rfl rfl rfl rfl (by kernel_rfl) Try.func3 (by kernel_rfl)
    (of_decide_eq_true (by kernel_rfl)) (by unfold Func.isWrapper; first | (rw [if_pos (by decide +kernel)]; kernel_rfl) | (rw [if_neg (by decide +kernel)]; exact ⟨rfl, rfl⟩))
    (fun os started H enc _ => lifted os started H enc)
theorem proved : Rows.StoreAllSaid := over
#print axioms proved
end Go.Proofs.Ytlnclcpffepfaaa.storeAll
namespace Go.Proofs.Ytlnclcpffepfaaa
/-- The row, under a short name, for the claim. -/
theorem storeAll_holds : Rows.StoreAllSaid := storeAll.proved
end Go.Proofs.Ytlnclcpffepfaaa
