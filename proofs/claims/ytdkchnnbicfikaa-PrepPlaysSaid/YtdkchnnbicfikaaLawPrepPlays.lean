/- PrepPlays returns true, and nothing that was there before the call is changed: for every world in which it is called. No conditions. -/
import Derived.Test.YtdkchnnbicfikaaM14
import Derived.Test.YtdkchnnbicfikaaM13
import Derived.Test.YtdkchnnbicfikaaRows
import Derived.WalkKit
import Derived.ProofKit
import Derived.OpenShut
import Derived.ShutString
import Derived.ChangeOld
import Derived.Below
import Derived.SizedLaws

namespace Go.Proofs.Ytdkchnnbicfikaa.prepPlays
open Go.ChangeShapes Go.WideShapes Go.ChangeAt Go.RowKit
set_option linter.unusedVariables false
set_option maxRecDepth 100000

theorem own : ownKnob Try.prog.godebug = none := by kernel_rfl
theorem laid : laidOutB Try.prog = true := by kernel_rfl
theorem rd22 : Try.prog.readableRec 22 = true ∧ decide (22 < Try.prog.types.size) = true := ⟨by kernel_rfl, by kernel_rfl⟩
theorem pl22 : AM.plainT Try.prog 9 22 = true := by kernel_rfl
theorem rd28 : Try.prog.readableRec 28 = true ∧ decide (28 < Try.prog.types.size) = true := ⟨by kernel_rfl, by kernel_rfl⟩
theorem pl28 : AM.plainT Try.prog 9 28 = true := by kernel_rfl
theorem rd43 : Try.prog.readableRec 43 = true ∧ decide (43 < Try.prog.types.size) = true := ⟨by kernel_rfl, by kernel_rfl⟩
theorem pl43 : AM.plainT Try.prog 9 43 = true := by kernel_rfl
theorem ag22 : AM.isAgg Try.prog 22 = false := by kernel_rfl
theorem ag28 : AM.isAgg Try.prog 28 = true := by kernel_rfl
theorem ag33 : AM.isAgg Try.prog 33 = true := by kernel_rfl
theorem ag43 : AM.isAgg Try.prog 43 = true := by kernel_rfl
theorem ag45 : AM.isAgg Try.prog 45 = true := by kernel_rfl
theorem ce33 : Try.prog.cellsOf 33 = 7 := by kernel_rfl
theorem ce45 : Try.prog.cellsOf 45 = 18 := by kernel_rfl
theorem rdT29 {d : Nat} {l0 : List AM.AV} (h : AM.shp Try.prog (d + 4) 29 l0) : ∃ x : List (AM.Wr), l0 = [.list .sh 18 (x.map AM.wA)] ∧ (x.length ≤ 9223372036854775807 ∧ ∀ a ∈ x, True) :=
  AM.shp_sliceQ (d := d + 3) (c := 18) AM.wA (fun a => True) Try.underlying29 ce45 (fun x hx hag hone => by obtain ⟨a, ha, q⟩ := (AM.wT (AM.shp_wr (d := d) Try.underlying45 rfl Try.underlying43 Try.underlying5 Try.underlying9 Try.underlying4 hx)); exact ⟨a, by rw [hag ag45, ha]; rfl, q⟩) h
theorem rdT31 {d : Nat} {l0 : List AM.AV} (h : AM.shp Try.prog (d + 5) 31 l0) : ∃ x : AM.Ent, l0 = AM.enc x ∧ ((-9223372036854775808 ≤ x.id ∧ x.id ≤ 9223372036854775807) ∧ (True) ∧ (True) ∧ (x.writes.length ≤ 9223372036854775807 ∧ ∀ a ∈ x.writes, True)) := by
  obtain ⟨a0, r0, rfl, h0, a1, r1, rfl, h1, a2, r2, rfl, h2, a3, r3, rfl, h3, rfl⟩ := AM.shp_struct Try.underlying31 rfl h
  obtain ⟨f0, rfl, q0⟩ := (AM.shp_i64 (d := d + 3) Try.underlying2 h0)
  obtain ⟨f1, rfl, q1⟩ := (AM.wT (AM.shp_stamp (d := d + 2) Try.underlying28 rfl Try.underlying2 Try.underlying5 h1))
  obtain ⟨f2, rfl, q2⟩ := (AM.wT (AM.shp_stamp (d := d + 2) Try.underlying28 rfl Try.underlying2 Try.underlying5 h2))
  obtain ⟨f3, rfl, q3⟩ := (rdT29 (d := d) h3)
  exact ⟨⟨f0, f1, f2, f3⟩, rfl, q0, q1, q2, q3⟩
theorem rdT33 {d : Nat} {l0 : List AM.AV} (h : AM.shp Try.prog (d + 6) 33 l0) : ∃ x : AM.Act, l0 = AM.actc x ∧ ((-9223372036854775808 ≤ x.op ∧ x.op ≤ 9223372036854775807) ∧ ((-9223372036854775808 ≤ x.e.id ∧ x.e.id ≤ 9223372036854775807) ∧ (True) ∧ (True) ∧ (x.e.writes.length ≤ 9223372036854775807 ∧ ∀ a ∈ x.e.writes, True))) := by
  obtain ⟨a0, r0, rfl, h0, a1, r1, rfl, h1, rfl⟩ := AM.shp_struct Try.underlying33 rfl h
  obtain ⟨f0, rfl, q0⟩ := (AM.shp_i64 (d := d + 4) Try.underlying3 h0)
  obtain ⟨f1, rfl, q1⟩ := (rdT31 (d := d) h1)
  exact ⟨⟨f0, f1⟩, rfl, q0, q1⟩
theorem rdT22 {d : Nat} {l0 : List AM.AV} (h : AM.shp Try.prog (d + 7) 22 l0) : ∃ x : List (AM.Act), l0 = [.list .sh 7 (x.map AM.actA)] ∧ (x.length ≤ 9223372036854775807 ∧ ∀ a ∈ x, (-9223372036854775808 ≤ a.op ∧ a.op ≤ 9223372036854775807) ∧ ((-9223372036854775808 ≤ a.e.id ∧ a.e.id ≤ 9223372036854775807) ∧ (True) ∧ (True) ∧ (a.e.writes.length ≤ 9223372036854775807 ∧ ∀ b ∈ a.e.writes, True))) :=
  AM.shp_sliceQ (d := d + 6) (c := 7) AM.actA (fun a => (-9223372036854775808 ≤ a.op ∧ a.op ≤ 9223372036854775807) ∧ ((-9223372036854775808 ≤ a.e.id ∧ a.e.id ≤ 9223372036854775807) ∧ (True) ∧ (True) ∧ (a.e.writes.length ≤ 9223372036854775807 ∧ ∀ b ∈ a.e.writes, True))) Try.underlying22 ce33 (fun x hx hag hone => by obtain ⟨a, ha, q⟩ := (rdT33 (d := d) hx); exact ⟨a, by rw [hag ag33, ha]; rfl, q⟩) h
theorem readable : ∀ t ∈ [22, 43, 28], Try.prog.readableRec t = true ∧ t < Try.prog.types.size := by
  intro t ht
  simp only [List.mem_cons, List.not_mem_nil, or_false] at ht
  rcases ht with rfl | rfl | rfl
  · exact ⟨rd22.1, of_decide_eq_true rd22.2⟩
  · exact ⟨rd43.1, of_decide_eq_true rd43.2⟩
  · exact ⟨rd28.1, of_decide_eq_true rd28.2⟩

set_option maxRecDepth 100000 in
theorem lifted (os : Os) (started : os.Started) (H : Type) (enc : TypeId × Value → H) :
    ReturnsInHanded {} Try.checked os 5 .any (Rows.prepPlaysSpec.pre6 enc Try.prog Try.f5 Rows.prepPlaysRow.domain false) (Rows.prepPlaysSpec.post enc Try.prog Try.f5 false true false false) := by
  refine returnsInHanded_of_change_sized (C := Try.checked) own started (by kernel_rfl) Try.func5
    (ChangeSpec.witness6 (enc := enc) (C := Try.checked) false ⟨#[], #[.slice none 0 0, .agg (Array.replicate 16 (.int .u8 0)), .agg #[.int .i64 0, .int .u8 0]], []⟩ 8 (by kernel_rfl) (by kernel_rfl) (by kernel_rfl) (by kernel_rfl)) ?_
  intro W base args ds gs before hval0 hW hcnd hsz0 _
  have hW' := hW
  obtain ⟨p, q, hA0, hV, rfl, hfz, hnd⟩ := hW
  have hA : DataW.TrodAll enc Try.prog W 0 (fun _ => true) true Try.f5.params.toList args.toList ds p := hA0
  have hval : ∀ (j : Nat) t v, Try.f5.params[j]? = some t → args[j]? = some v → Value.okWide Try.prog W .any 0 t v := hval0
  rw [Try.params5] at hA hval
  have hA1 := hA
  obtain ⟨v0, vs0, d0, ds0, p0, q0, e0, rfl, rfl, h0, hA⟩ := trodAll_cons hA
  obtain ⟨v1, vs1, d1, ds1, p1, q1, rfl, rfl, rfl, h1, hA⟩ := trodAll_cons hA
  obtain ⟨v2, vs2, d2, ds2, p2, q2, rfl, rfl, rfl, h2, hA⟩ := trodAll_cons hA
  obtain ⟨rfl, rfl, rfl⟩ := trodAll_nil hA
  obtain rfl : args = #[v0, v1, v2] := by apply Array.ext'; simpa using e0
  obtain ⟨rfl, rfl⟩ := trodVars_none hV
  obtain ⟨c0, s0, hv0⟩ := AM.trod_arg (d := 9) pl22 (hval 0 22 v0 rfl rfl) h0
  rw [ag22] at hv0
  obtain ⟨x0, rfl, b0⟩ := (rdT22 (d := 2) s0)
  obtain ⟨c1, s1, hv1⟩ := AM.trod_arg (d := 9) pl43 (hval 1 43 v1 rfl rfl) h1
  rw [ag43] at hv1
  obtain ⟨x1, rfl, b1⟩ := (AM.wT (AM.shp_key (d := 7) Try.underlying43 Try.underlying5 s1))
  obtain ⟨c2, s2, hv2⟩ := AM.trod_arg (d := 9) pl28 (hval 2 28 v2 rfl rfl) h2
  rw [ag28] at hv2
  obtain ⟨x2, rfl, b2⟩ := (AM.wT (AM.shp_stamp (d := 7) Try.underlying28 rfl Try.underlying2 Try.underlying5 s2))
  have walk : Calls Try.prog 5 #[v0, v1, v2] W fun e w' => e = .returned (.bool true) ∧ Below W.heap.size W w' := by
    refine AM.callsW_alone (x := .bool true) (args := [.list .sh 7 (x0.map AM.actA), .agg (AM.bs x1.b), .agg (AM.stc x2)]) Try.func5 (AM.names_ok _ _ Try.func5) (by kernel_rfl) (AM.E_sound (AM.q_hourglasslaw13_PrepPlays x0 x1 x2 [] [] _ b0.1 (fun a ha => (b0.2 a ha).2.2.2.2.1) fun _ => rfl)) W rfl ?_
    intro i a hi
    match i, hi with
    | 0, hi => simp only [List.getElem?_cons_zero, List.getElem?_cons_succ, Option.some.injEq] at hi; subst hi; exact ⟨v0, rfl, hv0⟩
    | 1, hi => simp only [List.getElem?_cons_zero, List.getElem?_cons_succ, Option.some.injEq] at hi; subst hi; exact ⟨v1, rfl, hv1⟩
    | 2, hi => simp only [List.getElem?_cons_zero, List.getElem?_cons_succ, Option.some.injEq] at hi; subst hi; exact ⟨v2, rfl, hv2⟩
    | i + 3, hi => simp at hi
  refine walk.mono fun e W' ⟨he, bel⟩ => ?_
  subst he
  exact ⟨_, rfl, _, _, _, [], _, [], hW', trodAll_mk1 (shut_bool Try.underlying4 _), AM.trodAll_stays laid bel readable hA1, rfl, bel.frame _, fun h => by cases h⟩
theorem over : Rows.prepPlaysRow.holds Try.pinned (OpenSpec.ofChange Rows.prepPlaysSpec) :=
  OpenClaim.holds_of_wide 5 Try.f5 rfl rfl rfl rfl rfl rfl rfl ⟨rfl, rfl, rfl, rfl, rfl⟩ rfl rfl rfl rfl rfl (by kernel_rfl) Try.func5 (by kernel_rfl)
    (of_decide_eq_true (by kernel_rfl)) (by unfold Func.isWrapper; first | (rw [if_pos (by decide +kernel)]; kernel_rfl) | (rw [if_neg (by decide +kernel)]; exact ⟨rfl, rfl⟩))
    (fun os started H enc _ => lifted os started H enc)
theorem proved : Rows.PrepPlaysSaid := over
#print axioms proved
end Go.Proofs.Ytdkchnnbicfikaa.prepPlays
namespace Go.Proofs.Ytdkchnnbicfikaa
/-- The row, under a short name, for the claim. -/
theorem prepPlays_holds : Rows.PrepPlaysSaid := prepPlays.proved
end Go.Proofs.Ytdkchnnbicfikaa
