/- CoordOnce returns true, and nothing that was there before the call is changed: for every world in which it is called. No conditions. -/
import Derived.Test.YtadcnggbhkpcbaaM13
import Derived.Test.YtadcnggbhkpcbaaM12
import Derived.Test.YtadcnggbhkpcbaaRows
import Derived.WalkKit
import Derived.ProofKit
import Derived.OpenShut
import Derived.ShutString
import Derived.ChangeOld
import Derived.Below
import Derived.SizedLaws

namespace Go.Proofs.Ytadcnggbhkpcbaa.coordOnce
open Go.ChangeShapes Go.WideShapes Go.ChangeAt Go.RowKit
set_option linter.unusedVariables false
set_option maxRecDepth 100000

theorem own : ownKnob Try.prog.godebug = none := by kernel_rfl
theorem laid : laidOutB Try.prog = true := by kernel_rfl
theorem rd23 : Try.prog.readableRec 23 = true ∧ decide (23 < Try.prog.types.size) = true := ⟨by kernel_rfl, by kernel_rfl⟩
theorem pl23 : AM.plainT Try.prog 9 23 = true := by kernel_rfl
theorem rd24 : Try.prog.readableRec 24 = true ∧ decide (24 < Try.prog.types.size) = true := ⟨by kernel_rfl, by kernel_rfl⟩
theorem pl24 : AM.plainT Try.prog 9 24 = true := by kernel_rfl
theorem rd25 : Try.prog.readableRec 25 = true ∧ decide (25 < Try.prog.types.size) = true := ⟨by kernel_rfl, by kernel_rfl⟩
theorem pl25 : AM.plainT Try.prog 9 25 = true := by kernel_rfl
theorem ag3 : AM.isAgg Try.prog 3 = false := by kernel_rfl
theorem ag23 : AM.isAgg Try.prog 23 = true := by kernel_rfl
theorem ag24 : AM.isAgg Try.prog 24 = false := by kernel_rfl
theorem ag25 : AM.isAgg Try.prog 25 = false := by kernel_rfl
theorem ag36 : AM.isAgg Try.prog 36 = true := by kernel_rfl
theorem ag87 : AM.isAgg Try.prog 87 = true := by kernel_rfl
theorem ce3 : Try.prog.cellsOf 3 = 1 := by kernel_rfl
theorem ce36 : Try.prog.cellsOf 36 = 16 := by kernel_rfl
theorem ce87 : Try.prog.cellsOf 87 = 18 := by kernel_rfl
theorem rdT24 {d : Nat} {l0 : List AM.AV} (h : AM.shp Try.prog (d + 2) 24 l0) : ∃ x : List (Int), l0 = [.list .sh 1 (x.map AM.pI)] ∧ (x.length ≤ 9223372036854775807 ∧ ∀ a ∈ x, -9223372036854775808 ≤ a ∧ a ≤ 9223372036854775807) :=
  AM.shp_sliceQ (d := d + 1) (c := 1) AM.pI (fun a => -9223372036854775808 ≤ a ∧ a ≤ 9223372036854775807) Try.underlying24 ce3 (fun x hx hag hone => by obtain ⟨a, ha, q⟩ := (AM.shp_i64 (d := d) Try.underlying3 hx); exact ⟨a, by have h1 := hone ag3; rw [ha] at h1; injection h1 with h1; exact h1.symm, q⟩) h
theorem rdT32 {d : Nat} {l0 : List AM.AV} (h : AM.shp Try.prog (d + 4) 32 l0) : ∃ x : List (AM.Wr), l0 = [.list .sh 18 (x.map AM.wA)] ∧ (x.length ≤ 9223372036854775807 ∧ ∀ a ∈ x, True) :=
  AM.shp_sliceQ (d := d + 3) (c := 18) AM.wA (fun a => True) Try.underlying32 ce87 (fun x hx hag hone => by obtain ⟨a, ha, q⟩ := (AM.wT (AM.shp_wr (d := d) Try.underlying87 rfl Try.underlying85 Try.underlying5 Try.underlying9 Try.underlying4 hx)); exact ⟨a, by rw [hag ag87, ha]; rfl, q⟩) h
theorem rdT34 {d : Nat} {l0 : List AM.AV} (h : AM.shp Try.prog (d + 5) 34 l0) : ∃ x : AM.Rec, l0 = AM.rcc x ∧ ((-9223372036854775808 ≤ x.kind ∧ x.kind ≤ 9223372036854775807) ∧ (-9223372036854775808 ≤ x.id ∧ x.id ≤ 9223372036854775807) ∧ (True) ∧ (True) ∧ (x.writes.length ≤ 9223372036854775807 ∧ ∀ a ∈ x.writes, True) ∧ (True) ∧ (x.parts.length ≤ 9223372036854775807 ∧ ∀ a ∈ x.parts, -9223372036854775808 ≤ a ∧ a ≤ 9223372036854775807)) := by
  obtain ⟨a0, r0, rfl, h0, a1, r1, rfl, h1, a2, r2, rfl, h2, a3, r3, rfl, h3, a4, r4, rfl, h4, a5, r5, rfl, h5, a6, r6, rfl, h6, rfl⟩ := AM.shp_struct Try.underlying34 rfl h
  obtain ⟨f0, rfl, q0⟩ := (AM.shp_i64 (d := d + 3) Try.underlying3 h0)
  obtain ⟨f1, rfl, q1⟩ := (AM.shp_i64 (d := d + 3) Try.underlying2 h1)
  obtain ⟨f2, rfl, q2⟩ := (AM.wT (AM.shp_stamp (d := d + 2) Try.underlying23 rfl Try.underlying2 Try.underlying5 h2))
  obtain ⟨f3, rfl, q3⟩ := (AM.wT (AM.shp_stamp (d := d + 2) Try.underlying23 rfl Try.underlying2 Try.underlying5 h3))
  obtain ⟨f4, rfl, q4⟩ := (rdT32 (d := d) h4)
  obtain ⟨f5, rfl, q5⟩ := (AM.wT (AM.shp_bool (d := d + 3) Try.underlying4 h5))
  obtain ⟨f6, rfl, q6⟩ := (rdT24 (d := d + 2) h6)
  exact ⟨⟨f0, f1, f2, f3, f4, f5, f6⟩, rfl, q0, q1, q2, q3, q4, q5, q6⟩
theorem rdT36 {d : Nat} {l0 : List AM.AV} (h : AM.shp Try.prog (d + 6) 36 l0) : ∃ x : AM.CAct, l0 = AM.cactc x ∧ ((-9223372036854775808 ≤ x.op ∧ x.op ≤ 9223372036854775807) ∧ (-9223372036854775808 ≤ x.id ∧ x.id ≤ 9223372036854775807) ∧ (True) ∧ (x.parts.length ≤ 9223372036854775807 ∧ ∀ a ∈ x.parts, -9223372036854775808 ≤ a ∧ a ≤ 9223372036854775807) ∧ (-9223372036854775808 ≤ x.part ∧ x.part ≤ 9223372036854775807) ∧ (True) ∧ ((-9223372036854775808 ≤ x.r.kind ∧ x.r.kind ≤ 9223372036854775807) ∧ (-9223372036854775808 ≤ x.r.id ∧ x.r.id ≤ 9223372036854775807) ∧ (True) ∧ (True) ∧ (x.r.writes.length ≤ 9223372036854775807 ∧ ∀ a ∈ x.r.writes, True) ∧ (True) ∧ (x.r.parts.length ≤ 9223372036854775807 ∧ ∀ a ∈ x.r.parts, -9223372036854775808 ≤ a ∧ a ≤ 9223372036854775807))) := by
  obtain ⟨a0, r0, rfl, h0, a1, r1, rfl, h1, a2, r2, rfl, h2, a3, r3, rfl, h3, a4, r4, rfl, h4, a5, r5, rfl, h5, a6, r6, rfl, h6, rfl⟩ := AM.shp_struct Try.underlying36 rfl h
  obtain ⟨f0, rfl, q0⟩ := (AM.shp_i64 (d := d + 4) Try.underlying3 h0)
  obtain ⟨f1, rfl, q1⟩ := (AM.shp_i64 (d := d + 4) Try.underlying2 h1)
  obtain ⟨f2, rfl, q2⟩ := (AM.wT (AM.shp_stamp (d := d + 3) Try.underlying23 rfl Try.underlying2 Try.underlying5 h2))
  obtain ⟨f3, rfl, q3⟩ := (rdT24 (d := d + 3) h3)
  obtain ⟨f4, rfl, q4⟩ := (AM.shp_i64 (d := d + 4) Try.underlying3 h4)
  obtain ⟨f5, rfl, q5⟩ := (AM.wT (AM.shp_bool (d := d + 4) Try.underlying4 h5))
  obtain ⟨f6, rfl, q6⟩ := (rdT34 (d := d) h6)
  exact ⟨⟨f0, f1, f2, f3, f4, f5, f6⟩, rfl, q0, q1, q2, q3, q4, q5, q6⟩
theorem rdT25 {d : Nat} {l0 : List AM.AV} (h : AM.shp Try.prog (d + 7) 25 l0) : ∃ x : List (AM.CAct), l0 = [.list .sh 16 (x.map AM.cactA)] ∧ (x.length ≤ 9223372036854775807 ∧ ∀ a ∈ x, (-9223372036854775808 ≤ a.op ∧ a.op ≤ 9223372036854775807) ∧ (-9223372036854775808 ≤ a.id ∧ a.id ≤ 9223372036854775807) ∧ (True) ∧ (a.parts.length ≤ 9223372036854775807 ∧ ∀ b ∈ a.parts, -9223372036854775808 ≤ b ∧ b ≤ 9223372036854775807) ∧ (-9223372036854775808 ≤ a.part ∧ a.part ≤ 9223372036854775807) ∧ (True) ∧ ((-9223372036854775808 ≤ a.r.kind ∧ a.r.kind ≤ 9223372036854775807) ∧ (-9223372036854775808 ≤ a.r.id ∧ a.r.id ≤ 9223372036854775807) ∧ (True) ∧ (True) ∧ (a.r.writes.length ≤ 9223372036854775807 ∧ ∀ b ∈ a.r.writes, True) ∧ (True) ∧ (a.r.parts.length ≤ 9223372036854775807 ∧ ∀ b ∈ a.r.parts, -9223372036854775808 ≤ b ∧ b ≤ 9223372036854775807))) :=
  AM.shp_sliceQ (d := d + 6) (c := 16) AM.cactA (fun a => (-9223372036854775808 ≤ a.op ∧ a.op ≤ 9223372036854775807) ∧ (-9223372036854775808 ≤ a.id ∧ a.id ≤ 9223372036854775807) ∧ (True) ∧ (a.parts.length ≤ 9223372036854775807 ∧ ∀ b ∈ a.parts, -9223372036854775808 ≤ b ∧ b ≤ 9223372036854775807) ∧ (-9223372036854775808 ≤ a.part ∧ a.part ≤ 9223372036854775807) ∧ (True) ∧ ((-9223372036854775808 ≤ a.r.kind ∧ a.r.kind ≤ 9223372036854775807) ∧ (-9223372036854775808 ≤ a.r.id ∧ a.r.id ≤ 9223372036854775807) ∧ (True) ∧ (True) ∧ (a.r.writes.length ≤ 9223372036854775807 ∧ ∀ b ∈ a.r.writes, True) ∧ (True) ∧ (a.r.parts.length ≤ 9223372036854775807 ∧ ∀ b ∈ a.r.parts, -9223372036854775808 ≤ b ∧ b ≤ 9223372036854775807))) Try.underlying25 ce36 (fun x hx hag hone => by obtain ⟨a, ha, q⟩ := (rdT36 (d := d) hx); exact ⟨a, by rw [hag ag36, ha]; rfl, q⟩) h
theorem readable : ∀ t ∈ [23, 24, 25], Try.prog.readableRec t = true ∧ t < Try.prog.types.size := by
  intro t ht
  simp only [List.mem_cons, List.not_mem_nil, or_false] at ht
  rcases ht with rfl | rfl | rfl
  · exact ⟨rd23.1, of_decide_eq_true rd23.2⟩
  · exact ⟨rd24.1, of_decide_eq_true rd24.2⟩
  · exact ⟨rd25.1, of_decide_eq_true rd25.2⟩

set_option maxRecDepth 100000 in
theorem lifted (os : Os) (started : os.Started) (H : Type) (enc : TypeId × Value → H) :
    ReturnsInHanded {} Try.checked os 3 .any (Rows.coordOnceSpec.pre6 enc Try.prog Try.f3 Rows.coordOnceRow.domain false) (Rows.coordOnceSpec.post enc Try.prog Try.f3 false true false false) := by
  refine returnsInHanded_of_change_sized (C := Try.checked) own started (by kernel_rfl) Try.func3
    (ChangeSpec.witness6 (enc := enc) (C := Try.checked) false ⟨#[], #[.agg #[.int .i64 0, .int .u8 0], .slice none 0 0, .slice none 0 0], []⟩ 8 (by kernel_rfl) (by kernel_rfl) (by kernel_rfl) (by kernel_rfl)) ?_
  intro W base args ds gs before hval0 hW hcnd hsz0 _
  have hW' := hW
  obtain ⟨p, q, hA0, hV, rfl, hfz, hnd⟩ := hW
  have hA : DataW.TrodAll enc Try.prog W 0 (fun _ => true) true Try.f3.params.toList args.toList ds p := hA0
  have hval : ∀ (j : Nat) t v, Try.f3.params[j]? = some t → args[j]? = some v → Value.okWide Try.prog W .any 0 t v := hval0
  rw [Try.params3] at hA hval
  have hA1 := hA
  obtain ⟨v0, vs0, d0, ds0, p0, q0, e0, rfl, rfl, h0, hA⟩ := trodAll_cons hA
  obtain ⟨v1, vs1, d1, ds1, p1, q1, rfl, rfl, rfl, h1, hA⟩ := trodAll_cons hA
  obtain ⟨v2, vs2, d2, ds2, p2, q2, rfl, rfl, rfl, h2, hA⟩ := trodAll_cons hA
  obtain ⟨rfl, rfl, rfl⟩ := trodAll_nil hA
  obtain rfl : args = #[v0, v1, v2] := by apply Array.ext'; simpa using e0
  obtain ⟨rfl, rfl⟩ := trodVars_none hV
  obtain ⟨c0, s0, hv0⟩ := AM.trod_arg (d := 9) pl23 (hval 0 23 v0 rfl rfl) h0
  rw [ag23] at hv0
  obtain ⟨x0, rfl, b0⟩ := (AM.wT (AM.shp_stamp (d := 7) Try.underlying23 rfl Try.underlying2 Try.underlying5 s0))
  obtain ⟨c1, s1, hv1⟩ := AM.trod_arg (d := 9) pl24 (hval 1 24 v1 rfl rfl) h1
  rw [ag24] at hv1
  obtain ⟨x1, rfl, b1⟩ := (rdT24 (d := 7) s1)
  obtain ⟨c2, s2, hv2⟩ := AM.trod_arg (d := 9) pl25 (hval 2 25 v2 rfl rfl) h2
  rw [ag25] at hv2
  obtain ⟨x2, rfl, b2⟩ := (rdT25 (d := 2) s2)
  have walk : Calls Try.prog 3 #[v0, v1, v2] W fun e w' => e = .returned (.bool true) ∧ Below W.heap.size W w' := by
    refine AM.callsW_alone (x := .bool true) (args := [.agg (AM.stc x0), .list .sh 1 (x1.map AM.pI), .list .sh 16 (x2.map AM.cactA)]) Try.func3 (AM.names_ok _ _ Try.func3) (by kernel_rfl) (AM.E_sound (AM.q_hourglasslaw18_CoordOnce x0 x1 x2 [] [] _ b1.1 b2.1 fun _ => rfl)) W rfl ?_
    intro i a hi
    match i, hi with
    | 0, hi => simp only [List.getElem?_cons_zero, List.getElem?_cons_succ, Option.some.injEq] at hi; subst hi; exact ⟨v0, rfl, hv0⟩
    | 1, hi => simp only [List.getElem?_cons_zero, List.getElem?_cons_succ, Option.some.injEq] at hi; subst hi; exact ⟨v1, rfl, hv1⟩
    | 2, hi => simp only [List.getElem?_cons_zero, List.getElem?_cons_succ, Option.some.injEq] at hi; subst hi; exact ⟨v2, rfl, hv2⟩
    | i + 3, hi => simp at hi
  refine walk.mono fun e W' ⟨he, bel⟩ => ?_
  subst he
  exact ⟨_, rfl, _, _, _, [], _, [], hW', trodAll_mk1 (shut_bool Try.underlying4 _), AM.trodAll_stays laid bel readable hA1, rfl, bel.frame _, fun h => by cases h⟩
theorem over : Rows.coordOnceRow.holds Try.pinned (OpenSpec.ofChange Rows.coordOnceSpec) :=
  OpenClaim.holds_of_wide 3 Try.f3 rfl rfl rfl rfl rfl rfl rfl ⟨rfl, rfl, rfl, rfl, rfl⟩ rfl rfl rfl rfl rfl (by kernel_rfl) Try.func3 (by kernel_rfl)
    (of_decide_eq_true (by kernel_rfl)) (by unfold Func.isWrapper; first | (rw [if_pos (by decide +kernel)]; kernel_rfl) | (rw [if_neg (by decide +kernel)]; exact ⟨rfl, rfl⟩))
    (fun os started H enc _ => lifted os started H enc)
theorem proved : Rows.CoordOnceSaid := over
#print axioms proved
end Go.Proofs.Ytadcnggbhkpcbaa.coordOnce
namespace Go.Proofs.Ytadcnggbhkpcbaa
/-- The row, under a short name, for the claim. -/
theorem coordOnce_holds : Rows.CoordOnceSaid := coordOnce.proved
end Go.Proofs.Ytadcnggbhkpcbaa
