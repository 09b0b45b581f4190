/- MsgBytes returns true, and nothing that was there before the call is changed: for every world in which it is called. No conditions. -/
import Derived.Test.YtokgblddddfhnaaM13
import Derived.Test.YtokgblddddfhnaaM12
import Derived.Test.YtokgblddddfhnaaRows
import Derived.WalkKit
import Derived.ProofKit
import Derived.OpenShut
import Derived.ShutString
import Derived.ChangeOld
import Derived.Below
import Derived.SizedLaws

namespace Go.Proofs.Ytokgblddddfhnaa.msgBytes
open Go.ChangeShapes Go.WideShapes Go.ChangeAt Go.RowKit
set_option linter.unusedVariables false
set_option maxRecDepth 100000

theorem own : ownKnob Try.prog.godebug = none := by kernel_rfl
theorem laid : laidOutB Try.prog = true := by kernel_rfl
theorem rd28 : Try.prog.readableRec 28 = true ∧ decide (28 < Try.prog.types.size) = true := ⟨by kernel_rfl, by kernel_rfl⟩
theorem pl28 : AM.plainT Try.prog 9 28 = true := by kernel_rfl
theorem rd59 : Try.prog.readableRec 59 = true ∧ decide (59 < Try.prog.types.size) = true := ⟨by kernel_rfl, by kernel_rfl⟩
theorem pl59 : AM.plainT Try.prog 9 59 = true := by kernel_rfl
theorem ag5 : AM.isAgg Try.prog 5 = false := by kernel_rfl
theorem ag28 : AM.isAgg Try.prog 28 = false := by kernel_rfl
theorem ag48 : AM.isAgg Try.prog 48 = true := by kernel_rfl
theorem ag59 : AM.isAgg Try.prog 59 = true := by kernel_rfl
theorem ag61 : AM.isAgg Try.prog 61 = true := by kernel_rfl
theorem ce5 : Try.prog.cellsOf 5 = 1 := by kernel_rfl
theorem ce48 : Try.prog.cellsOf 48 = 18 := by kernel_rfl
theorem ce61 : Try.prog.cellsOf 61 = 17 := by kernel_rfl
theorem rdT24 {d : Nat} {l0 : List AM.AV} (h : AM.shp Try.prog (d + 4) 24 l0) : ∃ x : List (AM.Wr), l0 = [.list .sh 18 (x.map AM.wA)] ∧ (x.length ≤ 9223372036854775807 ∧ ∀ a ∈ x, True) :=
  AM.shp_sliceQ (d := d + 3) (c := 18) AM.wA (fun a => True) Try.underlying24 ce48 (fun x hx hag hone => by obtain ⟨a, ha, q⟩ := (AM.wT (AM.shp_wr (d := d) Try.underlying48 rfl Try.underlying46 Try.underlying5 Try.underlying9 Try.underlying4 hx)); exact ⟨a, by rw [hag ag48, ha]; rfl, q⟩) h
theorem rdT61 {d : Nat} {l0 : List AM.AV} (h : AM.shp Try.prog (d + 3) 61 l0) : ∃ x : AM.It, l0 = AM.itc x ∧ ((True) ∧ (x.val.length ≤ 9223372036854775807)) := by
  obtain ⟨a0, r0, rfl, h0, a1, r1, rfl, h1, rfl⟩ := AM.shp_struct Try.underlying61 rfl h
  obtain ⟨f0, rfl, q0⟩ := (AM.wT (AM.shp_key (d := d) Try.underlying46 Try.underlying5 h0))
  obtain ⟨f1, rfl, q1⟩ := (AM.shp_strQ (d := d + 1) Try.underlying9 h1)
  exact ⟨⟨f0, f1⟩, rfl, q0, q1⟩
theorem rdT57 {d : Nat} {l0 : List AM.AV} (h : AM.shp Try.prog (d + 4) 57 l0) : ∃ x : List (AM.It), l0 = [.list .sh 17 (x.map AM.itA)] ∧ (x.length ≤ 9223372036854775807 ∧ ∀ a ∈ x, (True) ∧ (a.val.length ≤ 9223372036854775807)) :=
  AM.shp_sliceQ (d := d + 3) (c := 17) AM.itA (fun a => (True) ∧ (a.val.length ≤ 9223372036854775807)) Try.underlying57 ce61 (fun x hx hag hone => by obtain ⟨a, ha, q⟩ := (rdT61 (d := d) hx); exact ⟨a, by rw [hag ag61, ha]; rfl, q⟩) h
theorem rdT59 {d : Nat} {l0 : List AM.AV} (h : AM.shp Try.prog (d + 5) 59 l0) : ∃ x : AM.Msg, l0 = AM.msc x ∧ ((-9223372036854775808 ≤ x.kind ∧ x.kind ≤ 9223372036854775807) ∧ (-9223372036854775808 ≤ x.frm ∧ x.frm ≤ 9223372036854775807) ∧ (-9223372036854775808 ≤ x.tto ∧ x.tto ≤ 9223372036854775807) ∧ (-9223372036854775808 ≤ x.id ∧ x.id ≤ 9223372036854775807) ∧ (-9223372036854775808 ≤ x.num ∧ x.num ≤ 9223372036854775807) ∧ (True) ∧ (True) ∧ (True) ∧ (x.writes.length ≤ 9223372036854775807 ∧ ∀ a ∈ x.writes, True) ∧ (x.items.length ≤ 9223372036854775807 ∧ ∀ a ∈ x.items, (True) ∧ (a.val.length ≤ 9223372036854775807)) ∧ (x.val.length ≤ 9223372036854775807) ∧ (True) ∧ (True) ∧ (-9223372036854775808 ≤ x.err ∧ x.err ≤ 9223372036854775807)) := by
  obtain ⟨a0, r0, rfl, h0, a1, r1, rfl, h1, a2, r2, rfl, h2, a3, r3, rfl, h3, a4, r4, rfl, h4, a5, r5, rfl, h5, a6, r6, rfl, h6, a7, r7, rfl, h7, a8, r8, rfl, h8, a9, r9, rfl, h9, a10, r10, rfl, h10, a11, r11, rfl, h11, a12, r12, rfl, h12, a13, r13, rfl, h13, rfl⟩ := AM.shp_struct Try.underlying59 rfl h
  obtain ⟨f0, rfl, q0⟩ := (AM.shp_i64 (d := d + 3) Try.underlying3 h0)
  obtain ⟨f1, rfl, q1⟩ := (AM.shp_i64 (d := d + 3) Try.underlying3 h1)
  obtain ⟨f2, rfl, q2⟩ := (AM.shp_i64 (d := d + 3) Try.underlying3 h2)
  obtain ⟨f3, rfl, q3⟩ := (AM.shp_i64 (d := d + 3) Try.underlying2 h3)
  obtain ⟨f4, rfl, q4⟩ := (AM.shp_i64 (d := d + 3) Try.underlying2 h4)
  obtain ⟨f5, rfl, q5⟩ := (AM.wT (AM.shp_stamp (d := d + 2) Try.underlying23 rfl Try.underlying2 Try.underlying5 h5))
  obtain ⟨f6, rfl, q6⟩ := (AM.wT (AM.shp_key (d := d + 2) Try.underlying46 Try.underlying5 h6))
  obtain ⟨f7, rfl, q7⟩ := (AM.wT (AM.shp_key (d := d + 2) Try.underlying46 Try.underlying5 h7))
  obtain ⟨f8, rfl, q8⟩ := (rdT24 (d := d) h8)
  obtain ⟨f9, rfl, q9⟩ := (rdT57 (d := d) h9)
  obtain ⟨f10, rfl, q10⟩ := (AM.shp_strQ (d := d + 3) Try.underlying9 h10)
  obtain ⟨f11, rfl, q11⟩ := (AM.wT (AM.shp_bool (d := d + 3) Try.underlying4 h11))
  obtain ⟨f12, rfl, q12⟩ := (AM.wT (AM.shp_bool (d := d + 3) Try.underlying4 h12))
  obtain ⟨f13, rfl, q13⟩ := (AM.shp_i64 (d := d + 3) Try.underlying31 h13)
  exact ⟨⟨f0, f1, f2, f3, f4, f5, f6, f7, f8, f9, f10, f11, f12, f13⟩, rfl, q0, q1, q2, q3, q4, q5, q6, q7, q8, q9, q10, q11, q12, q13⟩
theorem rdT28 {d : Nat} {l0 : List AM.AV} (h : AM.shp Try.prog (d + 2) 28 l0) : ∃ x : List (UInt8), l0 = [.list .sh 1 (x.map AM.u8)] ∧ (x.length ≤ 9223372036854775807 ∧ ∀ a ∈ x, True) :=
  AM.shp_sliceQ (d := d + 1) (c := 1) AM.u8 (fun a => True) Try.underlying28 ce5 (fun x hx hag hone => by obtain ⟨a, ha, q⟩ := (AM.wT (AM.shp_u8 (d := d) Try.underlying5 hx)); exact ⟨a, by have h1 := hone ag5; rw [ha] at h1; injection h1 with h1; exact h1.symm, q⟩) h
theorem readable : ∀ t ∈ [59, 59, 28], Try.prog.readableRec t = true ∧ t < Try.prog.types.size := by
  intro t ht
  simp only [List.mem_cons, List.not_mem_nil, or_false] at ht
  rcases ht with rfl | rfl | rfl
  · exact ⟨rd59.1, of_decide_eq_true rd59.2⟩
  · exact ⟨rd59.1, of_decide_eq_true rd59.2⟩
  · exact ⟨rd28.1, of_decide_eq_true rd28.2⟩

set_option maxRecDepth 100000 in
theorem lifted (os : Os) (started : os.Started) (H : Type) (enc : TypeId × Value → H) :
    ReturnsInHanded {} Try.checked os 8 .any (Rows.msgBytesSpec.pre6 enc Try.prog Try.f8 Rows.msgBytesRow.domain false) (Rows.msgBytesSpec.post enc Try.prog Try.f8 false true false false) := by
  refine returnsInHanded_of_change_sized (C := Try.checked) own started (by kernel_rfl) Try.func8
    (ChangeSpec.witness6 (enc := enc) (C := Try.checked) false ⟨#[], #[.agg #[.int .i64 0, .int .i64 0, .int .i64 0, .int .i64 0, .int .i64 0, .int .i64 0, .int .u8 0, .int .u8 0, .int .u8 0, .int .u8 0, .int .u8 0, .int .u8 0, .int .u8 0, .int .u8 0, .int .u8 0, .int .u8 0, .int .u8 0, .int .u8 0, .int .u8 0, .int .u8 0, .int .u8 0, .int .u8 0, .int .u8 0, .int .u8 0, .int .u8 0, .int .u8 0, .int .u8 0, .int .u8 0, .int .u8 0, .int .u8 0, .int .u8 0, .int .u8 0, .int .u8 0, .int .u8 0, .int .u8 0, .int .u8 0, .int .u8 0, .int .u8 0, .int .u8 0, .slice none 0 0, .slice none 0 0, .string ⟨#[]⟩, .bool false, .bool false, .int .i64 0], .agg #[.int .i64 0, .int .i64 0, .int .i64 0, .int .i64 0, .int .i64 0, .int .i64 0, .int .u8 0, .int .u8 0, .int .u8 0, .int .u8 0, .int .u8 0, .int .u8 0, .int .u8 0, .int .u8 0, .int .u8 0, .int .u8 0, .int .u8 0, .int .u8 0, .int .u8 0, .int .u8 0, .int .u8 0, .int .u8 0, .int .u8 0, .int .u8 0, .int .u8 0, .int .u8 0, .int .u8 0, .int .u8 0, .int .u8 0, .int .u8 0, .int .u8 0, .int .u8 0, .int .u8 0, .int .u8 0, .int .u8 0, .int .u8 0, .int .u8 0, .int .u8 0, .int .u8 0, .slice none 0 0, .slice none 0 0, .string ⟨#[]⟩, .bool false, .bool false, .int .i64 0], .slice none 0 0], []⟩ 8 (by kernel_rfl) (by kernel_rfl) (by kernel_rfl) (by kernel_rfl)) ?_
  intro W base args ds gs before hval0 hW hcnd hsz0 _
  have hW' := hW
  obtain ⟨p, q, hA0, hV, rfl, hfz, hnd⟩ := hW
  have hA : DataW.TrodAll enc Try.prog W 0 (fun _ => true) true Try.f8.params.toList args.toList ds p := hA0
  have hval : ∀ (j : Nat) t v, Try.f8.params[j]? = some t → args[j]? = some v → Value.okWide Try.prog W .any 0 t v := hval0
  rw [Try.params8] at hA hval
  have hA1 := hA
  obtain ⟨v0, vs0, d0, ds0, p0, q0, e0, rfl, rfl, h0, hA⟩ := trodAll_cons hA
  obtain ⟨v1, vs1, d1, ds1, p1, q1, rfl, rfl, rfl, h1, hA⟩ := trodAll_cons hA
  obtain ⟨v2, vs2, d2, ds2, p2, q2, rfl, rfl, rfl, h2, hA⟩ := trodAll_cons hA
  obtain ⟨rfl, rfl, rfl⟩ := trodAll_nil hA
  obtain rfl : args = #[v0, v1, v2] := by apply Array.ext'; simpa using e0
  obtain ⟨rfl, rfl⟩ := trodVars_none hV
  obtain ⟨c0, s0, hv0⟩ := AM.trod_arg (d := 9) pl59 (hval 0 59 v0 rfl rfl) h0
  rw [ag59] at hv0
  obtain ⟨x0, rfl, b0⟩ := (rdT59 (d := 4) s0)
  obtain ⟨c1, s1, hv1⟩ := AM.trod_arg (d := 9) pl59 (hval 1 59 v1 rfl rfl) h1
  rw [ag59] at hv1
  obtain ⟨x1, rfl, b1⟩ := (rdT59 (d := 4) s1)
  obtain ⟨c2, s2, hv2⟩ := AM.trod_arg (d := 9) pl28 (hval 2 28 v2 rfl rfl) h2
  rw [ag28] at hv2
  obtain ⟨x2, rfl, b2⟩ := (rdT28 (d := 7) s2)
  have walk : Calls Try.prog 8 #[v0, v1, v2] W fun e w' => e = .returned (.bool true) ∧ Below W.heap.size W w' := by
    refine AM.callsW_alone (x := .bool true) (args := [.agg (AM.msc x0), .agg (AM.msc x1), .list .sh 1 (x2.map AM.u8)]) Try.func8 (AM.names_ok _ _ Try.func8) (by kernel_rfl) (AM.E_sound (AM.q_hourglasslaw19_MsgBytes x0 x1 x2 [] [] _ (AM.inM_of b0) (AM.inM_of b1) b2.1 fun _ => rfl)) W rfl ?_
    intro i a hi
    match i, hi with
    | 0, hi => simp only [List.getElem?_cons_zero, List.getElem?_cons_succ, Option.some.injEq] at hi; subst hi; exact ⟨v0, rfl, hv0⟩
    | 1, hi => simp only [List.getElem?_cons_zero, List.getElem?_cons_succ, Option.some.injEq] at hi; subst hi; exact ⟨v1, rfl, hv1⟩
    | 2, hi => simp only [List.getElem?_cons_zero, List.getElem?_cons_succ, Option.some.injEq] at hi; subst hi; exact ⟨v2, rfl, hv2⟩
    | i + 3, hi => simp at hi
  refine walk.mono fun e W' ⟨he, bel⟩ => ?_
  subst he
  exact ⟨_, rfl, _, _, _, [], _, [], hW', trodAll_mk1 (shut_bool Try.underlying4 _), AM.trodAll_stays laid bel readable hA1, rfl, bel.frame _, fun h => by cases h⟩
theorem over : Rows.msgBytesRow.holds Try.pinned (OpenSpec.ofChange Rows.msgBytesSpec) :=
  OpenClaim.holds_of_wide 8 Try.f8 rfl rfl rfl rfl rfl rfl rfl ⟨rfl, rfl, rfl, rfl, rfl⟩ rfl rfl rfl rfl rfl (by kernel_rfl) Try.func8 (by kernel_rfl)
    (of_decide_eq_true (by kernel_rfl)) (by unfold Func.isWrapper; first | (rw [if_pos (by decide +kernel)]; kernel_rfl) | (rw [if_neg (by decide +kernel)]; exact ⟨rfl, rfl⟩))
    (fun os started H enc _ => lifted os started H enc)
theorem proved : Rows.MsgBytesSaid := over
#print axioms proved
end Go.Proofs.Ytokgblddddfhnaa.msgBytes
namespace Go.Proofs.Ytokgblddddfhnaa
/-- The row, under a short name, for the claim. -/
theorem msgBytes_holds : Rows.MsgBytesSaid := msgBytes.proved
end Go.Proofs.Ytokgblddddfhnaa
