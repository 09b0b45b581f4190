/- FrontAgain returns true, and nothing that was there before the call is changed: for every world in which it is called. No conditions. -/
import Derived.Test.YtpbpnojhflfkfaaM13
import Derived.Test.YtpbpnojhflfkfaaM12
import Derived.Test.YtpbpnojhflfkfaaRows
import Derived.WalkKit
import Derived.ProofKit
import Derived.OpenShut
import Derived.ShutString
import Derived.ChangeOld
import Derived.Below
import Derived.SizedLaws

namespace Go.Proofs.Ytpbpnojhflfkfaa.frontAgain
open Go.ChangeShapes Go.WideShapes Go.ChangeAt Go.RowKit
set_option linter.unusedVariables false
set_option maxRecDepth 100000

theorem own : ownKnob Try.prog.godebug = none := by kernel_rfl
theorem laid : laidOutB Try.prog = true := by kernel_rfl
theorem rd22 : Try.prog.readableRec 22 = true ∧ decide (22 < Try.prog.types.size) = true := ⟨by kernel_rfl, by kernel_rfl⟩
theorem pl22 : AM.plainT Try.prog 9 22 = true := by kernel_rfl
theorem rd24 : Try.prog.readableRec 24 = true ∧ decide (24 < Try.prog.types.size) = true := ⟨by kernel_rfl, by kernel_rfl⟩
theorem pl24 : AM.plainT Try.prog 9 24 = true := by kernel_rfl
theorem rd25 : Try.prog.readableRec 25 = true ∧ decide (25 < Try.prog.types.size) = true := ⟨by kernel_rfl, by kernel_rfl⟩
theorem pl25 : AM.plainT Try.prog 9 25 = true := by kernel_rfl
theorem rd26 : Try.prog.readableRec 26 = true ∧ decide (26 < Try.prog.types.size) = true := ⟨by kernel_rfl, by kernel_rfl⟩
theorem pl26 : AM.plainT Try.prog 9 26 = true := by kernel_rfl
theorem ag22 : AM.isAgg Try.prog 22 = false := by kernel_rfl
theorem ag24 : AM.isAgg Try.prog 24 = true := by kernel_rfl
theorem ag25 : AM.isAgg Try.prog 25 = false := by kernel_rfl
theorem ag26 : AM.isAgg Try.prog 26 = false := by kernel_rfl
theorem ag37 : AM.isAgg Try.prog 37 = true := by kernel_rfl
theorem ag39 : AM.isAgg Try.prog 39 = true := by kernel_rfl
theorem ag44 : AM.isAgg Try.prog 44 = true := by kernel_rfl
theorem ag80 : AM.isAgg Try.prog 80 = true := by kernel_rfl
theorem ce37 : Try.prog.cellsOf 37 = 16 := by kernel_rfl
theorem ce39 : Try.prog.cellsOf 39 = 18 := by kernel_rfl
theorem ce44 : Try.prog.cellsOf 44 = 45 := by kernel_rfl
theorem ce80 : Try.prog.cellsOf 80 = 17 := by kernel_rfl
theorem rdT22 {d : Nat} {l0 : List AM.AV} (h : AM.shp Try.prog (d + 3) 22 l0) : ∃ x : List (AM.Key), l0 = [.list .sh 16 (x.map AM.kA)] ∧ (x.length ≤ 9223372036854775807 ∧ ∀ a ∈ x, True) :=
  AM.shp_sliceQ (d := d + 2) (c := 16) AM.kA (fun a => True) Try.underlying22 ce37 (fun x hx hag hone => by obtain ⟨a, ha, q⟩ := (AM.wT (AM.shp_key (d := d) Try.underlying37 Try.underlying5 hx)); exact ⟨a, by rw [hag ag37, ha]; rfl, q⟩) h
theorem rdT25 {d : Nat} {l0 : List AM.AV} (h : AM.shp Try.prog (d + 4) 25 l0) : ∃ x : List (AM.Wr), l0 = [.list .sh 18 (x.map AM.wA)] ∧ (x.length ≤ 9223372036854775807 ∧ ∀ a ∈ x, True) :=
  AM.shp_sliceQ (d := d + 3) (c := 18) AM.wA (fun a => True) Try.underlying25 ce39 (fun x hx hag hone => by obtain ⟨a, ha, q⟩ := (AM.wT (AM.shp_wr (d := d) Try.underlying39 rfl Try.underlying37 Try.underlying5 Try.underlying9 Try.underlying4 hx)); exact ⟨a, by rw [hag ag39, ha]; rfl, q⟩) h
theorem rdT80 {d : Nat} {l0 : List AM.AV} (h : AM.shp Try.prog (d + 3) 80 l0) : ∃ x : AM.It, l0 = AM.itc x ∧ ((True) ∧ (x.val.length ≤ 9223372036854775807)) := by
  obtain ⟨a0, r0, rfl, h0, a1, r1, rfl, h1, rfl⟩ := AM.shp_struct Try.underlying80 rfl h
  obtain ⟨f0, rfl, q0⟩ := (AM.wT (AM.shp_key (d := d) Try.underlying37 Try.underlying5 h0))
  obtain ⟨f1, rfl, q1⟩ := (AM.shp_strQ (d := d + 1) Try.underlying9 h1)
  exact ⟨⟨f0, f1⟩, rfl, q0, q1⟩
theorem rdT42 {d : Nat} {l0 : List AM.AV} (h : AM.shp Try.prog (d + 4) 42 l0) : ∃ x : List (AM.It), l0 = [.list .sh 17 (x.map AM.itA)] ∧ (x.length ≤ 9223372036854775807 ∧ ∀ a ∈ x, (True) ∧ (a.val.length ≤ 9223372036854775807)) :=
  AM.shp_sliceQ (d := d + 3) (c := 17) AM.itA (fun a => (True) ∧ (a.val.length ≤ 9223372036854775807)) Try.underlying42 ce80 (fun x hx hag hone => by obtain ⟨a, ha, q⟩ := (rdT80 (d := d) hx); exact ⟨a, by rw [hag ag80, ha]; rfl, q⟩) h
theorem rdT44 {d : Nat} {l0 : List AM.AV} (h : AM.shp Try.prog (d + 5) 44 l0) : ∃ x : AM.Msg, l0 = AM.msc x ∧ ((-9223372036854775808 ≤ x.kind ∧ x.kind ≤ 9223372036854775807) ∧ (-9223372036854775808 ≤ x.frm ∧ x.frm ≤ 9223372036854775807) ∧ (-9223372036854775808 ≤ x.tto ∧ x.tto ≤ 9223372036854775807) ∧ (-9223372036854775808 ≤ x.id ∧ x.id ≤ 9223372036854775807) ∧ (-9223372036854775808 ≤ x.num ∧ x.num ≤ 9223372036854775807) ∧ (True) ∧ (True) ∧ (True) ∧ (x.writes.length ≤ 9223372036854775807 ∧ ∀ a ∈ x.writes, True) ∧ (x.items.length ≤ 9223372036854775807 ∧ ∀ a ∈ x.items, (True) ∧ (a.val.length ≤ 9223372036854775807)) ∧ (x.val.length ≤ 9223372036854775807) ∧ (True) ∧ (True) ∧ (-9223372036854775808 ≤ x.err ∧ x.err ≤ 9223372036854775807)) := by
  obtain ⟨a0, r0, rfl, h0, a1, r1, rfl, h1, a2, r2, rfl, h2, a3, r3, rfl, h3, a4, r4, rfl, h4, a5, r5, rfl, h5, a6, r6, rfl, h6, a7, r7, rfl, h7, a8, r8, rfl, h8, a9, r9, rfl, h9, a10, r10, rfl, h10, a11, r11, rfl, h11, a12, r12, rfl, h12, a13, r13, rfl, h13, rfl⟩ := AM.shp_struct Try.underlying44 rfl h
  obtain ⟨f0, rfl, q0⟩ := (AM.shp_i64 (d := d + 3) Try.underlying3 h0)
  obtain ⟨f1, rfl, q1⟩ := (AM.shp_i64 (d := d + 3) Try.underlying3 h1)
  obtain ⟨f2, rfl, q2⟩ := (AM.shp_i64 (d := d + 3) Try.underlying3 h2)
  obtain ⟨f3, rfl, q3⟩ := (AM.shp_i64 (d := d + 3) Try.underlying2 h3)
  obtain ⟨f4, rfl, q4⟩ := (AM.shp_i64 (d := d + 3) Try.underlying2 h4)
  obtain ⟨f5, rfl, q5⟩ := (AM.wT (AM.shp_stamp (d := d + 2) Try.underlying24 rfl Try.underlying2 Try.underlying5 h5))
  obtain ⟨f6, rfl, q6⟩ := (AM.wT (AM.shp_key (d := d + 2) Try.underlying37 Try.underlying5 h6))
  obtain ⟨f7, rfl, q7⟩ := (AM.wT (AM.shp_key (d := d + 2) Try.underlying37 Try.underlying5 h7))
  obtain ⟨f8, rfl, q8⟩ := (rdT25 (d := d) h8)
  obtain ⟨f9, rfl, q9⟩ := (rdT42 (d := d) h9)
  obtain ⟨f10, rfl, q10⟩ := (AM.shp_strQ (d := d + 3) Try.underlying9 h10)
  obtain ⟨f11, rfl, q11⟩ := (AM.wT (AM.shp_bool (d := d + 3) Try.underlying4 h11))
  obtain ⟨f12, rfl, q12⟩ := (AM.wT (AM.shp_bool (d := d + 3) Try.underlying4 h12))
  obtain ⟨f13, rfl, q13⟩ := (AM.shp_i64 (d := d + 3) Try.underlying29 h13)
  exact ⟨⟨f0, f1, f2, f3, f4, f5, f6, f7, f8, f9, f10, f11, f12, f13⟩, rfl, q0, q1, q2, q3, q4, q5, q6, q7, q8, q9, q10, q11, q12, q13⟩
theorem rdT26 {d : Nat} {l0 : List AM.AV} (h : AM.shp Try.prog (d + 6) 26 l0) : ∃ x : List (AM.Msg), l0 = [.list .sh 45 (x.map AM.mA)] ∧ (x.length ≤ 9223372036854775807 ∧ ∀ a ∈ x, (-9223372036854775808 ≤ a.kind ∧ a.kind ≤ 9223372036854775807) ∧ (-9223372036854775808 ≤ a.frm ∧ a.frm ≤ 9223372036854775807) ∧ (-9223372036854775808 ≤ a.tto ∧ a.tto ≤ 9223372036854775807) ∧ (-9223372036854775808 ≤ a.id ∧ a.id ≤ 9223372036854775807) ∧ (-9223372036854775808 ≤ a.num ∧ a.num ≤ 9223372036854775807) ∧ (True) ∧ (True) ∧ (True) ∧ (a.writes.length ≤ 9223372036854775807 ∧ ∀ b ∈ a.writes, True) ∧ (a.items.length ≤ 9223372036854775807 ∧ ∀ b ∈ a.items, (True) ∧ (b.val.length ≤ 9223372036854775807)) ∧ (a.val.length ≤ 9223372036854775807) ∧ (True) ∧ (True) ∧ (-9223372036854775808 ≤ a.err ∧ a.err ≤ 9223372036854775807)) :=
  AM.shp_sliceQ (d := d + 5) (c := 45) AM.mA (fun a => (-9223372036854775808 ≤ a.kind ∧ a.kind ≤ 9223372036854775807) ∧ (-9223372036854775808 ≤ a.frm ∧ a.frm ≤ 9223372036854775807) ∧ (-9223372036854775808 ≤ a.tto ∧ a.tto ≤ 9223372036854775807) ∧ (-9223372036854775808 ≤ a.id ∧ a.id ≤ 9223372036854775807) ∧ (-9223372036854775808 ≤ a.num ∧ a.num ≤ 9223372036854775807) ∧ (True) ∧ (True) ∧ (True) ∧ (a.writes.length ≤ 9223372036854775807 ∧ ∀ b ∈ a.writes, True) ∧ (a.items.length ≤ 9223372036854775807 ∧ ∀ b ∈ a.items, (True) ∧ (b.val.length ≤ 9223372036854775807)) ∧ (a.val.length ≤ 9223372036854775807) ∧ (True) ∧ (True) ∧ (-9223372036854775808 ≤ a.err ∧ a.err ≤ 9223372036854775807)) Try.underlying26 ce44 (fun x hx hag hone => by obtain ⟨a, ha, q⟩ := (rdT44 (d := d) hx); exact ⟨a, by rw [hag ag44, ha]; rfl, q⟩) h
theorem readable : ∀ t ∈ [22, 24, 25, 26], Try.prog.readableRec t = true ∧ t < Try.prog.types.size := by
  intro t ht
  simp only [List.mem_cons, List.not_mem_nil, or_false] at ht
  rcases ht with rfl | rfl | rfl | rfl
  · exact ⟨rd22.1, of_decide_eq_true rd22.2⟩
  · exact ⟨rd24.1, of_decide_eq_true rd24.2⟩
  · exact ⟨rd25.1, of_decide_eq_true rd25.2⟩
  · exact ⟨rd26.1, of_decide_eq_true rd26.2⟩

set_option maxRecDepth 100000 in
theorem lifted (os : Os) (started : os.Started) (H : Type) (enc : TypeId × Value → H) :
    ReturnsInHanded {} Try.checked os 4 .any (Rows.frontAgainSpec.pre6 enc Try.prog Try.f4 Rows.frontAgainRow.domain false) (Rows.frontAgainSpec.post enc Try.prog Try.f4 false true false false) := by
  refine returnsInHanded_of_change_sized (C := Try.checked) own started (by kernel_rfl) Try.func4
    (ChangeSpec.witness6 (enc := enc) (C := Try.checked) false ⟨#[], #[.slice none 0 0, .agg #[.int .i64 0, .int .u8 0], .slice none 0 0, .slice none 0 0], []⟩ 8 (by kernel_rfl) (by kernel_rfl) (by kernel_rfl) (by kernel_rfl)) ?_
  intro W base args ds gs before hval0 hW hcnd hsz0 _
  have hW' := hW
  obtain ⟨p, q, hA0, hV, rfl, hfz, hnd⟩ := hW
  have hA : DataW.TrodAll enc Try.prog W 0 (fun _ => true) true Try.f4.params.toList args.toList ds p := hA0
  have hval : ∀ (j : Nat) t v, Try.f4.params[j]? = some t → args[j]? = some v → Value.okWide Try.prog W .any 0 t v := hval0
  rw [Try.params4] at hA hval
  have hA1 := hA
  obtain ⟨v0, vs0, d0, ds0, p0, q0, e0, rfl, rfl, h0, hA⟩ := trodAll_cons hA
  obtain ⟨v1, vs1, d1, ds1, p1, q1, rfl, rfl, rfl, h1, hA⟩ := trodAll_cons hA
  obtain ⟨v2, vs2, d2, ds2, p2, q2, rfl, rfl, rfl, h2, hA⟩ := trodAll_cons hA
  obtain ⟨v3, vs3, d3, ds3, p3, q3, rfl, rfl, rfl, h3, hA⟩ := trodAll_cons hA
  obtain ⟨rfl, rfl, rfl⟩ := trodAll_nil hA
  obtain rfl : args = #[v0, v1, v2, v3] := by apply Array.ext'; simpa using e0
  obtain ⟨rfl, rfl⟩ := trodVars_none hV
  obtain ⟨c0, s0, hv0⟩ := AM.trod_arg (d := 9) pl22 (hval 0 22 v0 rfl rfl) h0
  rw [ag22] at hv0
  obtain ⟨x0, rfl, b0⟩ := (rdT22 (d := 6) s0)
  obtain ⟨c1, s1, hv1⟩ := AM.trod_arg (d := 9) pl24 (hval 1 24 v1 rfl rfl) h1
  rw [ag24] at hv1
  obtain ⟨x1, rfl, b1⟩ := (AM.wT (AM.shp_stamp (d := 7) Try.underlying24 rfl Try.underlying2 Try.underlying5 s1))
  obtain ⟨c2, s2, hv2⟩ := AM.trod_arg (d := 9) pl25 (hval 2 25 v2 rfl rfl) h2
  rw [ag25] at hv2
  obtain ⟨x2, rfl, b2⟩ := (rdT25 (d := 5) s2)
  obtain ⟨c3, s3, hv3⟩ := AM.trod_arg (d := 9) pl26 (hval 3 26 v3 rfl rfl) h3
  rw [ag26] at hv3
  obtain ⟨x3, rfl, b3⟩ := (rdT26 (d := 3) s3)
  have walk : Calls Try.prog 4 #[v0, v1, v2, v3] W fun e w' => e = .returned (.bool true) ∧ Below W.heap.size W w' := by
    refine AM.callsW_alone (x := .bool true) (args := [.list .sh 16 (x0.map AM.kA), .agg (AM.stc x1), .list .sh 18 (x2.map AM.wA), .list .sh 45 (x3.map AM.mA)]) Try.func4 (AM.names_ok _ _ Try.func4) (by kernel_rfl) (AM.E_sound (AM.qz3k x0 x1 x2 x3 [] [] _ b0.1 b2.1 b3.1 (fun m hm => have h := (b3.2 m hm).2.2.2.2.2.2.2.2; ⟨h.1.1, h.2.1.1, h.2.2.1, fun x hx => (h.2.1.2 x hx).2⟩) fun _ => rfl)) W rfl ?_
    intro i a hi
    match i, hi with
    | 0, hi => simp only [List.getElem?_cons_zero, List.getElem?_cons_succ, Option.some.injEq] at hi; subst hi; exact ⟨v0, rfl, hv0⟩
    | 1, hi => simp only [List.getElem?_cons_zero, List.getElem?_cons_succ, Option.some.injEq] at hi; subst hi; exact ⟨v1, rfl, hv1⟩
    | 2, hi => simp only [List.getElem?_cons_zero, List.getElem?_cons_succ, Option.some.injEq] at hi; subst hi; exact ⟨v2, rfl, hv2⟩
    | 3, hi => simp only [List.getElem?_cons_zero, List.getElem?_cons_succ, Option.some.injEq] at hi; subst hi; exact ⟨v3, rfl, hv3⟩
    | i + 4, hi => simp at hi
  refine walk.mono fun e W' ⟨he, bel⟩ => ?_
  subst he
  exact ⟨_, rfl, _, _, _, [], _, [], hW', trodAll_mk1 (shut_bool Try.underlying4 _), AM.trodAll_stays laid bel readable hA1, rfl, bel.frame _, fun h => by cases h⟩
theorem over : Rows.frontAgainRow.holds Try.pinned (OpenSpec.ofChange Rows.frontAgainSpec) :=
  OpenClaim.holds_of_wide 4 Try.f4 rfl rfl rfl rfl rfl rfl rfl ⟨rfl, rfl, rfl, rfl, rfl⟩ rfl rfl rfl rfl rfl (by kernel_rfl) Try.func4 (by kernel_rfl)
    (of_decide_eq_true (by kernel_rfl)) (by unfold Func.isWrapper; first | (rw [if_pos (by decide +kernel)]; kernel_rfl) | (rw [if_neg (by decide +kernel)]; exact ⟨rfl, rfl⟩))
    (fun os started H enc _ => lifted os started H enc)
theorem proved : Rows.FrontAgainSaid := over
#print axioms proved
end Go.Proofs.Ytpbpnojhflfkfaa.frontAgain
namespace Go.Proofs.Ytpbpnojhflfkfaa
/-- The row, under a short name, for the claim. -/
theorem frontAgain_holds : Rows.FrontAgainSaid := frontAgain.proved
end Go.Proofs.Ytpbpnojhflfkfaa
