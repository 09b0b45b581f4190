/- HistSays returns true, and nothing that was there before the call is changed: for every world in which it is called. No conditions. -/
import Derived.Test.YthbiajoionockaaM13
import Derived.Test.YthbiajoionockaaM12
import Derived.Test.YthbiajoionockaaRows
import Derived.WalkKit
import Derived.ProofKit
import Derived.OpenShut
import Derived.ShutString
import Derived.ChangeOld
import Derived.Below
import Derived.SizedLaws

namespace Go.Proofs.Ythbiajoionockaa.histSays
open Go.ChangeShapes Go.WideShapes Go.ChangeAt Go.RowKit
set_option linter.unusedVariables false

theorem own : ownKnob Try.prog.godebug = none := by kernel_rfl
theorem laid : laidOutB Try.prog = true := by kernel_rfl
theorem rd35 : Try.prog.readableRec 35 = true ∧ decide (35 < Try.prog.types.size) = true := ⟨by kernel_rfl, by kernel_rfl⟩
theorem pl35 : AM.plainT Try.prog 6 35 = true := by kernel_rfl
theorem rd46 : Try.prog.readableRec 46 = true ∧ decide (46 < Try.prog.types.size) = true := ⟨by kernel_rfl, by kernel_rfl⟩
theorem pl46 : AM.plainT Try.prog 6 46 = true := by kernel_rfl
theorem rd57 : Try.prog.readableRec 57 = true ∧ decide (57 < Try.prog.types.size) = true := ⟨by kernel_rfl, by kernel_rfl⟩
theorem pl57 : AM.plainT Try.prog 6 57 = true := by kernel_rfl
theorem ag35 : AM.isAgg Try.prog 35 = true := by kernel_rfl
theorem ag37 : AM.isAgg Try.prog 37 = true := by kernel_rfl
theorem ag46 : AM.isAgg Try.prog 46 = true := by kernel_rfl
theorem ag49 : AM.isAgg Try.prog 49 = true := by kernel_rfl
theorem ag54 : AM.isAgg Try.prog 54 = true := by kernel_rfl
theorem ag57 : AM.isAgg Try.prog 57 = false := by kernel_rfl
theorem ce37 : Try.prog.cellsOf 37 = 18 := by kernel_rfl
theorem ce49 : Try.prog.cellsOf 49 = 8 := by kernel_rfl
theorem ce54 : Try.prog.cellsOf 54 = 18 := by kernel_rfl
theorem readable : ∀ t ∈ [57, 35, 46], Try.prog.readableRec t = true ∧ t < Try.prog.types.size := by
  intro t ht
  simp only [List.mem_cons, List.not_mem_nil, or_false] at ht
  rcases ht with rfl | rfl | rfl
  · exact ⟨rd57.1, of_decide_eq_true rd57.2⟩
  · exact ⟨rd35.1, of_decide_eq_true rd35.2⟩
  · exact ⟨rd46.1, of_decide_eq_true rd46.2⟩

set_option maxRecDepth 100000 in
theorem lifted (os : Os) (started : os.Started) (H : Type) (enc : TypeId × Value → H) :
    ReturnsInHanded {} Try.checked os 6 .any (Rows.histSaysSpec.pre6 enc Try.prog Try.f6 Rows.histSaysRow.domain false) (Rows.histSaysSpec.post enc Try.prog Try.f6 false true false false) := by
  refine returnsInHanded_of_change_sized (C := Try.checked) own started (by kernel_rfl) Try.func6
    (ChangeSpec.witness6 (enc := enc) (C := Try.checked) false ⟨#[], #[.slice none 0 0, .agg (Array.replicate 16 (.int .u8 0)), .agg #[.int .i64 0, .int .u8 0]], []⟩ 8 (by kernel_rfl) (by kernel_rfl) (by kernel_rfl) (by kernel_rfl)) ?_
  intro W base args ds gs before hval0 hW hcnd hsz0 _
  have hW' := hW
  obtain ⟨p, q, hA0, hV, rfl, hfz, hnd⟩ := hW
  have hA : DataW.TrodAll enc Try.prog W 0 (fun _ => true) true Try.f6.params.toList args.toList ds p := hA0
  have hval : ∀ (j : Nat) t v, Try.f6.params[j]? = some t → args[j]? = some v → Value.okWide Try.prog W .any 0 t v := hval0
  rw [Try.params6] at hA hval
  have hA1 := hA
  obtain ⟨v0, vs0, d0, ds0, p0, q0, e0, rfl, rfl, h0, hA⟩ := trodAll_cons hA
  obtain ⟨v1, vs1, d1, ds1, p1, q1, rfl, rfl, rfl, h1, hA⟩ := trodAll_cons hA
  obtain ⟨v2, vs2, d2, ds2, p2, q2, rfl, rfl, rfl, h2, hA⟩ := trodAll_cons hA
  obtain ⟨rfl, rfl, rfl⟩ := trodAll_nil hA
  obtain rfl : args = #[v0, v1, v2] := by apply Array.ext'; simpa using e0
  obtain ⟨rfl, rfl⟩ := trodVars_none hV
  obtain ⟨c0, s0, hv0⟩ := AM.trod_arg (d := 6) pl57 (hval 0 57 v0 rfl rfl) h0
  rw [ag57] at hv0
  obtain ⟨x0, rfl, b0⟩ := AM.shp_slice AM.txA Try.underlying57 (fun x hx hag => by obtain ⟨k, hk, _⟩ := AM.shp_tx Try.underlying49 rfl Try.underlying2 Try.underlying46 rfl Try.underlying5 Try.underlying4 Try.underlying47 ce54 ag54 Try.underlying54 rfl Try.underlying23 ce37 ag37 Try.underlying37 rfl Try.underlying35 Try.underlying5 Try.underlying9 hx; exact ⟨k, by rw [hag ag49, hk]; rfl⟩) s0
  rw [ce49] at hv0
  obtain ⟨c1, s1, hv1⟩ := AM.trod_arg (d := 6) pl35 (hval 1 35 v1 rfl rfl) h1
  rw [ag35] at hv1
  obtain ⟨x1, rfl⟩ := AM.shp_key Try.underlying35 Try.underlying5 s1
  obtain ⟨c2, s2, hv2⟩ := AM.trod_arg (d := 6) pl46 (hval 2 46 v2 rfl rfl) h2
  rw [ag46] at hv2
  obtain ⟨x2, rfl⟩ := AM.shp_stamp Try.underlying46 rfl Try.underlying2 Try.underlying5 s2
  have walk : Calls Try.prog 6 #[v0, v1, v2] W fun e w' => e = .returned (.bool true) ∧ Below W.heap.size W w' := by
    refine AM.callsW_alone (x := .bool true) (args := [.list .sh 8 (x0.map AM.txA), .agg (AM.bs x1.b), .agg (AM.stc x2)]) Try.func6 (AM.names_ok _ _ Try.func6) (by kernel_rfl) (AM.E_sound (AM.says6 x0 x1 x2 [] [] _ b0 fun _ => rfl)) W rfl ?_
    intro i a hi
    match i, hi with
    | 0, hi => simp only [List.getElem?_cons_zero, List.getElem?_cons_succ, Option.some.injEq] at hi; subst hi; exact ⟨v0, rfl, hv0⟩
    | 1, hi => simp only [List.getElem?_cons_zero, List.getElem?_cons_succ, Option.some.injEq] at hi; subst hi; exact ⟨v1, rfl, hv1⟩
    | 2, hi => simp only [List.getElem?_cons_zero, List.getElem?_cons_succ, Option.some.injEq] at hi; subst hi; exact ⟨v2, rfl, hv2⟩
    | i + 3, hi => simp at hi
  refine walk.mono fun e W' ⟨he, bel⟩ => ?_
  subst he
  exact ⟨_, rfl, _, _, _, [], _, [], hW', trodAll_mk1 (shut_bool Try.underlying4 _), AM.trodAll_stays laid bel readable hA1, rfl, bel.frame _, fun h => by cases h⟩
theorem over : Rows.histSaysRow.holds Try.pinned (OpenSpec.ofChange Rows.histSaysSpec) :=
  OpenClaim.holds_of_wide 6 Try.f6 rfl rfl rfl rfl rfl rfl rfl ⟨rfl, rfl, rfl, rfl, rfl⟩ rfl rfl rfl rfl rfl (by kernel_rfl) Try.func6 (by kernel_rfl)
    (of_decide_eq_true (by kernel_rfl)) (by unfold Func.isWrapper; first | (rw [if_pos (by decide +kernel)]; kernel_rfl) | (rw [if_neg (by decide +kernel)]; exact ⟨rfl, rfl⟩))
    (fun os started H enc _ => lifted os started H enc)
theorem proved : Rows.HistSaysSaid := over
#print axioms proved
end Go.Proofs.Ythbiajoionockaa.histSays
namespace Go.Proofs.Ythbiajoionockaa
/-- The row, under a short name, for the claim. -/
theorem histSays_holds : Rows.HistSaysSaid := histSays.proved
end Go.Proofs.Ythbiajoionockaa
