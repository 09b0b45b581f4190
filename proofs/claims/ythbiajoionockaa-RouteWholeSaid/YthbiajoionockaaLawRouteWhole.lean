/- RouteWhole returns true, and nothing that was there before the call is changed: for every world in which it is called. No conditions. -/
import Derived.Test.YthbiajoionockaaT1
import Derived.Test.YthbiajoionockaaP0
import Derived.Test.YthbiajoionockaaRows
import Derived.WalkKit
import Derived.ProofKit
import Derived.OpenShut
import Derived.ShutString
import Derived.ChangeOld
import Derived.Below
import Derived.SizedLaws

namespace Go.Proofs.Ythbiajoionockaa.routeWhole
open Go.ChangeShapes Go.WideShapes Go.ChangeAt Go.RowKit
set_option linter.unusedVariables false

theorem own : ownKnob Try.prog.godebug = none := by kernel_rfl
def zkey : Value := .agg (Array.replicate 16 (.int .u8 0))
theorem laid : laidOutB Try.prog = true := by kernel_rfl
theorem readable : ∀ t ∈ [22, 35, 35, 35, 35], Try.prog.readableRec t = true ∧ t < Try.prog.types.size := by
  intro t ht
  have h22 : Try.prog.readableRec 22 = true ∧ decide (22 < Try.prog.types.size) = true := ⟨by kernel_rfl, by kernel_rfl⟩
  have h35 : Try.prog.readableRec 35 = true ∧ decide (35 < Try.prog.types.size) = true := ⟨by kernel_rfl, by kernel_rfl⟩
  simp only [List.mem_cons, List.not_mem_nil, or_false] at ht
  rcases ht with rfl | rfl | rfl | rfl | rfl
  · exact ⟨h22.1, of_decide_eq_true h22.2⟩
  all_goals exact ⟨h35.1, of_decide_eq_true h35.2⟩
theorem c35 : Try.prog.cellsOf 35 = 16 := by kernel_rfl
theorem c5 : Try.prog.cellsOf 5 = 1 := by kernel_rfl

set_option maxRecDepth 100000 in
theorem lifted (os : Os) (started : os.Started) (H : Type) (enc : TypeId × Value → H) :
    ReturnsInHanded {} Try.checked os 4 .any (Rows.routeWholeSpec.pre6 enc Try.prog Try.f4 Rows.routeWholeRow.domain false) (Rows.routeWholeSpec.post enc Try.prog Try.f4 false true false false) := by
  refine returnsInHanded_of_change_sized (C := Try.checked) own started (by kernel_rfl) Try.func4
    (ChangeSpec.witness6 (enc := enc) (C := Try.checked) false ⟨#[], #[.slice none 0 0, zkey, zkey, zkey, zkey], []⟩ 8 (by kernel_rfl) (by kernel_rfl) (by kernel_rfl) (by kernel_rfl)) ?_
  intro W base args ds gs before hval0 hW hcnd hsz0 _
  have hW' := hW
  obtain ⟨p, q, hA0, hV, rfl, hfz, hnd⟩ := hW
  have hA : DataW.TrodAll enc Try.prog W 0 (fun _ => true) true Try.f4.params.toList args.toList ds p := hA0
  have hval : ∀ (j : Nat) t v, Try.f4.params[j]? = some t → args[j]? = some v → Value.okWide Try.prog W .any 0 t v := hval0
  rw [Try.params4] at hA hval
  have hA1 := hA
  obtain ⟨v0, vs0, d0, ds0, p0, q0, e0, rfl, rfl, h0, hA⟩ := trodAll_cons hA
  obtain ⟨v1, vs1, d1, ds1, p1, q1, rfl, rfl, rfl, h1, hA⟩ := trodAll_cons hA
  obtain ⟨v2, vs2, d2, ds2, p2, q2, rfl, rfl, rfl, h2, hA⟩ := trodAll_cons hA
  obtain ⟨v3, vs3, d3, ds3, p3, q3, rfl, rfl, rfl, h3, hA⟩ := trodAll_cons hA
  obtain ⟨v4, vs4, d4, ds4, p4, q4, rfl, rfl, rfl, h4, hA⟩ := trodAll_cons hA
  obtain ⟨rfl, rfl, rfl⟩ := trodAll_nil hA
  obtain rfl : args = #[v0, v1, v2, v3, v4] := by apply Array.ext'; simpa using e0
  obtain ⟨rfl, rfl⟩ := trodVars_none hV
  obtain ⟨n0, hn0⟩ := h0
  obtain ⟨l, hl, hll⟩ := AM.trod_keys Try.underlying22 Try.underlying35 Try.underlying5 c5 c35 (hval 0 22 v0 rfl rfl) hn0
  obtain ⟨k1, hk1⟩ := AM.trod_key1 Try.underlying35 Try.underlying5 c5 c35 (hval 1 35 v1 rfl rfl) h1
  obtain ⟨k2, hk2⟩ := AM.trod_key1 Try.underlying35 Try.underlying5 c5 c35 (hval 2 35 v2 rfl rfl) h2
  obtain ⟨k3, hk3⟩ := AM.trod_key1 Try.underlying35 Try.underlying5 c5 c35 (hval 3 35 v3 rfl rfl) h3
  obtain ⟨k4, hk4⟩ := AM.trod_key1 Try.underlying35 Try.underlying5 c5 c35 (hval 4 35 v4 rfl rfl) h4
  have walk : Calls Try.prog 4 #[v0, v1, v2, v3, v4] W fun e w' => e = .returned (.bool true) ∧ Below W.heap.size W w' := by
    refine AM.callsW_alone (x := .bool true) (args := [AM.lstK l, .agg (AM.bs k1.b), .agg (AM.bs k2.b), .agg (AM.bs k3.b), .agg (AM.bs k4.b)]) Try.func4 (AM.names_ok _ _ Try.func4) (by kernel_rfl) (AM.E_sound (AM.whole4 l k1 k2 k3 k4 [] [] _ hll fun _ => rfl)) W rfl ?_
    intro i a hi
    match i, hi with
    | 0, hi => simp at hi; subst hi; exact ⟨v0, rfl, hl⟩
    | 1, hi => simp at hi; subst hi; exact ⟨v1, rfl, hk1⟩
    | 2, hi => simp at hi; subst hi; exact ⟨v2, rfl, hk2⟩
    | 3, hi => simp at hi; subst hi; exact ⟨v3, rfl, hk3⟩
    | 4, hi => simp at hi; subst hi; exact ⟨v4, rfl, hk4⟩
    | i + 5, hi => simp at hi
  refine walk.mono fun e W' ⟨he, bel⟩ => ?_
  subst he
  exact ⟨_, rfl, _, _, _, [], _, [], hW', trodAll_mk1 (shut_bool Try.underlying4 _), AM.trodAll_stays laid bel readable hA1, rfl, bel.frame _, fun h => by cases h⟩
theorem over : Rows.routeWholeRow.holds Try.pinned (OpenSpec.ofChange Rows.routeWholeSpec) :=
  OpenClaim.holds_of_wide 4 Try.f4 rfl rfl rfl rfl rfl rfl rfl ⟨rfl, rfl, rfl, rfl, rfl⟩ rfl rfl rfl rfl rfl (by kernel_rfl) Try.func4 (by kernel_rfl)
    (of_decide_eq_true (by kernel_rfl)) (by unfold Func.isWrapper; first | (rw [if_pos (by decide +kernel)]; kernel_rfl) | (rw [if_neg (by decide +kernel)]; exact ⟨rfl, rfl⟩))
    (fun os started H enc _ => lifted os started H enc)
theorem proved : Rows.RouteWholeSaid := over
#print axioms proved
end Go.Proofs.Ythbiajoionockaa.routeWhole
namespace Go.Proofs.Ythbiajoionockaa
/-- The row, under a short name, for the claim. -/
theorem routeWhole_holds : Rows.RouteWholeSaid := routeWhole.proved
end Go.Proofs.Ythbiajoionockaa
