import Derived.Test.YthbiajoionockaaT0
import Derived.Test.YthbiajoionockaaCfg
import Derived.Test.YthbiajoionockaaP0
namespace Go.AM
open Go Go.Proofs
set_option maxRecDepth 20000
theorem low_key_text : lowFn Try.prog cfgA cfgA.tree 60 = some (C_key_text) := by kernel_rfl
theorem low_key_Of : lowFn Try.prog cfgA cfgA.tree 59 = some (C_key_Of 71) := by kernel_rfl
theorem low_key_Good : lowFn Try.prog cfgA cfgA.tree 41 = some (C_key_Good 60 59) := by kernel_rfl
theorem low_key_Cmp : lowFn Try.prog cfgA cfgA.tree 42 = some (C_key_Cmp 61) := by kernel_rfl
theorem low_bytes_Compare : lowFn Try.prog cfgA cfgA.tree 61 = some (C_bytes_Compare 72) := by kernel_rfl
theorem low_strings_IndexByte : lowFn Try.prog cfgA cfgA.tree 71 = some (C_strings_IndexByte 88) := by kernel_rfl
theorem low_internal_stringslite_IndexByte : lowFn Try.prog cfgA cfgA.tree 88 = some (C_internal_stringslite_IndexByte 95) := by kernel_rfl
theorem low_hourglassref10_Of : lowFn Try.prog cfgA cfgA.tree 44 = some (C_hourglassref10_Of) := by kernel_rfl
theorem low_hourglassref10_Good : lowFn Try.prog cfgA cfgA.tree 16 = some (C_hourglassref10_Good) := by kernel_rfl
theorem low_hourglassref10_Cmp : lowFn Try.prog cfgA cfgA.tree 18 = some (C_hourglassref10_Cmp) := by kernel_rfl
theorem low_hourglassref10_Within : lowFn Try.prog cfgA cfgA.tree 20 = some (C_hourglassref10_Within 18) := by kernel_rfl
theorem low_slices_Clone_Key : lowFn Try.prog cfgA cfgA.tree 43 = some (C_slices_Clone_Key) := by kernel_rfl
theorem low_route_New : lowFn Try.prog cfgA cfgA.tree 13 = some (C_route_New 41 42 43) := by kernel_rfl
theorem low_route_Table_Nodes : lowFn Try.prog cfgA cfgA.tree 17 = some (C_route_Table_Nodes) := by kernel_rfl
theorem low_route_Table_Of : lowFn Try.prog cfgA cfgA.tree 15 = some (C_route_Table_Of 41 42) := by kernel_rfl
theorem low_route_Table_Cover : lowFn Try.prog cfgA cfgA.tree 19 = some (C_route_Table_Cover 42 17) := by kernel_rfl
theorem low_hourglasslaw17_k : lowFn Try.prog cfgA cfgA.tree 32 = some (C_hourglasslaw17_k 44) := by kernel_rfl
theorem low_hourglasslaw17_awake : lowFn Try.prog cfgA cfgA.tree 11 = some (C_hourglasslaw17_awake 32 13 15 17) := by kernel_rfl
theorem low_hourglasslaw17_RouteWhole : lowFn Try.prog cfgA cfgA.tree 4 = some (C_hourglasslaw17_RouteWhole 11 13 16 15 17 18 19 20) := by kernel_rfl
end Go.AM
/-! The functions of this program: what each answers. -/
namespace Go.AM
open Go Go.Proofs
set_option linter.unusedVariables false

theorem EC : LeC E E := EvW.le
theorem EW : WkC E := fun _ _ _ _ _ h h2 => EvW.args h h2

theorem idx95 : IdxS E 95 := fun l S H K hK => primW (p := primIndexByte) rfl (v := .i (Lib.indexByte l 0)) (σ' := ⟨S, H⟩) rfl hK
theorem idx88 : IdxS E 88 := fun l S H K hK => runL_ok rfl low_internal_stringslite_IndexByte (stringslite_IndexByte_spec EC _ idx95 l S H K hK)
theorem idx71 : IdxS E 71 := fun l S H K hK => runL_ok rfl low_strings_IndexByte (strings_IndexByte_spec EC _ idx88 l S H K hK)
theorem asBytes_row {S : List (List AV)} {H : List HObj} {r : Nat} {a : List UInt8} (h : S[r]? = some (bs a)) (ha : a.length = 16) : asBytes ⟨S, H⟩ (.row (.stk r) 0 16 16) = some a := by
  have e : (bs a).take 16 = bs a := List.take_of_length_le (by rw [bs_length, ha]; exact Nat.le_refl _)
  have e2 : 16 ≤ (bs a).length := by rw [bs_length, ha]; exact Nat.le_refl _
  simp only [asBytes, readCells, boxOf_stk, h, Option.bind_some, Nat.zero_add, e2, if_true, List.drop_zero, e, map_look_bs, bytesIn_bs]
theorem cmpB72 : CmpB E 72 := fun a b S H r1 r2 K h1 h2 ha hb hK => primW (p := primCompare) rfl (v := .i (Lib.compareBytes a b)) (σ' := ⟨S, H⟩) (by simp only [primCompare, asBytes_row h1 ha, asBytes_row h2 hb]) hK
theorem cmpB61 : CmpB E 61 := fun a b S H r1 r2 K h1 h2 ha hb hK => runL_ok rfl low_bytes_Compare (bytes_Compare_spec EC _ cmpB72 a b S H r1 r2 K h1 h2 ha hb hK)
theorem cmp42 : KCmp E 42 := fun a b S H K hK => runL_ok rfl low_key_Cmp (key_Cmp_spec EC _ cmpB61 a b S H K hK)
theorem text60 : TextS E 60 := fun k S H K hK => runL_ok rfl low_key_text (key_text_spec EC _ k S H K hK)
theorem of59 : OfK E 59 := fun s S H K hK => runL_ok rfl low_key_Of (key_Of_spec EC _ idx71 s S H K hK)
theorem good41 : BoolK goodK E 41 := fun k S H K hK => runL_ok rfl low_key_Good (key_Good_spec EC _ text60 of59 k S H K hK)
theorem good16 : BoolK goodR E 16 := fun k S H K hK => runL_ok rfl low_hourglassref10_Good (ref10_Good_spec EC _ k S H K hK)
theorem cmp18 : KCmp E 18 := fun a b S H K hK => runL_ok rfl low_hourglassref10_Cmp (ref10_Cmp_spec EC _ a b S H K hK)
theorem within20 : WithinS E 20 := fun k a b S H K hK => runL_ok rfl low_hourglassref10_Within (ref10_Within_spec EC _ cmp18 k a b S H K hK)
theorem clone43 : CloneS E 43 := fun l S H K hl hK => EvW.res (runL_ok rfl low_slices_Clone_Key (slices_Clone_spec EC _ l S H _ hl fun v hv => ⟨_, .inr (cloneA_wk hv), hK⟩))
theorem new13 : NewS E 13 := fun l S H K hl hK => runL_ok rfl low_route_New (New_spec EC _ good41 cmp42 clone43 l S H K hl hK)
theorem nodes17 : TNodesS E 17 := fun l h S H K hh hl hK => runL_ok rfl low_route_Table_Nodes (Nodes_spec EC _ l h S H K hh hl hK)
theorem of15 : TOfS E 15 := fun l k h S H K hh hl hK => runL_ok rfl low_route_Table_Of (Of_spec EC _ good41 cmp42 l k h S H K hh hl hK)
theorem cover19 : CoverS E 19 := fun l a b h S H K hh hl hK => EvW.res (runL_ok rfl low_route_Table_Cover (Cover_spec EC _ cmp42 nodes17 l a b h S H _ hh hl ⟨_, .inr (slI_wk _), hK⟩))
theorem rof44 : OfR E 44 := fun s S H K hK => runL_ok rfl low_hourglassref10_Of (ref10_Of_spec EC _ s S H K hK)
theorem k32 : kS E 32 := fun s S H K hK => runL_ok rfl low_hourglasslaw17_k (law_k_spec EC _ rof44 s S H K hK)
theorem awake11 : AwS E 11 := fun S H K hK => runL_ok rfl low_hourglasslaw17_awake (awake_spec EC EW _ k32 new13 of15 nodes17 S H K hK)
theorem whole4 (pts : List Key) (a b fr to : Key) (S : List (List AV)) (H : List HObj) (K : AV → St → Prop) (hl : pts.length ≤ 9223372036854775807) (hK : ∀ H', K (.bool true) ⟨S, H'⟩) : E (.fn 4) [lstK pts, .agg (bs a.b), .agg (bs b.b), .agg (bs fr.b), .agg (bs to.b)] ⟨S, H⟩ K :=
  runL_ok rfl low_hourglasslaw17_RouteWhole (RouteWhole_spec EC _ awake11 new13 good16 of15 nodes17 cmp18 cover19 within20 pts a b fr to S H K hl (fun h => wholeP pts a b fr to h) hK)
end Go.AM
