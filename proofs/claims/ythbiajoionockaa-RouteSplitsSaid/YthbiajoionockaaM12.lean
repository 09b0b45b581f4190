import Derived.Test.YthbiajoionockaaM11
import Derived.Test.YthbiajoionockaaM10
import Derived.Test.YthbiajoionockaaM7
import Derived.OpenShut
import Derived.Carry
import Derived.ChangeOld
namespace Go.AM
open Go
set_option maxRecDepth 20000
set_option linter.unusedSimpArgs false
set_option linter.unusedVariables false

def LongS (C : CallW) (f : FuncId) : Prop := ∀ (l : List Wr) S H (K : AV → St → Prop), l.length ≤ 9223372036854775807 → K (.bool (longW l)) ⟨S, H⟩ → C (.fn f) [lstW l] ⟨S, H⟩ K
def cntC (pts : List Key) (l : List Wr) : List AV := (List.range (pts.length + 1)).map fun j => AV.i ((partW pts l j).length : Nat)
theorem cntC_len {pts : List Key} {l : List Wr} : (cntC pts l).length = pts.length + 1 := by simp [cntC]
theorem cntC_nil {pts : List Key} : cntC pts [] = List.replicate (pts.length + 1) (.s (.int .i64 0)) := by
  apply List.ext_getElem
  · simp [cntC]
  · intro i h1 h2
    simp [cntC, partW]
theorem cntC_get {pts : List Key} {l : List Wr} {j : Nat} (h : j < pts.length + 1) : (cntC pts l)[j]? = some (.i ((partW pts l j).length : Nat)) := by simp [cntC, h]
theorem cntC_skip {pts : List Key} {l : List Wr} {w : Wr} (h : ofK pts w.key < 0) : cntC pts (l ++ [w]) = cntC pts l := by
  apply List.ext_getElem
  · simp [cntC]
  · intro i h1 h2
    simp only [cntC, List.getElem_map, List.getElem_range, part_snoc]
    rw [if_neg (by omega), List.append_nil]
theorem cntC_snoc {pts : List Key} {l : List Wr} {w : Wr} {n : Nat} (h : ofK pts w.key = (n : Int)) (hn : n < pts.length + 1) : (cntC pts l).set n (.i (((partW pts l n).length + 1 : Nat) : Int)) = cntC pts (l ++ [w]) := by
  apply List.ext_getElem
  · simp [cntC]
  · intro i h1 h2
    simp only [cntC, List.length_set, List.length_map, List.length_range] at h1
    rw [List.getElem_set]
    simp only [cntC, List.getElem_map, List.getElem_range, part_snoc]
    split
    · rename_i e; subst e; rw [if_pos h]; simp
    · rename_i e
      rw [if_neg (by rw [h]; omega), List.append_nil]
theorem zi_flat : ∀ (n : Nat), (List.replicate n [AV.s (.int .i64 0)]).flatten = List.replicate n (.s (.int .i64 0))
  | 0 => rfl
  | n + 1 => by rw [List.replicate_succ, List.flatten_cons, zi_flat n]; rfl
theorem zi_low (m : Nat) : ∀ (n : Nat), AV.under.go m (List.replicate n (.s (.int .i64 0))) = true
  | 0 => rfl
  | n + 1 => by rw [List.replicate_succ, AV.under.go, zi_low m n]; rfl
theorem part_at {pts : List Key} {l : List Wr} {i n : Nat} (h : i < l.length) (hn : ofK pts (l[i]).key = (n : Int)) : (partW pts l n)[(partW pts (l.take i) n).length]? = some l[i] := by
  have e : l = l.take i ++ l[i] :: l.drop (i + 1) := by rw [← List.drop_eq_getElem_cons h, List.take_append_drop]
  have : partW pts l n = partW pts (l.take i) n ++ l[i] :: partW pts (l.drop (i + 1)) n := by
    conv => lhs; rw [e]
    unfold partW
    rw [List.filter_append, List.filter_cons, if_pos (by simpa using hn)]
  rw [this]; simp

set_option maxHeartbeats 8000000 in
theorem RouteSplits_spec {C : CallW} (hC : LeC C C) (P : Program) {c : Nat → FuncId} (h0 : AwS C (c 0)) (h1 : LongS C (c 1)) (h2 : NewS C (c 2)) (h3 : SplitS C (c 3)) (h4 : TOfS C (c 4)) (h5 : BoolK goodR C (c 5)) :
    ∀ (pts : List Key) (l : List Wr) S H (K : AV → St → Prop), pts.length ≤ 9223372036854775807 → l.length ≤ 9223372036854775807 → (∀ H', K (.bool true) ⟨S, H'⟩) → runL C P (C_hourglasslaw17_RouteSplits c) [lstK pts, lstW l] ⟨S, H⟩ K := by
  intro pts l S H K hl hl2 hK
  simp only [lstK, lstW, C_hourglasslaw17_RouteSplits, RUN_, U_hourglasslaw17_RouteSplits, FR_, Nat.reducePow, Int.reducePow, Nat.reduceAdd, Nat.reduceSub, Nat.reduceMul, Int.reduceToNat, Nat.reduceLeDiff, Nat.reduceEqDiff, Nat.reduceLT, Nat.reduceGT, Int.reduceGT, Int.reduceGE, Int.reduceLT, Int.reduceLE, Int.reduceEq, Int.reduceAdd, Int.reduceSub, Int.reduceNeg, reduceCtorEq, if_true, if_false, ite_true, ite_false, ne_eq, eq_self, OPK_, KEY_]
  refine h0 _ _ _ fun o => ?_
  by_cases h7 : 7 < pts.length
  · have h7' : (7 : Int) < (pts.length : Int) := by omega
    simp only [RUN_, U_hourglasslaw17_RouteSplits, FR_, Nat.reducePow, Int.reducePow, Nat.reduceAdd, Nat.reduceSub, Nat.reduceMul, Int.reduceToNat, Nat.reduceLeDiff, Nat.reduceEqDiff, Nat.reduceLT, Nat.reduceGT, Int.reduceGT, Int.reduceGE, Int.reduceLT, Int.reduceLE, Int.reduceEq, Int.reduceAdd, Int.reduceSub, Int.reduceNeg, reduceCtorEq, if_true, if_false, ite_true, ite_false, ne_eq, eq_self, OPK_, KEY_, h7']
    exact hK _
  have h7' : ¬ ((7 : Int) < (pts.length : Int)) := by omega
  simp only [RUN_, U_hourglasslaw17_RouteSplits, FR_, Nat.reducePow, Int.reducePow, Nat.reduceAdd, Nat.reduceSub, Nat.reduceMul, Int.reduceToNat, Nat.reduceLeDiff, Nat.reduceEqDiff, Nat.reduceLT, Nat.reduceGT, Int.reduceGT, Int.reduceGE, Int.reduceLT, Int.reduceLE, Int.reduceEq, Int.reduceAdd, Int.reduceSub, Int.reduceNeg, reduceCtorEq, if_true, if_false, ite_true, ite_false, ne_eq, eq_self, OPK_, KEY_, h7']
  refine h1 l _ _ _ hl2 ?_
  cases hlong : longW l with
  | true =>
    simp only [RUN_, U_hourglasslaw17_RouteSplits, FR_, Nat.reducePow, Int.reducePow, Nat.reduceAdd, Nat.reduceSub, Nat.reduceMul, Int.reduceToNat, Nat.reduceLeDiff, Nat.reduceEqDiff, Nat.reduceLT, Nat.reduceGT, Int.reduceGT, Int.reduceGE, Int.reduceLT, Int.reduceLE, Int.reduceEq, Int.reduceAdd, Int.reduceSub, Int.reduceNeg, reduceCtorEq, if_true, if_false, ite_true, ite_false, ne_eq, eq_self, OPK_, KEY_]
    exact hK _
  | false =>
  simp only [RUN_, U_hourglasslaw17_RouteSplits, FR_, Nat.reducePow, Int.reducePow, Nat.reduceAdd, Nat.reduceSub, Nat.reduceMul, Int.reduceToNat, Nat.reduceLeDiff, Nat.reduceEqDiff, Nat.reduceLT, Nat.reduceGT, Int.reduceGT, Int.reduceGE, Int.reduceLT, Int.reduceLE, Int.reduceEq, Int.reduceAdd, Int.reduceSub, Int.reduceNeg, reduceCtorEq, if_true, if_false, ite_true, ite_false, ne_eq, eq_self, OPK_, KEY_]
  have h20 : l.length ≤ 20 := by
    unfold longW at hlong
    simp only [Bool.or_eq_false_iff, decide_eq_false_iff_not] at hlong
    omega
  refine h2 pts _ _ _ hl ?_
  unfold newA newH
  by_cases hok : okPts pts = true
  case neg =>
    rw [show (okPts pts && decide (pts.length < 8)) = false by simp [hok]]
    simp only [RUN_, U_hourglasslaw17_RouteSplits, FR_, Nat.reducePow, Int.reducePow, Nat.reduceAdd, Nat.reduceSub, Nat.reduceMul, Int.reduceToNat, Nat.reduceLeDiff, Nat.reduceEqDiff, Nat.reduceLT, Nat.reduceGT, Int.reduceGT, Int.reduceGE, Int.reduceLT, Int.reduceLE, Int.reduceEq, Int.reduceAdd, Int.reduceSub, Int.reduceNeg, reduceCtorEq, if_true, if_false, ite_true, ite_false, ne_eq, eq_self, OPK_, KEY_]
    exact hK _
  rw [show (okPts pts && decide (pts.length < 8)) = true by simp [hok]; omega]
  simp only [RUN_, U_hourglasslaw17_RouteSplits, FR_, Nat.reducePow, Int.reducePow, Nat.reduceAdd, Nat.reduceSub, Nat.reduceMul, Int.reduceToNat, Nat.reduceLeDiff, Nat.reduceEqDiff, Nat.reduceLT, Nat.reduceGT, Int.reduceGT, Int.reduceGE, Int.reduceLT, Int.reduceLE, Int.reduceEq, Int.reduceAdd, Int.reduceSub, Int.reduceNeg, reduceCtorEq, if_true, if_false, ite_true, ite_false, ne_eq, eq_self, OPK_, KEY_]
  have hh : (H ++ [o, tabA pts])[H.length + 1]? = some (tabA pts) := by rw [app_get]; rfl
  refine h3 pts l _ _ _ _ hh (by omega) (by omega) ?_
  have hmk : ∀ H', mkslL false false ⟨1, false, 8, .s (.int .i64 0)⟩ (.s (.int .i64 ((pts.length + 1 : Nat) : Int))) (.s (.int .i64 ((pts.length + 1 : Nat) : Int))) ⟨S, H'⟩ = some (.row (.stk S.length) 0 (pts.length + 1) (pts.length + 1), ⟨S ++ [cntC pts []], H'⟩) := by
    intro H'
    unfold mkslL
    dsimp only
    rw [if_pos (by omega)]
    simp only [Int.toNat_natCast, AV.cells, zi_flat, newBox_stk (zi_low _ _), Option.map_some, cntC_nil]
  simp only [RUN_, U_hourglasslaw17_RouteSplits, FR_, Nat.reducePow, Int.reducePow, Nat.reduceAdd, Nat.reduceSub, Nat.reduceMul, Int.reduceToNat, Nat.reduceLeDiff, Nat.reduceEqDiff, Nat.reduceLT, Nat.reduceGT, Int.reduceGT, Int.reduceGE, Int.reduceLT, Int.reduceLE, Int.reduceEq, Int.reduceAdd, Int.reduceSub, Int.reduceNeg, reduceCtorEq, if_true, if_false, ite_true, ite_false, ne_eq, eq_self, OPK_, KEY_, K4_, hmk]
  refine loop_rule hC (α := Nat) (fun a => l.length - a) (fun a => [.undef, .list .sh 18 (l.map wA), .undef, .undef, .undef, .ptr (.heap (H.length + 1)) 0, .undef, .row (.heap (H.length + 2)) 0 (pts.length + 1) (pts.length + 1), .row (.stk S.length) 0 (pts.length + 1) (pts.length + 1), .s (.int .i64 a), .undef, .undef, .undef, .undef, .undef, .undef, .undef, .undef, .undef, .undef, .undef, .undef, .undef, .undef, .undef, .undef, .undef, .undef, .undef, .undef, .undef, .undef, .undef, .undef, .undef, .undef, .undef, .undef, .undef, .undef, .undef, .undef, .undef, .undef, .undef, .undef, .undef, .undef, .undef, .undef, .undef, .undef, .undef, .undef, .undef, .undef, .undef, .undef, .undef, .undef, .undef, .undef, .undef, .undef, .undef, .undef, .undef, .undef, .undef, .undef, .undef, .undef, .undef, .undef, .undef, .undef, .undef, .undef, .undef, .undef, .undef, .undef, .undef, .undef, .undef, .undef, .undef, .undef, .undef, .undef, .undef, .undef, .undef, .undef, .undef, .undef, .undef, .undef, .undef, .undef, .undef, .undef, .undef, .undef, .undef, .undef, .undef, .undef, .undef, .undef]) (fun a => S ++ [cntC pts (l.take a)]) (fun a => H ++ [o, tabA pts, .cells (splitC pts l)]) (fun i => i ≤ l.length) 0 (by simp) rfl (by rw [app_take_add]; rfl) rfl (fun i hi => by simp [AV.under, AV.under.go]) ?_
  intro i hi ih
  have hhx : (H ++ [o, tabA pts, .cells (splitC pts l)])[H.length + 1]? = some (tabA pts) := by rw [app_get]; rfl
  by_cases h16 : i < l.length
  · have hlt : ((i : Int) < (l.length : Int)) := by omega
    have hw := wrap_succ (i := i) (by omega)
    have htk : l.take (i + 1) = l.take i ++ [l[i]] := List.take_succ_eq_append_getElem h16
    simp only [RUN_, U_hourglasslaw17_RouteSplits, FR_, Nat.reducePow, Int.reducePow, Nat.reduceAdd, Nat.reduceSub, Nat.reduceMul, Int.reduceToNat, Nat.reduceLeDiff, Nat.reduceEqDiff, Nat.reduceLT, Nat.reduceGT, Int.reduceGT, Int.reduceGE, Int.reduceLT, Int.reduceLE, Int.reduceEq, Int.reduceAdd, Int.reduceSub, Int.reduceNeg, reduceCtorEq, if_true, if_false, ite_true, ite_false, ne_eq, eq_self, OPK_, KEY_, WR_, hlt, h16]
    refine h4 pts _ _ _ _ _ hhx (by omega) ?_
    by_cases hneg : ofK pts (l[i]).key < 0
    · have hgr : goodR (l[i]).key = false := by
        cases hg : goodR (l[i]).key with
        | false => rfl
        | true => have := good_R hg; unfold ofK at hneg; rw [if_pos this] at hneg; omega
      simp only [RUN_, U_hourglasslaw17_RouteSplits, FR_, Nat.reducePow, Int.reducePow, Nat.reduceAdd, Nat.reduceSub, Nat.reduceMul, Int.reduceToNat, Nat.reduceLeDiff, Nat.reduceEqDiff, Nat.reduceLT, Nat.reduceGT, Int.reduceGT, Int.reduceGE, Int.reduceLT, Int.reduceLE, Int.reduceEq, Int.reduceAdd, Int.reduceSub, Int.reduceNeg, reduceCtorEq, if_true, if_false, ite_true, ite_false, ne_eq, eq_self, OPK_, KEY_, WR_, hneg, hw, h16]
      refine h5 _ _ _ _ ?_
      simp only [RUN_, U_hourglasslaw17_RouteSplits, FR_, Nat.reducePow, Int.reducePow, Nat.reduceAdd, Nat.reduceSub, Nat.reduceMul, Int.reduceToNat, Nat.reduceLeDiff, Nat.reduceEqDiff, Nat.reduceLT, Nat.reduceGT, Int.reduceGT, Int.reduceGE, Int.reduceLT, Int.reduceLE, Int.reduceEq, Int.reduceAdd, Int.reduceSub, Int.reduceNeg, reduceCtorEq, if_true, if_false, ite_true, ite_false, ne_eq, eq_self, OPK_, KEY_, WR_, hgr, hw]
      refine ih (i + 1) _ _ _ (by omega) (by omega) rfl ?_ rfl
      rw [htk, cntC_skip hneg, app_take_add]; rfl
    · obtain ⟨n, hn⟩ : ∃ n : Nat, ofK pts (l[i]).key = (n : Int) := ⟨(ofK pts (l[i]).key).toNat, by omega⟩
      have hnl : n < pts.length + 1 := by
        unfold ofK at hn hneg
        split at hn
        · have := cnt_le' (l[i]).key pts; omega
        · omega
      have hg0 : ¬ ((n : Int) < 0) := by omega
      have hg1 : ¬ (((pts.length + 1 : Nat) : Int) ≤ (n : Int)) := by omega
      have hq := part_at h16 hn
      have hql : (partW pts (l.take i) n).length < (partW pts l n).length := (List.getElem?_eq_some_iff.1 hq).1
      have hqe : (partW pts l n)[(partW pts (l.take i) n).length] = l[i] := (List.getElem?_eq_some_iff.1 hq).2
      have hne : partW pts l n ≠ [] := fun e => by rw [e] at hql; simp at hql
      have hsp := splitC_get (pts := pts) (l := l) hnl
      rw [slO_own hne] at hsp
      have hcn := cntC_get (pts := pts) (l := l.take i) hnl
      have hg2 : ¬ (((partW pts l n).length : Int) ≤ ((partW pts (l.take i) n).length : Int)) := by omega
      have hcl : n < (cntC pts (l.take i)).length := by rw [cntC_len]; exact hnl
      have hpl : (partW pts (l.take i) n).length ≤ 20 := by
        have h1 := List.length_filter_le (fun w : Wr => decide (ofK pts w.key = (n : Int))) (l.take i)
        rw [List.length_take] at h1
        unfold partW; omega
      have hwq := wrap_succ (i := (partW pts (l.take i) n).length) (by omega)
      have hfin := cntC_snoc (l := l.take i) hn hnl
      rw [← htk] at hfin
      simp only [RUN_, U_hourglasslaw17_RouteSplits, FR_, Nat.reducePow, Int.reducePow, Nat.reduceAdd, Nat.reduceSub, Nat.reduceMul, Int.reduceToNat, Nat.reduceLeDiff, Nat.reduceEqDiff, Nat.reduceLT, Nat.reduceGT, Int.reduceGT, Int.reduceGE, Int.reduceLT, Int.reduceLE, Int.reduceEq, Int.reduceAdd, Int.reduceSub, Int.reduceNeg, reduceCtorEq, if_true, if_false, ite_true, ite_false, ne_eq, eq_self, OPK_, KEY_, WR_, K4_, hn, hg0, hg1, hg2, hnl, hsp, hcn, hw, hql, hqe, hwq, hcl, h16, Nat.mul_one]
      refine ih (i + 1) _ _ _ (by omega) (by omega) rfl ?_ rfl
      rw [app_take_add, ← hfin]; rfl
  · have hlt : ¬ ((i : Int) < (l.length : Int)) := by omega
    have : i = l.length := by omega
    subst this
    simp only [RUN_, U_hourglasslaw17_RouteSplits, FR_, Nat.reducePow, Int.reducePow, Nat.reduceAdd, Nat.reduceSub, Nat.reduceMul, Int.reduceToNat, Nat.reduceLeDiff, Nat.reduceEqDiff, Nat.reduceLT, Nat.reduceGT, Int.reduceGT, Int.reduceGE, Int.reduceLT, Int.reduceLE, Int.reduceEq, Int.reduceAdd, Int.reduceSub, Int.reduceNeg, reduceCtorEq, if_true, if_false, ite_true, ite_false, ne_eq, eq_self, OPK_, KEY_, hlt, List.take_length]
    refine loop_rule hC (α := Nat) (fun a => pts.length + 1 - a) (fun a => [.undef, .undef, .undef, .undef, .undef, .undef, .undef, .row (.heap (H.length + 2)) 0 (pts.length + 1) (pts.length + 1), .row (.stk S.length) 0 (pts.length + 1) (pts.length + 1), .undef, .undef, .s (.int .i64 a), .undef, .undef, .undef, .undef, .undef, .undef, .undef, .undef, .undef, .undef, .undef, .undef, .undef, .undef, .undef, .undef, .undef, .undef, .undef, .undef, .undef, .undef, .undef, .undef, .undef, .undef, .undef, .undef, .undef, .undef, .undef, .undef, .undef, .undef, .undef, .undef, .undef, .undef, .undef, .undef, .undef, .undef, .undef, .undef, .undef, .undef, .undef, .undef, .undef, .undef, .undef, .undef, .undef, .undef, .undef, .undef, .undef, .undef, .undef, .undef, .undef, .undef, .undef, .undef, .undef, .undef, .undef, .undef, .undef, .undef, .undef, .undef, .undef, .undef, .undef, .undef, .undef, .undef, .undef, .undef, .undef, .undef, .undef, .undef, .undef, .undef, .undef, .undef, .undef, .undef, .undef, .undef, .undef, .undef, .undef, .undef, .undef, .undef]) (fun a => S ++ [cntC pts l]) (fun a => H ++ [o, tabA pts, .cells (splitC pts l)]) (fun i => i ≤ pts.length + 1) 0 (by simp) rfl (by rw [app_take_add]; rfl) rfl (fun i hi => by simp [AV.under, AV.under.go]) ?_
    intro n hn ih2
    by_cases hnl : n < pts.length + 1
    · have hlt : ((n : Int) < ((pts.length + 1 : Nat) : Int)) := by omega
      have hw := wrap_succ (i := n) (by omega)
      have hcn := cntC_get (pts := pts) (l := l) hnl
      have hsp := splitC_get (pts := pts) (l := l) hnl
      by_cases hp : partW pts l n = []
      · rw [hp, slO_nil] at hsp
        rw [hp] at hcn
        simp only [RUN_, U_hourglasslaw17_RouteSplits, FR_, Nat.reducePow, Int.reducePow, Nat.reduceAdd, Nat.reduceSub, Nat.reduceMul, Int.reduceToNat, Nat.reduceLeDiff, Nat.reduceEqDiff, Nat.reduceLT, Nat.reduceGT, Int.reduceGT, Int.reduceGE, Int.reduceLT, Int.reduceLE, Int.reduceEq, Int.reduceAdd, Int.reduceSub, Int.reduceNeg, reduceCtorEq, if_true, if_false, ite_true, ite_false, ne_eq, eq_self, OPK_, KEY_, WR_, K4_, hlt, hnl, hcn, hsp, hw, Nat.mul_one]
        exact ih2 (n + 1) _ _ _ (by omega) (by omega) rfl (by rw [app_take_add]; rfl) rfl
      · rw [slO_own hp] at hsp
        simp only [RUN_, U_hourglasslaw17_RouteSplits, FR_, Nat.reducePow, Int.reducePow, Nat.reduceAdd, Nat.reduceSub, Nat.reduceMul, Int.reduceToNat, Nat.reduceLeDiff, Nat.reduceEqDiff, Nat.reduceLT, Nat.reduceGT, Int.reduceGT, Int.reduceGE, Int.reduceLT, Int.reduceLE, Int.reduceEq, Int.reduceAdd, Int.reduceSub, Int.reduceNeg, reduceCtorEq, if_true, if_false, ite_true, ite_false, ne_eq, eq_self, OPK_, KEY_, WR_, K4_, hlt, hnl, hcn, hsp, hw, Nat.mul_one]
        exact ih2 (n + 1) _ _ _ (by omega) (by omega) rfl (by rw [app_take_add]; rfl) rfl
    · have hlt : ¬ ((n : Int) < ((pts.length + 1 : Nat) : Int)) := by omega
      simp only [RUN_, U_hourglasslaw17_RouteSplits, FR_, Nat.reducePow, Int.reducePow, Nat.reduceAdd, Nat.reduceSub, Nat.reduceMul, Int.reduceToNat, Nat.reduceLeDiff, Nat.reduceEqDiff, Nat.reduceLT, Nat.reduceGT, Int.reduceGT, Int.reduceGE, Int.reduceLT, Int.reduceLE, Int.reduceEq, Int.reduceAdd, Int.reduceSub, Int.reduceNeg, reduceCtorEq, if_true, if_false, ite_true, ite_false, ne_eq, eq_self, OPK_, KEY_, WR_, K4_, hlt]
      exact hK _
end Go.AM
/-! Arguments as they are read, told as the machine's values. -/
namespace Go.AM
open Go
set_option linter.unusedVariables false

section
variable {H : Type} {enc : TypeId × Value → H} {P : Program} {w : World} {sp : Nat → Bool} {held : Bool}

theorem mapM_len {α β : Type} {f : α → Option β} : ∀ {l : List α} {r : List β}, l.mapM f = some r → r.length = l.length
  | [], r, h => by simp at h; subst h; rfl
  | a :: l, r, h => by
    simp only [List.mapM_cons, Option.pure_def, Option.bind_eq_bind, Option.bind_eq_some_iff, Option.some.injEq] at h
    obtain ⟨b, _, bs, h2, rfl⟩ := h
    simp [mapM_len h2]
theorem mapM_get {α β : Type} {f : α → Option β} : ∀ {l : List α} {r : List β}, l.mapM f = some r → ∀ (i : Nat) (a : α), l[i]? = some a → ∃ b, r[i]? = some b ∧ f a = some b
  | [], r, h, i, a, ha => by simp at ha
  | x :: l, r, h, i, a, ha => by
    simp only [List.mapM_cons, Option.pure_def, Option.bind_eq_bind, Option.bind_eq_some_iff, Option.some.injEq] at h
    obtain ⟨b, h1, bs, h2, rfl⟩ := h
    cases i with
    | zero => simp at ha; subst ha; exact ⟨b, rfl, h1⟩
    | succ i => obtain ⟨c, h3, h4⟩ := mapM_get h2 i a (by simpa using ha); exact ⟨c, by simpa using h3, h4⟩

/-- Bytes, as they are read. -/
theorem trod_u8 {fuel : Nat} {t : TypeId} {cs : List Value} {x : DataW H × List MemPlace} (ht : P.underlying t = some (.int .u8)) (h : DataW.trod enc P w 0 sp held fuel t cs = some x) : ∃ b : UInt8, cs = [.int .u8 b.toNat] := by
  cases fuel with
  | zero => simp [DataW.trod] at h
  | succ n =>
    unfold DataW.trod at h
    rw [ht] at h
    split at h
    case h_2 k k' n' heq =>
      have hk : IntKind.u8 = k := by injection heq with e; injection e
      subst hk
      split at h
      case isFalse => cases h
      rename_i hc
      obtain ⟨rfl, hw⟩ := hc
      have := bounds_u8 hw
      refine ⟨UInt8.ofNat n'.toNat, ?_⟩
      have : ((UInt8.ofNat n'.toNat).toNat : Int) = n' := by
        rw [UInt8.toNat_ofNat']; omega
      rw [this]
    all_goals first
      | (cases h; done)
      | (exfalso; simp_all; done)

/-- A byte's cell. -/
def uv (b : UInt8) : Value := .int .u8 b.toNat
theorem of_each {α β : Type} {f : β → α} : ∀ (l : List α), (∀ x ∈ l, ∃ b, x = f b) → ∃ bs : List β, l = bs.map f
  | [], _ => ⟨[], rfl⟩
  | x :: l, h => by
    obtain ⟨b, rfl⟩ := h x List.mem_cons_self
    obtain ⟨bs, rfl⟩ := of_each l fun y hy => h y (List.mem_cons_of_mem _ hy)
    exact ⟨b :: bs, rfl⟩

/-- A key, as it is read. -/
theorem trod_key {fuel : Nat} {t e : TypeId} {cs : List Value} {x : DataW H × List MemPlace} (ht : P.underlying t = some (.array 16 e)) (he : P.underlying e = some (.int .u8)) (h1 : P.cellsOf e = 1) (h16 : P.cellsOf t = 16)
    (h : DataW.trod enc P w 0 sp held fuel t cs = some x) : ∃ k : Key, cs = k.b.map uv := by
  obtain ⟨xs, m, _, _, hl, hx, hi⟩ := DataW.trod_array ht h
  rw [h16] at hl
  obtain ⟨bs, hbs⟩ := of_each (f := uv) cs fun c hc => by
    obtain ⟨i, hlt, rfl⟩ := List.getElem_of_mem hc
    have hix : i < xs.length := by omega
    have := hi i (by omega)
    rw [h1, Nat.mul_one, List.getElem?_eq_getElem hix] at this
    obtain ⟨b, hb⟩ := trod_u8 he this
    have e2 : (cs.drop i).take 1 = [cs[i]] := by rw [List.drop_eq_getElem_cons hlt]; rfl
    rw [e2] at hb
    exact ⟨b, by simpa [uv] using hb⟩
  exact ⟨⟨bs, by rw [hbs] at hl; simpa using hl⟩, hbs⟩

theorem VL_bs {g : G} : ∀ (l : List UInt8), VL g w (bs l) (l.map uv)
  | [] => .nil
  | b :: l => .sc (.int .u8 b.toNat) (VL_bs l)
theorem V_key {g : G} (k : Key) : V g w (.agg (bs k.b)) (.agg (k.b.map uv).toArray) := .agg u8_isCell (by simpa using VL_bs k.b) .nil

def kvs (l : List Key) : List Value := l.flatMap fun k => k.b.map uv
theorem VL_kvs {g : G} : ∀ (l : List Key), VL g w ((l.map kA).flatMap AV.cells) (kvs l)
  | [] => .nil
  | k :: l => by
    simp only [List.map_cons, List.flatMap_cons, kvs]
    exact (show VL g w (kA k).cells _ from VL_bs k.b).app (VL_kvs l)

theorem lies_kvs {b : Nat} : ∀ (l : List Key) (off : Nat), (∀ i, (h : i < l.length) → w.cells? 0 ⟨b, off + i * 16, none⟩ 16 = some ((l[i]).b.map uv)) → ∀ j v, (kvs l)[j]? = some v → w.cell? ⟨b, off + j, none⟩ = some v
  | [], off, _, j, v, h => by simp [kvs] at h
  | k :: l, off, hall, j, v, h => by
    have hk := hall 0 (by simp)
    simp only [List.getElem_cons_zero, Nat.zero_mul, Nat.add_zero] at hk
    have hl16 : (k.b.map uv).length = 16 := by rw [List.length_map, k.h]
    have hkv : kvs (k :: l) = k.b.map uv ++ kvs l := rfl
    rw [hkv] at h
    by_cases hj : j < 16
    · rw [List.getElem?_append_left (by omega)] at h
      have := (World.cells?_some hk).2.2 j hj
      rw [Addr.add_lit] at this
      rw [this]; exact h
    · rw [List.getElem?_append_right (by omega), hl16] at h
      have := lies_kvs l (off + 16) (fun i hi => by
        have := hall (i + 1) (by simpa using hi)
        simp only [List.getElem_cons_succ] at this
        rw [show off + 16 + i * 16 = off + (i + 1) * 16 by omega]
        exact this) (j - 16) v h
      rwa [show off + 16 + (j - 16) = off + j by omega] at this

/-- A slice of keys, as it is read. -/
theorem trod_keys {fuel : Nat} {t e u : TypeId} {v : Value} {x : DataW H × List MemPlace} (ht : P.underlying t = some (.slice e)) (he : P.underlying e = some (.array 16 u)) (hu : P.underlying u = some (.int .u8)) (h1 : P.cellsOf u = 1) (h16 : P.cellsOf e = 16)
    (hok : Value.okWide P w .any 0 t v) (h : DataW.trod enc P w 0 sp held fuel t v.cells.toList = some x) : ∃ l : List Key, V G.none w (lstK l) v ∧ l.length ≤ 9223372036854775807 := by
  have hspot : ∀ a len cap, v = .slice (some a) len cap → a.spot = none ∧ len ≤ cap := by
    intro a len cap hv
    subst hv
    simp only [Value.okWide, ht, Cell.okWide, Cell.ok] at hok
    exact ⟨hok.2.2.2.1, hok.1⟩
  obtain ⟨oa, len, cap, rfl⟩ := WideShapes.okWide_slice ht hok
  cases fuel with
  | zero => simp [DataW.trod] at h
  | succ m =>
    cases oa with
    | none =>
      refine ⟨[], ?_, by simp⟩
      simp only [Value.okWide, ht, Cell.okWide] at hok
      have : len = 0 ∧ cap = 0 := by
        cases len <;> cases cap <;> simp [Cell.ok, ht] at hok ⊢
      obtain ⟨rfl, rfl⟩ := this
      exact .lnil (by omega) .nil
    | some a =>
      obtain ⟨hs, hle⟩ := hspot a len cap rfl
      have hc : (Value.slice (some a) len cap).cells.toList = [.slice (some a) len cap] := rfl
      rw [hc] at h
      unfold DataW.trod at h
      rw [ht] at h
      dsimp only at h
      split at h
      case isFalse => cases h
      rename_i hcap
      rw [Option.bind_eq_some_iff] at h
      obtain ⟨elems, hel, _⟩ := h
      have hlen : elems.length = len := by have := mapM_len hel; simpa using this
      have each : ∀ i, i < len → ∃ k : Key, w.cells? 0 (a.add (i * 16)) 16 = some (k.b.map uv) := by
        intro i hi
        obtain ⟨y, _, hy⟩ := mapM_get hel i i (by simp [hi])
        rw [h16, Option.bind_eq_some_iff] at hy
        obtain ⟨cs, hcs, hy⟩ := hy
        obtain ⟨k, rfl⟩ := trod_key he hu h1 h16 hy
        exact ⟨k, hcs⟩
      have ex : ∀ n, n ≤ len → ∃ l : List Key, l.length = n ∧ ∀ i, (h : i < l.length) → w.cells? 0 (a.add (i * 16)) 16 = some ((l[i]).b.map uv) := by
        intro n
        induction n with
        | zero => exact fun _ => ⟨[], rfl, fun i h => by simp at h⟩
        | succ n ih =>
          intro hn
          obtain ⟨l, hl, hall⟩ := ih (by omega)
          obtain ⟨k, hk⟩ := each n (by omega)
          refine ⟨l ++ [k], by simp [hl], fun i h => ?_⟩
          by_cases hi : i < l.length
          · rw [List.getElem_append_left hi]; exact hall i hi
          · have : i = l.length := by simp at h; omega
            subst this
            rw [List.getElem_append_right (Nat.le_refl _)]
            simpa [hl] using hk
      obtain ⟨l, hl, hall⟩ := ex len (Nat.le_refl _)
      refine ⟨l, ?_, by have := hcap.2.2; unfold maxLen at this; omega⟩
      refine .list (xs := kvs l) (.inl rfl) (by simp [hl]) hle (by omega) (.inr hs) kA_elems kA_low (VL_kvs l) (fun i v hv => ⟨?_, fun h => (show False from h)⟩) .nil
      obtain ⟨ab, ao, as⟩ := a
      dsimp only at hs; subst hs
      exact lies_kvs l ao (fun i hi => by have := hall i hi; rwa [Addr.add_lit] at this) i v hv

theorem trodAll_stays {W W' : World} (hl : laidOutB P = true) (hb : RowKit.Below W.heap.size W W') : ∀ {ts : List TypeId} {vs : List Value} {ds : List (DataW H)} {ps : List MemPlace}, (∀ t ∈ ts, P.readableRec t = true ∧ t < P.types.size) →
    DataW.TrodAll enc P W 0 (fun _ => true) true ts vs ds ps → DataW.TrodAll enc P W' 0 (fun b => decide (b < W.heap.size)) true ts vs ds ps
  | [], [], [], _, _, h => h
  | t :: ts, v :: vs, d :: ds, ps, ht, ⟨p, q, h1, h2, e⟩ => by
    obtain ⟨n, hn⟩ := h1
    exact ⟨p, q, RowKit.Below.trod hl (ht t List.mem_cons_self).1 (ht t List.mem_cons_self).2 ⟨n, hn⟩ hb (DataW.trod_lt n _ _ _ hn), trodAll_stays hl hb (fun t h => ht t (List.mem_cons_of_mem _ h)) h2, e⟩
  | [], [], _ :: _, _, _, h => h.elim
  | [], _ :: _, _, _, _, h => h.elim
  | _ :: _, [], _, _, _, h => h.elim
  | _ :: _, _ :: _, [], _, _, h => h.elim

/-- A key that is an argument. -/
theorem trod_key1 {t e : TypeId} {v : Value} {d : DataW H} {ps : List MemPlace} (ht : P.underlying t = some (.array 16 e)) (he : P.underlying e = some (.int .u8)) (h1 : P.cellsOf e = 1) (h16 : P.cellsOf t = 16)
    (hok : Value.okWide P w .any 0 t v) (h : DataW.Trod enc P w 0 sp held t v d ps) : ∃ k : Key, V G.none w (.agg (bs k.b)) v := by
  obtain ⟨n, hn⟩ := h
  simp only [Value.okWide, ht] at hok
  obtain ⟨cs, rfl, _, _⟩ := hok
  obtain ⟨k, hk⟩ := trod_key ht he h1 h16 hn
  have e : cs = (k.b.map uv).toArray := by
    apply Array.ext'
    simpa [Value.cells] using hk
  subst e
  exact ⟨k, V_key k⟩
end
end Go.AM
/-! Whatever datum is an argument, told as the machine's value. -/
namespace Go.AM
open Go
set_option linter.unusedVariables false

section
variable {H : Type} {enc : TypeId × Value → H} {P : Program} {w : World} {sp : Nat → Bool} {held : Bool}

/-- Types of plain data: numbers, texts, truths, structs, arrays, slices of such. -/
def contig (P : Program) : List Field → Nat → Nat → Bool
  | [], o, tot => o == tot
  | f :: l, o, tot => f.offset == o && contig P l (o + P.cellsOf f.type) tot
def plainT (P : Program) : Nat → TypeId → Bool
  | 0, _ => false
  | d + 1, t => match P.underlying t with
    | some .bool | some (.int _) | some .string => true
    | some (.slice e) => decide (0 < P.cellsOf e) && (isAgg P e || P.cellsOf e == 1) && plainT P d e
    | some (.struct fs) => contig P fs.toList 0 (P.cellsOf t) && fs.toList.all fun f => plainT P d f.type
    | some (.array m e) => P.cellsOf t == m * P.cellsOf e && plainT P d e
    | _ => false

/-- The cells of such. -/
def shp (P : Program) : Nat → TypeId → List AV → Prop
  | 0, _, _ => False
  | d + 1, t, as => match P.underlying t with
    | some .bool => ∃ b, as = [.s (.bool b)]
    | some (.int k) => ∃ i, as = [.s (.int k i)] ∧ (Lit.int k i).wf = true
    | some .string => ∃ l, as = [.s (.str l)] ∧ l.length ≤ maxLen
    | some (.slice e) => ∃ es : List AV, as = [.list .sh (P.cellsOf e) es] ∧ es.length ≤ maxLen ∧ ∀ x ∈ es, shp P d e x.cells ∧ (isAgg P e = true → x = .agg x.cells)
    | some (.struct fs) => fs.toList.foldr (fun f (Q : List AV → Prop) as => ∃ a b, as = a ++ b ∧ shp P d f.type a ∧ Q b) (fun as => as = []) as
    | some (.array m e) => ∃ ps : List (List AV), ps.length = m ∧ as = ps.flatten ∧ ∀ p ∈ ps, shp P d e p
    | _ => False

/-- Cells that stand for values: whole, low. -/
structure Tells (w : World) (as : List AV) (cs : List Value) : Prop where
  vl : VL G.none w as cs
  cell : ∀ c ∈ as, c.isCell = true
  low : AV.under.go 0 as = true

theorem Tells.nil : Tells w [] [] := ⟨.nil, (fun _ h => by cases h), rfl⟩
theorem Tells.app {a b : List AV} {c d : List Value} (h : Tells w a c) (h' : Tells w b d) : Tells w (a ++ b) (c ++ d) :=
  ⟨h.vl.app h'.vl, fun x hx => (List.mem_append.1 hx).elim (h.cell x) (h'.cell x), by rw [under_app', h.low, h'.low]; rfl⟩
theorem Tells.flat : ∀ {ps : List (List AV)} {qs : List (List Value)}, ps.length = qs.length → (∀ (i : Nat) (p : List AV) (q : List Value), ps[i]? = some p → qs[i]? = some q → Tells w p q) → Tells w ps.flatten qs.flatten
  | [], [], _, _ => .nil
  | [], _ :: _, h, _ => by simp at h
  | _ :: _, [], h, _ => by simp at h
  | p :: ps, q :: qs, h, hall => by
    rw [List.flatten_cons, List.flatten_cons]
    exact (hall 0 p q rfl rfl).app (Tells.flat (by simpa using h) fun i a b ha hb => hall (i + 1) a b (by simpa using ha) (by simpa using hb))
theorem Tells.sc (x : Sc) : Tells w [.s x] [x.toV] := ⟨.sc x .nil, fun c hc => by rw [List.mem_singleton.1 hc]; rfl, rfl⟩

theorem lies_flat {b c : Nat} : ∀ (qs : List (List Value)) (off : Nat), (∀ i q, qs[i]? = some q → w.cells? 0 ⟨b, off + i * c, none⟩ c = some q) → ∀ j v, qs.flatten[j]? = some v → w.cell? ⟨b, off + j, none⟩ = some v
  | [], off, _, j, v, h => by simp at h
  | q :: qs, off, hall, j, v, h => by
    have hk := hall 0 q rfl
    rw [Nat.zero_mul, Nat.add_zero] at hk
    have hs := World.cells?_some hk
    rw [List.flatten_cons] at h
    by_cases hj : j < c
    · rw [List.getElem?_append_left (by omega)] at h
      have := hs.2.2 j hj
      rw [Addr.add_lit] at this
      rw [this]; exact h
    · rw [List.getElem?_append_right (by omega), hs.2.1] at h
      have := lies_flat qs (off + c) (fun i q hi => by
        have := hall (i + 1) q (by simpa using hi)
        rw [show off + c + i * c = off + (i + 1) * c by rw [Nat.add_mul]; omega]
        exact this) (j - c) v h
      rwa [show off + c + (j - c) = off + j by omega] at this

theorem choose_list {β : Type} {n : Nat} {p : Nat → β → Prop} (h : ∀ i, i < n → ∃ b, p i b) : ∃ l : List β, l.length = n ∧ ∀ i b, l[i]? = some b → p i b := by
  induction n with
  | zero => exact ⟨[], rfl, fun i b h => by simp at h⟩
  | succ n ih =>
    obtain ⟨l, hl, hall⟩ := ih fun i hi => h i (by omega)
    obtain ⟨b, hb⟩ := h n (by omega)
    refine ⟨l ++ [b], by simp [hl], fun i c hc => ?_⟩
    by_cases hi : i < l.length
    · rw [List.getElem?_append_left hi] at hc; exact hall i c hc
    · rw [List.getElem?_append_right (by omega)] at hc
      have : i = n := by
        have := (List.getElem?_eq_some_iff.1 hc).1
        simp at this; omega
      subst this
      rw [hl, Nat.sub_self] at hc
      injection hc with hc; subst hc; exact hb

/-- An element of a slice. -/
def elemA (ag : Bool) (as : List AV) : AV := match ag with
  | true => .agg as
  | false => as.getD 0 .undef
theorem elemA_cells {w : World} {ag : Bool} {as : List AV} {cs : List Value} (h : Tells w as cs) (hl : ag = true ∨ as.length = 1) : (elemA ag as).cells = as := by
  cases ag with
  | true => rfl
  | false =>
    obtain ⟨a, rfl⟩ := List.length_eq_one_iff.1 (hl.resolve_left (by simp))
    have hc := h.cell a (by simp)
    show a.cells = [a]
    cases a <;> simp [AV.isCell] at hc <;> rfl
theorem elemA_low {w : World} {ag : Bool} {as : List AV} {cs : List Value} (h : Tells w as cs) (hl : ag = true ∨ as.length = 1) : AV.under 0 (elemA ag as) = true := by
  cases ag with
  | true => exact h.low
  | false =>
    obtain ⟨a, rfl⟩ := List.length_eq_one_iff.1 (hl.resolve_left (by simp))
    have := h.low
    simpa [elemA, AV.under.go] using this

theorem trod_struct_shp {d m tot : Nat} {cs : List Value} (ih : ∀ t, plainT P d t = true → ∀ N cs x, DataW.trod enc P w 0 sp held N t cs = some x → ∃ as, shp P d t as ∧ Tells w as cs) (htot : cs.length = tot) :
    ∀ (l : List Field) (o : Nat), contig P l o tot = true → (l.all fun f => plainT P d f.type) = true → (∀ f ∈ l, ∃ x, DataW.trod enc P w 0 sp held m f.type ((cs.drop f.offset).take (P.cellsOf f.type)) = some x) →
    ∃ as, l.foldr (fun f (Q : List AV → Prop) as => ∃ a b, as = a ++ b ∧ shp P d f.type a ∧ Q b) (fun as => as = []) as ∧ Tells w as (cs.drop o)
  | [], o, hc, _, _ => by
    have : o = tot := by simpa [contig] using hc
    subst this
    rw [List.drop_of_length_le (by omega)]
    exact ⟨[], rfl, .nil⟩
  | f :: l, o, hc, hp, hall => by
    simp only [contig, Bool.and_eq_true, beq_iff_eq] at hc
    simp only [List.all_cons, Bool.and_eq_true] at hp
    obtain ⟨x, hx⟩ := hall f List.mem_cons_self
    obtain ⟨a, ha, hta⟩ := ih _ hp.1 _ _ _ hx
    obtain ⟨b, hb, htb⟩ := trod_struct_shp ih htot l _ hc.2 hp.2 fun g hg => hall g (List.mem_cons_of_mem _ hg)
    refine ⟨a ++ b, ⟨a, b, rfl, ha, hb⟩, ?_⟩
    rw [hc.1] at hta
    have : cs.drop o = (cs.drop o).take (P.cellsOf f.type) ++ cs.drop (o + P.cellsOf f.type) := by
      rw [← List.drop_drop, List.take_append_drop]
    rw [this]
    exact hta.app htb

theorem flat_parts {c : Nat} : ∀ (m : Nat) (cs : List Value), cs.length = m * c → ((List.range m).map fun i => (cs.drop (i * c)).take c).flatten = cs
  | 0, cs, h => by simp at h; subst h; rfl
  | m + 1, cs, h => by
    rw [List.range_succ_eq_map, List.map_cons, List.map_map, List.flatten_cons, Nat.zero_mul, List.drop_zero]
    have := flat_parts (c := c) m (cs.drop c) (by rw [List.length_drop, h, Nat.add_mul]; omega)
    have e : ((fun i => (cs.drop (i * c)).take c) ∘ Nat.succ) = fun i => ((cs.drop c).drop (i * c)).take c := by
      funext i
      simp only [Function.comp, List.drop_drop, Nat.succ_eq_add_one, Nat.add_mul, Nat.one_mul]
      rw [Nat.add_comm c]
    rw [e, this, List.take_append_drop]

/-- Whatever datum of such a type is read is a value of the machine. -/
theorem trod_shp : ∀ (d : Nat) (t : TypeId), plainT P d t = true → ∀ (N : Nat) (cs : List Value) (x : DataW H × List MemPlace), DataW.trod enc P w 0 sp held N t cs = some x → ∃ as, shp P d t as ∧ Tells w as cs
  | 0, t, h, _, _, _, _ => by simp [plainT] at h
  | d + 1, t, h, N, cs, x, hx => by
    have ih := trod_shp d
    unfold plainT at h
    unfold shp
    cases hu : P.underlying t with
    | none => rw [hu] at h; cases h
    | some D =>
      rw [hu] at h
      cases D with
      | bool =>
        obtain ⟨b, rfl, _⟩ := DataW.trod_bool hu hx
        exact ⟨_, ⟨b, rfl⟩, .sc (.bool b)⟩
      | int k =>
        obtain ⟨n, rfl, _, hw⟩ := DataW.trod_int hu hx
        exact ⟨_, ⟨n, rfl, hw⟩, .sc (.int k n)⟩
      | string =>
        obtain ⟨s, rfl, _, hl⟩ := DataW.trod_string hu hx
        refine ⟨_, ⟨s.data.toList, rfl, by simpa using hl⟩, ?_⟩
        have := Tells.sc (w := w) (.str s.data.toList)
        simpa [Sc.toV] using this
      | slice e =>
        simp only [Bool.and_eq_true, decide_eq_true_eq, Bool.or_eq_true, beq_iff_eq] at h
        obtain ⟨⟨hpos, hag⟩, hpe⟩ := h
        rcases DataW.trod_slice hu hx with ⟨rfl, _⟩ | ⟨a, len, cap, elems, rest, n, _, rfl, _, _, hle, hcap, hlen, hel, _, _⟩
        · exact ⟨_, ⟨[], rfl, Nat.zero_le _, fun _ h => by cases h⟩, ⟨.lnil hpos .nil, fun c hc => by rw [List.mem_singleton.1 hc]; rfl, rfl⟩⟩
        · have each : ∀ i, i < len → ∃ z : List Value × List AV, w.cells? 0 (a.add (i * P.cellsOf e)) (P.cellsOf e) = some z.1 ∧ shp P d e z.2 ∧ Tells w z.2 z.1 := fun i hi => by
            have h1 := hel i hi
            rw [List.getElem?_eq_getElem (by omega)] at h1
            obtain ⟨q, hq, hq2⟩ := Option.bind_eq_some_iff.1 h1
            obtain ⟨as, h2, h3⟩ := ih e hpe _ _ _ hq2
            exact ⟨(q, as), hq, h2, h3⟩
          obtain ⟨l, hl, hall⟩ := choose_list each
          have hin : ∀ z ∈ l, (∃ i, w.cells? 0 (a.add (i * P.cellsOf e)) (P.cellsOf e) = some z.1) ∧ shp P d e z.2 ∧ Tells w z.2 z.1 := fun z hz => by
            obtain ⟨i, hi⟩ := List.getElem?_of_mem hz
            exact ⟨⟨i, (hall i z hi).1⟩, (hall i z hi).2⟩
          have hone : ∀ z ∈ l, z.2.length = P.cellsOf e := fun z hz => by
            obtain ⟨⟨i, h1⟩, _, h2⟩ := hin z hz
            rw [← h2.vl.length]; exact (World.cells?_some h1).2.1
          have hag' : ∀ z ∈ l, isAgg P e = true ∨ z.2.length = 1 := fun z hz => hag.imp id fun h => by rw [hone z hz, h]
          let es : List AV := l.map fun z => elemA (isAgg P e) z.2
          have hcells : es.flatMap AV.cells = (l.map (·.2)).flatten := by
            have : ∀ (l' : List (List Value × List AV)), (∀ z ∈ l', z ∈ l) → (l'.map fun z => elemA (isAgg P e) z.2).flatMap AV.cells = (l'.map (·.2)).flatten := by
              intro l'
              induction l' with
              | nil => intro _; rfl
              | cons z l' ihl =>
                intro hs
                rw [List.map_cons, List.flatMap_cons, List.map_cons, List.flatten_cons, ihl fun y hy => hs y (List.mem_cons_of_mem _ hy)]
                have hz := hs z List.mem_cons_self
                rw [elemA_cells (hin z hz).2.2 (hag' z hz)]
            exact this l fun _ h => h
          have hspot : es = [] ∨ a.spot = none := by
            by_cases h0 : len = 0
            · left; apply List.length_eq_zero_iff.1; simp [es, hl, h0]
            · right
              obtain ⟨z, hz, _⟩ := each 0 (by omega)
              have h1 := (World.cells?_some hz).2.2 0 hpos
              have h2 : (a.add (0 * P.cellsOf e)).add 0 = a := by simp [Addr.add]
              rw [h2, List.getElem?_eq_getElem (by rw [(World.cells?_some hz).2.1]; exact hpos)] at h1
              unfold World.cell? at h1
              split at h1
              · split at h1
                · cases h1
                · rename_i h3; simpa using h3
              · cases h1
          have htell : Tells w (l.map (·.2)).flatten (l.map (·.1)).flatten := Tells.flat (by simp) fun i p q hp hq => by
            rw [List.getElem?_map] at hp hq
            cases hz : l[i]? with
            | none => rw [hz] at hp; cases hp
            | some z =>
              rw [hz] at hp hq
              injection hp with hp; injection hq with hq; subst hp; subst hq
              exact (hall i z hz).2.2
          refine ⟨_, ⟨es, rfl, by simp [es, hl]; omega, fun y hy => ?_⟩, ⟨?_, fun c hc => by rw [List.mem_singleton.1 hc]; rfl, rfl⟩⟩
          · obtain ⟨z, hz, rfl⟩ := List.mem_map.1 hy
            rw [elemA_cells (hin z hz).2.2 (hag' z hz)]
            exact ⟨(hin z hz).2.1, fun h => by rw [h]; rfl⟩
          · refine .list (xs := (l.map (·.1)).flatten) (.inl rfl) (by simp [es, hl]) hle hpos hspot (fun y hy => ?_) ?_ (by rw [hcells]; exact htell.vl) (fun i v hv => ⟨?_, fun h => (show False from h)⟩) .nil
            · obtain ⟨z, hz, rfl⟩ := List.mem_map.1 hy
              rw [elemA_cells (hin z hz).2.2 (hag' z hz)]
              exact ⟨hone z hz, (hin z hz).2.2.cell⟩
            · refine under_mem.2 fun y hy => ?_
              obtain ⟨z, hz, rfl⟩ := List.mem_map.1 hy
              exact elemA_low (hin z hz).2.2 (hag' z hz)
            · rcases hspot with h0 | h0
              · have : l = [] := by simpa [es] using h0
                rw [this] at hv; simp at hv
              · obtain ⟨ab, ao, as⟩ := a
                dsimp only at h0; subst h0
                refine lies_flat (c := P.cellsOf e) _ ao (fun j q hq => ?_) i v hv
                rw [List.getElem?_map] at hq
                cases hz : l[j]? with
                | none => rw [hz] at hq; cases hq
                | some z =>
                  rw [hz] at hq
                  injection hq with hq; subst hq
                  have := (hall j z hz).1
                  rwa [Addr.add_lit] at this
      | struct fs =>
        simp only [Bool.and_eq_true] at h
        obtain ⟨xs, n, _, _, hl, hxl, hf⟩ := DataW.trod_struct hu hx
        obtain ⟨as, h1, h2⟩ := trod_struct_shp (m := n) ih hl fs.toList 0 h.1 h.2 fun f hm => by
          obtain ⟨i, hi⟩ := List.getElem?_of_mem hm
          have hi' : fs[i]? = some f := by simpa using hi
          have := hf i f hi'
          have hlt := (Array.getElem?_eq_some_iff.1 hi').1
          rw [List.getElem?_eq_getElem (by omega)] at this
          exact ⟨_, this⟩
        exact ⟨as, h1, by simpa using h2⟩
      | array m e =>
        simp only [Bool.and_eq_true, beq_iff_eq] at h
        obtain ⟨xs, n, _, _, hl, hxl, hf⟩ := DataW.trod_array hu hx
        obtain ⟨ps, hpl, hall⟩ := choose_list (n := m) (p := fun i as => shp P d e as ∧ Tells w as ((cs.drop (i * P.cellsOf e)).take (P.cellsOf e))) fun i hi => by
          have := hf i hi
          rw [List.getElem?_eq_getElem (by omega)] at this
          exact ih e h.2 _ _ _ this
        refine ⟨ps.flatten, ⟨ps, hpl, rfl, fun p hp => ?_⟩, ?_⟩
        · obtain ⟨i, hi⟩ := List.getElem?_of_mem hp
          exact (hall i p hi).1
        · rw [← flat_parts (c := P.cellsOf e) m cs (by rw [hl, h.1])]
          refine Tells.flat (by simp [hpl]) fun i p q hp hq => ?_
          have hlt : i < m := by have := (List.getElem?_eq_some_iff.1 hp).1; omega
          have : q = (cs.drop (i * P.cellsOf e)).take (P.cellsOf e) := by
            rw [List.getElem?_map, List.getElem?_range hlt] at hq
            injection hq with hq; exact hq.symm
          subst this
          exact (hall i p hp).2
      | _ => cases h

/-- An argument of such a type. -/
def argA (ag : Bool) (as : List AV) : AV := elemA ag as
theorem trod_arg {d : Nat} {t : TypeId} {v : Value} {D : DataW H} {ps : List MemPlace} (hp : plainT P d t = true) (hok : Value.okWide P w .any 0 t v) (h : DataW.Trod enc P w 0 sp held t v D ps) :
    ∃ as, shp P d t as ∧ V G.none w (argA (isAgg P t) as) v := by
  obtain ⟨n, hn⟩ := h
  obtain ⟨as, h1, h2⟩ := trod_shp d t hp n _ _ hn
  refine ⟨as, h1, ?_⟩
  cases hu : P.underlying t with
  | none =>
    cases d with
    | zero => simp [plainT] at hp
    | succ d => rw [plainT, hu] at hp; cases hp
  | some D =>
    have scalar : isAgg P t = false → (∀ xs, v ≠ .agg xs) → V G.none w (argA (isAgg P t) as) v := fun hf hv => by
      rw [hf]
      have e : v.cells.toList = [v] := by
        cases v <;> first | rfl | exact (hv _ rfl).elim
      rw [e] at h2
      obtain ⟨a, as', rfl, h3, h4⟩ : ∃ a as', as = a :: as' ∧ V G.none w a v ∧ VL G.none w as' [] := by
        cases as with
        | nil => have := h2.vl.length; simp at this
        | cons a as' =>
          obtain ⟨v', vs', hh, h3, h4⟩ := h2.vl.cons_left
          injection hh with hh1 hh2; subst hh1; subst hh2
          exact ⟨a, as', rfl, h3, h4⟩
      exact h3
    cases D with
    | struct fs =>
      simp only [Value.okWide, hu] at hok
      obtain ⟨cs, rfl, _, _⟩ := hok
      rw [show isAgg P t = true by simp [isAgg, hu]]
      exact .agg h2.cell (by simpa [Value.cells] using h2.vl) .nil
    | array m e =>
      simp only [Value.okWide, hu] at hok
      obtain ⟨cs, rfl, _, _⟩ := hok
      rw [show isAgg P t = true by simp [isAgg, hu]]
      exact .agg h2.cell (by simpa [Value.cells] using h2.vl) .nil
    | _ =>
      refine scalar (by simp [isAgg, hu]) fun xs hv => ?_
      subst hv
      simp [Value.okWide, Cell.okWide, Cell.ok, hu] at hok
end
end Go.AM
/-! Data of this program's types. -/
namespace Go.AM
open Go
set_option linter.unusedVariables false

section
variable {P : Program}

def parts (P : Program) (d : Nat) : List TypeId → List AV → Prop
  | [], as => as = []
  | u :: ts, as => ∃ a b, as = a ++ b ∧ shp P d u a ∧ parts P d ts b
theorem parts_of {d : Nat} : ∀ {fs : List Field} {as : List AV}, fs.foldr (fun f (Q : List AV → Prop) as => ∃ a b, as = a ++ b ∧ shp P d f.type a ∧ Q b) (fun as => as = []) as → parts P d (fs.map (·.type)) as
  | [], _, h => h
  | f :: fs, as, h => by
    obtain ⟨a, b, h1, h2, h3⟩ := h
    exact ⟨a, b, h1, h2, parts_of h3⟩
theorem shp_struct {d : Nat} {t : TypeId} {fs : Array Field} {ts : List TypeId} {as : List AV} (ht : P.underlying t = some (.struct fs)) (hts : fs.toList.map (·.type) = ts) (h : shp P (d + 1) t as) : parts P d ts as := by
  unfold shp at h
  rw [ht] at h
  subst hts
  exact parts_of h
theorem shp_int {d : Nat} {t : TypeId} {k : IntKind} {as : List AV} (ht : P.underlying t = some (.int k)) (h : shp P (d + 1) t as) : ∃ i, as = [.s (.int k i)] ∧ (Lit.int k i).wf = true := by
  unfold shp at h; rw [ht] at h; exact h
theorem shp_bool {d : Nat} {t : TypeId} {as : List AV} (ht : P.underlying t = some .bool) (h : shp P (d + 1) t as) : ∃ b, as = [.s (.bool b)] := by
  unfold shp at h; rw [ht] at h; exact h
theorem shp_str {d : Nat} {t : TypeId} {as : List AV} (ht : P.underlying t = some .string) (h : shp P (d + 1) t as) : ∃ l, as = [.s (.str l)] ∧ l.length ≤ maxLen := by
  unfold shp at h; rw [ht] at h; exact h
theorem shp_slice {d : Nat} {t e : TypeId} {as : List AV} {α : Type} (f : α → AV) (ht : P.underlying t = some (.slice e)) (he : ∀ x : AV, shp P d e x.cells → (isAgg P e = true → x = .agg x.cells) → ∃ a, x = f a) (h : shp P (d + 1) t as) :
    ∃ l : List α, as = [.list .sh (P.cellsOf e) (l.map f)] ∧ l.length ≤ 9223372036854775807 := by
  unfold shp at h; rw [ht] at h
  obtain ⟨es, rfl, hl, hall⟩ := h
  obtain ⟨l, rfl⟩ := of_each (f := f) es fun x hx => he x (hall x hx).1 (hall x hx).2
  refine ⟨l, rfl, ?_⟩
  rw [List.length_map] at hl
  unfold maxLen at hl; omega
theorem shp_u8 {d : Nat} {t : TypeId} {as : List AV} (ht : P.underlying t = some (.int .u8)) (h : shp P (d + 1) t as) : ∃ b : UInt8, as = [u8 b] := by
  obtain ⟨i, rfl, hw⟩ := shp_int ht h
  have := bounds_u8 hw
  refine ⟨UInt8.ofNat i.toNat, ?_⟩
  have : ((UInt8.ofNat i.toNat).toNat : Int) = i := by rw [UInt8.toNat_ofNat']; omega
  show _ = [AV.s (.int .u8 _)]
  rw [this]
theorem shp_key {d : Nat} {t u : TypeId} {as : List AV} (ht : P.underlying t = some (.array 16 u)) (hu : P.underlying u = some (.int .u8)) (h : shp P (d + 2) t as) : ∃ k : Key, as = bs k.b := by
  unfold shp at h; rw [ht] at h
  obtain ⟨ps, hl, rfl, hall⟩ := h
  obtain ⟨l, rfl⟩ := of_each (f := fun b => [u8 b]) ps fun p hp => shp_u8 hu (hall p hp)
  refine ⟨⟨l, by simpa using hl⟩, ?_⟩
  show _ = l.map u8
  clear hl hall
  induction l with
  | nil => rfl
  | cons b l ih => simp only [List.map_cons, List.flatten_cons, ih]; rfl
/-- A struct of a key, a text, a truth. -/
theorem shp_wr {d : Nat} {t tk u ts tb : TypeId} {fs : Array Field} {as : List AV} (ht : P.underlying t = some (.struct fs)) (hf : fs.toList.map (·.type) = [tk, ts, tb]) (hk : P.underlying tk = some (.array 16 u)) (hu : P.underlying u = some (.int .u8)) (hs : P.underlying ts = some .string) (hb : P.underlying tb = some .bool)
    (h : shp P (d + 3) t as) : ∃ w : Wr, as = wc w := by
  obtain ⟨a, r, rfl, h1, a2, r2, rfl, h2, a3, r3, rfl, h3, rfl⟩ := shp_struct ht hf h
  obtain ⟨k, rfl⟩ := shp_key hk hu h1
  obtain ⟨l, rfl, _⟩ := shp_str hs h2
  obtain ⟨b, rfl⟩ := shp_bool hb h3
  exact ⟨⟨k, l, b⟩, rfl⟩
end
end Go.AM
