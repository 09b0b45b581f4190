import Derived.Test.YthbiajoionockaaRa
import Derived.Test.YthbiajoionockaaSy
namespace Go.AM
open Go
set_option maxRecDepth 20000
set_option linter.unusedSimpArgs false
set_option linter.unusedVariables false

/-- How many points are not above a key. -/
def cntK (k : Key) : List Key → Nat
  | [] => 0
  | p :: l => (if cmpK p k ≤ 0 then 1 else 0) + cntK k l
def ofK (pts : List Key) (k : Key) : Int := if goodK k then (cntK k pts : Int) else -1

theorem cnt_drop {k : Key} {l : List Key} {i : Nat} (h : i < l.length) : cntK k (l.drop i) = (if cmpK l[i] k ≤ 0 then 1 else 0) + cntK k (l.drop (i + 1)) := by
  rw [List.drop_eq_getElem_cons h]; rfl

set_option maxHeartbeats 2000000 in
theorem Of_spec {C : CallW} (hC : LeC C C) (P : Program) {f1 f2 : FuncId} (hg : BoolK goodK C f1) (hc : KCmp C f2) : ∀ (l : List Key) (k : Key) (h : Nat) S H (K : AV → St → Prop), H[h]? = some (tabA l) → l.length < 9223372036854775807 → K (.i (ofK l k)) ⟨S, H⟩ → runL C P (C_route_Table_Of f1 f2) [.ptr (.heap h) 0, .agg (bs k.b)] ⟨S, H⟩ K := by
  intro l k h S H K hh hl hK
  unfold tabA lstK at hh
  simp only [C_route_Table_Of, RUN_, u_C_route_Table_Of_k1, u_C_route_Table_Of_k2, u_C_route_Table_Of_k3, u_C_route_Table_Of_k4, u_C_route_Table_Of_k5, u_C_route_Table_Of_k6, u_C_route_Table_Of_k7, FR_, Nat.reducePow, Int.reducePow, Nat.reduceAdd, Nat.reduceSub, Nat.reduceMul, Int.reduceToNat, Nat.reduceLeDiff, Nat.reduceEqDiff, Nat.reduceLT, Nat.reduceGT, Int.reduceGT, Int.reduceGE, Int.reduceLT, Int.reduceLE, Int.reduceEq, Int.reduceAdd, Int.reduceSub, Int.reduceNeg, reduceCtorEq, if_true, if_false, ite_true, ite_false, ne_eq, OPK_, KEY_]
  refine hg _ _ _ _ ?_
  by_cases hgk : goodK k = true
  · simp only [RUN_, u_C_route_Table_Of_k1, u_C_route_Table_Of_k2, u_C_route_Table_Of_k3, u_C_route_Table_Of_k4, u_C_route_Table_Of_k5, u_C_route_Table_Of_k6, u_C_route_Table_Of_k7, FR_, Nat.reducePow, Int.reducePow, Nat.reduceAdd, Nat.reduceSub, Nat.reduceMul, Int.reduceToNat, Nat.reduceLeDiff, Nat.reduceEqDiff, Nat.reduceLT, Nat.reduceGT, Int.reduceGT, Int.reduceGE, Int.reduceLT, Int.reduceLE, Int.reduceEq, Int.reduceAdd, Int.reduceSub, Int.reduceNeg, reduceCtorEq, if_true, if_false, ite_true, ite_false, ne_eq, OPK_, KEY_, hgk, hh]
    have hK : K (.i (cntK k l : Nat)) ⟨S, H⟩ := by simpa [ofK, hgk] using hK
    refine loop_rule hC (α := Nat × Nat) (fun a => l.length - a.1) (fun a => [.undef, .undef, .undef, .ptr (.stk S.length) 0, .undef, .s (.int .i64 a.2), .undef, .undef, .undef, .undef, .undef, .undef, .undef, .undef, .list .sh 16 (l.map kA), .s (.int .i64 l.length), .s (.int .i64 a.1), .undef, .undef, .undef, .undef, .undef, .undef, .undef, .undef, .undef, .undef, .undef]) (fun _ => S ++ [bs k.b]) (fun _ => H) (fun a => a.1 ≤ l.length ∧ a.2 ≤ a.1 ∧ cntK k l = a.2 + cntK k (l.drop a.1)) (0, 0) ⟨by simp, by simp, by simp⟩ rfl (by rw [app_take_add]; rfl) rfl (fun i hi => by simp [AV.under, AV.under.go]) ?_
    rintro ⟨i, n⟩ ⟨hi, hn, hinv⟩ ih
    dsimp only at hi hn hinv ih ⊢
    by_cases h16 : i < l.length
    · have h1 : ((i : Int) < (l.length : Int)) := by omega
      have hw : IntKind.i64.wrap ((i : Int) + 1) = ((i + 1 : Nat) : Int) := by rw [wrap_i64 (by omega) (by omega)]; rfl
      have hwn : IntKind.i64.wrap ((n : Int) + 1) = ((n + 1 : Nat) : Int) := by rw [wrap_i64 (by omega) (by omega)]; rfl
      rw [cnt_drop h16] at hinv
      simp only [RUN_, u_C_route_Table_Of_k1, u_C_route_Table_Of_k2, u_C_route_Table_Of_k3, u_C_route_Table_Of_k4, u_C_route_Table_Of_k5, u_C_route_Table_Of_k6, u_C_route_Table_Of_k7, FR_, Nat.reducePow, Int.reducePow, Nat.reduceAdd, Nat.reduceSub, Nat.reduceMul, Int.reduceToNat, Nat.reduceLeDiff, Nat.reduceEqDiff, Nat.reduceLT, Nat.reduceGT, Int.reduceGT, Int.reduceGE, Int.reduceLT, Int.reduceLE, Int.reduceEq, Int.reduceAdd, Int.reduceSub, Int.reduceNeg, reduceCtorEq, if_true, if_false, ite_true, ite_false, ne_eq, OPK_, KEY_, h1, h16]
      refine hc _ _ _ _ _ ?_
      by_cases hx : Lib.compareBytes (l[i]).b k.b ≤ 0
      · rw [if_pos (show cmpK l[i] k ≤ 0 from hx)] at hinv
        simp only [RUN_, u_C_route_Table_Of_k1, u_C_route_Table_Of_k2, u_C_route_Table_Of_k3, u_C_route_Table_Of_k4, u_C_route_Table_Of_k5, u_C_route_Table_Of_k6, u_C_route_Table_Of_k7, FR_, Nat.reducePow, Int.reducePow, Nat.reduceAdd, Nat.reduceSub, Nat.reduceMul, Int.reduceToNat, Nat.reduceLeDiff, Nat.reduceEqDiff, Nat.reduceLT, Nat.reduceGT, Int.reduceGT, Int.reduceGE, Int.reduceLT, Int.reduceLE, Int.reduceEq, Int.reduceAdd, Int.reduceSub, Int.reduceNeg, reduceCtorEq, if_true, if_false, ite_true, ite_false, ne_eq, OPK_, KEY_, hx, hw, hwn]
        exact ih (i + 1, n + 1) _ _ _ (by simp; omega) ⟨by simp; omega, by simp; omega, by simp; omega⟩ rfl (by rw [app_take_add]; rfl) rfl
      · rw [if_neg (show ¬ cmpK l[i] k ≤ 0 from hx)] at hinv
        simp only [RUN_, u_C_route_Table_Of_k1, u_C_route_Table_Of_k2, u_C_route_Table_Of_k3, u_C_route_Table_Of_k4, u_C_route_Table_Of_k5, u_C_route_Table_Of_k6, u_C_route_Table_Of_k7, FR_, Nat.reducePow, Int.reducePow, Nat.reduceAdd, Nat.reduceSub, Nat.reduceMul, Int.reduceToNat, Nat.reduceLeDiff, Nat.reduceEqDiff, Nat.reduceLT, Nat.reduceGT, Int.reduceGT, Int.reduceGE, Int.reduceLT, Int.reduceLE, Int.reduceEq, Int.reduceAdd, Int.reduceSub, Int.reduceNeg, reduceCtorEq, if_true, if_false, ite_true, ite_false, ne_eq, OPK_, KEY_, hx, hw, hwn]
        exact ih (i + 1, n) _ _ _ (by simp; omega) ⟨by simp; omega, by simp; omega, by simp; omega⟩ rfl (by rw [app_take_add]; rfl) rfl
    · have h1 : ¬ ((i : Int) < (l.length : Int)) := by omega
      rw [List.drop_of_length_le (by omega)] at hinv
      have : cntK k l = n := hinv
      simp only [RUN_, u_C_route_Table_Of_k1, u_C_route_Table_Of_k2, u_C_route_Table_Of_k3, u_C_route_Table_Of_k4, u_C_route_Table_Of_k5, u_C_route_Table_Of_k6, u_C_route_Table_Of_k7, FR_, Nat.reducePow, Int.reducePow, Nat.reduceAdd, Nat.reduceSub, Nat.reduceMul, Int.reduceToNat, Nat.reduceLeDiff, Nat.reduceEqDiff, Nat.reduceLT, Nat.reduceGT, Int.reduceGT, Int.reduceGE, Int.reduceLT, Int.reduceLE, Int.reduceEq, Int.reduceAdd, Int.reduceSub, Int.reduceNeg, reduceCtorEq, if_true, if_false, ite_true, ite_false, ne_eq, OPK_, KEY_, h1]
      rw [this] at hK
      exact hK
  · have hgk' : goodK k = false := by simpa using hgk
    simp only [RUN_, u_C_route_Table_Of_k1, u_C_route_Table_Of_k2, u_C_route_Table_Of_k3, u_C_route_Table_Of_k4, u_C_route_Table_Of_k5, u_C_route_Table_Of_k6, u_C_route_Table_Of_k7, FR_, Nat.reducePow, Int.reducePow, Nat.reduceAdd, Nat.reduceSub, Nat.reduceMul, Int.reduceToNat, Nat.reduceLeDiff, Nat.reduceEqDiff, Nat.reduceLT, Nat.reduceGT, Int.reduceGT, Int.reduceGE, Int.reduceLT, Int.reduceLE, Int.reduceEq, Int.reduceAdd, Int.reduceSub, Int.reduceNeg, reduceCtorEq, if_true, if_false, ite_true, ite_false, ne_eq, OPK_, KEY_, hgk']
    simpa [ofK, hgk'] using hK

def okFrom : Option Key → List Key → Bool
  | _, [] => true
  | q, p :: l => goodK p && (match q with | none => true | some q => decide (cmpK q p < 0)) && okFrom (some p) l
def okPts (l : List Key) : Bool := okFrom none l

def prevK (l : List Key) (i : Nat) : Option Key := if i = 0 then none else l[i - 1]?
theorem ok_drop {q : Option Key} {l : List Key} {i : Nat} (h : i < l.length) : okFrom q (l.drop i) = (goodK l[i] && (match q with | none => true | some q => decide (cmpK q l[i] < 0)) && okFrom (some l[i]) (l.drop (i + 1))) := by
  rw [List.drop_eq_getElem_cons h]; rfl

def newA (l : List Key) (H : List HObj) : AV := if okPts l && decide (l.length < 8) then .tup [.ptr (.heap H.length) 0, .i 0] else .tup [.nilP, .i 1]
def newH (l : List Key) (H : List HObj) : List HObj := if okPts l && decide (l.length < 8) then H ++ [tabA l] else H

def CloneS (C : CallW) (f : FuncId) : Prop := ∀ (l : List Key) S H (K : AV → St → Prop), l.length ≤ 1000 → K (lstK l) ⟨S, H⟩ → C (.fn f) [lstK l] ⟨S, H⟩ K

set_option maxHeartbeats 4000000 in
theorem New_spec {C : CallW} (hC : LeC C C) (P : Program) {f1 f2 f3 : FuncId} (hg : BoolK goodK C f1) (hc : KCmp C f2) (hcl : CloneS C f3) : ∀ (l : List Key) S H (K : AV → St → Prop), l.length ≤ 9223372036854775807 → K (newA l H) ⟨S, newH l H⟩ → runL C P (C_route_New f1 f2 f3) [lstK l] ⟨S, H⟩ K := by
  intro l S H K hl hK
  simp only [lstK, C_route_New, RUN_, u_C_route_New_k1, u_C_route_New_k2, u_C_route_New_k3, u_C_route_New_k4, u_C_route_New_k5, u_C_route_New_k6, u_C_route_New_k7, u_C_route_New_k8, u_C_route_New_k9, FR_, Nat.reducePow, Int.reducePow, Nat.reduceAdd, Nat.reduceSub, Nat.reduceMul, Int.reduceToNat, Nat.reduceLeDiff, Nat.reduceEqDiff, Nat.reduceLT, Nat.reduceGT, Int.reduceGT, Int.reduceGE, Int.reduceLT, Int.reduceLE, Int.reduceEq, Int.reduceAdd, Int.reduceSub, Int.reduceNeg, reduceCtorEq, if_true, if_false, ite_true, ite_false, ne_eq, OPK_, KEY_]
  have bad : okPts l = false → K (.tup [.nilP, .i 1]) ⟨S, H⟩ := fun h => by
    unfold newA newH at hK
    rw [h] at hK
    simpa using hK
  refine loop_rule hC (α := Nat) (fun a => l.length - a) (fun a => [.list .sh 16 (l.map kA), .undef, .undef, .undef, .undef, .undef, .list .sh 16 (l.map kA), .s (.int .i64 l.length), .s (.int .i64 a), .undef, .undef, .undef, .undef, .undef, .undef, .undef, .undef, .undef, .undef, .undef, .undef, .undef, .undef, .undef, .undef, .undef, .undef, .undef, .undef, .undef, .undef, .undef, .undef, .undef, .undef, .undef, .undef, .undef]) (fun _ => S) (fun _ => H) (fun i => i ≤ l.length ∧ okPts l = okFrom (prevK l i) (l.drop i)) 0 ⟨by simp, rfl⟩ rfl (by simp) rfl (fun i hi => by simp [AV.under, AV.under.go]) ?_
  rintro i ⟨hi, hinv⟩ ih
  by_cases h16 : i < l.length
  · have h1 : ((i : Int) < (l.length : Int)) := by omega
    have hw : IntKind.i64.wrap ((i : Int) + 1) = ((i + 1 : Nat) : Int) := by rw [wrap_i64 (by omega) (by omega)]; rfl
    rw [ok_drop h16] at hinv
    simp only [RUN_, u_C_route_New_k1, u_C_route_New_k2, u_C_route_New_k3, u_C_route_New_k4, u_C_route_New_k5, u_C_route_New_k6, u_C_route_New_k7, u_C_route_New_k8, u_C_route_New_k9, FR_, Nat.reducePow, Int.reducePow, Nat.reduceAdd, Nat.reduceSub, Nat.reduceMul, Int.reduceToNat, Nat.reduceLeDiff, Nat.reduceEqDiff, Nat.reduceLT, Nat.reduceGT, Int.reduceGT, Int.reduceGE, Int.reduceLT, Int.reduceLE, Int.reduceEq, Int.reduceAdd, Int.reduceSub, Int.reduceNeg, reduceCtorEq, if_true, if_false, ite_true, ite_false, ne_eq, OPK_, KEY_, h1, h16]
    refine hg _ _ _ _ ?_
    cases hgk : goodK l[i] with
    | false =>
      rw [hgk] at hinv
      simp only [RUN_, u_C_route_New_k1, u_C_route_New_k2, u_C_route_New_k3, u_C_route_New_k4, u_C_route_New_k5, u_C_route_New_k6, u_C_route_New_k7, u_C_route_New_k8, u_C_route_New_k9, FR_, Nat.reducePow, Int.reducePow, Nat.reduceAdd, Nat.reduceSub, Nat.reduceMul, Int.reduceToNat, Nat.reduceLeDiff, Nat.reduceEqDiff, Nat.reduceLT, Nat.reduceGT, Int.reduceGT, Int.reduceGE, Int.reduceLT, Int.reduceLE, Int.reduceEq, Int.reduceAdd, Int.reduceSub, Int.reduceNeg, reduceCtorEq, if_true, if_false, ite_true, ite_false, ne_eq, OPK_, KEY_]
      exact bad (by rw [hinv]; rfl)
    | true =>
      rw [hgk, Bool.true_and] at hinv
      by_cases h0 : i = 0
      · have h0' : ¬ ((0 : Int) < (i : Int)) := by omega
        rw [show prevK l i = none from if_pos h0, Bool.true_and] at hinv
        simp only [RUN_, u_C_route_New_k1, u_C_route_New_k2, u_C_route_New_k3, u_C_route_New_k4, u_C_route_New_k5, u_C_route_New_k6, u_C_route_New_k7, u_C_route_New_k8, u_C_route_New_k9, FR_, Nat.reducePow, Int.reducePow, Nat.reduceAdd, Nat.reduceSub, Nat.reduceMul, Int.reduceToNat, Nat.reduceLeDiff, Nat.reduceEqDiff, Nat.reduceLT, Nat.reduceGT, Int.reduceGT, Int.reduceGE, Int.reduceLT, Int.reduceLE, Int.reduceEq, Int.reduceAdd, Int.reduceSub, Int.reduceNeg, reduceCtorEq, if_true, if_false, ite_true, ite_false, ne_eq, OPK_, KEY_, h0', hw]
        refine ih (i + 1) _ _ _ (by omega) ⟨by omega, ?_⟩ rfl (by rw [app_take]) rfl
        rw [hinv]; simp [prevK, h16]
      · have h0' : ((0 : Int) < (i : Int)) := by omega
        have hwp : IntKind.i64.wrap ((i : Int) - 1) = ((i - 1 : Nat) : Int) := by rw [wrap_i64 (by omega) (by omega)]; omega
        have h17 : i - 1 < l.length := by omega
        rw [show prevK l i = some l[i - 1] from (if_neg h0).trans (List.getElem?_eq_getElem h17)] at hinv
        dsimp only at hinv
        simp only [RUN_, u_C_route_New_k1, u_C_route_New_k2, u_C_route_New_k3, u_C_route_New_k4, u_C_route_New_k5, u_C_route_New_k6, u_C_route_New_k7, u_C_route_New_k8, u_C_route_New_k9, FR_, Nat.reducePow, Int.reducePow, Nat.reduceAdd, Nat.reduceSub, Nat.reduceMul, Int.reduceToNat, Nat.reduceLeDiff, Nat.reduceEqDiff, Nat.reduceLT, Nat.reduceGT, Int.reduceGT, Int.reduceGE, Int.reduceLT, Int.reduceLE, Int.reduceEq, Int.reduceAdd, Int.reduceSub, Int.reduceNeg, reduceCtorEq, if_true, if_false, ite_true, ite_false, ne_eq, OPK_, KEY_, h0', hw, hwp, h17]
        refine hc _ _ _ _ _ ?_
        by_cases hx : (0 : Int) ≤ Lib.compareBytes (l[i - 1]).b (l[i]).b
        · simp only [RUN_, u_C_route_New_k1, u_C_route_New_k2, u_C_route_New_k3, u_C_route_New_k4, u_C_route_New_k5, u_C_route_New_k6, u_C_route_New_k7, u_C_route_New_k8, u_C_route_New_k9, FR_, Nat.reducePow, Int.reducePow, Nat.reduceAdd, Nat.reduceSub, Nat.reduceMul, Int.reduceToNat, Nat.reduceLeDiff, Nat.reduceEqDiff, Nat.reduceLT, Nat.reduceGT, Int.reduceGT, Int.reduceGE, Int.reduceLT, Int.reduceLE, Int.reduceEq, Int.reduceAdd, Int.reduceSub, Int.reduceNeg, reduceCtorEq, if_true, if_false, ite_true, ite_false, ne_eq, OPK_, KEY_, hx]
          refine bad ?_
          rw [hinv, decide_eq_false (by unfold cmpK; omega)]; rfl
        · simp only [RUN_, u_C_route_New_k1, u_C_route_New_k2, u_C_route_New_k3, u_C_route_New_k4, u_C_route_New_k5, u_C_route_New_k6, u_C_route_New_k7, u_C_route_New_k8, u_C_route_New_k9, FR_, Nat.reducePow, Int.reducePow, Nat.reduceAdd, Nat.reduceSub, Nat.reduceMul, Int.reduceToNat, Nat.reduceLeDiff, Nat.reduceEqDiff, Nat.reduceLT, Nat.reduceGT, Int.reduceGT, Int.reduceGE, Int.reduceLT, Int.reduceLE, Int.reduceEq, Int.reduceAdd, Int.reduceSub, Int.reduceNeg, reduceCtorEq, if_true, if_false, ite_true, ite_false, ne_eq, OPK_, KEY_, hx, hw]
          refine ih (i + 1) _ _ _ (by omega) ⟨by omega, ?_⟩ rfl (by rw [app_take]) rfl
          rw [hinv, decide_eq_true (show cmpK l[i - 1] l[i] < 0 by unfold cmpK; omega)]; simp [prevK, h16]
  · have h1 : ¬ ((i : Int) < (l.length : Int)) := by omega
    rw [List.drop_of_length_le (by omega)] at hinv
    have hok : okPts l = true := hinv
    by_cases h8 : l.length < 8
    · have h8' : ¬ ((8 : Int) ≤ (l.length : Int)) := by omega
      simp only [RUN_, u_C_route_New_k1, u_C_route_New_k2, u_C_route_New_k3, u_C_route_New_k4, u_C_route_New_k5, u_C_route_New_k6, u_C_route_New_k7, u_C_route_New_k8, u_C_route_New_k9, FR_, Nat.reducePow, Int.reducePow, Nat.reduceAdd, Nat.reduceSub, Nat.reduceMul, Int.reduceToNat, Nat.reduceLeDiff, Nat.reduceEqDiff, Nat.reduceLT, Nat.reduceGT, Int.reduceGT, Int.reduceGE, Int.reduceLT, Int.reduceLE, Int.reduceEq, Int.reduceAdd, Int.reduceSub, Int.reduceNeg, reduceCtorEq, if_true, if_false, ite_true, ite_false, ne_eq, OPK_, KEY_, h1, h8']
      refine hcl l _ _ _ (by omega) ?_
      unfold newA newH at hK
      rw [hok, decide_eq_true h8] at hK
      simp only [RUN_, u_C_route_New_k1, u_C_route_New_k2, u_C_route_New_k3, u_C_route_New_k4, u_C_route_New_k5, u_C_route_New_k6, u_C_route_New_k7, u_C_route_New_k8, u_C_route_New_k9, FR_, Nat.reducePow, Int.reducePow, Nat.reduceAdd, Nat.reduceSub, Nat.reduceMul, Int.reduceToNat, Nat.reduceLeDiff, Nat.reduceEqDiff, Nat.reduceLT, Nat.reduceGT, Int.reduceGT, Int.reduceGE, Int.reduceLT, Int.reduceLE, Int.reduceEq, Int.reduceAdd, Int.reduceSub, Int.reduceNeg, reduceCtorEq, if_true, if_false, ite_true, ite_false, ne_eq, OPK_, KEY_, lstK, fillL]
      exact hK
    · have h8' : ((8 : Int) ≤ (l.length : Int)) := by omega
      simp only [RUN_, u_C_route_New_k1, u_C_route_New_k2, u_C_route_New_k3, u_C_route_New_k4, u_C_route_New_k5, u_C_route_New_k6, u_C_route_New_k7, u_C_route_New_k8, u_C_route_New_k9, FR_, Nat.reducePow, Int.reducePow, Nat.reduceAdd, Nat.reduceSub, Nat.reduceMul, Int.reduceToNat, Nat.reduceLeDiff, Nat.reduceEqDiff, Nat.reduceLT, Nat.reduceGT, Int.reduceGT, Int.reduceGE, Int.reduceLT, Int.reduceLE, Int.reduceEq, Int.reduceAdd, Int.reduceSub, Int.reduceNeg, reduceCtorEq, if_true, if_false, ite_true, ite_false, ne_eq, OPK_, KEY_, h1, h8']
      unfold newA newH at hK
      rw [decide_eq_false h8] at hK
      simpa using hK
end Go.AM
namespace Go.AM
open Go
set_option maxRecDepth 20000
set_option linter.unusedSimpArgs false
set_option linter.unusedVariables false

theorem pad_set {s : List UInt8} {i : Nat} (h : i < s.length) (hs : s.length ≤ 16) : (bs (padB (s.take i))).set i (u8 s[i]) = bs (padB (s.take (i + 1))) := by
  have e : ∀ (t : List UInt8), t.length ≤ 16 → padB t = t ++ List.replicate (16 - t.length) 0 := fun t ht => by unfold padB; rw [List.take_of_length_le ht]
  rw [e _ (by simp; omega), e _ (by simp; omega)]
  have h1 : (s.take i).length = i := by simp; omega
  have h2 : (s.take (i + 1)).length = i + 1 := by simp; omega
  rw [h1, h2, show 16 - i = (16 - (i + 1)) + 1 by omega, List.replicate_succ]
  simp only [bs, List.map_append, List.map_cons]
  rw [List.set_append_right _ _ (by rw [List.length_map, h1]; exact Nat.le_refl _)]
  simp only [List.length_map, h1, Nat.sub_self, List.set_cons_zero]
  rw [List.take_succ_eq_append_getElem h]
  simp only [List.map_append, List.map_cons, List.map_nil, List.append_assoc, List.cons_append, List.nil_append]

def OfR (C : CallW) (f : FuncId) : Prop := ∀ (s : List UInt8) (S : List (List AV)) (H : List HObj) (K : AV → St → Prop), K (.tup [.agg (bs (keyOf s).1.b), .bool (decide ((keyOf s).2 = 0))]) ⟨S, H⟩ → C (.fn f) [.s (.str s)] ⟨S, H⟩ K

set_option maxHeartbeats 2000000 in
theorem ref10_Of_spec {C : CallW} (hC : LeC C C) (P : Program) : ∀ (s : List UInt8) (S : List (List AV)) (H : List HObj) (K : AV → St → Prop), K (.tup [.agg (bs (keyOf s).1.b), .bool (decide ((keyOf s).2 = 0))]) ⟨S, H⟩ → runL C P C_hourglassref10_Of [.s (.str s)] ⟨S, H⟩ K := by
  intro s S H K hK
  have key0l : (bs key0.b).length = 16 := rfl
  have bad : badT s → K (.tup [.agg (bs key0.b), .bool false]) ⟨S, H⟩ := fun h => by
    rw [show keyOf s = (key0, 1) from if_pos h] at hK; exact hK
  by_cases h0 : s.length < 1
  · have h0' : ((s.length : Int) < 1) := by omega
    simp only [C_hourglassref10_Of, RUN_, u_C_hourglassref10_Of_k1, u_C_hourglassref10_Of_k2, u_C_hourglassref10_Of_k3, u_C_hourglassref10_Of_k4, u_C_hourglassref10_Of_k5, u_C_hourglassref10_Of_k6, u_C_hourglassref10_Of_k7, u_C_hourglassref10_Of_k8, u_C_hourglassref10_Of_k9, u_C_hourglassref10_Of_k10, FR_, Nat.reducePow, Int.reducePow, Nat.reduceAdd, Nat.reduceSub, Nat.reduceMul, Int.reduceToNat, Nat.reduceLeDiff, Nat.reduceEqDiff, Nat.reduceLT, Nat.reduceGT, Int.reduceGT, Int.reduceGE, Int.reduceLT, Int.reduceLE, Int.reduceEq, Int.reduceAdd, Int.reduceSub, Int.reduceNeg, reduceCtorEq, if_true, if_false, ite_true, ite_false, ne_eq, OPK_, KEY_, h0']
    exact bad (.inl (List.length_eq_zero_iff.1 (by omega)))
  · have h0' : ¬ ((s.length : Int) < 1) := by omega
    by_cases h1 : 16 < s.length
    · have h1' : (16 : Int) < (s.length : Int) := by omega
      simp only [C_hourglassref10_Of, RUN_, u_C_hourglassref10_Of_k1, u_C_hourglassref10_Of_k2, u_C_hourglassref10_Of_k3, u_C_hourglassref10_Of_k4, u_C_hourglassref10_Of_k5, u_C_hourglassref10_Of_k6, u_C_hourglassref10_Of_k7, u_C_hourglassref10_Of_k8, u_C_hourglassref10_Of_k9, u_C_hourglassref10_Of_k10, FR_, Nat.reducePow, Int.reducePow, Nat.reduceAdd, Nat.reduceSub, Nat.reduceMul, Int.reduceToNat, Nat.reduceLeDiff, Nat.reduceEqDiff, Nat.reduceLT, Nat.reduceGT, Int.reduceGT, Int.reduceGE, Int.reduceLT, Int.reduceLE, Int.reduceEq, Int.reduceAdd, Int.reduceSub, Int.reduceNeg, reduceCtorEq, if_true, if_false, ite_true, ite_false, ne_eq, OPK_, KEY_, h0', h1']
      exact bad (.inr (.inl h1))
    · have h1' : ¬ ((16 : Int) < (s.length : Int)) := by omega
      simp only [C_hourglassref10_Of, RUN_, u_C_hourglassref10_Of_k1, u_C_hourglassref10_Of_k2, u_C_hourglassref10_Of_k3, u_C_hourglassref10_Of_k4, u_C_hourglassref10_Of_k5, u_C_hourglassref10_Of_k6, u_C_hourglassref10_Of_k7, u_C_hourglassref10_Of_k8, u_C_hourglassref10_Of_k9, u_C_hourglassref10_Of_k10, FR_, Nat.reducePow, Int.reducePow, Nat.reduceAdd, Nat.reduceSub, Nat.reduceMul, Int.reduceToNat, Nat.reduceLeDiff, Nat.reduceEqDiff, Nat.reduceLT, Nat.reduceGT, Int.reduceGT, Int.reduceGE, Int.reduceLT, Int.reduceLE, Int.reduceEq, Int.reduceAdd, Int.reduceSub, Int.reduceNeg, reduceCtorEq, if_true, if_false, ite_true, ite_false, ne_eq, OPK_, KEY_, h0', h1']
      refine loop_rule hC (α := Nat) (fun a => s.length - a) (fun a => [.s (.str s), .undef, .ptr (.stk S.length) 0, .undef, .ptr (.stk (S.length + 1)) 0, .s (.int .i64 a), .undef, .undef, .undef, .undef, .undef, .undef, .undef, .undef, .undef, .undef, .undef, .undef, .undef, .undef, .undef, .undef, .undef, .undef, .undef, .undef, .undef, .undef, .undef, .undef, .undef, .undef, .undef]) (fun a => S ++ [bs key0.b, bs (padB (s.take a))]) (fun _ => H) (fun i => i ≤ s.length ∧ ∀ j, (hj : j < i) → (hj' : j < s.length) → s[j] ≠ 0) 0 ⟨by simp, fun j hj => by omega⟩ rfl (by rw [app_take_add]; rfl) rfl (fun i hi => by simp [AV.under, AV.under.go]) ?_
      rintro i ⟨hi, hall⟩ ih
      have hpl : ∀ t, (bs (padB t)).length = 16 := fun t => by rw [bs_length]; exact (padK t).h
      by_cases h16 : i < s.length
      · have hlt : ((i : Int) < (s.length : Int)) := by omega
        have h16' : ((i : Int) < 16) := by omega
        have hge : (0 : Int) ≤ (i : Int) := by omega
        have hw := wrap_succ (i := i) (by omega)
        have hg : s.getD i 0 = s[i] := by simp [List.getD, h16]
        by_cases hz : s[i] = 0
        · simp only [RUN_, u_C_hourglassref10_Of_k1, u_C_hourglassref10_Of_k2, u_C_hourglassref10_Of_k3, u_C_hourglassref10_Of_k4, u_C_hourglassref10_Of_k5, u_C_hourglassref10_Of_k6, u_C_hourglassref10_Of_k7, u_C_hourglassref10_Of_k8, u_C_hourglassref10_Of_k9, u_C_hourglassref10_Of_k10, FR_, Nat.reducePow, Int.reducePow, Nat.reduceAdd, Nat.reduceSub, Nat.reduceMul, Int.reduceToNat, Nat.reduceLeDiff, Nat.reduceEqDiff, Nat.reduceLT, Nat.reduceGT, Int.reduceGT, Int.reduceGE, Int.reduceLT, Int.reduceLE, Int.reduceEq, Int.reduceAdd, Int.reduceSub, Int.reduceNeg, reduceCtorEq, if_true, if_false, ite_true, ite_false, ne_eq, OPK_, KEY_, hlt, hge, hg, hz, UInt8.toNat_zero, hpl]
          exact bad (.inr (.inr (hz ▸ List.getElem_mem h16)))
        · have hz' : ¬ (((s[i]).toNat : Int) = 0) := fun e => hz (u8_zero.1 e)
          have hps := pad_set h16 (by omega)
          have hi16 : i < 16 := by omega
          unfold u8 at hps
          simp only [RUN_, u_C_hourglassref10_Of_k1, u_C_hourglassref10_Of_k2, u_C_hourglassref10_Of_k3, u_C_hourglassref10_Of_k4, u_C_hourglassref10_Of_k5, u_C_hourglassref10_Of_k6, u_C_hourglassref10_Of_k7, u_C_hourglassref10_Of_k8, u_C_hourglassref10_Of_k9, u_C_hourglassref10_Of_k10, FR_, Nat.reducePow, Int.reducePow, Nat.reduceAdd, Nat.reduceSub, Nat.reduceMul, Int.reduceToNat, Nat.reduceLeDiff, Nat.reduceEqDiff, Nat.reduceLT, Nat.reduceGT, Int.reduceGT, Int.reduceGE, Int.reduceLT, Int.reduceLE, Int.reduceEq, Int.reduceAdd, Int.reduceSub, Int.reduceNeg, reduceCtorEq, if_true, if_false, ite_true, ite_false, ne_eq, OPK_, KEY_, hlt, hge, hg, hz', hpl, indexAddrL, h16', hw, Nat.mul_one, hi16, hps]
          exact ih (i + 1) _ _ _ (by omega) ⟨by omega, fun j hj hj' => by
            rcases Nat.lt_or_ge j i with h | h
            · exact hall j h hj'
            · have : j = i := by omega
              subst this; exact hz⟩ rfl (app_take_add _ _ _) rfl
      · have hlt : ¬ ((i : Int) < (s.length : Int)) := by omega
        have hnb : ¬ badT s := by
          rintro (h | h | h)
          · rw [h] at h0; exact h0 (by simp)
          · exact h1 h
          · obtain ⟨j, hj, e⟩ := List.getElem_of_mem h
            exact hall j (by omega) hj e
        have hp : padB (s.take i) = padB s := by rw [List.take_of_length_le (by omega)]
        rw [show keyOf s = (padK s, 0) from if_neg hnb] at hK
        have e2 : (bs (padB s)).take 16 = bs (padB s) := List.take_of_length_le (by rw [hpl]; omega)
        simp only [RUN_, u_C_hourglassref10_Of_k1, u_C_hourglassref10_Of_k2, u_C_hourglassref10_Of_k3, u_C_hourglassref10_Of_k4, u_C_hourglassref10_Of_k5, u_C_hourglassref10_Of_k6, u_C_hourglassref10_Of_k7, u_C_hourglassref10_Of_k8, u_C_hourglassref10_Of_k9, u_C_hourglassref10_Of_k10, FR_, Nat.reducePow, Int.reducePow, Nat.reduceAdd, Nat.reduceSub, Nat.reduceMul, Int.reduceToNat, Nat.reduceLeDiff, Nat.reduceEqDiff, Nat.reduceLT, Nat.reduceGT, Int.reduceGT, Int.reduceGE, Int.reduceLT, Int.reduceLE, Int.reduceEq, Int.reduceAdd, Int.reduceSub, Int.reduceNeg, reduceCtorEq, if_true, if_false, ite_true, ite_false, ne_eq, OPK_, KEY_, hlt, hp, hpl, e2]
        exact hK

def kS (C : CallW) (f : FuncId) : Prop := ∀ (s : List UInt8) (S : List (List AV)) (H : List HObj) (K : AV → St → Prop), K (.agg (bs (keyOf s).1.b)) ⟨S, H⟩ → C (.fn f) [.s (.str s)] ⟨S, H⟩ K

set_option maxHeartbeats 1000000 in
theorem law_k_spec {C : CallW} (hC : LeC C C) (P : Program) {f : FuncId} (hf : OfR C f) : ∀ (s : List UInt8) (S : List (List AV)) (H : List HObj) (K : AV → St → Prop), K (.agg (bs (keyOf s).1.b)) ⟨S, H⟩ → runL C P (C_hourglasslaw17_k f) [.s (.str s)] ⟨S, H⟩ K := by
  intro s S H K hK
  simp only [C_hourglasslaw17_k, RUN_, u_C_hourglasslaw17_k_k1, FR_, Nat.reducePow, Int.reducePow, Nat.reduceAdd, Nat.reduceSub, Nat.reduceMul, Int.reduceToNat, Nat.reduceLeDiff, Nat.reduceEqDiff, Nat.reduceLT, Nat.reduceGT, Int.reduceGT, Int.reduceGE, Int.reduceLT, Int.reduceLE, Int.reduceEq, Int.reduceAdd, Int.reduceSub, Int.reduceNeg, reduceCtorEq, if_true, if_false, ite_true, ite_false, ne_eq, OPK_, KEY_]
  refine hf _ _ _ _ ?_
  simp only [RUN_, u_C_hourglasslaw17_k_k1, FR_, Nat.reducePow, Int.reducePow, Nat.reduceAdd, Nat.reduceSub, Nat.reduceMul, Int.reduceToNat, Nat.reduceLeDiff, Nat.reduceEqDiff, Nat.reduceLT, Nat.reduceGT, Int.reduceGT, Int.reduceGE, Int.reduceLT, Int.reduceLE, Int.reduceEq, Int.reduceAdd, Int.reduceSub, Int.reduceNeg, reduceCtorEq, if_true, if_false, ite_true, ite_false, ne_eq, OPK_, KEY_]
  exact hK
end Go.AM
namespace Go.AM
open Go
set_option maxRecDepth 20000
set_option linter.unusedSimpArgs false
set_option linter.unusedVariables false

def longW (l : List Wr) : Bool := decide (20 < l.length) || l.any fun w => decide (250 < w.val.length)

set_option maxHeartbeats 1000000 in
theorem long_spec {C : CallW} (hC : LeC C C) (P : Program) : ∀ (l : List Wr) S H (K : AV → St → Prop), l.length ≤ 9223372036854775807 → K (.bool (longW l)) ⟨S, H⟩ → runL C P C_hourglasslaw17_long [lstW l] ⟨S, H⟩ K := by
  intro l S H K hl hK
  by_cases h20 : 20 < l.length
  · have h20' : (20 : Int) < (l.length : Int) := by omega
    simp only [lstW, C_hourglasslaw17_long, RUN_, u_C_hourglasslaw17_long_k1, u_C_hourglasslaw17_long_k2, u_C_hourglasslaw17_long_k3, u_C_hourglasslaw17_long_k4, u_C_hourglasslaw17_long_k5, u_C_hourglasslaw17_long_k6, FR_, Nat.reducePow, Int.reducePow, Nat.reduceAdd, Nat.reduceSub, Nat.reduceMul, Int.reduceToNat, Nat.reduceLeDiff, Nat.reduceEqDiff, Nat.reduceLT, Nat.reduceGT, Int.reduceGT, Int.reduceGE, Int.reduceLT, Int.reduceLE, Int.reduceEq, Int.reduceAdd, Int.reduceSub, Int.reduceNeg, reduceCtorEq, if_true, if_false, ite_true, ite_false, ne_eq, OPK_, KEY_, h20']
    rw [show longW l = true by simp [longW, h20]] at hK
    exact hK
  · have h20' : ¬ ((20 : Int) < (l.length : Int)) := by omega
    simp only [lstW, C_hourglasslaw17_long, RUN_, u_C_hourglasslaw17_long_k1, u_C_hourglasslaw17_long_k2, u_C_hourglasslaw17_long_k3, u_C_hourglasslaw17_long_k4, u_C_hourglasslaw17_long_k5, u_C_hourglasslaw17_long_k6, FR_, Nat.reducePow, Int.reducePow, Nat.reduceAdd, Nat.reduceSub, Nat.reduceMul, Int.reduceToNat, Nat.reduceLeDiff, Nat.reduceEqDiff, Nat.reduceLT, Nat.reduceGT, Int.reduceGT, Int.reduceGE, Int.reduceLT, Int.reduceLE, Int.reduceEq, Int.reduceAdd, Int.reduceSub, Int.reduceNeg, reduceCtorEq, if_true, if_false, ite_true, ite_false, ne_eq, OPK_, KEY_, h20']
    rw [show longW l = l.any fun w => decide (250 < w.val.length) by simp [longW, h20]] at hK
    refine loop_rule hC (α := Nat) (fun a => l.length - a) (fun a => [.list .sh 18 (l.map wA), .undef, .undef, .s (.int .i64 a), .undef, .undef, .undef, .undef, .undef, .undef, .undef, .undef, .undef, .undef, .undef, .undef, .undef, .undef, .undef, .undef]) (fun _ => S) (fun _ => H) (fun i => i ≤ l.length ∧ (l.any fun w => decide (250 < w.val.length)) = (l.drop i).any fun w => decide (250 < w.val.length)) 0 ⟨by simp, rfl⟩ rfl (by simp) rfl (fun i hi => by simp [AV.under, AV.under.go]) ?_
    rintro i ⟨hi, hinv⟩ ih
    by_cases h16 : i < l.length
    · have hlt : ((i : Int) < (l.length : Int)) := by omega
      have hw := wrap_succ (i := i) (by omega)
      rw [List.drop_eq_getElem_cons h16, List.any_cons] at hinv
      by_cases hv : 250 < (l[i]).val.length
      · have hv' : (250 : Int) < ((l[i]).val.length : Int) := by omega
        simp only [RUN_, u_C_hourglasslaw17_long_k1, u_C_hourglasslaw17_long_k2, u_C_hourglasslaw17_long_k3, u_C_hourglasslaw17_long_k4, u_C_hourglasslaw17_long_k5, u_C_hourglasslaw17_long_k6, FR_, Nat.reducePow, Int.reducePow, Nat.reduceAdd, Nat.reduceSub, Nat.reduceMul, Int.reduceToNat, Nat.reduceLeDiff, Nat.reduceEqDiff, Nat.reduceLT, Nat.reduceGT, Int.reduceGT, Int.reduceGE, Int.reduceLT, Int.reduceLE, Int.reduceEq, Int.reduceAdd, Int.reduceSub, Int.reduceNeg, reduceCtorEq, if_true, if_false, ite_true, ite_false, ne_eq, OPK_, KEY_, WR_, hlt, h16, hv']
        rw [hinv, decide_eq_true hv, Bool.true_or] at hK
        exact hK
      · have hv' : ¬ ((250 : Int) < ((l[i]).val.length : Int)) := by omega
        rw [decide_eq_false hv, Bool.false_or] at hinv
        simp only [RUN_, u_C_hourglasslaw17_long_k1, u_C_hourglasslaw17_long_k2, u_C_hourglasslaw17_long_k3, u_C_hourglasslaw17_long_k4, u_C_hourglasslaw17_long_k5, u_C_hourglasslaw17_long_k6, FR_, Nat.reducePow, Int.reducePow, Nat.reduceAdd, Nat.reduceSub, Nat.reduceMul, Int.reduceToNat, Nat.reduceLeDiff, Nat.reduceEqDiff, Nat.reduceLT, Nat.reduceGT, Int.reduceGT, Int.reduceGE, Int.reduceLT, Int.reduceLE, Int.reduceEq, Int.reduceAdd, Int.reduceSub, Int.reduceNeg, reduceCtorEq, if_true, if_false, ite_true, ite_false, ne_eq, OPK_, KEY_, WR_, hlt, h16, hv', hw]
        exact ih (i + 1) _ _ _ (by omega) ⟨by omega, hinv⟩ rfl (by simp) rfl
    · have hlt : ¬ ((i : Int) < (l.length : Int)) := by omega
      rw [List.drop_of_length_le (by omega)] at hinv
      rw [hinv] at hK
      simp only [RUN_, u_C_hourglasslaw17_long_k1, u_C_hourglasslaw17_long_k2, u_C_hourglasslaw17_long_k3, u_C_hourglasslaw17_long_k4, u_C_hourglasslaw17_long_k5, u_C_hourglasslaw17_long_k6, FR_, Nat.reducePow, Int.reducePow, Nat.reduceAdd, Nat.reduceSub, Nat.reduceMul, Int.reduceToNat, Nat.reduceLeDiff, Nat.reduceEqDiff, Nat.reduceLT, Nat.reduceGT, Int.reduceGT, Int.reduceGE, Int.reduceLT, Int.reduceLE, Int.reduceEq, Int.reduceAdd, Int.reduceSub, Int.reduceNeg, reduceCtorEq, if_true, if_false, ite_true, ite_false, ne_eq, OPK_, KEY_, hlt]
      exact hK

def NewS (C : CallW) (f : FuncId) : Prop := ∀ (l : List Key) S H (K : AV → St → Prop), l.length ≤ 9223372036854775807 → K (newA l H) ⟨S, newH l H⟩ → C (.fn f) [lstK l] ⟨S, H⟩ K
def TOfS (C : CallW) (f : FuncId) : Prop := ∀ (l : List Key) (k : Key) (h : Nat) S H (K : AV → St → Prop), H[h]? = some (tabA l) → l.length < 9223372036854775807 → K (.i (ofK l k)) ⟨S, H⟩ → C (.fn f) [.ptr (.heap h) 0, .agg (bs k.b)] ⟨S, H⟩ K
def TNodesS (C : CallW) (f : FuncId) : Prop := ∀ (l : List Key) (h : Nat) S H (K : AV → St → Prop), H[h]? = some (tabA l) → l.length < 9223372036854775807 → K (.i ((l.length + 1 : Nat) : Int)) ⟨S, H⟩ → C (.fn f) [.ptr (.heap h) 0] ⟨S, H⟩ K

theorem app_getH (H : List HObj) (o : HObj) : (H ++ [o])[H.length]? = some o := by simp

set_option maxHeartbeats 1000000 in
theorem awake_spec {C : CallW} (hC : LeC C C) (hW : WkC C) (P : Program) {f1 f2 f3 f4 : FuncId} (h1 : kS C f1) (h2 : NewS C f2) (h3 : TOfS C f3) (h4 : TNodesS C f4) : ∀ S H (K : AV → St → Prop), (∀ o, K (.bool true) ⟨S, H ++ [o]⟩) → runL C P (C_hourglasslaw17_awake f1 f2 f3 f4) [] ⟨S, H⟩ K := by
  intro S H K hK
  have e0 : keyOf [109] = (padK [109], 0) := by decide
  have e1 : keyOf [97] = (padK [97], 0) := by decide
  have ek : okPts [padK [109]] = true := by decide
  have eN : newA [padK [109]] H = .tup [.ptr (.heap H.length) 0, .i 0] := by unfold newA; rw [ek]; rfl
  have eH : newH [padK [109]] H = H ++ [tabA [padK [109]]] := by unfold newH; rw [ek]; rfl
  have eo1 : ofK [padK [109]] (padK [97]) = 0 := by decide
  have eo2 : ofK [padK [109]] (padK [109]) = 1 := by decide
  simp only [C_hourglasslaw17_awake, RUN_, u_C_hourglasslaw17_awake_k1, u_C_hourglasslaw17_awake_k2, FR_, Nat.reducePow, Int.reducePow, Nat.reduceAdd, Nat.reduceSub, Nat.reduceMul, Int.reduceToNat, Nat.reduceLeDiff, Nat.reduceEqDiff, Nat.reduceLT, Nat.reduceGT, Int.reduceGT, Int.reduceGE, Int.reduceLT, Int.reduceLE, Int.reduceEq, Int.reduceAdd, Int.reduceSub, Int.reduceNeg, reduceCtorEq, if_true, if_false, ite_true, ite_false, ne_eq, OPK_, KEY_]
  refine h1 _ _ _ _ ?_
  simp only [RUN_, u_C_hourglasslaw17_awake_k1, u_C_hourglasslaw17_awake_k2, FR_, Nat.reducePow, Int.reducePow, Nat.reduceAdd, Nat.reduceSub, Nat.reduceMul, Int.reduceToNat, Nat.reduceLeDiff, Nat.reduceEqDiff, Nat.reduceLT, Nat.reduceGT, Int.reduceGT, Int.reduceGE, Int.reduceLT, Int.reduceLE, Int.reduceEq, Int.reduceAdd, Int.reduceSub, Int.reduceNeg, reduceCtorEq, if_true, if_false, ite_true, ite_false, ne_eq, OPK_, KEY_, bslL, fillE, e0, List.isEmpty_cons, List.isEmpty_nil]
  refine hW _ _ [lstK [padK [109]]] _ _ (.full .nil) ?_
  refine h2 _ _ _ _ (by simp) ?_
  rw [eN, eH]
  simp only [RUN_, u_C_hourglasslaw17_awake_k1, u_C_hourglasslaw17_awake_k2, FR_, Nat.reducePow, Int.reducePow, Nat.reduceAdd, Nat.reduceSub, Nat.reduceMul, Int.reduceToNat, Nat.reduceLeDiff, Nat.reduceEqDiff, Nat.reduceLT, Nat.reduceGT, Int.reduceGT, Int.reduceGE, Int.reduceLT, Int.reduceLE, Int.reduceEq, Int.reduceAdd, Int.reduceSub, Int.reduceNeg, reduceCtorEq, if_true, if_false, ite_true, ite_false, ne_eq, OPK_, KEY_, refEq]
  refine h1 _ _ _ _ ?_
  simp only [RUN_, u_C_hourglasslaw17_awake_k1, u_C_hourglasslaw17_awake_k2, FR_, Nat.reducePow, Int.reducePow, Nat.reduceAdd, Nat.reduceSub, Nat.reduceMul, Int.reduceToNat, Nat.reduceLeDiff, Nat.reduceEqDiff, Nat.reduceLT, Nat.reduceGT, Int.reduceGT, Int.reduceGE, Int.reduceLT, Int.reduceLE, Int.reduceEq, Int.reduceAdd, Int.reduceSub, Int.reduceNeg, reduceCtorEq, if_true, if_false, ite_true, ite_false, ne_eq, OPK_, KEY_, e1]
  refine h3 [padK [109]] _ _ _ _ _ (app_getH _ _) (by simp) ?_
  simp only [RUN_, u_C_hourglasslaw17_awake_k1, u_C_hourglasslaw17_awake_k2, FR_, Nat.reducePow, Int.reducePow, Nat.reduceAdd, Nat.reduceSub, Nat.reduceMul, Int.reduceToNat, Nat.reduceLeDiff, Nat.reduceEqDiff, Nat.reduceLT, Nat.reduceGT, Int.reduceGT, Int.reduceGE, Int.reduceLT, Int.reduceLE, Int.reduceEq, Int.reduceAdd, Int.reduceSub, Int.reduceNeg, reduceCtorEq, if_true, if_false, ite_true, ite_false, ne_eq, OPK_, KEY_, eo1]
  refine h1 _ _ _ _ ?_
  simp only [RUN_, u_C_hourglasslaw17_awake_k1, u_C_hourglasslaw17_awake_k2, FR_, Nat.reducePow, Int.reducePow, Nat.reduceAdd, Nat.reduceSub, Nat.reduceMul, Int.reduceToNat, Nat.reduceLeDiff, Nat.reduceEqDiff, Nat.reduceLT, Nat.reduceGT, Int.reduceGT, Int.reduceGE, Int.reduceLT, Int.reduceLE, Int.reduceEq, Int.reduceAdd, Int.reduceSub, Int.reduceNeg, reduceCtorEq, if_true, if_false, ite_true, ite_false, ne_eq, OPK_, KEY_, e0]
  refine h3 [padK [109]] _ _ _ _ _ (app_getH _ _) (by simp) ?_
  simp only [RUN_, u_C_hourglasslaw17_awake_k1, u_C_hourglasslaw17_awake_k2, FR_, Nat.reducePow, Int.reducePow, Nat.reduceAdd, Nat.reduceSub, Nat.reduceMul, Int.reduceToNat, Nat.reduceLeDiff, Nat.reduceEqDiff, Nat.reduceLT, Nat.reduceGT, Int.reduceGT, Int.reduceGE, Int.reduceLT, Int.reduceLE, Int.reduceEq, Int.reduceAdd, Int.reduceSub, Int.reduceNeg, reduceCtorEq, if_true, if_false, ite_true, ite_false, ne_eq, OPK_, KEY_, eo2]
  refine h4 [padK [109]] _ _ _ _ (app_getH _ _) (by simp) ?_
  simp only [RUN_, u_C_hourglasslaw17_awake_k1, u_C_hourglasslaw17_awake_k2, FR_, Nat.reducePow, Int.reducePow, Nat.reduceAdd, Nat.reduceSub, Nat.reduceMul, Int.reduceToNat, Nat.reduceLeDiff, Nat.reduceEqDiff, Nat.reduceLT, Nat.reduceGT, Int.reduceGT, Int.reduceGE, Int.reduceLT, Int.reduceLE, Int.reduceEq, Int.reduceAdd, Int.reduceSub, Int.reduceNeg, reduceCtorEq, if_true, if_false, ite_true, ite_false, ne_eq, OPK_, KEY_]
  exact hK _
end Go.AM
namespace Go.AM
open Go
set_option maxRecDepth 20000
set_option linter.unusedSimpArgs false
set_option linter.unusedVariables false

def lstI (l : List Nat) : AV := .list .sh 1 (l.map fun (n : Nat) => AV.i n)
theorem slI_wk (l : List Nat) : WkL [(slI l).sh] [lstI l] := by
  unfold slI
  split
  · rename_i h; subst h; exact .nilS (by omega) .nil
  · exact .same .nil
theorem under_slI {n : Nat} {l : List Nat} : AV.under n (slI l) = true := by
  unfold slI; split <;> rfl
theorem app_slI {e : ET} {l : List Nat} {n : Nat} {σ : St} (h1 : e.c = 1) (h2 : e.bytes = 8) (hl : l.length ≤ 1000000) : appendL e false (slI l) (.list .full 1 [.i n]) σ = some (slI (l ++ [n]), σ) := by
  have he : elemsL e (.list .full 1 [.i n]) σ = some [.i n] := by simp [elemsL, h1]
  unfold appendL
  simp only [srcL, AV.isSlice, if_true, he, Option.bind_some, AV.under, AV.under.go, Bool.and_self]
  unfold slI
  by_cases h : l = []
  · subst h
    simp [appItems, h1, h2]
  · rw [if_neg h]
    have : 2 * (l.length + 1) * 8 ≤ 2 ^ 48 := by omega
    simp only [appItems, h1, ne_eq, not_true_eq_false, if_false, List.isEmpty_cons, Bool.false_eq_true, h2, List.length_map, List.length_cons, List.length_nil, Nat.zero_add, this, if_true]
    simp

def aboveK (l : List Key) (a : Key) (i : Nat) : Bool := match l[i]? with
  | some p => decide (0 < cmpK p a)
  | none => true
def belowK (l : List Key) (b : Key) (i : Nat) : Bool := decide (i = 0) || decide (b = key0) || (match l[i - 1]? with
  | some p => decide (cmpK p b < 0)
  | none => true)
def covUp (l : List Key) (a b : Key) (n : Nat) : List Nat := (List.range n).filter fun i => aboveK l a i && belowK l b i
def coverK (l : List Key) (a b : Key) : List Nat := if b ≠ key0 ∧ cmpK b a ≤ 0 then [] else covUp l a b (l.length + 1)
theorem cov_len {l : List Key} {a b : Key} {n : Nat} : (covUp l a b n).length ≤ n := by
  have := List.length_filter_le (fun i => aboveK l a i && belowK l b i) (List.range n)
  simpa [covUp] using this
theorem cov_succ {l : List Key} {a b : Key} {n : Nat} : covUp l a b (n + 1) = covUp l a b n ++ (if aboveK l a n && belowK l b n then [n] else []) := by
  unfold covUp
  rw [List.range_succ, List.filter_append]
  congr 1
  rw [List.filter_cons, List.filter_nil]

set_option maxHeartbeats 8000000 in
theorem Cover_spec {C : CallW} (hC : LeC C C) (P : Program) {f1 f2 : FuncId} (hc : KCmp C f1) (hn : TNodesS C f2) : ∀ (l : List Key) (a b : Key) (h : Nat) S H (K : AV → St → Prop), H[h]? = some (tabA l) → l.length ≤ 1000 → K (slI (coverK l a b)) ⟨S, H⟩ → runL C P (C_route_Table_Cover f1 f2) [.ptr (.heap h) 0, .agg (bs a.b), .agg (bs b.b)] ⟨S, H⟩ K := by
  intro l a b h S H K hh hl hK
  have hh' := hh
  unfold tabA lstK at hh'
  by_cases hb : b = key0
  · subst hb
    have hcv : coverK l a key0 = covUp l a key0 (l.length + 1) := if_neg fun h => h.1 rfl
    simp only [C_route_Table_Cover, RUN_, u_C_route_Table_Cover_k1, u_C_route_Table_Cover_k2, u_C_route_Table_Cover_k3, u_C_route_Table_Cover_k4, u_C_route_Table_Cover_k5, u_C_route_Table_Cover_k6, u_C_route_Table_Cover_k7, u_C_route_Table_Cover_k8, u_C_route_Table_Cover_k9, u_C_route_Table_Cover_k10, FR_, Nat.reducePow, Int.reducePow, Nat.reduceAdd, Nat.reduceSub, Nat.reduceMul, Int.reduceToNat, Nat.reduceLeDiff, Nat.reduceEqDiff, Nat.reduceLT, Nat.reduceGT, Int.reduceGT, Int.reduceGE, Int.reduceLT, Int.reduceLE, Int.reduceEq, Int.reduceAdd, Int.reduceSub, Int.reduceNeg, reduceCtorEq, if_true, if_false, ite_true, ite_false, ne_eq, OPK_, KEY_]
    refine hn l _ _ _ _ hh (by omega) ?_
    simp only [RUN_, u_C_route_Table_Cover_k1, u_C_route_Table_Cover_k2, u_C_route_Table_Cover_k3, u_C_route_Table_Cover_k4, u_C_route_Table_Cover_k5, u_C_route_Table_Cover_k6, u_C_route_Table_Cover_k7, u_C_route_Table_Cover_k8, u_C_route_Table_Cover_k9, u_C_route_Table_Cover_k10, FR_, Nat.reducePow, Int.reducePow, Nat.reduceAdd, Nat.reduceSub, Nat.reduceMul, Int.reduceToNat, Nat.reduceLeDiff, Nat.reduceEqDiff, Nat.reduceLT, Nat.reduceGT, Int.reduceGT, Int.reduceGE, Int.reduceLT, Int.reduceLE, Int.reduceEq, Int.reduceAdd, Int.reduceSub, Int.reduceNeg, reduceCtorEq, if_true, if_false, ite_true, ite_false, ne_eq, OPK_, KEY_]
    refine loop_rule hC (α := Nat) (fun i => l.length + 1 - i) (fun i => [.ptr (.heap h) 0, .undef, .undef, .undef, .ptr (.stk S.length) 0, .ptr (.stk (S.length + 1)) 0, .undef, .s (.bool true), slI (covUp l a key0 i), .undef, .undef, .undef, .undef, .undef, .undef, .undef, .undef, .undef, .undef, .undef, .undef, .undef, .undef, .undef, .i ((l.length + 1 : Nat) : Int), .s (.int .i64 i), .undef, .undef, .undef, .undef, .undef, .undef, .undef, .undef, .undef, .undef, .undef, .undef, .undef, .undef, .undef, .undef, .undef, .undef, .undef, .undef, .undef, .undef, .undef, .undef, .undef, .undef, .undef, .undef, .undef, .undef, .undef, .undef, .undef, .undef, .undef, .undef, .undef, .undef, .undef, .undef, .undef, .undef, .undef, .undef, .undef, .undef, .undef, .undef, .undef]) (fun _ => S ++ [bs a.b, bs key0.b]) (fun _ => H) (fun i => i ≤ l.length + 1) 0 (by simp) rfl (by rw [app_take_add]; rfl) rfl (fun i hi => by simp [AV.under, AV.under.go, under_slI]) ?_
    intro i hi ih
    by_cases h16 : i < l.length + 1
    · have hlt : ((i : Int) < ((l.length + 1 : Nat) : Int)) := by omega
      have hge : (0 : Int) ≤ (i : Int) := by omega
      have hw := wrap_succ (i := i) (by omega)
      have hcl := cov_len (l := l) (a := a) (b := key0) (n := i)
      have happ : ∀ (e : ET) (σ : St), e.c = 1 → e.bytes = 8 → appendL e false (slI (covUp l a key0 i)) (.list .full 1 [.i i]) σ = some (slI (covUp l a key0 i ++ [i]), σ) := fun e σ h1 h2 => app_slI h1 h2 (by omega)
      have habove : aboveK l a i = (if hx : i < l.length then decide (0 < Lib.compareBytes (l[i]).b a.b) else true) := by
        unfold aboveK
        by_cases hx : i < l.length
        · simp [hx, cmpK] <;> rfl
        · simp [hx]
      have hbelow : belowK l key0 i = (if hx : 0 < i then true || decide (Lib.compareBytes (l[i - 1]'(by omega)).b key0.b < 0) else true) := by
        unfold belowK
        by_cases hx : 0 < i
        · have h17 : i - 1 < l.length := by omega
          have hne : ¬ i = 0 := by omega
          simp [hx, hne, cmpK, h17] <;> rfl
        · have : i = 0 := by omega
          simp [hx, this]
      have hs := cov_succ (l := l) (a := a) (b := key0) (n := i)
      by_cases hil : i < l.length
      · have hil' : ¬ ((i : Int) = (l.length : Int)) := by omega
        simp only [RUN_, u_C_route_Table_Cover_k1, u_C_route_Table_Cover_k2, u_C_route_Table_Cover_k3, u_C_route_Table_Cover_k4, u_C_route_Table_Cover_k5, u_C_route_Table_Cover_k6, u_C_route_Table_Cover_k7, u_C_route_Table_Cover_k8, u_C_route_Table_Cover_k9, u_C_route_Table_Cover_k10, FR_, Nat.reducePow, Int.reducePow, Nat.reduceAdd, Nat.reduceSub, Nat.reduceMul, Int.reduceToNat, Nat.reduceLeDiff, Nat.reduceEqDiff, Nat.reduceLT, Nat.reduceGT, Int.reduceGT, Int.reduceGE, Int.reduceLT, Int.reduceLE, Int.reduceEq, Int.reduceAdd, Int.reduceSub, Int.reduceNeg, reduceCtorEq, if_true, if_false, ite_true, ite_false, ne_eq, OPK_, KEY_, hlt, hh', hil', hil]
        refine hc _ _ _ _ _ ?_
        by_cases hx : 0 < Lib.compareBytes (l[i]).b a.b
        · simp only [RUN_, u_C_route_Table_Cover_k1, u_C_route_Table_Cover_k2, u_C_route_Table_Cover_k3, u_C_route_Table_Cover_k4, u_C_route_Table_Cover_k5, u_C_route_Table_Cover_k6, u_C_route_Table_Cover_k7, u_C_route_Table_Cover_k8, u_C_route_Table_Cover_k9, u_C_route_Table_Cover_k10, FR_, Nat.reducePow, Int.reducePow, Nat.reduceAdd, Nat.reduceSub, Nat.reduceMul, Int.reduceToNat, Nat.reduceLeDiff, Nat.reduceEqDiff, Nat.reduceLT, Nat.reduceGT, Int.reduceGT, Int.reduceGE, Int.reduceLT, Int.reduceLE, Int.reduceEq, Int.reduceAdd, Int.reduceSub, Int.reduceNeg, reduceCtorEq, if_true, if_false, ite_true, ite_false, ne_eq, OPK_, KEY_, hx]
          by_cases h0 : i = 0
          · have h0' : (((i : Int) = 0) = True) := eq_true (by omega)
            have h00 : ¬ (0 < i) := by omega
            simp only [RUN_, u_C_route_Table_Cover_k1, u_C_route_Table_Cover_k2, u_C_route_Table_Cover_k3, u_C_route_Table_Cover_k4, u_C_route_Table_Cover_k5, u_C_route_Table_Cover_k6, u_C_route_Table_Cover_k7, u_C_route_Table_Cover_k8, u_C_route_Table_Cover_k9, u_C_route_Table_Cover_k10, FR_, Nat.reducePow, Int.reducePow, Nat.reduceAdd, Nat.reduceSub, Nat.reduceMul, Int.reduceToNat, Nat.reduceLeDiff, Nat.reduceEqDiff, Nat.reduceLT, Nat.reduceGT, Int.reduceGT, Int.reduceGE, Int.reduceLT, Int.reduceLE, Int.reduceEq, Int.reduceAdd, Int.reduceSub, Int.reduceNeg, reduceCtorEq, if_true, if_false, ite_true, ite_false, ne_eq, OPK_, KEY_, h0']
            have hs1 : covUp l a key0 (i + 1) = covUp l a key0 i ++ [i] := by rw [hs, habove, hbelow]; simp [hil, hx, h00]
            have ih1 := ih (i + 1)
            rw [hs1] at ih1
            try simp only [RUN_, u_C_route_Table_Cover_k1, u_C_route_Table_Cover_k2, u_C_route_Table_Cover_k3, u_C_route_Table_Cover_k4, u_C_route_Table_Cover_k5, u_C_route_Table_Cover_k6, u_C_route_Table_Cover_k7, u_C_route_Table_Cover_k8, u_C_route_Table_Cover_k9, u_C_route_Table_Cover_k10, FR_, Nat.reducePow, Int.reducePow, Nat.reduceAdd, Nat.reduceSub, Nat.reduceMul, Int.reduceToNat, Nat.reduceLeDiff, Nat.reduceEqDiff, Nat.reduceLT, Nat.reduceGT, Int.reduceGT, Int.reduceGE, Int.reduceLT, Int.reduceLE, Int.reduceEq, Int.reduceAdd, Int.reduceSub, Int.reduceNeg, reduceCtorEq, if_true, if_false, ite_true, ite_false, ne_eq, OPK_, KEY_, happ, hw]
            exact ih1 _ _ _ (by omega) (by omega) rfl (app_take_add _ _ _) rfl
          · have h0' : ¬ ((i : Int) = 0) := by omega
            have h00 : 0 < i := by omega
            simp only [RUN_, u_C_route_Table_Cover_k1, u_C_route_Table_Cover_k2, u_C_route_Table_Cover_k3, u_C_route_Table_Cover_k4, u_C_route_Table_Cover_k5, u_C_route_Table_Cover_k6, u_C_route_Table_Cover_k7, u_C_route_Table_Cover_k8, u_C_route_Table_Cover_k9, u_C_route_Table_Cover_k10, FR_, Nat.reducePow, Int.reducePow, Nat.reduceAdd, Nat.reduceSub, Nat.reduceMul, Int.reduceToNat, Nat.reduceLeDiff, Nat.reduceEqDiff, Nat.reduceLT, Nat.reduceGT, Int.reduceGT, Int.reduceGE, Int.reduceLT, Int.reduceLE, Int.reduceEq, Int.reduceAdd, Int.reduceSub, Int.reduceNeg, reduceCtorEq, if_true, if_false, ite_true, ite_false, ne_eq, OPK_, KEY_, h0']
            have hs1 : covUp l a key0 (i + 1) = covUp l a key0 i ++ [i] := by rw [hs, habove, hbelow]; simp [hil, hx, h00]
            have ih1 := ih (i + 1)
            rw [hs1] at ih1
            try simp only [RUN_, u_C_route_Table_Cover_k1, u_C_route_Table_Cover_k2, u_C_route_Table_Cover_k3, u_C_route_Table_Cover_k4, u_C_route_Table_Cover_k5, u_C_route_Table_Cover_k6, u_C_route_Table_Cover_k7, u_C_route_Table_Cover_k8, u_C_route_Table_Cover_k9, u_C_route_Table_Cover_k10, FR_, Nat.reducePow, Int.reducePow, Nat.reduceAdd, Nat.reduceSub, Nat.reduceMul, Int.reduceToNat, Nat.reduceLeDiff, Nat.reduceEqDiff, Nat.reduceLT, Nat.reduceGT, Int.reduceGT, Int.reduceGE, Int.reduceLT, Int.reduceLE, Int.reduceEq, Int.reduceAdd, Int.reduceSub, Int.reduceNeg, reduceCtorEq, if_true, if_false, ite_true, ite_false, ne_eq, OPK_, KEY_, happ, hw]
            exact ih1 _ _ _ (by omega) (by omega) rfl (app_take_add _ _ _) rfl
        · simp only [RUN_, u_C_route_Table_Cover_k1, u_C_route_Table_Cover_k2, u_C_route_Table_Cover_k3, u_C_route_Table_Cover_k4, u_C_route_Table_Cover_k5, u_C_route_Table_Cover_k6, u_C_route_Table_Cover_k7, u_C_route_Table_Cover_k8, u_C_route_Table_Cover_k9, u_C_route_Table_Cover_k10, FR_, Nat.reducePow, Int.reducePow, Nat.reduceAdd, Nat.reduceSub, Nat.reduceMul, Int.reduceToNat, Nat.reduceLeDiff, Nat.reduceEqDiff, Nat.reduceLT, Nat.reduceGT, Int.reduceGT, Int.reduceGE, Int.reduceLT, Int.reduceLE, Int.reduceEq, Int.reduceAdd, Int.reduceSub, Int.reduceNeg, reduceCtorEq, if_true, if_false, ite_true, ite_false, ne_eq, OPK_, KEY_, hx]
          by_cases h0 : i = 0
          · have h0' : (((i : Int) = 0) = True) := eq_true (by omega)
            have h00 : ¬ (0 < i) := by omega
            simp only [RUN_, u_C_route_Table_Cover_k1, u_C_route_Table_Cover_k2, u_C_route_Table_Cover_k3, u_C_route_Table_Cover_k4, u_C_route_Table_Cover_k5, u_C_route_Table_Cover_k6, u_C_route_Table_Cover_k7, u_C_route_Table_Cover_k8, u_C_route_Table_Cover_k9, u_C_route_Table_Cover_k10, FR_, Nat.reducePow, Int.reducePow, Nat.reduceAdd, Nat.reduceSub, Nat.reduceMul, Int.reduceToNat, Nat.reduceLeDiff, Nat.reduceEqDiff, Nat.reduceLT, Nat.reduceGT, Int.reduceGT, Int.reduceGE, Int.reduceLT, Int.reduceLE, Int.reduceEq, Int.reduceAdd, Int.reduceSub, Int.reduceNeg, reduceCtorEq, if_true, if_false, ite_true, ite_false, ne_eq, OPK_, KEY_, h0']
            have hs1 : covUp l a key0 (i + 1) = covUp l a key0 i := by rw [hs, habove, hbelow]; simp [hil, hx, h00]
            have ih1 := ih (i + 1)
            rw [hs1] at ih1
            try simp only [RUN_, u_C_route_Table_Cover_k1, u_C_route_Table_Cover_k2, u_C_route_Table_Cover_k3, u_C_route_Table_Cover_k4, u_C_route_Table_Cover_k5, u_C_route_Table_Cover_k6, u_C_route_Table_Cover_k7, u_C_route_Table_Cover_k8, u_C_route_Table_Cover_k9, u_C_route_Table_Cover_k10, FR_, Nat.reducePow, Int.reducePow, Nat.reduceAdd, Nat.reduceSub, Nat.reduceMul, Int.reduceToNat, Nat.reduceLeDiff, Nat.reduceEqDiff, Nat.reduceLT, Nat.reduceGT, Int.reduceGT, Int.reduceGE, Int.reduceLT, Int.reduceLE, Int.reduceEq, Int.reduceAdd, Int.reduceSub, Int.reduceNeg, reduceCtorEq, if_true, if_false, ite_true, ite_false, ne_eq, OPK_, KEY_, happ, hw]
            exact ih1 _ _ _ (by omega) (by omega) rfl (app_take_add _ _ _) rfl
          · have h0' : ¬ ((i : Int) = 0) := by omega
            have h00 : 0 < i := by omega
            simp only [RUN_, u_C_route_Table_Cover_k1, u_C_route_Table_Cover_k2, u_C_route_Table_Cover_k3, u_C_route_Table_Cover_k4, u_C_route_Table_Cover_k5, u_C_route_Table_Cover_k6, u_C_route_Table_Cover_k7, u_C_route_Table_Cover_k8, u_C_route_Table_Cover_k9, u_C_route_Table_Cover_k10, FR_, Nat.reducePow, Int.reducePow, Nat.reduceAdd, Nat.reduceSub, Nat.reduceMul, Int.reduceToNat, Nat.reduceLeDiff, Nat.reduceEqDiff, Nat.reduceLT, Nat.reduceGT, Int.reduceGT, Int.reduceGE, Int.reduceLT, Int.reduceLE, Int.reduceEq, Int.reduceAdd, Int.reduceSub, Int.reduceNeg, reduceCtorEq, if_true, if_false, ite_true, ite_false, ne_eq, OPK_, KEY_, h0']
            have hs1 : covUp l a key0 (i + 1) = covUp l a key0 i := by rw [hs, habove, hbelow]; simp [hil, hx, h00]
            have ih1 := ih (i + 1)
            rw [hs1] at ih1
            try simp only [RUN_, u_C_route_Table_Cover_k1, u_C_route_Table_Cover_k2, u_C_route_Table_Cover_k3, u_C_route_Table_Cover_k4, u_C_route_Table_Cover_k5, u_C_route_Table_Cover_k6, u_C_route_Table_Cover_k7, u_C_route_Table_Cover_k8, u_C_route_Table_Cover_k9, u_C_route_Table_Cover_k10, FR_, Nat.reducePow, Int.reducePow, Nat.reduceAdd, Nat.reduceSub, Nat.reduceMul, Int.reduceToNat, Nat.reduceLeDiff, Nat.reduceEqDiff, Nat.reduceLT, Nat.reduceGT, Int.reduceGT, Int.reduceGE, Int.reduceLT, Int.reduceLE, Int.reduceEq, Int.reduceAdd, Int.reduceSub, Int.reduceNeg, reduceCtorEq, if_true, if_false, ite_true, ite_false, ne_eq, OPK_, KEY_, happ, hw]
            exact ih1 _ _ _ (by omega) (by omega) rfl (app_take_add _ _ _) rfl
      · have hil' : (((i : Int) = (l.length : Int)) = True) := eq_true (by omega)
        simp only [RUN_, u_C_route_Table_Cover_k1, u_C_route_Table_Cover_k2, u_C_route_Table_Cover_k3, u_C_route_Table_Cover_k4, u_C_route_Table_Cover_k5, u_C_route_Table_Cover_k6, u_C_route_Table_Cover_k7, u_C_route_Table_Cover_k8, u_C_route_Table_Cover_k9, u_C_route_Table_Cover_k10, FR_, Nat.reducePow, Int.reducePow, Nat.reduceAdd, Nat.reduceSub, Nat.reduceMul, Int.reduceToNat, Nat.reduceLeDiff, Nat.reduceEqDiff, Nat.reduceLT, Nat.reduceGT, Int.reduceGT, Int.reduceGE, Int.reduceLT, Int.reduceLE, Int.reduceEq, Int.reduceAdd, Int.reduceSub, Int.reduceNeg, reduceCtorEq, if_true, if_false, ite_true, ite_false, ne_eq, OPK_, KEY_, hlt, hh', hil']
        by_cases h0 : i = 0
        · have h0' : (((i : Int) = 0) = True) := eq_true (by omega)
          have h00 : ¬ (0 < i) := by omega
          simp only [RUN_, u_C_route_Table_Cover_k1, u_C_route_Table_Cover_k2, u_C_route_Table_Cover_k3, u_C_route_Table_Cover_k4, u_C_route_Table_Cover_k5, u_C_route_Table_Cover_k6, u_C_route_Table_Cover_k7, u_C_route_Table_Cover_k8, u_C_route_Table_Cover_k9, u_C_route_Table_Cover_k10, FR_, Nat.reducePow, Int.reducePow, Nat.reduceAdd, Nat.reduceSub, Nat.reduceMul, Int.reduceToNat, Nat.reduceLeDiff, Nat.reduceEqDiff, Nat.reduceLT, Nat.reduceGT, Int.reduceGT, Int.reduceGE, Int.reduceLT, Int.reduceLE, Int.reduceEq, Int.reduceAdd, Int.reduceSub, Int.reduceNeg, reduceCtorEq, if_true, if_false, ite_true, ite_false, ne_eq, OPK_, KEY_, h0']
          have hs1 : covUp l a key0 (i + 1) = covUp l a key0 i ++ [i] := by rw [hs, habove, hbelow]; simp [hil, h00]
          have ih1 := ih (i + 1)
          rw [hs1] at ih1
          try simp only [RUN_, u_C_route_Table_Cover_k1, u_C_route_Table_Cover_k2, u_C_route_Table_Cover_k3, u_C_route_Table_Cover_k4, u_C_route_Table_Cover_k5, u_C_route_Table_Cover_k6, u_C_route_Table_Cover_k7, u_C_route_Table_Cover_k8, u_C_route_Table_Cover_k9, u_C_route_Table_Cover_k10, FR_, Nat.reducePow, Int.reducePow, Nat.reduceAdd, Nat.reduceSub, Nat.reduceMul, Int.reduceToNat, Nat.reduceLeDiff, Nat.reduceEqDiff, Nat.reduceLT, Nat.reduceGT, Int.reduceGT, Int.reduceGE, Int.reduceLT, Int.reduceLE, Int.reduceEq, Int.reduceAdd, Int.reduceSub, Int.reduceNeg, reduceCtorEq, if_true, if_false, ite_true, ite_false, ne_eq, OPK_, KEY_, happ, hw]
          exact ih1 _ _ _ (by omega) (by omega) rfl (app_take_add _ _ _) rfl
        · have h0' : ¬ ((i : Int) = 0) := by omega
          have h00 : 0 < i := by omega
          simp only [RUN_, u_C_route_Table_Cover_k1, u_C_route_Table_Cover_k2, u_C_route_Table_Cover_k3, u_C_route_Table_Cover_k4, u_C_route_Table_Cover_k5, u_C_route_Table_Cover_k6, u_C_route_Table_Cover_k7, u_C_route_Table_Cover_k8, u_C_route_Table_Cover_k9, u_C_route_Table_Cover_k10, FR_, Nat.reducePow, Int.reducePow, Nat.reduceAdd, Nat.reduceSub, Nat.reduceMul, Int.reduceToNat, Nat.reduceLeDiff, Nat.reduceEqDiff, Nat.reduceLT, Nat.reduceGT, Int.reduceGT, Int.reduceGE, Int.reduceLT, Int.reduceLE, Int.reduceEq, Int.reduceAdd, Int.reduceSub, Int.reduceNeg, reduceCtorEq, if_true, if_false, ite_true, ite_false, ne_eq, OPK_, KEY_, h0']
          have hs1 : covUp l a key0 (i + 1) = covUp l a key0 i ++ [i] := by rw [hs, habove, hbelow]; simp [hil, h00]
          have ih1 := ih (i + 1)
          rw [hs1] at ih1
          try simp only [RUN_, u_C_route_Table_Cover_k1, u_C_route_Table_Cover_k2, u_C_route_Table_Cover_k3, u_C_route_Table_Cover_k4, u_C_route_Table_Cover_k5, u_C_route_Table_Cover_k6, u_C_route_Table_Cover_k7, u_C_route_Table_Cover_k8, u_C_route_Table_Cover_k9, u_C_route_Table_Cover_k10, FR_, Nat.reducePow, Int.reducePow, Nat.reduceAdd, Nat.reduceSub, Nat.reduceMul, Int.reduceToNat, Nat.reduceLeDiff, Nat.reduceEqDiff, Nat.reduceLT, Nat.reduceGT, Int.reduceGT, Int.reduceGE, Int.reduceLT, Int.reduceLE, Int.reduceEq, Int.reduceAdd, Int.reduceSub, Int.reduceNeg, reduceCtorEq, if_true, if_false, ite_true, ite_false, ne_eq, OPK_, KEY_, happ, hw]
          exact ih1 _ _ _ (by omega) (by omega) rfl (app_take_add _ _ _) rfl
    · have hlt : ¬ ((i : Int) < ((l.length + 1 : Nat) : Int)) := by omega
      have hi' : i = l.length + 1 := by omega
      subst hi'
      rw [hcv] at hK
      simp only [RUN_, u_C_route_Table_Cover_k1, u_C_route_Table_Cover_k2, u_C_route_Table_Cover_k3, u_C_route_Table_Cover_k4, u_C_route_Table_Cover_k5, u_C_route_Table_Cover_k6, u_C_route_Table_Cover_k7, u_C_route_Table_Cover_k8, u_C_route_Table_Cover_k9, u_C_route_Table_Cover_k10, FR_, Nat.reducePow, Int.reducePow, Nat.reduceAdd, Nat.reduceSub, Nat.reduceMul, Int.reduceToNat, Nat.reduceLeDiff, Nat.reduceEqDiff, Nat.reduceLT, Nat.reduceGT, Int.reduceGT, Int.reduceGE, Int.reduceLT, Int.reduceLE, Int.reduceEq, Int.reduceAdd, Int.reduceSub, Int.reduceNeg, reduceCtorEq, if_true, if_false, ite_true, ite_false, ne_eq, OPK_, KEY_, hlt, under_slI]
      exact hK
  · simp only [C_route_Table_Cover, RUN_, u_C_route_Table_Cover_k1, u_C_route_Table_Cover_k2, u_C_route_Table_Cover_k3, u_C_route_Table_Cover_k4, u_C_route_Table_Cover_k5, u_C_route_Table_Cover_k6, u_C_route_Table_Cover_k7, u_C_route_Table_Cover_k8, u_C_route_Table_Cover_k9, u_C_route_Table_Cover_k10, FR_, Nat.reducePow, Int.reducePow, Nat.reduceAdd, Nat.reduceSub, Nat.reduceMul, Int.reduceToNat, Nat.reduceLeDiff, Nat.reduceEqDiff, Nat.reduceLT, Nat.reduceGT, Int.reduceGT, Int.reduceGE, Int.reduceLT, Int.reduceLE, Int.reduceEq, Int.reduceAdd, Int.reduceSub, Int.reduceNeg, reduceCtorEq, if_true, if_false, ite_true, ite_false, ne_eq, OPK_, KEY_, hb]
    refine hc _ _ _ _ _ ?_
    by_cases hba : Lib.compareBytes b.b a.b ≤ 0
    · have hcv : coverK l a b = [] := if_pos ⟨hb, hba⟩
      rw [hcv] at hK
      simp only [RUN_, u_C_route_Table_Cover_k1, u_C_route_Table_Cover_k2, u_C_route_Table_Cover_k3, u_C_route_Table_Cover_k4, u_C_route_Table_Cover_k5, u_C_route_Table_Cover_k6, u_C_route_Table_Cover_k7, u_C_route_Table_Cover_k8, u_C_route_Table_Cover_k9, u_C_route_Table_Cover_k10, FR_, Nat.reducePow, Int.reducePow, Nat.reduceAdd, Nat.reduceSub, Nat.reduceMul, Int.reduceToNat, Nat.reduceLeDiff, Nat.reduceEqDiff, Nat.reduceLT, Nat.reduceGT, Int.reduceGT, Int.reduceGE, Int.reduceLT, Int.reduceLE, Int.reduceEq, Int.reduceAdd, Int.reduceSub, Int.reduceNeg, reduceCtorEq, if_true, if_false, ite_true, ite_false, ne_eq, OPK_, KEY_, hba]
      exact hK
    · have hcv : coverK l a b = covUp l a b (l.length + 1) := if_neg fun h => hba h.2
      simp only [RUN_, u_C_route_Table_Cover_k1, u_C_route_Table_Cover_k2, u_C_route_Table_Cover_k3, u_C_route_Table_Cover_k4, u_C_route_Table_Cover_k5, u_C_route_Table_Cover_k6, u_C_route_Table_Cover_k7, u_C_route_Table_Cover_k8, u_C_route_Table_Cover_k9, u_C_route_Table_Cover_k10, FR_, Nat.reducePow, Int.reducePow, Nat.reduceAdd, Nat.reduceSub, Nat.reduceMul, Int.reduceToNat, Nat.reduceLeDiff, Nat.reduceEqDiff, Nat.reduceLT, Nat.reduceGT, Int.reduceGT, Int.reduceGE, Int.reduceLT, Int.reduceLE, Int.reduceEq, Int.reduceAdd, Int.reduceSub, Int.reduceNeg, reduceCtorEq, if_true, if_false, ite_true, ite_false, ne_eq, OPK_, KEY_, hba]
      refine hn l _ _ _ _ hh (by omega) ?_
      simp only [RUN_, u_C_route_Table_Cover_k1, u_C_route_Table_Cover_k2, u_C_route_Table_Cover_k3, u_C_route_Table_Cover_k4, u_C_route_Table_Cover_k5, u_C_route_Table_Cover_k6, u_C_route_Table_Cover_k7, u_C_route_Table_Cover_k8, u_C_route_Table_Cover_k9, u_C_route_Table_Cover_k10, FR_, Nat.reducePow, Int.reducePow, Nat.reduceAdd, Nat.reduceSub, Nat.reduceMul, Int.reduceToNat, Nat.reduceLeDiff, Nat.reduceEqDiff, Nat.reduceLT, Nat.reduceGT, Int.reduceGT, Int.reduceGE, Int.reduceLT, Int.reduceLE, Int.reduceEq, Int.reduceAdd, Int.reduceSub, Int.reduceNeg, reduceCtorEq, if_true, if_false, ite_true, ite_false, ne_eq, OPK_, KEY_]
      refine loop_rule hC (α := Nat) (fun i => l.length + 1 - i) (fun i => [.ptr (.heap h) 0, .undef, .undef, .undef, .ptr (.stk S.length) 0, .ptr (.stk (S.length + 1)) 0, .undef, .s (.bool false), slI (covUp l a b i), .undef, .undef, .undef, .undef, .undef, .undef, .undef, .undef, .undef, .undef, .undef, .undef, .undef, .undef, .undef, .i ((l.length + 1 : Nat) : Int), .s (.int .i64 i), .undef, .undef, .undef, .undef, .undef, .undef, .undef, .undef, .undef, .undef, .undef, .undef, .undef, .undef, .undef, .undef, .undef, .undef, .undef, .undef, .undef, .undef, .undef, .undef, .undef, .undef, .undef, .undef, .undef, .undef, .undef, .undef, .undef, .undef, .undef, .undef, .undef, .undef, .undef, .undef, .undef, .undef, .undef, .undef, .undef, .undef, .undef, .undef, .undef]) (fun _ => S ++ [bs a.b, bs b.b]) (fun _ => H) (fun i => i ≤ l.length + 1) 0 (by simp) rfl (by rw [app_take_add]; rfl) rfl (fun i hi => by simp [AV.under, AV.under.go, under_slI]) ?_
      intro i hi ih
      by_cases h16 : i < l.length + 1
      · have hlt : ((i : Int) < ((l.length + 1 : Nat) : Int)) := by omega
        have hge : (0 : Int) ≤ (i : Int) := by omega
        have hw := wrap_succ (i := i) (by omega)
        have hcl := cov_len (l := l) (a := a) (b := b) (n := i)
        have happ : ∀ (e : ET) (σ : St), e.c = 1 → e.bytes = 8 → appendL e false (slI (covUp l a b i)) (.list .full 1 [.i i]) σ = some (slI (covUp l a b i ++ [i]), σ) := fun e σ h1 h2 => app_slI h1 h2 (by omega)
        have habove : aboveK l a i = (if hx : i < l.length then decide (0 < Lib.compareBytes (l[i]).b a.b) else true) := by
          unfold aboveK
          by_cases hx : i < l.length
          · simp [hx, cmpK] <;> rfl
          · simp [hx]
        have hbelow : belowK l b i = (if hx : 0 < i then false || decide (Lib.compareBytes (l[i - 1]'(by omega)).b b.b < 0) else true) := by
          unfold belowK
          by_cases hx : 0 < i
          · have h17 : i - 1 < l.length := by omega
            have hne : ¬ i = 0 := by omega
            simp [hx, hne, cmpK, h17, hb] <;> rfl
          · have : i = 0 := by omega
            simp [hx, this]
        have hs := cov_succ (l := l) (a := a) (b := b) (n := i)
        by_cases hil : i < l.length
        · have hil' : ¬ ((i : Int) = (l.length : Int)) := by omega
          simp only [RUN_, u_C_route_Table_Cover_k1, u_C_route_Table_Cover_k2, u_C_route_Table_Cover_k3, u_C_route_Table_Cover_k4, u_C_route_Table_Cover_k5, u_C_route_Table_Cover_k6, u_C_route_Table_Cover_k7, u_C_route_Table_Cover_k8, u_C_route_Table_Cover_k9, u_C_route_Table_Cover_k10, FR_, Nat.reducePow, Int.reducePow, Nat.reduceAdd, Nat.reduceSub, Nat.reduceMul, Int.reduceToNat, Nat.reduceLeDiff, Nat.reduceEqDiff, Nat.reduceLT, Nat.reduceGT, Int.reduceGT, Int.reduceGE, Int.reduceLT, Int.reduceLE, Int.reduceEq, Int.reduceAdd, Int.reduceSub, Int.reduceNeg, reduceCtorEq, if_true, if_false, ite_true, ite_false, ne_eq, OPK_, KEY_, hlt, hh', hil', hil]
          refine hc _ _ _ _ _ ?_
          by_cases hx : 0 < Lib.compareBytes (l[i]).b a.b
          · simp only [RUN_, u_C_route_Table_Cover_k1, u_C_route_Table_Cover_k2, u_C_route_Table_Cover_k3, u_C_route_Table_Cover_k4, u_C_route_Table_Cover_k5, u_C_route_Table_Cover_k6, u_C_route_Table_Cover_k7, u_C_route_Table_Cover_k8, u_C_route_Table_Cover_k9, u_C_route_Table_Cover_k10, FR_, Nat.reducePow, Int.reducePow, Nat.reduceAdd, Nat.reduceSub, Nat.reduceMul, Int.reduceToNat, Nat.reduceLeDiff, Nat.reduceEqDiff, Nat.reduceLT, Nat.reduceGT, Int.reduceGT, Int.reduceGE, Int.reduceLT, Int.reduceLE, Int.reduceEq, Int.reduceAdd, Int.reduceSub, Int.reduceNeg, reduceCtorEq, if_true, if_false, ite_true, ite_false, ne_eq, OPK_, KEY_, hx]
            by_cases h0 : i = 0
            · have h0' : (((i : Int) = 0) = True) := eq_true (by omega)
              have h00 : ¬ (0 < i) := by omega
              simp only [RUN_, u_C_route_Table_Cover_k1, u_C_route_Table_Cover_k2, u_C_route_Table_Cover_k3, u_C_route_Table_Cover_k4, u_C_route_Table_Cover_k5, u_C_route_Table_Cover_k6, u_C_route_Table_Cover_k7, u_C_route_Table_Cover_k8, u_C_route_Table_Cover_k9, u_C_route_Table_Cover_k10, FR_, Nat.reducePow, Int.reducePow, Nat.reduceAdd, Nat.reduceSub, Nat.reduceMul, Int.reduceToNat, Nat.reduceLeDiff, Nat.reduceEqDiff, Nat.reduceLT, Nat.reduceGT, Int.reduceGT, Int.reduceGE, Int.reduceLT, Int.reduceLE, Int.reduceEq, Int.reduceAdd, Int.reduceSub, Int.reduceNeg, reduceCtorEq, if_true, if_false, ite_true, ite_false, ne_eq, OPK_, KEY_, h0']
              have hs1 : covUp l a b (i + 1) = covUp l a b i ++ [i] := by rw [hs, habove, hbelow]; simp [hil, hx, h00]
              have ih1 := ih (i + 1)
              rw [hs1] at ih1
              try simp only [RUN_, u_C_route_Table_Cover_k1, u_C_route_Table_Cover_k2, u_C_route_Table_Cover_k3, u_C_route_Table_Cover_k4, u_C_route_Table_Cover_k5, u_C_route_Table_Cover_k6, u_C_route_Table_Cover_k7, u_C_route_Table_Cover_k8, u_C_route_Table_Cover_k9, u_C_route_Table_Cover_k10, FR_, Nat.reducePow, Int.reducePow, Nat.reduceAdd, Nat.reduceSub, Nat.reduceMul, Int.reduceToNat, Nat.reduceLeDiff, Nat.reduceEqDiff, Nat.reduceLT, Nat.reduceGT, Int.reduceGT, Int.reduceGE, Int.reduceLT, Int.reduceLE, Int.reduceEq, Int.reduceAdd, Int.reduceSub, Int.reduceNeg, reduceCtorEq, if_true, if_false, ite_true, ite_false, ne_eq, OPK_, KEY_, happ, hw]
              exact ih1 _ _ _ (by omega) (by omega) rfl (app_take_add _ _ _) rfl
            · have h0' : ¬ ((i : Int) = 0) := by omega
              have h00 : 0 < i := by omega
              have h17 : i - 1 < l.length := by omega
              have hwp : IntKind.i64.wrap ((i : Int) - 1) = ((i - 1 : Nat) : Int) := by rw [wrap_i64 (by omega) (by omega)]; omega
              simp only [RUN_, u_C_route_Table_Cover_k1, u_C_route_Table_Cover_k2, u_C_route_Table_Cover_k3, u_C_route_Table_Cover_k4, u_C_route_Table_Cover_k5, u_C_route_Table_Cover_k6, u_C_route_Table_Cover_k7, u_C_route_Table_Cover_k8, u_C_route_Table_Cover_k9, u_C_route_Table_Cover_k10, FR_, Nat.reducePow, Int.reducePow, Nat.reduceAdd, Nat.reduceSub, Nat.reduceMul, Int.reduceToNat, Nat.reduceLeDiff, Nat.reduceEqDiff, Nat.reduceLT, Nat.reduceGT, Int.reduceGT, Int.reduceGE, Int.reduceLT, Int.reduceLE, Int.reduceEq, Int.reduceAdd, Int.reduceSub, Int.reduceNeg, reduceCtorEq, if_true, if_false, ite_true, ite_false, ne_eq, OPK_, KEY_, h0', hh', h17, hwp]
              refine hc _ _ _ _ _ ?_
              by_cases hy : Lib.compareBytes (l[i - 1]).b b.b < 0
              · simp only [RUN_, u_C_route_Table_Cover_k1, u_C_route_Table_Cover_k2, u_C_route_Table_Cover_k3, u_C_route_Table_Cover_k4, u_C_route_Table_Cover_k5, u_C_route_Table_Cover_k6, u_C_route_Table_Cover_k7, u_C_route_Table_Cover_k8, u_C_route_Table_Cover_k9, u_C_route_Table_Cover_k10, FR_, Nat.reducePow, Int.reducePow, Nat.reduceAdd, Nat.reduceSub, Nat.reduceMul, Int.reduceToNat, Nat.reduceLeDiff, Nat.reduceEqDiff, Nat.reduceLT, Nat.reduceGT, Int.reduceGT, Int.reduceGE, Int.reduceLT, Int.reduceLE, Int.reduceEq, Int.reduceAdd, Int.reduceSub, Int.reduceNeg, reduceCtorEq, if_true, if_false, ite_true, ite_false, ne_eq, OPK_, KEY_, hy]
                have hs1 : covUp l a b (i + 1) = covUp l a b i ++ [i] := by rw [hs, habove, hbelow]; simp [hil, hx, h00, hy]
                have ih1 := ih (i + 1)
                rw [hs1] at ih1
                try simp only [RUN_, u_C_route_Table_Cover_k1, u_C_route_Table_Cover_k2, u_C_route_Table_Cover_k3, u_C_route_Table_Cover_k4, u_C_route_Table_Cover_k5, u_C_route_Table_Cover_k6, u_C_route_Table_Cover_k7, u_C_route_Table_Cover_k8, u_C_route_Table_Cover_k9, u_C_route_Table_Cover_k10, FR_, Nat.reducePow, Int.reducePow, Nat.reduceAdd, Nat.reduceSub, Nat.reduceMul, Int.reduceToNat, Nat.reduceLeDiff, Nat.reduceEqDiff, Nat.reduceLT, Nat.reduceGT, Int.reduceGT, Int.reduceGE, Int.reduceLT, Int.reduceLE, Int.reduceEq, Int.reduceAdd, Int.reduceSub, Int.reduceNeg, reduceCtorEq, if_true, if_false, ite_true, ite_false, ne_eq, OPK_, KEY_, happ, hw]
                exact ih1 _ _ _ (by omega) (by omega) rfl (app_take_add _ _ _) rfl
              · simp only [RUN_, u_C_route_Table_Cover_k1, u_C_route_Table_Cover_k2, u_C_route_Table_Cover_k3, u_C_route_Table_Cover_k4, u_C_route_Table_Cover_k5, u_C_route_Table_Cover_k6, u_C_route_Table_Cover_k7, u_C_route_Table_Cover_k8, u_C_route_Table_Cover_k9, u_C_route_Table_Cover_k10, FR_, Nat.reducePow, Int.reducePow, Nat.reduceAdd, Nat.reduceSub, Nat.reduceMul, Int.reduceToNat, Nat.reduceLeDiff, Nat.reduceEqDiff, Nat.reduceLT, Nat.reduceGT, Int.reduceGT, Int.reduceGE, Int.reduceLT, Int.reduceLE, Int.reduceEq, Int.reduceAdd, Int.reduceSub, Int.reduceNeg, reduceCtorEq, if_true, if_false, ite_true, ite_false, ne_eq, OPK_, KEY_, hy]
                have hs1 : covUp l a b (i + 1) = covUp l a b i := by rw [hs, habove, hbelow]; simp [hil, hx, h00, hy]
                have ih1 := ih (i + 1)
                rw [hs1] at ih1
                try simp only [RUN_, u_C_route_Table_Cover_k1, u_C_route_Table_Cover_k2, u_C_route_Table_Cover_k3, u_C_route_Table_Cover_k4, u_C_route_Table_Cover_k5, u_C_route_Table_Cover_k6, u_C_route_Table_Cover_k7, u_C_route_Table_Cover_k8, u_C_route_Table_Cover_k9, u_C_route_Table_Cover_k10, FR_, Nat.reducePow, Int.reducePow, Nat.reduceAdd, Nat.reduceSub, Nat.reduceMul, Int.reduceToNat, Nat.reduceLeDiff, Nat.reduceEqDiff, Nat.reduceLT, Nat.reduceGT, Int.reduceGT, Int.reduceGE, Int.reduceLT, Int.reduceLE, Int.reduceEq, Int.reduceAdd, Int.reduceSub, Int.reduceNeg, reduceCtorEq, if_true, if_false, ite_true, ite_false, ne_eq, OPK_, KEY_, happ, hw]
                exact ih1 _ _ _ (by omega) (by omega) rfl (app_take_add _ _ _) rfl
          · simp only [RUN_, u_C_route_Table_Cover_k1, u_C_route_Table_Cover_k2, u_C_route_Table_Cover_k3, u_C_route_Table_Cover_k4, u_C_route_Table_Cover_k5, u_C_route_Table_Cover_k6, u_C_route_Table_Cover_k7, u_C_route_Table_Cover_k8, u_C_route_Table_Cover_k9, u_C_route_Table_Cover_k10, FR_, Nat.reducePow, Int.reducePow, Nat.reduceAdd, Nat.reduceSub, Nat.reduceMul, Int.reduceToNat, Nat.reduceLeDiff, Nat.reduceEqDiff, Nat.reduceLT, Nat.reduceGT, Int.reduceGT, Int.reduceGE, Int.reduceLT, Int.reduceLE, Int.reduceEq, Int.reduceAdd, Int.reduceSub, Int.reduceNeg, reduceCtorEq, if_true, if_false, ite_true, ite_false, ne_eq, OPK_, KEY_, hx]
            by_cases h0 : i = 0
            · have h0' : (((i : Int) = 0) = True) := eq_true (by omega)
              have h00 : ¬ (0 < i) := by omega
              simp only [RUN_, u_C_route_Table_Cover_k1, u_C_route_Table_Cover_k2, u_C_route_Table_Cover_k3, u_C_route_Table_Cover_k4, u_C_route_Table_Cover_k5, u_C_route_Table_Cover_k6, u_C_route_Table_Cover_k7, u_C_route_Table_Cover_k8, u_C_route_Table_Cover_k9, u_C_route_Table_Cover_k10, FR_, Nat.reducePow, Int.reducePow, Nat.reduceAdd, Nat.reduceSub, Nat.reduceMul, Int.reduceToNat, Nat.reduceLeDiff, Nat.reduceEqDiff, Nat.reduceLT, Nat.reduceGT, Int.reduceGT, Int.reduceGE, Int.reduceLT, Int.reduceLE, Int.reduceEq, Int.reduceAdd, Int.reduceSub, Int.reduceNeg, reduceCtorEq, if_true, if_false, ite_true, ite_false, ne_eq, OPK_, KEY_, h0']
              have hs1 : covUp l a b (i + 1) = covUp l a b i := by rw [hs, habove, hbelow]; simp [hil, hx, h00]
              have ih1 := ih (i + 1)
              rw [hs1] at ih1
              try simp only [RUN_, u_C_route_Table_Cover_k1, u_C_route_Table_Cover_k2, u_C_route_Table_Cover_k3, u_C_route_Table_Cover_k4, u_C_route_Table_Cover_k5, u_C_route_Table_Cover_k6, u_C_route_Table_Cover_k7, u_C_route_Table_Cover_k8, u_C_route_Table_Cover_k9, u_C_route_Table_Cover_k10, FR_, Nat.reducePow, Int.reducePow, Nat.reduceAdd, Nat.reduceSub, Nat.reduceMul, Int.reduceToNat, Nat.reduceLeDiff, Nat.reduceEqDiff, Nat.reduceLT, Nat.reduceGT, Int.reduceGT, Int.reduceGE, Int.reduceLT, Int.reduceLE, Int.reduceEq, Int.reduceAdd, Int.reduceSub, Int.reduceNeg, reduceCtorEq, if_true, if_false, ite_true, ite_false, ne_eq, OPK_, KEY_, happ, hw]
              exact ih1 _ _ _ (by omega) (by omega) rfl (app_take_add _ _ _) rfl
            · have h0' : ¬ ((i : Int) = 0) := by omega
              have h00 : 0 < i := by omega
              have h17 : i - 1 < l.length := by omega
              have hwp : IntKind.i64.wrap ((i : Int) - 1) = ((i - 1 : Nat) : Int) := by rw [wrap_i64 (by omega) (by omega)]; omega
              simp only [RUN_, u_C_route_Table_Cover_k1, u_C_route_Table_Cover_k2, u_C_route_Table_Cover_k3, u_C_route_Table_Cover_k4, u_C_route_Table_Cover_k5, u_C_route_Table_Cover_k6, u_C_route_Table_Cover_k7, u_C_route_Table_Cover_k8, u_C_route_Table_Cover_k9, u_C_route_Table_Cover_k10, FR_, Nat.reducePow, Int.reducePow, Nat.reduceAdd, Nat.reduceSub, Nat.reduceMul, Int.reduceToNat, Nat.reduceLeDiff, Nat.reduceEqDiff, Nat.reduceLT, Nat.reduceGT, Int.reduceGT, Int.reduceGE, Int.reduceLT, Int.reduceLE, Int.reduceEq, Int.reduceAdd, Int.reduceSub, Int.reduceNeg, reduceCtorEq, if_true, if_false, ite_true, ite_false, ne_eq, OPK_, KEY_, h0', hh', h17, hwp]
              refine hc _ _ _ _ _ ?_
              by_cases hy : Lib.compareBytes (l[i - 1]).b b.b < 0
              · simp only [RUN_, u_C_route_Table_Cover_k1, u_C_route_Table_Cover_k2, u_C_route_Table_Cover_k3, u_C_route_Table_Cover_k4, u_C_route_Table_Cover_k5, u_C_route_Table_Cover_k6, u_C_route_Table_Cover_k7, u_C_route_Table_Cover_k8, u_C_route_Table_Cover_k9, u_C_route_Table_Cover_k10, FR_, Nat.reducePow, Int.reducePow, Nat.reduceAdd, Nat.reduceSub, Nat.reduceMul, Int.reduceToNat, Nat.reduceLeDiff, Nat.reduceEqDiff, Nat.reduceLT, Nat.reduceGT, Int.reduceGT, Int.reduceGE, Int.reduceLT, Int.reduceLE, Int.reduceEq, Int.reduceAdd, Int.reduceSub, Int.reduceNeg, reduceCtorEq, if_true, if_false, ite_true, ite_false, ne_eq, OPK_, KEY_, hy]
                have hs1 : covUp l a b (i + 1) = covUp l a b i := by rw [hs, habove, hbelow]; simp [hil, hx, h00, hy]
                have ih1 := ih (i + 1)
                rw [hs1] at ih1
                try simp only [RUN_, u_C_route_Table_Cover_k1, u_C_route_Table_Cover_k2, u_C_route_Table_Cover_k3, u_C_route_Table_Cover_k4, u_C_route_Table_Cover_k5, u_C_route_Table_Cover_k6, u_C_route_Table_Cover_k7, u_C_route_Table_Cover_k8, u_C_route_Table_Cover_k9, u_C_route_Table_Cover_k10, FR_, Nat.reducePow, Int.reducePow, Nat.reduceAdd, Nat.reduceSub, Nat.reduceMul, Int.reduceToNat, Nat.reduceLeDiff, Nat.reduceEqDiff, Nat.reduceLT, Nat.reduceGT, Int.reduceGT, Int.reduceGE, Int.reduceLT, Int.reduceLE, Int.reduceEq, Int.reduceAdd, Int.reduceSub, Int.reduceNeg, reduceCtorEq, if_true, if_false, ite_true, ite_false, ne_eq, OPK_, KEY_, happ, hw]
                exact ih1 _ _ _ (by omega) (by omega) rfl (app_take_add _ _ _) rfl
              · simp only [RUN_, u_C_route_Table_Cover_k1, u_C_route_Table_Cover_k2, u_C_route_Table_Cover_k3, u_C_route_Table_Cover_k4, u_C_route_Table_Cover_k5, u_C_route_Table_Cover_k6, u_C_route_Table_Cover_k7, u_C_route_Table_Cover_k8, u_C_route_Table_Cover_k9, u_C_route_Table_Cover_k10, FR_, Nat.reducePow, Int.reducePow, Nat.reduceAdd, Nat.reduceSub, Nat.reduceMul, Int.reduceToNat, Nat.reduceLeDiff, Nat.reduceEqDiff, Nat.reduceLT, Nat.reduceGT, Int.reduceGT, Int.reduceGE, Int.reduceLT, Int.reduceLE, Int.reduceEq, Int.reduceAdd, Int.reduceSub, Int.reduceNeg, reduceCtorEq, if_true, if_false, ite_true, ite_false, ne_eq, OPK_, KEY_, hy]
                have hs1 : covUp l a b (i + 1) = covUp l a b i := by rw [hs, habove, hbelow]; simp [hil, hx, h00, hy]
                have ih1 := ih (i + 1)
                rw [hs1] at ih1
                try simp only [RUN_, u_C_route_Table_Cover_k1, u_C_route_Table_Cover_k2, u_C_route_Table_Cover_k3, u_C_route_Table_Cover_k4, u_C_route_Table_Cover_k5, u_C_route_Table_Cover_k6, u_C_route_Table_Cover_k7, u_C_route_Table_Cover_k8, u_C_route_Table_Cover_k9, u_C_route_Table_Cover_k10, FR_, Nat.reducePow, Int.reducePow, Nat.reduceAdd, Nat.reduceSub, Nat.reduceMul, Int.reduceToNat, Nat.reduceLeDiff, Nat.reduceEqDiff, Nat.reduceLT, Nat.reduceGT, Int.reduceGT, Int.reduceGE, Int.reduceLT, Int.reduceLE, Int.reduceEq, Int.reduceAdd, Int.reduceSub, Int.reduceNeg, reduceCtorEq, if_true, if_false, ite_true, ite_false, ne_eq, OPK_, KEY_, happ, hw]
                exact ih1 _ _ _ (by omega) (by omega) rfl (app_take_add _ _ _) rfl
        · have hil' : (((i : Int) = (l.length : Int)) = True) := eq_true (by omega)
          simp only [RUN_, u_C_route_Table_Cover_k1, u_C_route_Table_Cover_k2, u_C_route_Table_Cover_k3, u_C_route_Table_Cover_k4, u_C_route_Table_Cover_k5, u_C_route_Table_Cover_k6, u_C_route_Table_Cover_k7, u_C_route_Table_Cover_k8, u_C_route_Table_Cover_k9, u_C_route_Table_Cover_k10, FR_, Nat.reducePow, Int.reducePow, Nat.reduceAdd, Nat.reduceSub, Nat.reduceMul, Int.reduceToNat, Nat.reduceLeDiff, Nat.reduceEqDiff, Nat.reduceLT, Nat.reduceGT, Int.reduceGT, Int.reduceGE, Int.reduceLT, Int.reduceLE, Int.reduceEq, Int.reduceAdd, Int.reduceSub, Int.reduceNeg, reduceCtorEq, if_true, if_false, ite_true, ite_false, ne_eq, OPK_, KEY_, hlt, hh', hil']
          by_cases h0 : i = 0
          · have h0' : (((i : Int) = 0) = True) := eq_true (by omega)
            have h00 : ¬ (0 < i) := by omega
            simp only [RUN_, u_C_route_Table_Cover_k1, u_C_route_Table_Cover_k2, u_C_route_Table_Cover_k3, u_C_route_Table_Cover_k4, u_C_route_Table_Cover_k5, u_C_route_Table_Cover_k6, u_C_route_Table_Cover_k7, u_C_route_Table_Cover_k8, u_C_route_Table_Cover_k9, u_C_route_Table_Cover_k10, FR_, Nat.reducePow, Int.reducePow, Nat.reduceAdd, Nat.reduceSub, Nat.reduceMul, Int.reduceToNat, Nat.reduceLeDiff, Nat.reduceEqDiff, Nat.reduceLT, Nat.reduceGT, Int.reduceGT, Int.reduceGE, Int.reduceLT, Int.reduceLE, Int.reduceEq, Int.reduceAdd, Int.reduceSub, Int.reduceNeg, reduceCtorEq, if_true, if_false, ite_true, ite_false, ne_eq, OPK_, KEY_, h0']
            have hs1 : covUp l a b (i + 1) = covUp l a b i ++ [i] := by rw [hs, habove, hbelow]; simp [hil, h00]
            have ih1 := ih (i + 1)
            rw [hs1] at ih1
            try simp only [RUN_, u_C_route_Table_Cover_k1, u_C_route_Table_Cover_k2, u_C_route_Table_Cover_k3, u_C_route_Table_Cover_k4, u_C_route_Table_Cover_k5, u_C_route_Table_Cover_k6, u_C_route_Table_Cover_k7, u_C_route_Table_Cover_k8, u_C_route_Table_Cover_k9, u_C_route_Table_Cover_k10, FR_, Nat.reducePow, Int.reducePow, Nat.reduceAdd, Nat.reduceSub, Nat.reduceMul, Int.reduceToNat, Nat.reduceLeDiff, Nat.reduceEqDiff, Nat.reduceLT, Nat.reduceGT, Int.reduceGT, Int.reduceGE, Int.reduceLT, Int.reduceLE, Int.reduceEq, Int.reduceAdd, Int.reduceSub, Int.reduceNeg, reduceCtorEq, if_true, if_false, ite_true, ite_false, ne_eq, OPK_, KEY_, happ, hw]
            exact ih1 _ _ _ (by omega) (by omega) rfl (app_take_add _ _ _) rfl
          · have h0' : ¬ ((i : Int) = 0) := by omega
            have h00 : 0 < i := by omega
            have h17 : i - 1 < l.length := by omega
            have hwp : IntKind.i64.wrap ((i : Int) - 1) = ((i - 1 : Nat) : Int) := by rw [wrap_i64 (by omega) (by omega)]; omega
            simp only [RUN_, u_C_route_Table_Cover_k1, u_C_route_Table_Cover_k2, u_C_route_Table_Cover_k3, u_C_route_Table_Cover_k4, u_C_route_Table_Cover_k5, u_C_route_Table_Cover_k6, u_C_route_Table_Cover_k7, u_C_route_Table_Cover_k8, u_C_route_Table_Cover_k9, u_C_route_Table_Cover_k10, FR_, Nat.reducePow, Int.reducePow, Nat.reduceAdd, Nat.reduceSub, Nat.reduceMul, Int.reduceToNat, Nat.reduceLeDiff, Nat.reduceEqDiff, Nat.reduceLT, Nat.reduceGT, Int.reduceGT, Int.reduceGE, Int.reduceLT, Int.reduceLE, Int.reduceEq, Int.reduceAdd, Int.reduceSub, Int.reduceNeg, reduceCtorEq, if_true, if_false, ite_true, ite_false, ne_eq, OPK_, KEY_, h0', hh', h17, hwp]
            refine hc _ _ _ _ _ ?_
            by_cases hy : Lib.compareBytes (l[i - 1]).b b.b < 0
            · simp only [RUN_, u_C_route_Table_Cover_k1, u_C_route_Table_Cover_k2, u_C_route_Table_Cover_k3, u_C_route_Table_Cover_k4, u_C_route_Table_Cover_k5, u_C_route_Table_Cover_k6, u_C_route_Table_Cover_k7, u_C_route_Table_Cover_k8, u_C_route_Table_Cover_k9, u_C_route_Table_Cover_k10, FR_, Nat.reducePow, Int.reducePow, Nat.reduceAdd, Nat.reduceSub, Nat.reduceMul, Int.reduceToNat, Nat.reduceLeDiff, Nat.reduceEqDiff, Nat.reduceLT, Nat.reduceGT, Int.reduceGT, Int.reduceGE, Int.reduceLT, Int.reduceLE, Int.reduceEq, Int.reduceAdd, Int.reduceSub, Int.reduceNeg, reduceCtorEq, if_true, if_false, ite_true, ite_false, ne_eq, OPK_, KEY_, hy]
              have hs1 : covUp l a b (i + 1) = covUp l a b i ++ [i] := by rw [hs, habove, hbelow]; simp [hil, h00, hy]
              have ih1 := ih (i + 1)
              rw [hs1] at ih1
              try simp only [RUN_, u_C_route_Table_Cover_k1, u_C_route_Table_Cover_k2, u_C_route_Table_Cover_k3, u_C_route_Table_Cover_k4, u_C_route_Table_Cover_k5, u_C_route_Table_Cover_k6, u_C_route_Table_Cover_k7, u_C_route_Table_Cover_k8, u_C_route_Table_Cover_k9, u_C_route_Table_Cover_k10, FR_, Nat.reducePow, Int.reducePow, Nat.reduceAdd, Nat.reduceSub, Nat.reduceMul, Int.reduceToNat, Nat.reduceLeDiff, Nat.reduceEqDiff, Nat.reduceLT, Nat.reduceGT, Int.reduceGT, Int.reduceGE, Int.reduceLT, Int.reduceLE, Int.reduceEq, Int.reduceAdd, Int.reduceSub, Int.reduceNeg, reduceCtorEq, if_true, if_false, ite_true, ite_false, ne_eq, OPK_, KEY_, happ, hw]
              exact ih1 _ _ _ (by omega) (by omega) rfl (app_take_add _ _ _) rfl
            · simp only [RUN_, u_C_route_Table_Cover_k1, u_C_route_Table_Cover_k2, u_C_route_Table_Cover_k3, u_C_route_Table_Cover_k4, u_C_route_Table_Cover_k5, u_C_route_Table_Cover_k6, u_C_route_Table_Cover_k7, u_C_route_Table_Cover_k8, u_C_route_Table_Cover_k9, u_C_route_Table_Cover_k10, FR_, Nat.reducePow, Int.reducePow, Nat.reduceAdd, Nat.reduceSub, Nat.reduceMul, Int.reduceToNat, Nat.reduceLeDiff, Nat.reduceEqDiff, Nat.reduceLT, Nat.reduceGT, Int.reduceGT, Int.reduceGE, Int.reduceLT, Int.reduceLE, Int.reduceEq, Int.reduceAdd, Int.reduceSub, Int.reduceNeg, reduceCtorEq, if_true, if_false, ite_true, ite_false, ne_eq, OPK_, KEY_, hy]
              have hs1 : covUp l a b (i + 1) = covUp l a b i := by rw [hs, habove, hbelow]; simp [hil, h00, hy]
              have ih1 := ih (i + 1)
              rw [hs1] at ih1
              try simp only [RUN_, u_C_route_Table_Cover_k1, u_C_route_Table_Cover_k2, u_C_route_Table_Cover_k3, u_C_route_Table_Cover_k4, u_C_route_Table_Cover_k5, u_C_route_Table_Cover_k6, u_C_route_Table_Cover_k7, u_C_route_Table_Cover_k8, u_C_route_Table_Cover_k9, u_C_route_Table_Cover_k10, FR_, Nat.reducePow, Int.reducePow, Nat.reduceAdd, Nat.reduceSub, Nat.reduceMul, Int.reduceToNat, Nat.reduceLeDiff, Nat.reduceEqDiff, Nat.reduceLT, Nat.reduceGT, Int.reduceGT, Int.reduceGE, Int.reduceLT, Int.reduceLE, Int.reduceEq, Int.reduceAdd, Int.reduceSub, Int.reduceNeg, reduceCtorEq, if_true, if_false, ite_true, ite_false, ne_eq, OPK_, KEY_, happ, hw]
              exact ih1 _ _ _ (by omega) (by omega) rfl (app_take_add _ _ _) rfl
      · have hlt : ¬ ((i : Int) < ((l.length + 1 : Nat) : Int)) := by omega
        have hi' : i = l.length + 1 := by omega
        subst hi'
        rw [hcv] at hK
        simp only [RUN_, u_C_route_Table_Cover_k1, u_C_route_Table_Cover_k2, u_C_route_Table_Cover_k3, u_C_route_Table_Cover_k4, u_C_route_Table_Cover_k5, u_C_route_Table_Cover_k6, u_C_route_Table_Cover_k7, u_C_route_Table_Cover_k8, u_C_route_Table_Cover_k9, u_C_route_Table_Cover_k10, FR_, Nat.reducePow, Int.reducePow, Nat.reduceAdd, Nat.reduceSub, Nat.reduceMul, Int.reduceToNat, Nat.reduceLeDiff, Nat.reduceEqDiff, Nat.reduceLT, Nat.reduceGT, Int.reduceGT, Int.reduceGE, Int.reduceLT, Int.reduceLE, Int.reduceEq, Int.reduceAdd, Int.reduceSub, Int.reduceNeg, reduceCtorEq, if_true, if_false, ite_true, ite_false, ne_eq, OPK_, KEY_, hlt, under_slI]
        exact hK
end Go.AM
namespace Go.AM
open Go
set_option maxRecDepth 20000
set_option linter.unusedSimpArgs false
set_option linter.unusedVariables false

def CoverS (C : CallW) (f : FuncId) : Prop := ∀ (l : List Key) (a b : Key) (h : Nat) S H (K : AV → St → Prop), H[h]? = some (tabA l) → l.length ≤ 1000 → K (lstI (coverK l a b)) ⟨S, H⟩ → C (.fn f) [.ptr (.heap h) 0, .agg (bs a.b), .agg (bs b.b)] ⟨S, H⟩ K
def WithinS (C : CallW) (f : FuncId) : Prop := ∀ (k a b : Key) S H K, K (.bool (withinK k a b)) ⟨S, H⟩ → C (.fn f) [.agg (bs k.b), .agg (bs a.b), .agg (bs b.b)] ⟨S, H⟩ K
def AwS (C : CallW) (f : FuncId) : Prop := ∀ S H (K : AV → St → Prop), (∀ o, K (.bool true) ⟨S, H ++ [o]⟩) → C (.fn f) [] ⟨S, H⟩ K

theorem ixl_i {l : List Nat} {i c : Nat} {k : IntKind} (h : i < l.length) (hc : c ≠ 0) : indexAddrL (.sl c) (.list .sh c (l.map fun (n : Nat) => AV.i n)) (.s (.int k (i : Int))) = some (.rop [.i (l[i] : Nat)]) := ixl_map h hc

def Steps (c : List Nat) : Prop := ∀ i, 0 < i → (h : i < c.length) → c[i] = c[i - 1] + 1

theorem mem_take_succ {x i : Nat} {c : List Nat} (h : i < c.length) : x ∈ c.take (i + 1) ↔ x ∈ c.take i ∨ c[i] = x := by
  rw [List.take_succ_eq_append_getElem h, List.mem_append, List.mem_singleton]
  exact or_congr Iff.rfl eq_comm

theorem coverK_len {l : List Key} {a b : Key} (h : l.length ≤ 100) : (coverK l a b).length ≤ 1000 := by
  unfold coverK
  split
  · simp
  · have := cov_len (l := l) (a := a) (b := b) (n := l.length + 1); omega

structure WholeP (pts : List Key) (a b fr to : Key) : Prop where
  good : ∀ k, goodR k = true → goodK k = true
  lt : cntK a pts ≤ pts.length
  mono : cmpK a b ≤ 0 → cntK a pts ≤ cntK b pts
  cons : Steps (coverK pts fr to)
  small : ∀ x ∈ coverK pts fr to, x ≤ pts.length
  mem : withinK a fr to = true → cntK a pts ∈ coverK pts fr to

set_option maxHeartbeats 8000000 in
theorem RouteWhole_spec {C : CallW} (hC : LeC C C) (P : Program) {f1 f2 f3 f4 f5 f6 f7 f8 : FuncId} (h1 : AwS C f1) (h2 : NewS C f2) (h3 : BoolK goodR C f3) (h4 : TOfS C f4) (h5 : TNodesS C f5) (h6 : KCmp C f6) (h7 : CoverS C f7) (h8 : WithinS C f8) :
    ∀ (pts : List Key) (a b fr to : Key) S H (K : AV → St → Prop), pts.length ≤ 9223372036854775807 → (okPts pts = true → WholeP pts a b fr to) → (∀ H', K (.bool true) ⟨S, H'⟩) → runL C P (C_hourglasslaw17_RouteWhole f1 f2 f3 f4 f5 f6 f7 f8) [lstK pts, .agg (bs a.b), .agg (bs b.b), .agg (bs fr.b), .agg (bs to.b)] ⟨S, H⟩ K := by
  intro pts a b fr to S H K hl hP hK
  simp only [lstK, C_hourglasslaw17_RouteWhole, RUN_, u_C_hourglasslaw17_RouteWhole_k1, u_C_hourglasslaw17_RouteWhole_k2, u_C_hourglasslaw17_RouteWhole_k3, u_C_hourglasslaw17_RouteWhole_k4, u_C_hourglasslaw17_RouteWhole_k5, u_C_hourglasslaw17_RouteWhole_k6, u_C_hourglasslaw17_RouteWhole_k7, u_C_hourglasslaw17_RouteWhole_k8, u_C_hourglasslaw17_RouteWhole_k9, u_C_hourglasslaw17_RouteWhole_k10, u_C_hourglasslaw17_RouteWhole_k11, u_C_hourglasslaw17_RouteWhole_k12, u_C_hourglasslaw17_RouteWhole_k13, u_C_hourglasslaw17_RouteWhole_k14, FR_, Nat.reducePow, Int.reducePow, Nat.reduceAdd, Nat.reduceSub, Nat.reduceMul, Int.reduceToNat, Nat.reduceLeDiff, Nat.reduceEqDiff, Nat.reduceLT, Nat.reduceGT, Int.reduceGT, Int.reduceGE, Int.reduceLT, Int.reduceLE, Int.reduceEq, Int.reduceAdd, Int.reduceSub, Int.reduceNeg, reduceCtorEq, if_true, if_false, ite_true, ite_false, ne_eq, OPK_, KEY_]
  refine h1 _ _ _ fun o => ?_
  simp only [RUN_, u_C_hourglasslaw17_RouteWhole_k1, u_C_hourglasslaw17_RouteWhole_k2, u_C_hourglasslaw17_RouteWhole_k3, u_C_hourglasslaw17_RouteWhole_k4, u_C_hourglasslaw17_RouteWhole_k5, u_C_hourglasslaw17_RouteWhole_k6, u_C_hourglasslaw17_RouteWhole_k7, u_C_hourglasslaw17_RouteWhole_k8, u_C_hourglasslaw17_RouteWhole_k9, u_C_hourglasslaw17_RouteWhole_k10, u_C_hourglasslaw17_RouteWhole_k11, u_C_hourglasslaw17_RouteWhole_k12, u_C_hourglasslaw17_RouteWhole_k13, u_C_hourglasslaw17_RouteWhole_k14, FR_, Nat.reducePow, Int.reducePow, Nat.reduceAdd, Nat.reduceSub, Nat.reduceMul, Int.reduceToNat, Nat.reduceLeDiff, Nat.reduceEqDiff, Nat.reduceLT, Nat.reduceGT, Int.reduceGT, Int.reduceGE, Int.reduceLT, Int.reduceLE, Int.reduceEq, Int.reduceAdd, Int.reduceSub, Int.reduceNeg, reduceCtorEq, if_true, if_false, ite_true, ite_false, ne_eq, OPK_, KEY_]
  refine h2 pts _ _ _ hl ?_
  unfold newA newH
  by_cases hok : okPts pts = true
  case neg =>
    rw [show (okPts pts && decide (pts.length < 8)) = false by simp [hok]]
    simp only [RUN_, u_C_hourglasslaw17_RouteWhole_k1, u_C_hourglasslaw17_RouteWhole_k2, u_C_hourglasslaw17_RouteWhole_k3, u_C_hourglasslaw17_RouteWhole_k4, u_C_hourglasslaw17_RouteWhole_k5, u_C_hourglasslaw17_RouteWhole_k6, u_C_hourglasslaw17_RouteWhole_k7, u_C_hourglasslaw17_RouteWhole_k8, u_C_hourglasslaw17_RouteWhole_k9, u_C_hourglasslaw17_RouteWhole_k10, u_C_hourglasslaw17_RouteWhole_k11, u_C_hourglasslaw17_RouteWhole_k12, u_C_hourglasslaw17_RouteWhole_k13, u_C_hourglasslaw17_RouteWhole_k14, FR_, Nat.reducePow, Int.reducePow, Nat.reduceAdd, Nat.reduceSub, Nat.reduceMul, Int.reduceToNat, Nat.reduceLeDiff, Nat.reduceEqDiff, Nat.reduceLT, Nat.reduceGT, Int.reduceGT, Int.reduceGE, Int.reduceLT, Int.reduceLE, Int.reduceEq, Int.reduceAdd, Int.reduceSub, Int.reduceNeg, reduceCtorEq, if_true, if_false, ite_true, ite_false, ne_eq, OPK_, KEY_]
    exact hK _
  by_cases h8l : pts.length < 8
  case neg =>
    rw [show (okPts pts && decide (pts.length < 8)) = false by simp [h8l]]
    simp only [RUN_, u_C_hourglasslaw17_RouteWhole_k1, u_C_hourglasslaw17_RouteWhole_k2, u_C_hourglasslaw17_RouteWhole_k3, u_C_hourglasslaw17_RouteWhole_k4, u_C_hourglasslaw17_RouteWhole_k5, u_C_hourglasslaw17_RouteWhole_k6, u_C_hourglasslaw17_RouteWhole_k7, u_C_hourglasslaw17_RouteWhole_k8, u_C_hourglasslaw17_RouteWhole_k9, u_C_hourglasslaw17_RouteWhole_k10, u_C_hourglasslaw17_RouteWhole_k11, u_C_hourglasslaw17_RouteWhole_k12, u_C_hourglasslaw17_RouteWhole_k13, u_C_hourglasslaw17_RouteWhole_k14, FR_, Nat.reducePow, Int.reducePow, Nat.reduceAdd, Nat.reduceSub, Nat.reduceMul, Int.reduceToNat, Nat.reduceLeDiff, Nat.reduceEqDiff, Nat.reduceLT, Nat.reduceGT, Int.reduceGT, Int.reduceGE, Int.reduceLT, Int.reduceLE, Int.reduceEq, Int.reduceAdd, Int.reduceSub, Int.reduceNeg, reduceCtorEq, if_true, if_false, ite_true, ite_false, ne_eq, OPK_, KEY_]
    exact hK _
  rw [show (okPts pts && decide (pts.length < 8)) = true by simp [hok, h8l]]
  have Q := hP hok
  have hl7 : ¬ ((7 : Int) < (pts.length : Int)) := by omega
  simp only [RUN_, u_C_hourglasslaw17_RouteWhole_k1, u_C_hourglasslaw17_RouteWhole_k2, u_C_hourglasslaw17_RouteWhole_k3, u_C_hourglasslaw17_RouteWhole_k4, u_C_hourglasslaw17_RouteWhole_k5, u_C_hourglasslaw17_RouteWhole_k6, u_C_hourglasslaw17_RouteWhole_k7, u_C_hourglasslaw17_RouteWhole_k8, u_C_hourglasslaw17_RouteWhole_k9, u_C_hourglasslaw17_RouteWhole_k10, u_C_hourglasslaw17_RouteWhole_k11, u_C_hourglasslaw17_RouteWhole_k12, u_C_hourglasslaw17_RouteWhole_k13, u_C_hourglasslaw17_RouteWhole_k14, FR_, Nat.reducePow, Int.reducePow, Nat.reduceAdd, Nat.reduceSub, Nat.reduceMul, Int.reduceToNat, Nat.reduceLeDiff, Nat.reduceEqDiff, Nat.reduceLT, Nat.reduceGT, Int.reduceGT, Int.reduceGE, Int.reduceLT, Int.reduceLE, Int.reduceEq, Int.reduceAdd, Int.reduceSub, Int.reduceNeg, reduceCtorEq, if_true, if_false, ite_true, ite_false, ne_eq, OPK_, KEY_, hl7]
  have hh : (H ++ [o, tabA pts])[H.length + 1]? = some (tabA pts) := by rw [app_get]; rfl
  refine h3 _ _ _ _ ?_
  cases hga : goodR a with
  | false =>
    simp only [RUN_, u_C_hourglasslaw17_RouteWhole_k1, u_C_hourglasslaw17_RouteWhole_k2, u_C_hourglasslaw17_RouteWhole_k3, u_C_hourglasslaw17_RouteWhole_k4, u_C_hourglasslaw17_RouteWhole_k5, u_C_hourglasslaw17_RouteWhole_k6, u_C_hourglasslaw17_RouteWhole_k7, u_C_hourglasslaw17_RouteWhole_k8, u_C_hourglasslaw17_RouteWhole_k9, u_C_hourglasslaw17_RouteWhole_k10, u_C_hourglasslaw17_RouteWhole_k11, u_C_hourglasslaw17_RouteWhole_k12, u_C_hourglasslaw17_RouteWhole_k13, u_C_hourglasslaw17_RouteWhole_k14, FR_, Nat.reducePow, Int.reducePow, Nat.reduceAdd, Nat.reduceSub, Nat.reduceMul, Int.reduceToNat, Nat.reduceLeDiff, Nat.reduceEqDiff, Nat.reduceLT, Nat.reduceGT, Int.reduceGT, Int.reduceGE, Int.reduceLT, Int.reduceLE, Int.reduceEq, Int.reduceAdd, Int.reduceSub, Int.reduceNeg, reduceCtorEq, if_true, if_false, ite_true, ite_false, ne_eq, OPK_, KEY_]
    exact hK _
  | true =>
    simp only [RUN_, u_C_hourglasslaw17_RouteWhole_k1, u_C_hourglasslaw17_RouteWhole_k2, u_C_hourglasslaw17_RouteWhole_k3, u_C_hourglasslaw17_RouteWhole_k4, u_C_hourglasslaw17_RouteWhole_k5, u_C_hourglasslaw17_RouteWhole_k6, u_C_hourglasslaw17_RouteWhole_k7, u_C_hourglasslaw17_RouteWhole_k8, u_C_hourglasslaw17_RouteWhole_k9, u_C_hourglasslaw17_RouteWhole_k10, u_C_hourglasslaw17_RouteWhole_k11, u_C_hourglasslaw17_RouteWhole_k12, u_C_hourglasslaw17_RouteWhole_k13, u_C_hourglasslaw17_RouteWhole_k14, FR_, Nat.reducePow, Int.reducePow, Nat.reduceAdd, Nat.reduceSub, Nat.reduceMul, Int.reduceToNat, Nat.reduceLeDiff, Nat.reduceEqDiff, Nat.reduceLT, Nat.reduceGT, Int.reduceGT, Int.reduceGE, Int.reduceLT, Int.reduceLE, Int.reduceEq, Int.reduceAdd, Int.reduceSub, Int.reduceNeg, reduceCtorEq, if_true, if_false, ite_true, ite_false, ne_eq, OPK_, KEY_]
    refine h3 _ _ _ _ ?_
    cases hgb : goodR b with
    | false =>
      simp only [RUN_, u_C_hourglasslaw17_RouteWhole_k1, u_C_hourglasslaw17_RouteWhole_k2, u_C_hourglasslaw17_RouteWhole_k3, u_C_hourglasslaw17_RouteWhole_k4, u_C_hourglasslaw17_RouteWhole_k5, u_C_hourglasslaw17_RouteWhole_k6, u_C_hourglasslaw17_RouteWhole_k7, u_C_hourglasslaw17_RouteWhole_k8, u_C_hourglasslaw17_RouteWhole_k9, u_C_hourglasslaw17_RouteWhole_k10, u_C_hourglasslaw17_RouteWhole_k11, u_C_hourglasslaw17_RouteWhole_k12, u_C_hourglasslaw17_RouteWhole_k13, u_C_hourglasslaw17_RouteWhole_k14, FR_, Nat.reducePow, Int.reducePow, Nat.reduceAdd, Nat.reduceSub, Nat.reduceMul, Int.reduceToNat, Nat.reduceLeDiff, Nat.reduceEqDiff, Nat.reduceLT, Nat.reduceGT, Int.reduceGT, Int.reduceGE, Int.reduceLT, Int.reduceLE, Int.reduceEq, Int.reduceAdd, Int.reduceSub, Int.reduceNeg, reduceCtorEq, if_true, if_false, ite_true, ite_false, ne_eq, OPK_, KEY_]
      exact hK _
    | true =>
      simp only [RUN_, u_C_hourglasslaw17_RouteWhole_k1, u_C_hourglasslaw17_RouteWhole_k2, u_C_hourglasslaw17_RouteWhole_k3, u_C_hourglasslaw17_RouteWhole_k4, u_C_hourglasslaw17_RouteWhole_k5, u_C_hourglasslaw17_RouteWhole_k6, u_C_hourglasslaw17_RouteWhole_k7, u_C_hourglasslaw17_RouteWhole_k8, u_C_hourglasslaw17_RouteWhole_k9, u_C_hourglasslaw17_RouteWhole_k10, u_C_hourglasslaw17_RouteWhole_k11, u_C_hourglasslaw17_RouteWhole_k12, u_C_hourglasslaw17_RouteWhole_k13, u_C_hourglasslaw17_RouteWhole_k14, FR_, Nat.reducePow, Int.reducePow, Nat.reduceAdd, Nat.reduceSub, Nat.reduceMul, Int.reduceToNat, Nat.reduceLeDiff, Nat.reduceEqDiff, Nat.reduceLT, Nat.reduceGT, Int.reduceGT, Int.reduceGE, Int.reduceLT, Int.reduceLE, Int.reduceEq, Int.reduceAdd, Int.reduceSub, Int.reduceNeg, reduceCtorEq, if_true, if_false, ite_true, ite_false, ne_eq, OPK_, KEY_]
      have hoa : ofK pts a = ((cntK a pts : Nat) : Int) := if_pos (Q.good _ hga)
      have hob : ofK pts b = ((cntK b pts : Nat) : Int) := if_pos (Q.good _ hgb)
      have hx0 : ¬ (((cntK a pts : Nat) : Int) < 0) := by omega
      have hxn : ¬ (((pts.length + 1 : Nat) : Int) ≤ ((cntK a pts : Nat) : Int)) := by have := Q.lt; omega
      refine h4 pts a _ _ _ _ hh (by omega) ?_
      rw [bakT_eq]
      refine mvK_chk ?_
      simp only [RUN_, u_C_hourglasslaw17_RouteWhole_k1, u_C_hourglasslaw17_RouteWhole_k2, u_C_hourglasslaw17_RouteWhole_k3, u_C_hourglasslaw17_RouteWhole_k4, u_C_hourglasslaw17_RouteWhole_k5, u_C_hourglasslaw17_RouteWhole_k6, u_C_hourglasslaw17_RouteWhole_k7, u_C_hourglasslaw17_RouteWhole_k8, u_C_hourglasslaw17_RouteWhole_k9, u_C_hourglasslaw17_RouteWhole_k10, u_C_hourglasslaw17_RouteWhole_k11, u_C_hourglasslaw17_RouteWhole_k12, u_C_hourglasslaw17_RouteWhole_k13, u_C_hourglasslaw17_RouteWhole_k14, FR_, Nat.reducePow, Int.reducePow, Nat.reduceAdd, Nat.reduceSub, Nat.reduceMul, Int.reduceToNat, Nat.reduceLeDiff, Nat.reduceEqDiff, Nat.reduceLT, Nat.reduceGT, Int.reduceGT, Int.reduceGE, Int.reduceLT, Int.reduceLE, Int.reduceEq, Int.reduceAdd, Int.reduceSub, Int.reduceNeg, reduceCtorEq, if_true, if_false, ite_true, ite_false, ne_eq, OPK_, KEY_, CHK_, Nat.reduceBEq, hoa]
      refine h4 pts b _ _ _ _ hh (by omega) ?_
      rw [bakT_eq]
      refine mvK_chk ?_
      simp only [RUN_, u_C_hourglasslaw17_RouteWhole_k1, u_C_hourglasslaw17_RouteWhole_k2, u_C_hourglasslaw17_RouteWhole_k3, u_C_hourglasslaw17_RouteWhole_k4, u_C_hourglasslaw17_RouteWhole_k5, u_C_hourglasslaw17_RouteWhole_k6, u_C_hourglasslaw17_RouteWhole_k7, u_C_hourglasslaw17_RouteWhole_k8, u_C_hourglasslaw17_RouteWhole_k9, u_C_hourglasslaw17_RouteWhole_k10, u_C_hourglasslaw17_RouteWhole_k11, u_C_hourglasslaw17_RouteWhole_k12, u_C_hourglasslaw17_RouteWhole_k13, u_C_hourglasslaw17_RouteWhole_k14, FR_, Nat.reducePow, Int.reducePow, Nat.reduceAdd, Nat.reduceSub, Nat.reduceMul, Int.reduceToNat, Nat.reduceLeDiff, Nat.reduceEqDiff, Nat.reduceLT, Nat.reduceGT, Int.reduceGT, Int.reduceGE, Int.reduceLT, Int.reduceLE, Int.reduceEq, Int.reduceAdd, Int.reduceSub, Int.reduceNeg, reduceCtorEq, if_true, if_false, ite_true, ite_false, ne_eq, OPK_, KEY_, CHK_, Nat.reduceBEq, hob, hx0]
      refine h5 pts _ _ _ _ hh (by omega) ?_
      simp only [RUN_, u_C_hourglasslaw17_RouteWhole_k1, u_C_hourglasslaw17_RouteWhole_k2, u_C_hourglasslaw17_RouteWhole_k3, u_C_hourglasslaw17_RouteWhole_k4, u_C_hourglasslaw17_RouteWhole_k5, u_C_hourglasslaw17_RouteWhole_k6, u_C_hourglasslaw17_RouteWhole_k7, u_C_hourglasslaw17_RouteWhole_k8, u_C_hourglasslaw17_RouteWhole_k9, u_C_hourglasslaw17_RouteWhole_k10, u_C_hourglasslaw17_RouteWhole_k11, u_C_hourglasslaw17_RouteWhole_k12, u_C_hourglasslaw17_RouteWhole_k13, u_C_hourglasslaw17_RouteWhole_k14, FR_, Nat.reducePow, Int.reducePow, Nat.reduceAdd, Nat.reduceSub, Nat.reduceMul, Int.reduceToNat, Nat.reduceLeDiff, Nat.reduceEqDiff, Nat.reduceLT, Nat.reduceGT, Int.reduceGT, Int.reduceGE, Int.reduceLT, Int.reduceLE, Int.reduceEq, Int.reduceAdd, Int.reduceSub, Int.reduceNeg, reduceCtorEq, if_true, if_false, ite_true, ite_false, ne_eq, OPK_, KEY_, hxn]
      refine h6 _ _ _ _ _ ?_
      by_cases hab : Lib.compareBytes a.b b.b ≤ 0
      · have hm : ¬ (((cntK b pts : Nat) : Int) < ((cntK a pts : Nat) : Int)) := by have := Q.mono hab; omega
        simp only [RUN_, u_C_hourglasslaw17_RouteWhole_k1, u_C_hourglasslaw17_RouteWhole_k2, u_C_hourglasslaw17_RouteWhole_k3, u_C_hourglasslaw17_RouteWhole_k4, u_C_hourglasslaw17_RouteWhole_k5, u_C_hourglasslaw17_RouteWhole_k6, u_C_hourglasslaw17_RouteWhole_k7, u_C_hourglasslaw17_RouteWhole_k8, u_C_hourglasslaw17_RouteWhole_k9, u_C_hourglasslaw17_RouteWhole_k10, u_C_hourglasslaw17_RouteWhole_k11, u_C_hourglasslaw17_RouteWhole_k12, u_C_hourglasslaw17_RouteWhole_k13, u_C_hourglasslaw17_RouteWhole_k14, FR_, Nat.reducePow, Int.reducePow, Nat.reduceAdd, Nat.reduceSub, Nat.reduceMul, Int.reduceToNat, Nat.reduceLeDiff, Nat.reduceEqDiff, Nat.reduceLT, Nat.reduceGT, Int.reduceGT, Int.reduceGE, Int.reduceLT, Int.reduceLE, Int.reduceEq, Int.reduceAdd, Int.reduceSub, Int.reduceNeg, reduceCtorEq, if_true, if_false, ite_true, ite_false, ne_eq, OPK_, KEY_, hab, hm]
        refine h7 pts fr to _ _ _ _ hh (by omega) ?_
        simp only [lstI, RUN_, u_C_hourglasslaw17_RouteWhole_k1, u_C_hourglasslaw17_RouteWhole_k2, u_C_hourglasslaw17_RouteWhole_k3, u_C_hourglasslaw17_RouteWhole_k4, u_C_hourglasslaw17_RouteWhole_k5, u_C_hourglasslaw17_RouteWhole_k6, u_C_hourglasslaw17_RouteWhole_k7, u_C_hourglasslaw17_RouteWhole_k8, u_C_hourglasslaw17_RouteWhole_k9, u_C_hourglasslaw17_RouteWhole_k10, u_C_hourglasslaw17_RouteWhole_k11, u_C_hourglasslaw17_RouteWhole_k12, u_C_hourglasslaw17_RouteWhole_k13, u_C_hourglasslaw17_RouteWhole_k14, FR_, Nat.reducePow, Int.reducePow, Nat.reduceAdd, Nat.reduceSub, Nat.reduceMul, Int.reduceToNat, Nat.reduceLeDiff, Nat.reduceEqDiff, Nat.reduceLT, Nat.reduceGT, Int.reduceGT, Int.reduceGE, Int.reduceLT, Int.reduceLE, Int.reduceEq, Int.reduceAdd, Int.reduceSub, Int.reduceNeg, reduceCtorEq, if_true, if_false, ite_true, ite_false, ne_eq, OPK_, KEY_]
        generalize hc : coverK pts fr to = c at Q
        have hcons := Q.cons
        have hmem := Q.mem
        have hsmall := Q.small
        rw [hc] at hcons hmem hsmall
        refine loop_rule hC (α := Nat) (fun i => c.length - i) (fun i => [.undef, .undef, .undef, .undef, .undef, .undef, .ptr (.stk S.length) 0, .undef, .ptr (.stk (S.length + 2)) 0, .ptr (.stk (S.length + 3)) 0, .undef, .undef, .undef, .i ((cntK a pts : Nat) : Int), .undef, .list .sh 1 (c.map fun (n : Nat) => AV.i n), .bool (decide (cntK a pts ∈ c.take i)), .s (.int .i64 i), .undef, .undef, .undef, .undef, .undef, .undef, .undef, .undef, .undef, .undef, .undef, .undef, .undef, .undef, .undef, .undef, .undef, .undef, .undef, .undef, .undef, .undef, .undef, .undef, .undef, .undef, .undef, .undef, .undef, .undef, .undef, .undef, .undef, .undef, .undef, .undef, .undef, .undef, .undef, .undef, .undef, .undef, .undef, .undef, .undef, .undef, .undef, .undef, .undef, .undef, .undef, .undef, .undef, .undef, .undef, .undef, .undef, .undef, .undef, .undef, .undef, .undef, .undef, .undef, .undef, .undef, .undef, .undef, .undef, .undef, .undef, .undef, .undef, .undef, .undef, .undef, .undef, .undef, .undef, .undef, .undef, .undef, .undef, .undef, .undef, .undef, .undef, .undef, .undef, .undef, .undef]) (fun _ => S ++ [bs a.b, bs b.b, bs fr.b, bs to.b]) (fun _ => H ++ [o, tabA pts]) (fun i => i ≤ c.length) 0 (by simp) (by simp [keep]) (by rw [app_take_add]; rfl) rfl (fun i hi => by simp [AV.under, AV.under.go]) ?_
        intro i hi ih
        by_cases h16 : i < c.length
        · have hlt : ((i : Int) < (c.length : Int)) := by omega
          have hclen : c.length ≤ 1000 := by rw [← hc]; exact coverK_len (by omega)
          have hw := wrap_succ (i := i) (by omega)
          by_cases hin : cntK a pts ∈ c.take i
          · by_cases heq : c[i] = cntK a pts
            · have heq' : ((((c[i] : Nat) : Int) = ((cntK a pts : Nat) : Int)) = True) := eq_true (by rw [heq])
              by_cases h0 : i = 0
              · have h0' : ¬ ((0 : Int) < (i : Int)) := by omega
                simp only [RUN_, u_C_hourglasslaw17_RouteWhole_k1, u_C_hourglasslaw17_RouteWhole_k2, u_C_hourglasslaw17_RouteWhole_k3, u_C_hourglasslaw17_RouteWhole_k4, u_C_hourglasslaw17_RouteWhole_k5, u_C_hourglasslaw17_RouteWhole_k6, u_C_hourglasslaw17_RouteWhole_k7, u_C_hourglasslaw17_RouteWhole_k8, u_C_hourglasslaw17_RouteWhole_k9, u_C_hourglasslaw17_RouteWhole_k10, u_C_hourglasslaw17_RouteWhole_k11, u_C_hourglasslaw17_RouteWhole_k12, u_C_hourglasslaw17_RouteWhole_k13, u_C_hourglasslaw17_RouteWhole_k14, FR_, Nat.reducePow, Int.reducePow, Nat.reduceAdd, Nat.reduceSub, Nat.reduceMul, Int.reduceToNat, Nat.reduceLeDiff, Nat.reduceEqDiff, Nat.reduceLT, Nat.reduceGT, Int.reduceGT, Int.reduceGE, Int.reduceLT, Int.reduceLE, Int.reduceEq, Int.reduceAdd, Int.reduceSub, Int.reduceNeg, reduceCtorEq, if_true, if_false, ite_true, ite_false, ne_eq, OPK_, KEY_, WR_, hlt, h16, hin, heq', h0', hw, ixl_i]
                have hs1 : decide (cntK a pts ∈ c.take (i + 1)) = true := decide_eq_true ((mem_take_succ h16).2 (.inl hin))
                have ih1 := ih (i + 1)
                rw [hs1] at ih1
                exact ih1 _ _ _ (by omega) (by omega) rfl (app_take_add _ _ _) rfl
              · have h0' : ((0 : Int) < (i : Int)) := by omega
                have h17 : i - 1 < c.length := by omega
                have hwp : IntKind.i64.wrap ((i : Int) - 1) = ((i - 1 : Nat) : Int) := by rw [wrap_i64 (by omega) (by omega)]; omega
                have hsm := hsmall (c[i - 1]) (List.getElem_mem h17)
                have hwc : IntKind.i64.wrap (((c[i - 1] : Nat) : Int) + 1) = ((c[i - 1] + 1 : Nat) : Int) := wrap_succ (by omega)
                have hst : ((((c[i] : Nat) : Int) = ((c[i - 1] + 1 : Nat) : Int)) = True) := eq_true (by rw [hcons i (by omega) h16])
                simp only [RUN_, u_C_hourglasslaw17_RouteWhole_k1, u_C_hourglasslaw17_RouteWhole_k2, u_C_hourglasslaw17_RouteWhole_k3, u_C_hourglasslaw17_RouteWhole_k4, u_C_hourglasslaw17_RouteWhole_k5, u_C_hourglasslaw17_RouteWhole_k6, u_C_hourglasslaw17_RouteWhole_k7, u_C_hourglasslaw17_RouteWhole_k8, u_C_hourglasslaw17_RouteWhole_k9, u_C_hourglasslaw17_RouteWhole_k10, u_C_hourglasslaw17_RouteWhole_k11, u_C_hourglasslaw17_RouteWhole_k12, u_C_hourglasslaw17_RouteWhole_k13, u_C_hourglasslaw17_RouteWhole_k14, FR_, Nat.reducePow, Int.reducePow, Nat.reduceAdd, Nat.reduceSub, Nat.reduceMul, Int.reduceToNat, Nat.reduceLeDiff, Nat.reduceEqDiff, Nat.reduceLT, Nat.reduceGT, Int.reduceGT, Int.reduceGE, Int.reduceLT, Int.reduceLE, Int.reduceEq, Int.reduceAdd, Int.reduceSub, Int.reduceNeg, reduceCtorEq, if_true, if_false, ite_true, ite_false, ne_eq, OPK_, KEY_, WR_, hlt, h16, hin, heq', h0', hw, ixl_i, h17, hwp, hwc, hst]
                have hs1 : decide (cntK a pts ∈ c.take (i + 1)) = true := decide_eq_true ((mem_take_succ h16).2 (.inl hin))
                have ih1 := ih (i + 1)
                rw [hs1] at ih1
                exact ih1 _ _ _ (by omega) (by omega) rfl (app_take_add _ _ _) rfl
            · have heq' : ¬ (((c[i] : Nat) : Int) = ((cntK a pts : Nat) : Int)) := by omega
              by_cases h0 : i = 0
              · have h0' : ¬ ((0 : Int) < (i : Int)) := by omega
                simp only [RUN_, u_C_hourglasslaw17_RouteWhole_k1, u_C_hourglasslaw17_RouteWhole_k2, u_C_hourglasslaw17_RouteWhole_k3, u_C_hourglasslaw17_RouteWhole_k4, u_C_hourglasslaw17_RouteWhole_k5, u_C_hourglasslaw17_RouteWhole_k6, u_C_hourglasslaw17_RouteWhole_k7, u_C_hourglasslaw17_RouteWhole_k8, u_C_hourglasslaw17_RouteWhole_k9, u_C_hourglasslaw17_RouteWhole_k10, u_C_hourglasslaw17_RouteWhole_k11, u_C_hourglasslaw17_RouteWhole_k12, u_C_hourglasslaw17_RouteWhole_k13, u_C_hourglasslaw17_RouteWhole_k14, FR_, Nat.reducePow, Int.reducePow, Nat.reduceAdd, Nat.reduceSub, Nat.reduceMul, Int.reduceToNat, Nat.reduceLeDiff, Nat.reduceEqDiff, Nat.reduceLT, Nat.reduceGT, Int.reduceGT, Int.reduceGE, Int.reduceLT, Int.reduceLE, Int.reduceEq, Int.reduceAdd, Int.reduceSub, Int.reduceNeg, reduceCtorEq, if_true, if_false, ite_true, ite_false, ne_eq, OPK_, KEY_, WR_, hlt, h16, hin, heq', h0', hw, ixl_i]
                have hs1 : decide (cntK a pts ∈ c.take (i + 1)) = true := decide_eq_true ((mem_take_succ h16).2 (.inl hin))
                have ih1 := ih (i + 1)
                rw [hs1] at ih1
                exact ih1 _ _ _ (by omega) (by omega) rfl (app_take_add _ _ _) rfl
              · have h0' : ((0 : Int) < (i : Int)) := by omega
                have h17 : i - 1 < c.length := by omega
                have hwp : IntKind.i64.wrap ((i : Int) - 1) = ((i - 1 : Nat) : Int) := by rw [wrap_i64 (by omega) (by omega)]; omega
                have hsm := hsmall (c[i - 1]) (List.getElem_mem h17)
                have hwc : IntKind.i64.wrap (((c[i - 1] : Nat) : Int) + 1) = ((c[i - 1] + 1 : Nat) : Int) := wrap_succ (by omega)
                have hst : ((((c[i] : Nat) : Int) = ((c[i - 1] + 1 : Nat) : Int)) = True) := eq_true (by rw [hcons i (by omega) h16])
                simp only [RUN_, u_C_hourglasslaw17_RouteWhole_k1, u_C_hourglasslaw17_RouteWhole_k2, u_C_hourglasslaw17_RouteWhole_k3, u_C_hourglasslaw17_RouteWhole_k4, u_C_hourglasslaw17_RouteWhole_k5, u_C_hourglasslaw17_RouteWhole_k6, u_C_hourglasslaw17_RouteWhole_k7, u_C_hourglasslaw17_RouteWhole_k8, u_C_hourglasslaw17_RouteWhole_k9, u_C_hourglasslaw17_RouteWhole_k10, u_C_hourglasslaw17_RouteWhole_k11, u_C_hourglasslaw17_RouteWhole_k12, u_C_hourglasslaw17_RouteWhole_k13, u_C_hourglasslaw17_RouteWhole_k14, FR_, Nat.reducePow, Int.reducePow, Nat.reduceAdd, Nat.reduceSub, Nat.reduceMul, Int.reduceToNat, Nat.reduceLeDiff, Nat.reduceEqDiff, Nat.reduceLT, Nat.reduceGT, Int.reduceGT, Int.reduceGE, Int.reduceLT, Int.reduceLE, Int.reduceEq, Int.reduceAdd, Int.reduceSub, Int.reduceNeg, reduceCtorEq, if_true, if_false, ite_true, ite_false, ne_eq, OPK_, KEY_, WR_, hlt, h16, hin, heq', h0', hw, ixl_i, h17, hwp, hwc, hst]
                have hs1 : decide (cntK a pts ∈ c.take (i + 1)) = true := decide_eq_true ((mem_take_succ h16).2 (.inl hin))
                have ih1 := ih (i + 1)
                rw [hs1] at ih1
                exact ih1 _ _ _ (by omega) (by omega) rfl (app_take_add _ _ _) rfl
          · by_cases heq : c[i] = cntK a pts
            · have heq' : ((((c[i] : Nat) : Int) = ((cntK a pts : Nat) : Int)) = True) := eq_true (by rw [heq])
              by_cases h0 : i = 0
              · have h0' : ¬ ((0 : Int) < (i : Int)) := by omega
                simp only [RUN_, u_C_hourglasslaw17_RouteWhole_k1, u_C_hourglasslaw17_RouteWhole_k2, u_C_hourglasslaw17_RouteWhole_k3, u_C_hourglasslaw17_RouteWhole_k4, u_C_hourglasslaw17_RouteWhole_k5, u_C_hourglasslaw17_RouteWhole_k6, u_C_hourglasslaw17_RouteWhole_k7, u_C_hourglasslaw17_RouteWhole_k8, u_C_hourglasslaw17_RouteWhole_k9, u_C_hourglasslaw17_RouteWhole_k10, u_C_hourglasslaw17_RouteWhole_k11, u_C_hourglasslaw17_RouteWhole_k12, u_C_hourglasslaw17_RouteWhole_k13, u_C_hourglasslaw17_RouteWhole_k14, FR_, Nat.reducePow, Int.reducePow, Nat.reduceAdd, Nat.reduceSub, Nat.reduceMul, Int.reduceToNat, Nat.reduceLeDiff, Nat.reduceEqDiff, Nat.reduceLT, Nat.reduceGT, Int.reduceGT, Int.reduceGE, Int.reduceLT, Int.reduceLE, Int.reduceEq, Int.reduceAdd, Int.reduceSub, Int.reduceNeg, reduceCtorEq, if_true, if_false, ite_true, ite_false, ne_eq, OPK_, KEY_, WR_, hlt, h16, hin, heq', h0', hw, ixl_i]
                have hs1 : decide (cntK a pts ∈ c.take (i + 1)) = true := decide_eq_true ((mem_take_succ h16).2 (.inr heq))
                have ih1 := ih (i + 1)
                rw [hs1] at ih1
                exact ih1 _ _ _ (by omega) (by omega) rfl (app_take_add _ _ _) rfl
              · have h0' : ((0 : Int) < (i : Int)) := by omega
                have h17 : i - 1 < c.length := by omega
                have hwp : IntKind.i64.wrap ((i : Int) - 1) = ((i - 1 : Nat) : Int) := by rw [wrap_i64 (by omega) (by omega)]; omega
                have hsm := hsmall (c[i - 1]) (List.getElem_mem h17)
                have hwc : IntKind.i64.wrap (((c[i - 1] : Nat) : Int) + 1) = ((c[i - 1] + 1 : Nat) : Int) := wrap_succ (by omega)
                have hst : ((((c[i] : Nat) : Int) = ((c[i - 1] + 1 : Nat) : Int)) = True) := eq_true (by rw [hcons i (by omega) h16])
                simp only [RUN_, u_C_hourglasslaw17_RouteWhole_k1, u_C_hourglasslaw17_RouteWhole_k2, u_C_hourglasslaw17_RouteWhole_k3, u_C_hourglasslaw17_RouteWhole_k4, u_C_hourglasslaw17_RouteWhole_k5, u_C_hourglasslaw17_RouteWhole_k6, u_C_hourglasslaw17_RouteWhole_k7, u_C_hourglasslaw17_RouteWhole_k8, u_C_hourglasslaw17_RouteWhole_k9, u_C_hourglasslaw17_RouteWhole_k10, u_C_hourglasslaw17_RouteWhole_k11, u_C_hourglasslaw17_RouteWhole_k12, u_C_hourglasslaw17_RouteWhole_k13, u_C_hourglasslaw17_RouteWhole_k14, FR_, Nat.reducePow, Int.reducePow, Nat.reduceAdd, Nat.reduceSub, Nat.reduceMul, Int.reduceToNat, Nat.reduceLeDiff, Nat.reduceEqDiff, Nat.reduceLT, Nat.reduceGT, Int.reduceGT, Int.reduceGE, Int.reduceLT, Int.reduceLE, Int.reduceEq, Int.reduceAdd, Int.reduceSub, Int.reduceNeg, reduceCtorEq, if_true, if_false, ite_true, ite_false, ne_eq, OPK_, KEY_, WR_, hlt, h16, hin, heq', h0', hw, ixl_i, h17, hwp, hwc, hst]
                have hs1 : decide (cntK a pts ∈ c.take (i + 1)) = true := decide_eq_true ((mem_take_succ h16).2 (.inr heq))
                have ih1 := ih (i + 1)
                rw [hs1] at ih1
                exact ih1 _ _ _ (by omega) (by omega) rfl (app_take_add _ _ _) rfl
            · have heq' : ¬ (((c[i] : Nat) : Int) = ((cntK a pts : Nat) : Int)) := by omega
              by_cases h0 : i = 0
              · have h0' : ¬ ((0 : Int) < (i : Int)) := by omega
                simp only [RUN_, u_C_hourglasslaw17_RouteWhole_k1, u_C_hourglasslaw17_RouteWhole_k2, u_C_hourglasslaw17_RouteWhole_k3, u_C_hourglasslaw17_RouteWhole_k4, u_C_hourglasslaw17_RouteWhole_k5, u_C_hourglasslaw17_RouteWhole_k6, u_C_hourglasslaw17_RouteWhole_k7, u_C_hourglasslaw17_RouteWhole_k8, u_C_hourglasslaw17_RouteWhole_k9, u_C_hourglasslaw17_RouteWhole_k10, u_C_hourglasslaw17_RouteWhole_k11, u_C_hourglasslaw17_RouteWhole_k12, u_C_hourglasslaw17_RouteWhole_k13, u_C_hourglasslaw17_RouteWhole_k14, FR_, Nat.reducePow, Int.reducePow, Nat.reduceAdd, Nat.reduceSub, Nat.reduceMul, Int.reduceToNat, Nat.reduceLeDiff, Nat.reduceEqDiff, Nat.reduceLT, Nat.reduceGT, Int.reduceGT, Int.reduceGE, Int.reduceLT, Int.reduceLE, Int.reduceEq, Int.reduceAdd, Int.reduceSub, Int.reduceNeg, reduceCtorEq, if_true, if_false, ite_true, ite_false, ne_eq, OPK_, KEY_, WR_, hlt, h16, hin, heq', h0', hw, ixl_i]
                have hs1 : decide (cntK a pts ∈ c.take (i + 1)) = false := decide_eq_false fun h => ((mem_take_succ h16).1 h).elim hin heq
                have ih1 := ih (i + 1)
                rw [hs1] at ih1
                exact ih1 _ _ _ (by omega) (by omega) rfl (app_take_add _ _ _) rfl
              · have h0' : ((0 : Int) < (i : Int)) := by omega
                have h17 : i - 1 < c.length := by omega
                have hwp : IntKind.i64.wrap ((i : Int) - 1) = ((i - 1 : Nat) : Int) := by rw [wrap_i64 (by omega) (by omega)]; omega
                have hsm := hsmall (c[i - 1]) (List.getElem_mem h17)
                have hwc : IntKind.i64.wrap (((c[i - 1] : Nat) : Int) + 1) = ((c[i - 1] + 1 : Nat) : Int) := wrap_succ (by omega)
                have hst : ((((c[i] : Nat) : Int) = ((c[i - 1] + 1 : Nat) : Int)) = True) := eq_true (by rw [hcons i (by omega) h16])
                simp only [RUN_, u_C_hourglasslaw17_RouteWhole_k1, u_C_hourglasslaw17_RouteWhole_k2, u_C_hourglasslaw17_RouteWhole_k3, u_C_hourglasslaw17_RouteWhole_k4, u_C_hourglasslaw17_RouteWhole_k5, u_C_hourglasslaw17_RouteWhole_k6, u_C_hourglasslaw17_RouteWhole_k7, u_C_hourglasslaw17_RouteWhole_k8, u_C_hourglasslaw17_RouteWhole_k9, u_C_hourglasslaw17_RouteWhole_k10, u_C_hourglasslaw17_RouteWhole_k11, u_C_hourglasslaw17_RouteWhole_k12, u_C_hourglasslaw17_RouteWhole_k13, u_C_hourglasslaw17_RouteWhole_k14, FR_, Nat.reducePow, Int.reducePow, Nat.reduceAdd, Nat.reduceSub, Nat.reduceMul, Int.reduceToNat, Nat.reduceLeDiff, Nat.reduceEqDiff, Nat.reduceLT, Nat.reduceGT, Int.reduceGT, Int.reduceGE, Int.reduceLT, Int.reduceLE, Int.reduceEq, Int.reduceAdd, Int.reduceSub, Int.reduceNeg, reduceCtorEq, if_true, if_false, ite_true, ite_false, ne_eq, OPK_, KEY_, WR_, hlt, h16, hin, heq', h0', hw, ixl_i, h17, hwp, hwc, hst]
                have hs1 : decide (cntK a pts ∈ c.take (i + 1)) = false := decide_eq_false fun h => ((mem_take_succ h16).1 h).elim hin heq
                have ih1 := ih (i + 1)
                rw [hs1] at ih1
                exact ih1 _ _ _ (by omega) (by omega) rfl (app_take_add _ _ _) rfl
        · have hlt : ¬ ((i : Int) < (c.length : Int)) := by omega
          by_cases hin : cntK a pts ∈ c.take i
          · simp only [RUN_, u_C_hourglasslaw17_RouteWhole_k1, u_C_hourglasslaw17_RouteWhole_k2, u_C_hourglasslaw17_RouteWhole_k3, u_C_hourglasslaw17_RouteWhole_k4, u_C_hourglasslaw17_RouteWhole_k5, u_C_hourglasslaw17_RouteWhole_k6, u_C_hourglasslaw17_RouteWhole_k7, u_C_hourglasslaw17_RouteWhole_k8, u_C_hourglasslaw17_RouteWhole_k9, u_C_hourglasslaw17_RouteWhole_k10, u_C_hourglasslaw17_RouteWhole_k11, u_C_hourglasslaw17_RouteWhole_k12, u_C_hourglasslaw17_RouteWhole_k13, u_C_hourglasslaw17_RouteWhole_k14, FR_, Nat.reducePow, Int.reducePow, Nat.reduceAdd, Nat.reduceSub, Nat.reduceMul, Int.reduceToNat, Nat.reduceLeDiff, Nat.reduceEqDiff, Nat.reduceLT, Nat.reduceGT, Int.reduceGT, Int.reduceGE, Int.reduceLT, Int.reduceLE, Int.reduceEq, Int.reduceAdd, Int.reduceSub, Int.reduceNeg, reduceCtorEq, if_true, if_false, ite_true, ite_false, ne_eq, OPK_, KEY_, WR_, hlt, hin]
            exact hK _
          · simp only [RUN_, u_C_hourglasslaw17_RouteWhole_k1, u_C_hourglasslaw17_RouteWhole_k2, u_C_hourglasslaw17_RouteWhole_k3, u_C_hourglasslaw17_RouteWhole_k4, u_C_hourglasslaw17_RouteWhole_k5, u_C_hourglasslaw17_RouteWhole_k6, u_C_hourglasslaw17_RouteWhole_k7, u_C_hourglasslaw17_RouteWhole_k8, u_C_hourglasslaw17_RouteWhole_k9, u_C_hourglasslaw17_RouteWhole_k10, u_C_hourglasslaw17_RouteWhole_k11, u_C_hourglasslaw17_RouteWhole_k12, u_C_hourglasslaw17_RouteWhole_k13, u_C_hourglasslaw17_RouteWhole_k14, FR_, Nat.reducePow, Int.reducePow, Nat.reduceAdd, Nat.reduceSub, Nat.reduceMul, Int.reduceToNat, Nat.reduceLeDiff, Nat.reduceEqDiff, Nat.reduceLT, Nat.reduceGT, Int.reduceGT, Int.reduceGE, Int.reduceLT, Int.reduceLE, Int.reduceEq, Int.reduceAdd, Int.reduceSub, Int.reduceNeg, reduceCtorEq, if_true, if_false, ite_true, ite_false, ne_eq, OPK_, KEY_, WR_, hlt, hin]
            refine h8 _ _ _ _ _ _ ?_
            have hwi : withinK a fr to = false := by
              cases hq : withinK a fr to with
              | false => rfl
              | true => exact (hin (by rw [List.take_of_length_le (by omega)]; exact hmem hq)).elim
            simp only [RUN_, u_C_hourglasslaw17_RouteWhole_k1, u_C_hourglasslaw17_RouteWhole_k2, u_C_hourglasslaw17_RouteWhole_k3, u_C_hourglasslaw17_RouteWhole_k4, u_C_hourglasslaw17_RouteWhole_k5, u_C_hourglasslaw17_RouteWhole_k6, u_C_hourglasslaw17_RouteWhole_k7, u_C_hourglasslaw17_RouteWhole_k8, u_C_hourglasslaw17_RouteWhole_k9, u_C_hourglasslaw17_RouteWhole_k10, u_C_hourglasslaw17_RouteWhole_k11, u_C_hourglasslaw17_RouteWhole_k12, u_C_hourglasslaw17_RouteWhole_k13, u_C_hourglasslaw17_RouteWhole_k14, FR_, Nat.reducePow, Int.reducePow, Nat.reduceAdd, Nat.reduceSub, Nat.reduceMul, Int.reduceToNat, Nat.reduceLeDiff, Nat.reduceEqDiff, Nat.reduceLT, Nat.reduceGT, Int.reduceGT, Int.reduceGE, Int.reduceLT, Int.reduceLE, Int.reduceEq, Int.reduceAdd, Int.reduceSub, Int.reduceNeg, reduceCtorEq, if_true, if_false, ite_true, ite_false, ne_eq, OPK_, KEY_, WR_, hwi]
            exact hK _
      · simp only [RUN_, u_C_hourglasslaw17_RouteWhole_k1, u_C_hourglasslaw17_RouteWhole_k2, u_C_hourglasslaw17_RouteWhole_k3, u_C_hourglasslaw17_RouteWhole_k4, u_C_hourglasslaw17_RouteWhole_k5, u_C_hourglasslaw17_RouteWhole_k6, u_C_hourglasslaw17_RouteWhole_k7, u_C_hourglasslaw17_RouteWhole_k8, u_C_hourglasslaw17_RouteWhole_k9, u_C_hourglasslaw17_RouteWhole_k10, u_C_hourglasslaw17_RouteWhole_k11, u_C_hourglasslaw17_RouteWhole_k12, u_C_hourglasslaw17_RouteWhole_k13, u_C_hourglasslaw17_RouteWhole_k14, FR_, Nat.reducePow, Int.reducePow, Nat.reduceAdd, Nat.reduceSub, Nat.reduceMul, Int.reduceToNat, Nat.reduceLeDiff, Nat.reduceEqDiff, Nat.reduceLT, Nat.reduceGT, Int.reduceGT, Int.reduceGE, Int.reduceLT, Int.reduceLE, Int.reduceEq, Int.reduceAdd, Int.reduceSub, Int.reduceNeg, reduceCtorEq, if_true, if_false, ite_true, ite_false, ne_eq, OPK_, KEY_, hab]
        refine h7 pts fr to _ _ _ _ hh (by omega) ?_
        simp only [lstI, RUN_, u_C_hourglasslaw17_RouteWhole_k1, u_C_hourglasslaw17_RouteWhole_k2, u_C_hourglasslaw17_RouteWhole_k3, u_C_hourglasslaw17_RouteWhole_k4, u_C_hourglasslaw17_RouteWhole_k5, u_C_hourglasslaw17_RouteWhole_k6, u_C_hourglasslaw17_RouteWhole_k7, u_C_hourglasslaw17_RouteWhole_k8, u_C_hourglasslaw17_RouteWhole_k9, u_C_hourglasslaw17_RouteWhole_k10, u_C_hourglasslaw17_RouteWhole_k11, u_C_hourglasslaw17_RouteWhole_k12, u_C_hourglasslaw17_RouteWhole_k13, u_C_hourglasslaw17_RouteWhole_k14, FR_, Nat.reducePow, Int.reducePow, Nat.reduceAdd, Nat.reduceSub, Nat.reduceMul, Int.reduceToNat, Nat.reduceLeDiff, Nat.reduceEqDiff, Nat.reduceLT, Nat.reduceGT, Int.reduceGT, Int.reduceGE, Int.reduceLT, Int.reduceLE, Int.reduceEq, Int.reduceAdd, Int.reduceSub, Int.reduceNeg, reduceCtorEq, if_true, if_false, ite_true, ite_false, ne_eq, OPK_, KEY_]
        generalize hc : coverK pts fr to = c at Q
        have hcons := Q.cons
        have hmem := Q.mem
        have hsmall := Q.small
        rw [hc] at hcons hmem hsmall
        refine loop_rule hC (α := Nat) (fun i => c.length - i) (fun i => [.undef, .undef, .undef, .undef, .undef, .undef, .ptr (.stk S.length) 0, .undef, .ptr (.stk (S.length + 2)) 0, .ptr (.stk (S.length + 3)) 0, .undef, .undef, .undef, .i ((cntK a pts : Nat) : Int), .undef, .list .sh 1 (c.map fun (n : Nat) => AV.i n), .bool (decide (cntK a pts ∈ c.take i)), .s (.int .i64 i), .undef, .undef, .undef, .undef, .undef, .undef, .undef, .undef, .undef, .undef, .undef, .undef, .undef, .undef, .undef, .undef, .undef, .undef, .undef, .undef, .undef, .undef, .undef, .undef, .undef, .undef, .undef, .undef, .undef, .undef, .undef, .undef, .undef, .undef, .undef, .undef, .undef, .undef, .undef, .undef, .undef, .undef, .undef, .undef, .undef, .undef, .undef, .undef, .undef, .undef, .undef, .undef, .undef, .undef, .undef, .undef, .undef, .undef, .undef, .undef, .undef, .undef, .undef, .undef, .undef, .undef, .undef, .undef, .undef, .undef, .undef, .undef, .undef, .undef, .undef, .undef, .undef, .undef, .undef, .undef, .undef, .undef, .undef, .undef, .undef, .undef, .undef, .undef, .undef, .undef, .undef]) (fun _ => S ++ [bs a.b, bs b.b, bs fr.b, bs to.b]) (fun _ => H ++ [o, tabA pts]) (fun i => i ≤ c.length) 0 (by simp) (by simp [keep]) (by rw [app_take_add]; rfl) rfl (fun i hi => by simp [AV.under, AV.under.go]) ?_
        intro i hi ih
        by_cases h16 : i < c.length
        · have hlt : ((i : Int) < (c.length : Int)) := by omega
          have hclen : c.length ≤ 1000 := by rw [← hc]; exact coverK_len (by omega)
          have hw := wrap_succ (i := i) (by omega)
          by_cases hin : cntK a pts ∈ c.take i
          · by_cases heq : c[i] = cntK a pts
            · have heq' : ((((c[i] : Nat) : Int) = ((cntK a pts : Nat) : Int)) = True) := eq_true (by rw [heq])
              by_cases h0 : i = 0
              · have h0' : ¬ ((0 : Int) < (i : Int)) := by omega
                simp only [RUN_, u_C_hourglasslaw17_RouteWhole_k1, u_C_hourglasslaw17_RouteWhole_k2, u_C_hourglasslaw17_RouteWhole_k3, u_C_hourglasslaw17_RouteWhole_k4, u_C_hourglasslaw17_RouteWhole_k5, u_C_hourglasslaw17_RouteWhole_k6, u_C_hourglasslaw17_RouteWhole_k7, u_C_hourglasslaw17_RouteWhole_k8, u_C_hourglasslaw17_RouteWhole_k9, u_C_hourglasslaw17_RouteWhole_k10, u_C_hourglasslaw17_RouteWhole_k11, u_C_hourglasslaw17_RouteWhole_k12, u_C_hourglasslaw17_RouteWhole_k13, u_C_hourglasslaw17_RouteWhole_k14, FR_, Nat.reducePow, Int.reducePow, Nat.reduceAdd, Nat.reduceSub, Nat.reduceMul, Int.reduceToNat, Nat.reduceLeDiff, Nat.reduceEqDiff, Nat.reduceLT, Nat.reduceGT, Int.reduceGT, Int.reduceGE, Int.reduceLT, Int.reduceLE, Int.reduceEq, Int.reduceAdd, Int.reduceSub, Int.reduceNeg, reduceCtorEq, if_true, if_false, ite_true, ite_false, ne_eq, OPK_, KEY_, WR_, hlt, h16, hin, heq', h0', hw, ixl_i]
                have hs1 : decide (cntK a pts ∈ c.take (i + 1)) = true := decide_eq_true ((mem_take_succ h16).2 (.inl hin))
                have ih1 := ih (i + 1)
                rw [hs1] at ih1
                exact ih1 _ _ _ (by omega) (by omega) rfl (app_take_add _ _ _) rfl
              · have h0' : ((0 : Int) < (i : Int)) := by omega
                have h17 : i - 1 < c.length := by omega
                have hwp : IntKind.i64.wrap ((i : Int) - 1) = ((i - 1 : Nat) : Int) := by rw [wrap_i64 (by omega) (by omega)]; omega
                have hsm := hsmall (c[i - 1]) (List.getElem_mem h17)
                have hwc : IntKind.i64.wrap (((c[i - 1] : Nat) : Int) + 1) = ((c[i - 1] + 1 : Nat) : Int) := wrap_succ (by omega)
                have hst : ((((c[i] : Nat) : Int) = ((c[i - 1] + 1 : Nat) : Int)) = True) := eq_true (by rw [hcons i (by omega) h16])
                simp only [RUN_, u_C_hourglasslaw17_RouteWhole_k1, u_C_hourglasslaw17_RouteWhole_k2, u_C_hourglasslaw17_RouteWhole_k3, u_C_hourglasslaw17_RouteWhole_k4, u_C_hourglasslaw17_RouteWhole_k5, u_C_hourglasslaw17_RouteWhole_k6, u_C_hourglasslaw17_RouteWhole_k7, u_C_hourglasslaw17_RouteWhole_k8, u_C_hourglasslaw17_RouteWhole_k9, u_C_hourglasslaw17_RouteWhole_k10, u_C_hourglasslaw17_RouteWhole_k11, u_C_hourglasslaw17_RouteWhole_k12, u_C_hourglasslaw17_RouteWhole_k13, u_C_hourglasslaw17_RouteWhole_k14, FR_, Nat.reducePow, Int.reducePow, Nat.reduceAdd, Nat.reduceSub, Nat.reduceMul, Int.reduceToNat, Nat.reduceLeDiff, Nat.reduceEqDiff, Nat.reduceLT, Nat.reduceGT, Int.reduceGT, Int.reduceGE, Int.reduceLT, Int.reduceLE, Int.reduceEq, Int.reduceAdd, Int.reduceSub, Int.reduceNeg, reduceCtorEq, if_true, if_false, ite_true, ite_false, ne_eq, OPK_, KEY_, WR_, hlt, h16, hin, heq', h0', hw, ixl_i, h17, hwp, hwc, hst]
                have hs1 : decide (cntK a pts ∈ c.take (i + 1)) = true := decide_eq_true ((mem_take_succ h16).2 (.inl hin))
                have ih1 := ih (i + 1)
                rw [hs1] at ih1
                exact ih1 _ _ _ (by omega) (by omega) rfl (app_take_add _ _ _) rfl
            · have heq' : ¬ (((c[i] : Nat) : Int) = ((cntK a pts : Nat) : Int)) := by omega
              by_cases h0 : i = 0
              · have h0' : ¬ ((0 : Int) < (i : Int)) := by omega
                simp only [RUN_, u_C_hourglasslaw17_RouteWhole_k1, u_C_hourglasslaw17_RouteWhole_k2, u_C_hourglasslaw17_RouteWhole_k3, u_C_hourglasslaw17_RouteWhole_k4, u_C_hourglasslaw17_RouteWhole_k5, u_C_hourglasslaw17_RouteWhole_k6, u_C_hourglasslaw17_RouteWhole_k7, u_C_hourglasslaw17_RouteWhole_k8, u_C_hourglasslaw17_RouteWhole_k9, u_C_hourglasslaw17_RouteWhole_k10, u_C_hourglasslaw17_RouteWhole_k11, u_C_hourglasslaw17_RouteWhole_k12, u_C_hourglasslaw17_RouteWhole_k13, u_C_hourglasslaw17_RouteWhole_k14, FR_, Nat.reducePow, Int.reducePow, Nat.reduceAdd, Nat.reduceSub, Nat.reduceMul, Int.reduceToNat, Nat.reduceLeDiff, Nat.reduceEqDiff, Nat.reduceLT, Nat.reduceGT, Int.reduceGT, Int.reduceGE, Int.reduceLT, Int.reduceLE, Int.reduceEq, Int.reduceAdd, Int.reduceSub, Int.reduceNeg, reduceCtorEq, if_true, if_false, ite_true, ite_false, ne_eq, OPK_, KEY_, WR_, hlt, h16, hin, heq', h0', hw, ixl_i]
                have hs1 : decide (cntK a pts ∈ c.take (i + 1)) = true := decide_eq_true ((mem_take_succ h16).2 (.inl hin))
                have ih1 := ih (i + 1)
                rw [hs1] at ih1
                exact ih1 _ _ _ (by omega) (by omega) rfl (app_take_add _ _ _) rfl
              · have h0' : ((0 : Int) < (i : Int)) := by omega
                have h17 : i - 1 < c.length := by omega
                have hwp : IntKind.i64.wrap ((i : Int) - 1) = ((i - 1 : Nat) : Int) := by rw [wrap_i64 (by omega) (by omega)]; omega
                have hsm := hsmall (c[i - 1]) (List.getElem_mem h17)
                have hwc : IntKind.i64.wrap (((c[i - 1] : Nat) : Int) + 1) = ((c[i - 1] + 1 : Nat) : Int) := wrap_succ (by omega)
                have hst : ((((c[i] : Nat) : Int) = ((c[i - 1] + 1 : Nat) : Int)) = True) := eq_true (by rw [hcons i (by omega) h16])
                simp only [RUN_, u_C_hourglasslaw17_RouteWhole_k1, u_C_hourglasslaw17_RouteWhole_k2, u_C_hourglasslaw17_RouteWhole_k3, u_C_hourglasslaw17_RouteWhole_k4, u_C_hourglasslaw17_RouteWhole_k5, u_C_hourglasslaw17_RouteWhole_k6, u_C_hourglasslaw17_RouteWhole_k7, u_C_hourglasslaw17_RouteWhole_k8, u_C_hourglasslaw17_RouteWhole_k9, u_C_hourglasslaw17_RouteWhole_k10, u_C_hourglasslaw17_RouteWhole_k11, u_C_hourglasslaw17_RouteWhole_k12, u_C_hourglasslaw17_RouteWhole_k13, u_C_hourglasslaw17_RouteWhole_k14, FR_, Nat.reducePow, Int.reducePow, Nat.reduceAdd, Nat.reduceSub, Nat.reduceMul, Int.reduceToNat, Nat.reduceLeDiff, Nat.reduceEqDiff, Nat.reduceLT, Nat.reduceGT, Int.reduceGT, Int.reduceGE, Int.reduceLT, Int.reduceLE, Int.reduceEq, Int.reduceAdd, Int.reduceSub, Int.reduceNeg, reduceCtorEq, if_true, if_false, ite_true, ite_false, ne_eq, OPK_, KEY_, WR_, hlt, h16, hin, heq', h0', hw, ixl_i, h17, hwp, hwc, hst]
                have hs1 : decide (cntK a pts ∈ c.take (i + 1)) = true := decide_eq_true ((mem_take_succ h16).2 (.inl hin))
                have ih1 := ih (i + 1)
                rw [hs1] at ih1
                exact ih1 _ _ _ (by omega) (by omega) rfl (app_take_add _ _ _) rfl
          · by_cases heq : c[i] = cntK a pts
            · have heq' : ((((c[i] : Nat) : Int) = ((cntK a pts : Nat) : Int)) = True) := eq_true (by rw [heq])
              by_cases h0 : i = 0
              · have h0' : ¬ ((0 : Int) < (i : Int)) := by omega
                simp only [RUN_, u_C_hourglasslaw17_RouteWhole_k1, u_C_hourglasslaw17_RouteWhole_k2, u_C_hourglasslaw17_RouteWhole_k3, u_C_hourglasslaw17_RouteWhole_k4, u_C_hourglasslaw17_RouteWhole_k5, u_C_hourglasslaw17_RouteWhole_k6, u_C_hourglasslaw17_RouteWhole_k7, u_C_hourglasslaw17_RouteWhole_k8, u_C_hourglasslaw17_RouteWhole_k9, u_C_hourglasslaw17_RouteWhole_k10, u_C_hourglasslaw17_RouteWhole_k11, u_C_hourglasslaw17_RouteWhole_k12, u_C_hourglasslaw17_RouteWhole_k13, u_C_hourglasslaw17_RouteWhole_k14, FR_, Nat.reducePow, Int.reducePow, Nat.reduceAdd, Nat.reduceSub, Nat.reduceMul, Int.reduceToNat, Nat.reduceLeDiff, Nat.reduceEqDiff, Nat.reduceLT, Nat.reduceGT, Int.reduceGT, Int.reduceGE, Int.reduceLT, Int.reduceLE, Int.reduceEq, Int.reduceAdd, Int.reduceSub, Int.reduceNeg, reduceCtorEq, if_true, if_false, ite_true, ite_false, ne_eq, OPK_, KEY_, WR_, hlt, h16, hin, heq', h0', hw, ixl_i]
                have hs1 : decide (cntK a pts ∈ c.take (i + 1)) = true := decide_eq_true ((mem_take_succ h16).2 (.inr heq))
                have ih1 := ih (i + 1)
                rw [hs1] at ih1
                exact ih1 _ _ _ (by omega) (by omega) rfl (app_take_add _ _ _) rfl
              · have h0' : ((0 : Int) < (i : Int)) := by omega
                have h17 : i - 1 < c.length := by omega
                have hwp : IntKind.i64.wrap ((i : Int) - 1) = ((i - 1 : Nat) : Int) := by rw [wrap_i64 (by omega) (by omega)]; omega
                have hsm := hsmall (c[i - 1]) (List.getElem_mem h17)
                have hwc : IntKind.i64.wrap (((c[i - 1] : Nat) : Int) + 1) = ((c[i - 1] + 1 : Nat) : Int) := wrap_succ (by omega)
                have hst : ((((c[i] : Nat) : Int) = ((c[i - 1] + 1 : Nat) : Int)) = True) := eq_true (by rw [hcons i (by omega) h16])
                simp only [RUN_, u_C_hourglasslaw17_RouteWhole_k1, u_C_hourglasslaw17_RouteWhole_k2, u_C_hourglasslaw17_RouteWhole_k3, u_C_hourglasslaw17_RouteWhole_k4, u_C_hourglasslaw17_RouteWhole_k5, u_C_hourglasslaw17_RouteWhole_k6, u_C_hourglasslaw17_RouteWhole_k7, u_C_hourglasslaw17_RouteWhole_k8, u_C_hourglasslaw17_RouteWhole_k9, u_C_hourglasslaw17_RouteWhole_k10, u_C_hourglasslaw17_RouteWhole_k11, u_C_hourglasslaw17_RouteWhole_k12, u_C_hourglasslaw17_RouteWhole_k13, u_C_hourglasslaw17_RouteWhole_k14, FR_, Nat.reducePow, Int.reducePow, Nat.reduceAdd, Nat.reduceSub, Nat.reduceMul, Int.reduceToNat, Nat.reduceLeDiff, Nat.reduceEqDiff, Nat.reduceLT, Nat.reduceGT, Int.reduceGT, Int.reduceGE, Int.reduceLT, Int.reduceLE, Int.reduceEq, Int.reduceAdd, Int.reduceSub, Int.reduceNeg, reduceCtorEq, if_true, if_false, ite_true, ite_false, ne_eq, OPK_, KEY_, WR_, hlt, h16, hin, heq', h0', hw, ixl_i, h17, hwp, hwc, hst]
                have hs1 : decide (cntK a pts ∈ c.take (i + 1)) = true := decide_eq_true ((mem_take_succ h16).2 (.inr heq))
                have ih1 := ih (i + 1)
                rw [hs1] at ih1
                exact ih1 _ _ _ (by omega) (by omega) rfl (app_take_add _ _ _) rfl
            · have heq' : ¬ (((c[i] : Nat) : Int) = ((cntK a pts : Nat) : Int)) := by omega
              by_cases h0 : i = 0
              · have h0' : ¬ ((0 : Int) < (i : Int)) := by omega
                simp only [RUN_, u_C_hourglasslaw17_RouteWhole_k1, u_C_hourglasslaw17_RouteWhole_k2, u_C_hourglasslaw17_RouteWhole_k3, u_C_hourglasslaw17_RouteWhole_k4, u_C_hourglasslaw17_RouteWhole_k5, u_C_hourglasslaw17_RouteWhole_k6, u_C_hourglasslaw17_RouteWhole_k7, u_C_hourglasslaw17_RouteWhole_k8, u_C_hourglasslaw17_RouteWhole_k9, u_C_hourglasslaw17_RouteWhole_k10, u_C_hourglasslaw17_RouteWhole_k11, u_C_hourglasslaw17_RouteWhole_k12, u_C_hourglasslaw17_RouteWhole_k13, u_C_hourglasslaw17_RouteWhole_k14, FR_, Nat.reducePow, Int.reducePow, Nat.reduceAdd, Nat.reduceSub, Nat.reduceMul, Int.reduceToNat, Nat.reduceLeDiff, Nat.reduceEqDiff, Nat.reduceLT, Nat.reduceGT, Int.reduceGT, Int.reduceGE, Int.reduceLT, Int.reduceLE, Int.reduceEq, Int.reduceAdd, Int.reduceSub, Int.reduceNeg, reduceCtorEq, if_true, if_false, ite_true, ite_false, ne_eq, OPK_, KEY_, WR_, hlt, h16, hin, heq', h0', hw, ixl_i]
                have hs1 : decide (cntK a pts ∈ c.take (i + 1)) = false := decide_eq_false fun h => ((mem_take_succ h16).1 h).elim hin heq
                have ih1 := ih (i + 1)
                rw [hs1] at ih1
                exact ih1 _ _ _ (by omega) (by omega) rfl (app_take_add _ _ _) rfl
              · have h0' : ((0 : Int) < (i : Int)) := by omega
                have h17 : i - 1 < c.length := by omega
                have hwp : IntKind.i64.wrap ((i : Int) - 1) = ((i - 1 : Nat) : Int) := by rw [wrap_i64 (by omega) (by omega)]; omega
                have hsm := hsmall (c[i - 1]) (List.getElem_mem h17)
                have hwc : IntKind.i64.wrap (((c[i - 1] : Nat) : Int) + 1) = ((c[i - 1] + 1 : Nat) : Int) := wrap_succ (by omega)
                have hst : ((((c[i] : Nat) : Int) = ((c[i - 1] + 1 : Nat) : Int)) = True) := eq_true (by rw [hcons i (by omega) h16])
                simp only [RUN_, u_C_hourglasslaw17_RouteWhole_k1, u_C_hourglasslaw17_RouteWhole_k2, u_C_hourglasslaw17_RouteWhole_k3, u_C_hourglasslaw17_RouteWhole_k4, u_C_hourglasslaw17_RouteWhole_k5, u_C_hourglasslaw17_RouteWhole_k6, u_C_hourglasslaw17_RouteWhole_k7, u_C_hourglasslaw17_RouteWhole_k8, u_C_hourglasslaw17_RouteWhole_k9, u_C_hourglasslaw17_RouteWhole_k10, u_C_hourglasslaw17_RouteWhole_k11, u_C_hourglasslaw17_RouteWhole_k12, u_C_hourglasslaw17_RouteWhole_k13, u_C_hourglasslaw17_RouteWhole_k14, FR_, Nat.reducePow, Int.reducePow, Nat.reduceAdd, Nat.reduceSub, Nat.reduceMul, Int.reduceToNat, Nat.reduceLeDiff, Nat.reduceEqDiff, Nat.reduceLT, Nat.reduceGT, Int.reduceGT, Int.reduceGE, Int.reduceLT, Int.reduceLE, Int.reduceEq, Int.reduceAdd, Int.reduceSub, Int.reduceNeg, reduceCtorEq, if_true, if_false, ite_true, ite_false, ne_eq, OPK_, KEY_, WR_, hlt, h16, hin, heq', h0', hw, ixl_i, h17, hwp, hwc, hst]
                have hs1 : decide (cntK a pts ∈ c.take (i + 1)) = false := decide_eq_false fun h => ((mem_take_succ h16).1 h).elim hin heq
                have ih1 := ih (i + 1)
                rw [hs1] at ih1
                exact ih1 _ _ _ (by omega) (by omega) rfl (app_take_add _ _ _) rfl
        · have hlt : ¬ ((i : Int) < (c.length : Int)) := by omega
          by_cases hin : cntK a pts ∈ c.take i
          · simp only [RUN_, u_C_hourglasslaw17_RouteWhole_k1, u_C_hourglasslaw17_RouteWhole_k2, u_C_hourglasslaw17_RouteWhole_k3, u_C_hourglasslaw17_RouteWhole_k4, u_C_hourglasslaw17_RouteWhole_k5, u_C_hourglasslaw17_RouteWhole_k6, u_C_hourglasslaw17_RouteWhole_k7, u_C_hourglasslaw17_RouteWhole_k8, u_C_hourglasslaw17_RouteWhole_k9, u_C_hourglasslaw17_RouteWhole_k10, u_C_hourglasslaw17_RouteWhole_k11, u_C_hourglasslaw17_RouteWhole_k12, u_C_hourglasslaw17_RouteWhole_k13, u_C_hourglasslaw17_RouteWhole_k14, FR_, Nat.reducePow, Int.reducePow, Nat.reduceAdd, Nat.reduceSub, Nat.reduceMul, Int.reduceToNat, Nat.reduceLeDiff, Nat.reduceEqDiff, Nat.reduceLT, Nat.reduceGT, Int.reduceGT, Int.reduceGE, Int.reduceLT, Int.reduceLE, Int.reduceEq, Int.reduceAdd, Int.reduceSub, Int.reduceNeg, reduceCtorEq, if_true, if_false, ite_true, ite_false, ne_eq, OPK_, KEY_, WR_, hlt, hin]
            exact hK _
          · simp only [RUN_, u_C_hourglasslaw17_RouteWhole_k1, u_C_hourglasslaw17_RouteWhole_k2, u_C_hourglasslaw17_RouteWhole_k3, u_C_hourglasslaw17_RouteWhole_k4, u_C_hourglasslaw17_RouteWhole_k5, u_C_hourglasslaw17_RouteWhole_k6, u_C_hourglasslaw17_RouteWhole_k7, u_C_hourglasslaw17_RouteWhole_k8, u_C_hourglasslaw17_RouteWhole_k9, u_C_hourglasslaw17_RouteWhole_k10, u_C_hourglasslaw17_RouteWhole_k11, u_C_hourglasslaw17_RouteWhole_k12, u_C_hourglasslaw17_RouteWhole_k13, u_C_hourglasslaw17_RouteWhole_k14, FR_, Nat.reducePow, Int.reducePow, Nat.reduceAdd, Nat.reduceSub, Nat.reduceMul, Int.reduceToNat, Nat.reduceLeDiff, Nat.reduceEqDiff, Nat.reduceLT, Nat.reduceGT, Int.reduceGT, Int.reduceGE, Int.reduceLT, Int.reduceLE, Int.reduceEq, Int.reduceAdd, Int.reduceSub, Int.reduceNeg, reduceCtorEq, if_true, if_false, ite_true, ite_false, ne_eq, OPK_, KEY_, WR_, hlt, hin]
            refine h8 _ _ _ _ _ _ ?_
            have hwi : withinK a fr to = false := by
              cases hq : withinK a fr to with
              | false => rfl
              | true => exact (hin (by rw [List.take_of_length_le (by omega)]; exact hmem hq)).elim
            simp only [RUN_, u_C_hourglasslaw17_RouteWhole_k1, u_C_hourglasslaw17_RouteWhole_k2, u_C_hourglasslaw17_RouteWhole_k3, u_C_hourglasslaw17_RouteWhole_k4, u_C_hourglasslaw17_RouteWhole_k5, u_C_hourglasslaw17_RouteWhole_k6, u_C_hourglasslaw17_RouteWhole_k7, u_C_hourglasslaw17_RouteWhole_k8, u_C_hourglasslaw17_RouteWhole_k9, u_C_hourglasslaw17_RouteWhole_k10, u_C_hourglasslaw17_RouteWhole_k11, u_C_hourglasslaw17_RouteWhole_k12, u_C_hourglasslaw17_RouteWhole_k13, u_C_hourglasslaw17_RouteWhole_k14, FR_, Nat.reducePow, Int.reducePow, Nat.reduceAdd, Nat.reduceSub, Nat.reduceMul, Int.reduceToNat, Nat.reduceLeDiff, Nat.reduceEqDiff, Nat.reduceLT, Nat.reduceGT, Int.reduceGT, Int.reduceGE, Int.reduceLT, Int.reduceLE, Int.reduceEq, Int.reduceAdd, Int.reduceSub, Int.reduceNeg, reduceCtorEq, if_true, if_false, ite_true, ite_false, ne_eq, OPK_, KEY_, WR_, hwi]
            exact hK _
end Go.AM
