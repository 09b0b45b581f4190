import Derived.Test.YthbiajoionockaaM11
import Derived.Test.YthbiajoionockaaM10
import Derived.Test.YthbiajoionockaaM7
import Derived.OpenShut
import Derived.Carry
import Derived.ChangeOld
namespace Go.AM
open Go
set_option maxRecDepth 20000
set_option linter.unusedSimpArgs false
set_option linter.unusedVariables false

theorem shares_some {a b : Tx} (h : sharesT a b = true) : 0 < a.writes.length ∧ 0 < b.writes.length := by
  unfold sharesT at h
  rw [List.any_eq_true] at h
  obtain ⟨w, hw, h⟩ := h
  obtain ⟨v, hv, _⟩ := lastR_iff.1 h
  exact ⟨List.length_pos_of_mem hw, List.length_pos_of_mem hv⟩
def CheckRS (C : CallW) (f : FuncId) : Prop := ∀ (l : List Tx) S H (K : AV → St → Prop), l.length ≤ 1000 → okT l → K (fltA (checkT l).1 (checkT l).2.1 (checkT l).2.2) ⟨S, H⟩ → C (.fn f) [lstT l] ⟨S, H⟩ K
set_option maxHeartbeats 16000000 in
theorem ref23_Check_spec {C : CallW} (hC : LeC C C) (P : Program) {c : Nat → FuncId} (h0 : CmpSS C (c 0)) (h1 : CommonS C (c 1)) (h2 : LastRS C (c 2)) (h3 : ValueRS C (c 3)) : ∀ (l : List Tx) S H (K : AV → St → Prop), l.length ≤ 1000 → okT l → K (fltA (checkT l).1 (checkT l).2.1 (checkT l).2.2) ⟨S, H⟩ → runL C P (C_hourglassref23_Check c) [lstT l] ⟨S, H⟩ K := by
  intro l S H K hl1 hok hK0
  have hl : l.length ≤ 9223372036854775807 := by omega
  have go : ∀ {n0 m b is fr S H K}, underL n0 (keep m fr) = true → runC C P false b (.lp m b n0 :: is) (keep m fr) ⟨S.take n0, H⟩ K → runLp C P false m b n0 is fr ⟨S, H⟩ K := fun hu h => loop_step hC rfl hu h
  have h0' : ∀ (a b : Stp) S H (K : AV → St → Prop), K (.i (cmpS a b)) ⟨S, H⟩ → C (.fn (c 0)) [.agg [.s (.int .i64 a.t), u8 a.n], .agg [.s (.int .i64 b.t), u8 b.n]] ⟨S, H⟩ K := h0
  have h1' := h1
  unfold CommonS lstW at h1'
  have h3' : ∀ (k : Key) (s : Stp) S H (K : AV → St → Prop), l.length ≤ 9223372036854775807 → okT l → K (.tup [.s (.str (valueT l k s).1), .bool (valueT l k s).2]) ⟨S, H⟩ → C (.fn (c 3)) [.list .sh 8 (l.map txA), .agg (bs k.b), .agg [.s (.int .i64 s.t), u8 s.n]] ⟨S, H⟩ K := h3 l
  have w3 : IntKind.i64.wrap 3 = 3 := by decide
  have w4 : IntKind.i64.wrap 4 = 4 := by decide
  unfold fltA checkT at hK0
  have hKs : ∀ i, aloneF l 0 = some i → K (.agg [.i 1, .i i, .i (-1)]) ⟨S, H⟩ := fun i h => by rw [h] at hK0; exact hK0
  have hKa : aloneF l 0 = none → ∀ p, pairF alikeT l 0 = some p → K (.agg [.i 2, .i p.1, .i p.2]) ⟨S, H⟩ := fun h p h2 => by rw [h] at hK0; dsimp only at hK0; rw [h2] at hK0; exact hK0
  have hKc : aloneF l 0 = none → pairF alikeT l 0 = none → ∀ p, pairF bothT l 0 = some p → K (.agg [.i 3, .i p.1, .i p.2]) ⟨S, H⟩ := fun h h2 p h3 => by rw [h] at hK0; dsimp only at hK0; rw [h2] at hK0; dsimp only at hK0; rw [h3] at hK0; exact hK0
  have hKd : aloneF l 0 = none → pairF alikeT l 0 = none → pairF bothT l 0 = none → K (match readsF l l 0 with | some i => .agg [.i 4, .i i, .i (-1)] | none => .agg [.i 0, .i (-1), .i (-1)]) ⟨S, H⟩ := fun h h2 h3 => by
    rw [h] at hK0; dsimp only at hK0; rw [h2] at hK0; dsimp only at hK0; rw [h3] at hK0; dsimp only at hK0
    cases h4 : readsF l l 0 <;> (rw [h4] at hK0; exact hK0)
  clear hK0
  simp only [lstT, C_hourglassref23_Check, RUN_, U_hourglassref23_Check, FR_, Nat.reducePow, Int.reducePow, Nat.reduceAdd, Nat.reduceSub, Nat.reduceMul, Int.reduceToNat, Nat.reduceLeDiff, Nat.reduceEqDiff, Nat.reduceLT, Nat.reduceGT, Int.reduceGT, Int.reduceGE, Int.reduceLT, Int.reduceLE, Int.reduceEq, Int.reduceAdd, Int.reduceSub, Int.reduceNeg, reduceCtorEq, if_true, if_false, ite_true, ite_false, ne_eq, eq_self, OPK_, KEY_, WR_, CHK_, Nat.reduceBEq, K4_, K5_, K6_, K7_]
  refine loop_rule hC (α := Nat) (fun a => l.length - a) (fun a => [.list .sh 8 (l.map txA), .undef, .ptr (.stk S.length) 0, .s (.int .i64 a), .undef, .undef, .undef, .undef, .undef, .undef, .undef, .undef, .undef, .undef, .undef, .undef, .undef, .undef, .undef, .undef, .undef, .undef, .undef, .undef, .undef, .undef, .undef, .undef, .undef, .undef, .undef, .undef, .undef, .undef, .undef, .undef, .undef, .undef, .undef, .undef, .undef, .undef, .undef, .undef, .undef, .undef, .undef, .undef, .undef, .undef, .undef, .undef, .undef, .undef, .undef, .undef, .undef, .undef, .undef, .undef, .undef, .undef, .undef, .undef, .undef, .undef, .undef, .undef, .undef, .undef, .undef, .undef, .undef, .undef, .undef, .undef, .undef, .undef, .undef, .undef, .undef, .undef, .undef, .undef, .undef, .undef, .undef, .undef, .undef, .undef, .undef, .undef, .undef, .undef, .undef, .undef, .undef, .undef, .undef, .undef, .undef, .undef, .undef, .undef, .undef, .undef, .undef, .undef, .undef, .undef, .undef, .undef, .undef, .undef, .undef, .undef, .undef, .undef, .undef, .undef, .undef, .undef, .undef, .undef, .undef, .undef, .undef, .undef, .undef, .undef, .undef, .undef, .undef, .undef, .undef, .undef, .undef, .undef, .undef, .undef, .undef, .undef, .undef, .undef, .undef, .undef, .undef, .undef, .undef, .undef, .undef, .undef, .undef, .undef, .undef, .undef, .undef, .undef, .undef, .undef, .undef, .undef, .undef, .undef, .undef, .undef, .undef, .undef, .undef, .undef, .undef, .undef, .undef, .undef, .undef, .undef, .undef, .undef, .undef, .undef, .undef, .undef, .undef, .undef, .undef, .undef, .undef, .undef, .undef, .undef, .undef, .undef, .undef, .undef, .undef, .undef, .undef, .undef, .undef, .undef, .undef, .undef]) (fun a => S ++ [[.i 0, .i 0, .i 0]]) (fun a => H) (fun a => a ≤ l.length ∧ aloneF l 0 = aloneF (l.drop a) a) 0 ⟨by simp, rfl⟩ rfl (by rw [app_take_add]; rfl) rfl (fun a _ => by simp [AV.under, AV.under.go]) ?_
  rintro i ⟨hi, hinv⟩ ih
  by_cases h16 : i < l.length
  · have hlt : ((i : Int) < (l.length : Int)) := by omega
    have hw : IntKind.i64.wrap ((i : Int) + 1) = (i : Int) + 1 := wrap_i64 (by omega) (by omega)
    rw [List.drop_eq_getElem_cons h16, aloneF] at hinv
    cases hd : (l[i]).done with
    | false =>
      rw [if_neg (by simp [wroteT, hd])] at hinv
      simp only [RUN_, U_hourglassref23_Check, FR_, Nat.reducePow, Int.reducePow, Nat.reduceAdd, Nat.reduceSub, Nat.reduceMul, Int.reduceToNat, Nat.reduceLeDiff, Nat.reduceEqDiff, Nat.reduceLT, Nat.reduceGT, Int.reduceGT, Int.reduceGE, Int.reduceLT, Int.reduceLE, Int.reduceEq, Int.reduceAdd, Int.reduceSub, Int.reduceNeg, reduceCtorEq, if_true, if_false, ite_true, ite_false, ne_eq, eq_self, OPK_, KEY_, WR_, CHK_, Nat.reduceBEq, K4_, K5_, K6_, K7_, hlt, h16, hd, hw]
      exact ih (i + 1) _ _ _ (by omega) ⟨by omega, hinv⟩ rfl (by rw [app_take_add]; rfl) rfl
    | true =>
      by_cases hwx : 0 < (l[i]).writes.length
      · have hwx' : (0 : Int) < ((l[i]).writes.length : Int) := by omega
        simp only [RUN_, U_hourglassref23_Check, FR_, Nat.reducePow, Int.reducePow, Nat.reduceAdd, Nat.reduceSub, Nat.reduceMul, Int.reduceToNat, Nat.reduceLeDiff, Nat.reduceEqDiff, Nat.reduceLT, Nat.reduceGT, Int.reduceGT, Int.reduceGE, Int.reduceLT, Int.reduceLE, Int.reduceEq, Int.reduceAdd, Int.reduceSub, Int.reduceNeg, reduceCtorEq, if_true, if_false, ite_true, ite_false, ne_eq, eq_self, OPK_, KEY_, WR_, CHK_, Nat.reduceBEq, K4_, K5_, K6_, K7_, hlt, h16, hd, hwx']
        refine h0' (l[i]).stamp (l[i]).snap _ _ _ ?_
        by_cases e2 : cmpS (l[i]).stamp (l[i]).snap ≤ 0
        · rw [if_pos ⟨by simp [wroteT, hd, hwx], e2⟩] at hinv
          have hK := hKs _ hinv
          simp only [RUN_, U_hourglassref23_Check, FR_, Nat.reducePow, Int.reducePow, Nat.reduceAdd, Nat.reduceSub, Nat.reduceMul, Int.reduceToNat, Nat.reduceLeDiff, Nat.reduceEqDiff, Nat.reduceLT, Nat.reduceGT, Int.reduceGT, Int.reduceGE, Int.reduceLT, Int.reduceLE, Int.reduceEq, Int.reduceAdd, Int.reduceSub, Int.reduceNeg, reduceCtorEq, if_true, if_false, ite_true, ite_false, ne_eq, eq_self, OPK_, KEY_, WR_, CHK_, Nat.reduceBEq, K4_, K5_, K6_, K7_, e2]
          exact hK
        · rw [if_neg (fun h => e2 h.2)] at hinv
          simp only [RUN_, U_hourglassref23_Check, FR_, Nat.reducePow, Int.reducePow, Nat.reduceAdd, Nat.reduceSub, Nat.reduceMul, Int.reduceToNat, Nat.reduceLeDiff, Nat.reduceEqDiff, Nat.reduceLT, Nat.reduceGT, Int.reduceGT, Int.reduceGE, Int.reduceLT, Int.reduceLE, Int.reduceEq, Int.reduceAdd, Int.reduceSub, Int.reduceNeg, reduceCtorEq, if_true, if_false, ite_true, ite_false, ne_eq, eq_self, OPK_, KEY_, WR_, CHK_, Nat.reduceBEq, K4_, K5_, K6_, K7_, e2, hw]
          exact ih (i + 1) _ _ _ (by omega) ⟨by omega, hinv⟩ rfl (by rw [app_take_add]; rfl) rfl
      · have hwx' : ¬ ((0 : Int) < ((l[i]).writes.length : Int)) := by omega
        rw [if_neg (by simp [wroteT, hwx])] at hinv
        simp only [RUN_, U_hourglassref23_Check, FR_, Nat.reducePow, Int.reducePow, Nat.reduceAdd, Nat.reduceSub, Nat.reduceMul, Int.reduceToNat, Nat.reduceLeDiff, Nat.reduceEqDiff, Nat.reduceLT, Nat.reduceGT, Int.reduceGT, Int.reduceGE, Int.reduceLT, Int.reduceLE, Int.reduceEq, Int.reduceAdd, Int.reduceSub, Int.reduceNeg, reduceCtorEq, if_true, if_false, ite_true, ite_false, ne_eq, eq_self, OPK_, KEY_, WR_, CHK_, Nat.reduceBEq, K4_, K5_, K6_, K7_, hlt, h16, hd, hwx', hw]
        exact ih (i + 1) _ _ _ (by omega) ⟨by omega, hinv⟩ rfl (by rw [app_take_add]; rfl) rfl
  · have hlt : ¬ ((i : Int) < (l.length : Int)) := by omega
    rw [List.drop_of_length_le (by omega)] at hinv
    simp only [RUN_, U_hourglassref23_Check, FR_, Nat.reducePow, Int.reducePow, Nat.reduceAdd, Nat.reduceSub, Nat.reduceMul, Int.reduceToNat, Nat.reduceLeDiff, Nat.reduceEqDiff, Nat.reduceLT, Nat.reduceGT, Int.reduceGT, Int.reduceGE, Int.reduceLT, Int.reduceLE, Int.reduceEq, Int.reduceAdd, Int.reduceSub, Int.reduceNeg, reduceCtorEq, if_true, if_false, ite_true, ite_false, ne_eq, eq_self, OPK_, KEY_, WR_, CHK_, Nat.reduceBEq, K4_, K5_, K6_, K7_, hlt]
    have hn1 : aloneF l 0 = none := hinv
    have hKp := hKa hn1
    have hKb := hKc hn1
    have hKq := hKd hn1
    clear ih
    refine go (by simp [keep, AV.under, AV.under.go]) ?_
    simp only [keep, List.take_left', app_take_add, List.take_succ_cons, List.take_zero, List.take_nil]
    simp only [RUN_, U_hourglassref23_Check, FR_, Nat.reducePow, Int.reducePow, Nat.reduceAdd, Nat.reduceSub, Nat.reduceMul, Int.reduceToNat, Nat.reduceLeDiff, Nat.reduceEqDiff, Nat.reduceLT, Nat.reduceGT, Int.reduceGT, Int.reduceGE, Int.reduceLT, Int.reduceLE, Int.reduceEq, Int.reduceAdd, Int.reduceSub, Int.reduceNeg, reduceCtorEq, if_true, if_false, ite_true, ite_false, ne_eq, eq_self, OPK_, KEY_, WR_, CHK_, Nat.reduceBEq, K4_, K5_, K6_, K7_]
    refine loop_rule hC (α := Nat) (fun a => l.length - a) (fun a => [.list .sh 8 (l.map txA), .undef, .ptr (.stk S.length) 0, .undef, .s (.int .i64 2), .s (.int .i64 a), .undef, .undef, .undef, .undef, .undef, .undef, .undef, .undef, .undef, .undef, .undef, .undef, .undef, .undef, .undef, .undef, .undef, .undef, .undef, .undef, .undef, .undef, .undef, .undef, .undef, .undef, .undef, .undef, .undef, .undef, .undef, .undef, .undef, .undef, .undef, .undef, .undef, .undef, .undef, .undef, .undef, .undef, .undef, .undef, .undef, .undef, .undef, .undef, .undef, .undef, .undef, .undef, .undef, .undef, .undef, .undef, .undef, .undef, .undef, .undef, .undef, .undef, .undef, .undef, .undef, .undef, .undef, .undef, .undef, .undef, .undef, .undef, .undef, .undef, .undef, .undef, .undef, .undef, .undef, .undef, .undef, .undef, .undef, .undef, .undef, .undef, .undef, .undef, .undef, .undef, .undef, .undef, .undef, .undef, .undef, .undef, .undef, .undef, .undef, .undef, .undef, .undef, .undef, .undef, .undef, .undef, .undef, .undef, .undef, .undef, .undef, .undef, .undef, .undef, .undef, .undef, .undef, .undef, .undef, .undef, .undef, .undef, .undef, .undef, .undef, .undef, .undef, .undef, .undef, .undef, .undef, .undef, .undef, .undef, .undef, .undef, .undef, .undef, .undef, .undef, .undef, .undef, .undef, .undef, .undef, .undef, .undef, .undef, .undef, .undef, .undef, .undef, .undef, .undef, .undef, .undef, .undef, .undef, .undef, .undef, .undef, .undef, .undef, .undef, .undef, .undef, .undef, .undef, .undef, .undef, .undef, .undef, .undef, .undef, .undef, .undef, .undef, .undef, .undef, .undef, .undef, .undef, .undef, .undef, .undef, .undef, .undef, .undef, .undef, .undef, .undef, .undef, .undef, .undef, .undef, .undef]) (fun a => S ++ [[.i 0, .i 0, .i 0]]) (fun a => H) (fun a => a ≤ l.length ∧ pairF alikeT l 0 = pairF alikeT (l.drop a) a) 0 ⟨by simp, rfl⟩ rfl (by rw [app_take_add]; rfl) rfl (fun a _ => by simp [AV.under, AV.under.go]) ?_
    rintro i ⟨hi, hinv⟩ ih
    by_cases h16 : i < l.length
    · have hlt : ((i : Int) < (l.length : Int)) := by omega
      have hw : IntKind.i64.wrap ((i : Int) + 1) = (i : Int) + 1 := wrap_i64 (by omega) (by omega)
      rw [List.drop_eq_getElem_cons h16, pairF] at hinv
      simp only [RUN_, U_hourglassref23_Check, FR_, Nat.reducePow, Int.reducePow, Nat.reduceAdd, Nat.reduceSub, Nat.reduceMul, Int.reduceToNat, Nat.reduceLeDiff, Nat.reduceEqDiff, Nat.reduceLT, Nat.reduceGT, Int.reduceGT, Int.reduceGE, Int.reduceLT, Int.reduceLE, Int.reduceEq, Int.reduceAdd, Int.reduceSub, Int.reduceNeg, reduceCtorEq, if_true, if_false, ite_true, ite_false, ne_eq, eq_self, OPK_, KEY_, WR_, CHK_, Nat.reduceBEq, K4_, K5_, K6_, K7_, hlt, h16, hw]
      refine loop_rule hC (α := Nat) (fun a => l.length - a) (fun a => [.list .sh 8 (l.map txA), .undef, .ptr (.stk S.length) 0, .undef, .s (.int .i64 2), .s (.int .i64 i), .s (.int .i64 a), .undef, .undef, .undef, .undef, .undef, .undef, .undef, .undef, .undef, .undef, .undef, .undef, .undef, .undef, .undef, .undef, .undef, .undef, .undef, .undef, .undef, .undef, .undef, .undef, .undef, .undef, .undef, .undef, .undef, .undef, .undef, .undef, .undef, .undef, .undef, .undef, .undef, .undef, .undef, .undef, .undef, .undef, .undef, .undef, .undef, .undef, .undef, .undef, .undef, .undef, .undef, .undef, .undef, .undef, .undef, .undef, .undef, .undef, .undef, .undef, .undef, .undef, .undef, .undef, .undef, .undef, .undef, .undef, .undef, .undef, .undef, .undef, .undef, .undef, .undef, .undef, .undef, .undef, .undef, .undef, .undef, .undef, .undef, .undef, .undef, .undef, .undef, .undef, .undef, .undef, .undef, .undef, .undef, .undef, .undef, .undef, .undef, .undef, .undef, .undef, .undef, .undef, .undef, .undef, .undef, .undef, .undef, .undef, .undef, .undef, .undef, .undef, .undef, .undef, .undef, .undef, .undef, .undef, .undef, .undef, .undef, .undef, .undef, .undef, .undef, .undef, .undef, .undef, .undef, .undef, .undef, .undef, .undef, .undef, .undef, .undef, .undef, .undef, .undef, .undef, .undef, .undef, .undef, .undef, .undef, .undef, .undef, .undef, .undef, .undef, .undef, .undef, .undef, .undef, .undef, .undef, .undef, .undef, .undef, .undef, .undef, .undef, .undef, .undef, .undef, .undef, .undef, .undef, .undef, .undef, .undef, .undef, .undef, .undef, .undef, .undef, .undef, .undef, .undef, .undef, .undef, .undef, .undef, .undef, .undef, .undef, .undef, .undef, .undef, .undef, .undef, .undef, .undef, .undef, .undef]) (fun a => S ++ [[.i 0, .i 0, .i 0]]) (fun a => H) (fun a => i + 1 ≤ a ∧ a ≤ l.length ∧ pairIn alikeT l[i] (l.drop (i + 1)) (i + 1) = pairIn alikeT l[i] (l.drop a) a) (i + 1) ⟨by omega, by omega, rfl⟩ rfl (by rw [app_take_add]; rfl) rfl (fun a _ => by simp [AV.under, AV.under.go]) ?_
      rintro k ⟨hk0, hk, hkinv⟩ ih2
      by_cases h17 : k < l.length
      · have hltk : ((k : Int) < (l.length : Int)) := by omega
        have hwk : IntKind.i64.wrap ((k : Int) + 1) = (k : Int) + 1 := wrap_i64 (by omega) (by omega)
        rw [List.drop_eq_getElem_cons h17, pairIn] at hkinv
        cases hdx : (l[i]).done with
        | false =>
          rw [if_neg (by simp [wroteT, hdx])] at hkinv
          simp only [RUN_, U_hourglassref23_Check, FR_, Nat.reducePow, Int.reducePow, Nat.reduceAdd, Nat.reduceSub, Nat.reduceMul, Int.reduceToNat, Nat.reduceLeDiff, Nat.reduceEqDiff, Nat.reduceLT, Nat.reduceGT, Int.reduceGT, Int.reduceGE, Int.reduceLT, Int.reduceLE, Int.reduceEq, Int.reduceAdd, Int.reduceSub, Int.reduceNeg, reduceCtorEq, if_true, if_false, ite_true, ite_false, ne_eq, eq_self, OPK_, KEY_, WR_, CHK_, Nat.reduceBEq, K4_, K5_, K6_, K7_, hltk, h16, h17, hdx, hwk]
          refine ⟨?_, ?_⟩
          · exact ih2 (k + 1) _ _ _ (by omega) ⟨by omega, by omega, hkinv⟩ rfl (by rw [app_take_add]; rfl) rfl
          · exact ih2 (k + 1) _ _ _ (by omega) ⟨by omega, by omega, hkinv⟩ rfl (by rw [app_take_add]; rfl) rfl
        | true =>
          cases hdy : (l[k]).done with
          | false =>
            rw [if_neg (by simp [wroteT, hdy])] at hkinv
            simp only [RUN_, U_hourglassref23_Check, FR_, Nat.reducePow, Int.reducePow, Nat.reduceAdd, Nat.reduceSub, Nat.reduceMul, Int.reduceToNat, Nat.reduceLeDiff, Nat.reduceEqDiff, Nat.reduceLT, Nat.reduceGT, Int.reduceGT, Int.reduceGE, Int.reduceLT, Int.reduceLE, Int.reduceEq, Int.reduceAdd, Int.reduceSub, Int.reduceNeg, reduceCtorEq, if_true, if_false, ite_true, ite_false, ne_eq, eq_self, OPK_, KEY_, WR_, CHK_, Nat.reduceBEq, K4_, K5_, K6_, K7_, hltk, h16, h17, hdx, hdy, hwk]
            refine ⟨?_, ?_⟩
            · exact ih2 (k + 1) _ _ _ (by omega) ⟨by omega, by omega, hkinv⟩ rfl (by rw [app_take_add]; rfl) rfl
            · exact ih2 (k + 1) _ _ _ (by omega) ⟨by omega, by omega, hkinv⟩ rfl (by rw [app_take_add]; rfl) rfl
          | true =>
            by_cases hwx : 0 < (l[i]).writes.length
            · have hwx' : (0 : Int) < ((l[i]).writes.length : Int) := by omega
              by_cases hwy : 0 < (l[k]).writes.length
              · have hwy' : (0 : Int) < ((l[k]).writes.length : Int) := by omega
                by_cases hst : (l[i]).stamp = (l[k]).stamp
                · have hst' := eq_true hst
                  rw [if_pos ⟨by simp [wroteT, hdx, hwx], by simp [wroteT, hdy, hwy], by simp [alikeT, hst]⟩] at hkinv
                  rw [hkinv] at hinv
                  have hK := hKp _ hinv
                  simp only [RUN_, U_hourglassref23_Check, FR_, Nat.reducePow, Int.reducePow, Nat.reduceAdd, Nat.reduceSub, Nat.reduceMul, Int.reduceToNat, Nat.reduceLeDiff, Nat.reduceEqDiff, Nat.reduceLT, Nat.reduceGT, Int.reduceGT, Int.reduceGE, Int.reduceLT, Int.reduceLE, Int.reduceEq, Int.reduceAdd, Int.reduceSub, Int.reduceNeg, reduceCtorEq, if_true, if_false, ite_true, ite_false, ne_eq, eq_self, OPK_, KEY_, WR_, CHK_, Nat.reduceBEq, K4_, K5_, K6_, K7_, hltk, h16, h17, hdx, hdy, hwx', hwy', stp_beq, hst']
                  exact ⟨hK, hK⟩
                · rw [if_neg (by simp [alikeT, hst])] at hkinv
                  simp only [RUN_, U_hourglassref23_Check, FR_, Nat.reducePow, Int.reducePow, Nat.reduceAdd, Nat.reduceSub, Nat.reduceMul, Int.reduceToNat, Nat.reduceLeDiff, Nat.reduceEqDiff, Nat.reduceLT, Nat.reduceGT, Int.reduceGT, Int.reduceGE, Int.reduceLT, Int.reduceLE, Int.reduceEq, Int.reduceAdd, Int.reduceSub, Int.reduceNeg, reduceCtorEq, if_true, if_false, ite_true, ite_false, ne_eq, eq_self, OPK_, KEY_, WR_, CHK_, Nat.reduceBEq, K4_, K5_, K6_, K7_, hltk, h16, h17, hdx, hdy, hwx', hwy', stp_beq, hst, hwk]
                  refine ⟨?_, ?_⟩
                  · exact ih2 (k + 1) _ _ _ (by omega) ⟨by omega, by omega, hkinv⟩ rfl (by rw [app_take_add]; rfl) rfl
                  · exact ih2 (k + 1) _ _ _ (by omega) ⟨by omega, by omega, hkinv⟩ rfl (by rw [app_take_add]; rfl) rfl
              · have hwy' : ¬ ((0 : Int) < ((l[k]).writes.length : Int)) := by omega
                rw [if_neg (by simp [wroteT, hwy])] at hkinv
                simp only [RUN_, U_hourglassref23_Check, FR_, Nat.reducePow, Int.reducePow, Nat.reduceAdd, Nat.reduceSub, Nat.reduceMul, Int.reduceToNat, Nat.reduceLeDiff, Nat.reduceEqDiff, Nat.reduceLT, Nat.reduceGT, Int.reduceGT, Int.reduceGE, Int.reduceLT, Int.reduceLE, Int.reduceEq, Int.reduceAdd, Int.reduceSub, Int.reduceNeg, reduceCtorEq, if_true, if_false, ite_true, ite_false, ne_eq, eq_self, OPK_, KEY_, WR_, CHK_, Nat.reduceBEq, K4_, K5_, K6_, K7_, hltk, h16, h17, hdx, hdy, hwx', hwy', hwk]
                refine ⟨?_, ?_⟩
                · exact ih2 (k + 1) _ _ _ (by omega) ⟨by omega, by omega, hkinv⟩ rfl (by rw [app_take_add]; rfl) rfl
                · exact ih2 (k + 1) _ _ _ (by omega) ⟨by omega, by omega, hkinv⟩ rfl (by rw [app_take_add]; rfl) rfl
            · have hwx' : ¬ ((0 : Int) < ((l[i]).writes.length : Int)) := by omega
              rw [if_neg (by simp [wroteT, hwx])] at hkinv
              simp only [RUN_, U_hourglassref23_Check, FR_, Nat.reducePow, Int.reducePow, Nat.reduceAdd, Nat.reduceSub, Nat.reduceMul, Int.reduceToNat, Nat.reduceLeDiff, Nat.reduceEqDiff, Nat.reduceLT, Nat.reduceGT, Int.reduceGT, Int.reduceGE, Int.reduceLT, Int.reduceLE, Int.reduceEq, Int.reduceAdd, Int.reduceSub, Int.reduceNeg, reduceCtorEq, if_true, if_false, ite_true, ite_false, ne_eq, eq_self, OPK_, KEY_, WR_, CHK_, Nat.reduceBEq, K4_, K5_, K6_, K7_, hltk, h16, h17, hdx, hdy, hwx', hwk]
              refine ⟨?_, ?_⟩
              · exact ih2 (k + 1) _ _ _ (by omega) ⟨by omega, by omega, hkinv⟩ rfl (by rw [app_take_add]; rfl) rfl
              · exact ih2 (k + 1) _ _ _ (by omega) ⟨by omega, by omega, hkinv⟩ rfl (by rw [app_take_add]; rfl) rfl
      · have hltk : ¬ ((k : Int) < (l.length : Int)) := by omega
        rw [show l.drop k = [] from List.drop_of_length_le (by omega)] at hkinv
        rw [hkinv, pairIn] at hinv
        simp only [RUN_, U_hourglassref23_Check, FR_, Nat.reducePow, Int.reducePow, Nat.reduceAdd, Nat.reduceSub, Nat.reduceMul, Int.reduceToNat, Nat.reduceLeDiff, Nat.reduceEqDiff, Nat.reduceLT, Nat.reduceGT, Int.reduceGT, Int.reduceGE, Int.reduceLT, Int.reduceLE, Int.reduceEq, Int.reduceAdd, Int.reduceSub, Int.reduceNeg, reduceCtorEq, if_true, if_false, ite_true, ite_false, ne_eq, eq_self, OPK_, KEY_, WR_, CHK_, Nat.reduceBEq, K4_, K5_, K6_, K7_, hltk, hw]
        exact ih (i + 1) _ _ _ (by omega) ⟨by omega, hinv⟩ rfl (by rw [app_take_add]; rfl) rfl
    · have hlt : ¬ ((i : Int) < (l.length : Int)) := by omega
      rw [List.drop_of_length_le (by omega)] at hinv
      simp only [RUN_, U_hourglassref23_Check, FR_, Nat.reducePow, Int.reducePow, Nat.reduceAdd, Nat.reduceSub, Nat.reduceMul, Int.reduceToNat, Nat.reduceLeDiff, Nat.reduceEqDiff, Nat.reduceLT, Nat.reduceGT, Int.reduceGT, Int.reduceGE, Int.reduceLT, Int.reduceLE, Int.reduceEq, Int.reduceAdd, Int.reduceSub, Int.reduceNeg, reduceCtorEq, if_true, if_false, ite_true, ite_false, ne_eq, eq_self, OPK_, KEY_, WR_, CHK_, Nat.reduceBEq, K4_, K5_, K6_, K7_, hlt]
      have hn2 : pairF alikeT l 0 = none := hinv
      have hKr := hKq hn2
      clear ih
      refine go (by simp [keep, AV.under, AV.under.go]) ?_
      simp only [keep, List.take_left', app_take_add, List.take_succ_cons, List.take_zero, List.take_nil]
      have hKp := hKb hn2
      simp only [RUN_, U_hourglassref23_Check, FR_, Nat.reducePow, Int.reducePow, Nat.reduceAdd, Nat.reduceSub, Nat.reduceMul, Int.reduceToNat, Nat.reduceLeDiff, Nat.reduceEqDiff, Nat.reduceLT, Nat.reduceGT, Int.reduceGT, Int.reduceGE, Int.reduceLT, Int.reduceLE, Int.reduceEq, Int.reduceAdd, Int.reduceSub, Int.reduceNeg, reduceCtorEq, if_true, if_false, ite_true, ite_false, ne_eq, eq_self, OPK_, KEY_, WR_, CHK_, Nat.reduceBEq, K4_, K5_, K6_, K7_]
      refine loop_rule hC (α := Nat) (fun a => l.length - a) (fun a => [.list .sh 8 (l.map txA), .undef, .ptr (.stk S.length) 0, .undef, .s (.int .i64 3), .s (.int .i64 a), .undef, .undef, .undef, .undef, .undef, .undef, .undef, .undef, .undef, .undef, .undef, .undef, .undef, .undef, .undef, .undef, .undef, .undef, .undef, .undef, .undef, .undef, .undef, .undef, .undef, .undef, .undef, .undef, .undef, .undef, .undef, .undef, .undef, .undef, .undef, .undef, .undef, .undef, .undef, .undef, .undef, .undef, .undef, .undef, .undef, .undef, .undef, .undef, .undef, .undef, .undef, .undef, .undef, .undef, .undef, .undef, .undef, .undef, .undef, .undef, .undef, .undef, .undef, .undef, .undef, .undef, .undef, .undef, .undef, .undef, .undef, .undef, .undef, .undef, .undef, .undef, .undef, .undef, .undef, .undef, .undef, .undef, .undef, .undef, .undef, .undef, .undef, .undef, .undef, .undef, .undef, .undef, .undef, .undef, .undef, .undef, .undef, .undef, .undef, .undef, .undef, .undef, .undef, .undef, .undef, .undef, .undef, .undef, .undef, .undef, .undef, .undef, .undef, .undef, .undef, .undef, .undef, .undef, .undef, .undef, .undef, .undef, .undef, .undef, .undef, .undef, .undef, .undef, .undef, .undef, .undef, .undef, .undef, .undef, .undef, .undef, .undef, .undef, .undef, .undef, .undef, .undef, .undef, .undef, .undef, .undef, .undef, .undef, .undef, .undef, .undef, .undef, .undef, .undef, .undef, .undef, .undef, .undef, .undef, .undef, .undef, .undef, .undef, .undef, .undef, .undef, .undef, .undef, .undef, .undef, .undef, .undef, .undef, .undef, .undef, .undef, .undef, .undef, .undef, .undef, .undef, .undef, .undef, .undef, .undef, .undef, .undef, .undef, .undef, .undef, .undef, .undef, .undef, .undef, .undef, .undef]) (fun a => S ++ [[.i 0, .i 0, .i 0]]) (fun a => H) (fun a => a ≤ l.length ∧ pairF bothT l 0 = pairF bothT (l.drop a) a) 0 ⟨by simp, rfl⟩ rfl (by rw [app_take_add]; rfl) rfl (fun a _ => by simp [AV.under, AV.under.go]) ?_
      rintro i ⟨hi, hinv⟩ ih
      by_cases h16 : i < l.length
      · have hlt : ((i : Int) < (l.length : Int)) := by omega
        have hw : IntKind.i64.wrap ((i : Int) + 1) = (i : Int) + 1 := wrap_i64 (by omega) (by omega)
        rw [List.drop_eq_getElem_cons h16, pairF] at hinv
        simp only [RUN_, U_hourglassref23_Check, FR_, Nat.reducePow, Int.reducePow, Nat.reduceAdd, Nat.reduceSub, Nat.reduceMul, Int.reduceToNat, Nat.reduceLeDiff, Nat.reduceEqDiff, Nat.reduceLT, Nat.reduceGT, Int.reduceGT, Int.reduceGE, Int.reduceLT, Int.reduceLE, Int.reduceEq, Int.reduceAdd, Int.reduceSub, Int.reduceNeg, reduceCtorEq, if_true, if_false, ite_true, ite_false, ne_eq, eq_self, OPK_, KEY_, WR_, CHK_, Nat.reduceBEq, K4_, K5_, K6_, K7_, hlt, h16, hw]
        refine loop_rule hC (α := Nat) (fun a => l.length - a) (fun a => [.list .sh 8 (l.map txA), .undef, .ptr (.stk S.length) 0, .undef, .s (.int .i64 3), .s (.int .i64 i), .s (.int .i64 a), .undef, .undef, .undef, .undef, .undef, .undef, .undef, .undef, .undef, .undef, .undef, .undef, .undef, .undef, .undef, .undef, .undef, .undef, .undef, .undef, .undef, .undef, .undef, .undef, .undef, .undef, .undef, .undef, .undef, .undef, .undef, .undef, .undef, .undef, .undef, .undef, .undef, .undef, .undef, .undef, .undef, .undef, .undef, .undef, .undef, .undef, .undef, .undef, .undef, .undef, .undef, .undef, .undef, .undef, .undef, .undef, .undef, .undef, .undef, .undef, .undef, .undef, .undef, .undef, .undef, .undef, .undef, .undef, .undef, .undef, .undef, .undef, .undef, .undef, .undef, .undef, .undef, .undef, .undef, .undef, .undef, .undef, .undef, .undef, .undef, .undef, .undef, .undef, .undef, .undef, .undef, .undef, .undef, .undef, .undef, .undef, .undef, .undef, .undef, .undef, .undef, .undef, .undef, .undef, .undef, .undef, .undef, .undef, .undef, .undef, .undef, .undef, .undef, .undef, .undef, .undef, .undef, .undef, .undef, .undef, .undef, .undef, .undef, .undef, .undef, .undef, .undef, .undef, .undef, .undef, .undef, .undef, .undef, .undef, .undef, .undef, .undef, .undef, .undef, .undef, .undef, .undef, .undef, .undef, .undef, .undef, .undef, .undef, .undef, .undef, .undef, .undef, .undef, .undef, .undef, .undef, .undef, .undef, .undef, .undef, .undef, .undef, .undef, .undef, .undef, .undef, .undef, .undef, .undef, .undef, .undef, .undef, .undef, .undef, .undef, .undef, .undef, .undef, .undef, .undef, .undef, .undef, .undef, .undef, .undef, .undef, .undef, .undef, .undef, .undef, .undef, .undef, .undef, .undef, .undef]) (fun a => S ++ [[.i 0, .i 0, .i 0]]) (fun a => H) (fun a => i + 1 ≤ a ∧ a ≤ l.length ∧ pairIn bothT l[i] (l.drop (i + 1)) (i + 1) = pairIn bothT l[i] (l.drop a) a) (i + 1) ⟨by omega, by omega, rfl⟩ rfl (by rw [app_take_add]; rfl) rfl (fun a _ => by simp [AV.under, AV.under.go]) ?_
        rintro k ⟨hk0, hk, hkinv⟩ ih2
        by_cases h17 : k < l.length
        · have hltk : ((k : Int) < (l.length : Int)) := by omega
          have hwk : IntKind.i64.wrap ((k : Int) + 1) = (k : Int) + 1 := wrap_i64 (by omega) (by omega)
          rw [List.drop_eq_getElem_cons h17, pairIn] at hkinv
          cases hdx : (l[i]).done with
          | false =>
            rw [if_neg (by simp [wroteT, hdx])] at hkinv
            simp only [RUN_, U_hourglassref23_Check, FR_, Nat.reducePow, Int.reducePow, Nat.reduceAdd, Nat.reduceSub, Nat.reduceMul, Int.reduceToNat, Nat.reduceLeDiff, Nat.reduceEqDiff, Nat.reduceLT, Nat.reduceGT, Int.reduceGT, Int.reduceGE, Int.reduceLT, Int.reduceLE, Int.reduceEq, Int.reduceAdd, Int.reduceSub, Int.reduceNeg, reduceCtorEq, if_true, if_false, ite_true, ite_false, ne_eq, eq_self, OPK_, KEY_, WR_, CHK_, Nat.reduceBEq, K4_, K5_, K6_, K7_, hltk, h16, h17, hdx, hwk]
            refine ⟨?_, ?_⟩
            · exact ih2 (k + 1) _ _ _ (by omega) ⟨by omega, by omega, hkinv⟩ rfl (by rw [app_take_add]; rfl) rfl
            · exact ih2 (k + 1) _ _ _ (by omega) ⟨by omega, by omega, hkinv⟩ rfl (by rw [app_take_add]; rfl) rfl
          | true =>
            cases hdy : (l[k]).done with
            | false =>
              rw [if_neg (by simp [wroteT, hdy])] at hkinv
              simp only [RUN_, U_hourglassref23_Check, FR_, Nat.reducePow, Int.reducePow, Nat.reduceAdd, Nat.reduceSub, Nat.reduceMul, Int.reduceToNat, Nat.reduceLeDiff, Nat.reduceEqDiff, Nat.reduceLT, Nat.reduceGT, Int.reduceGT, Int.reduceGE, Int.reduceLT, Int.reduceLE, Int.reduceEq, Int.reduceAdd, Int.reduceSub, Int.reduceNeg, reduceCtorEq, if_true, if_false, ite_true, ite_false, ne_eq, eq_self, OPK_, KEY_, WR_, CHK_, Nat.reduceBEq, K4_, K5_, K6_, K7_, hltk, h16, h17, hdx, hdy, hwk]
              refine ⟨?_, ?_⟩
              · exact ih2 (k + 1) _ _ _ (by omega) ⟨by omega, by omega, hkinv⟩ rfl (by rw [app_take_add]; rfl) rfl
              · exact ih2 (k + 1) _ _ _ (by omega) ⟨by omega, by omega, hkinv⟩ rfl (by rw [app_take_add]; rfl) rfl
            | true =>
              simp only [RUN_, U_hourglassref23_Check, FR_, Nat.reducePow, Int.reducePow, Nat.reduceAdd, Nat.reduceSub, Nat.reduceMul, Int.reduceToNat, Nat.reduceLeDiff, Nat.reduceEqDiff, Nat.reduceLT, Nat.reduceGT, Int.reduceGT, Int.reduceGE, Int.reduceLT, Int.reduceLE, Int.reduceEq, Int.reduceAdd, Int.reduceSub, Int.reduceNeg, reduceCtorEq, if_true, if_false, ite_true, ite_false, ne_eq, eq_self, OPK_, KEY_, WR_, CHK_, Nat.reduceBEq, K4_, K5_, K6_, K7_, hltk, h16, h17, hdx, hdy]
              refine ⟨?_, ?_⟩
              · refine h1' (l[i]).writes (l[k]).writes _ _ _ (hok _ (List.getElem_mem h16)).1 (hok _ (List.getElem_mem h17)).1 ?_
                rw [show ((l[i]).writes.any fun w => (lastR w.key (l[k]).writes).2) = sharesT l[i] l[k] from rfl]
                cases hsh : sharesT l[i] l[k] with
                | false =>
                  rw [if_neg (by simp [bothT, hsh])] at hkinv
                  simp only [RUN_, U_hourglassref23_Check, FR_, Nat.reducePow, Int.reducePow, Nat.reduceAdd, Nat.reduceSub, Nat.reduceMul, Int.reduceToNat, Nat.reduceLeDiff, Nat.reduceEqDiff, Nat.reduceLT, Nat.reduceGT, Int.reduceGT, Int.reduceGE, Int.reduceLT, Int.reduceLE, Int.reduceEq, Int.reduceAdd, Int.reduceSub, Int.reduceNeg, reduceCtorEq, if_true, if_false, ite_true, ite_false, ne_eq, eq_self, OPK_, KEY_, WR_, CHK_, Nat.reduceBEq, K4_, K5_, K6_, K7_, hwk]
                  exact ih2 (k + 1) _ _ _ (by omega) ⟨by omega, by omega, hkinv⟩ rfl (by rw [app_take_add]; rfl) rfl
                | true =>
                  simp only [RUN_, U_hourglassref23_Check, FR_, Nat.reducePow, Int.reducePow, Nat.reduceAdd, Nat.reduceSub, Nat.reduceMul, Int.reduceToNat, Nat.reduceLeDiff, Nat.reduceEqDiff, Nat.reduceLT, Nat.reduceGT, Int.reduceGT, Int.reduceGE, Int.reduceLT, Int.reduceLE, Int.reduceEq, Int.reduceAdd, Int.reduceSub, Int.reduceNeg, reduceCtorEq, if_true, if_false, ite_true, ite_false, ne_eq, eq_self, OPK_, KEY_, WR_, CHK_, Nat.reduceBEq, K4_, K5_, K6_, K7_]
                  refine h0' (l[i]).stamp (l[k]).snap _ _ _ ?_
                  by_cases hb1 : 0 < cmpS (l[i]).stamp (l[k]).snap
                  · simp only [RUN_, U_hourglassref23_Check, FR_, Nat.reducePow, Int.reducePow, Nat.reduceAdd, Nat.reduceSub, Nat.reduceMul, Int.reduceToNat, Nat.reduceLeDiff, Nat.reduceEqDiff, Nat.reduceLT, Nat.reduceGT, Int.reduceGT, Int.reduceGE, Int.reduceLT, Int.reduceLE, Int.reduceEq, Int.reduceAdd, Int.reduceSub, Int.reduceNeg, reduceCtorEq, if_true, if_false, ite_true, ite_false, ne_eq, eq_self, OPK_, KEY_, WR_, CHK_, Nat.reduceBEq, K4_, K5_, K6_, K7_, hb1]
                    refine h0' (l[k]).stamp (l[i]).snap _ _ _ ?_
                    by_cases hb2 : 0 < cmpS (l[k]).stamp (l[i]).snap
                    · obtain ⟨wa, wb⟩ := shares_some hsh
                      rw [if_pos ⟨by simp [wroteT, hdx, wa], by simp [wroteT, hdy, wb], by simp [bothT, hsh, beforeT]; omega⟩] at hkinv
                      rw [hkinv] at hinv
                      have hK := hKp _ hinv
                      simp only [RUN_, U_hourglassref23_Check, FR_, Nat.reducePow, Int.reducePow, Nat.reduceAdd, Nat.reduceSub, Nat.reduceMul, Int.reduceToNat, Nat.reduceLeDiff, Nat.reduceEqDiff, Nat.reduceLT, Nat.reduceGT, Int.reduceGT, Int.reduceGE, Int.reduceLT, Int.reduceLE, Int.reduceEq, Int.reduceAdd, Int.reduceSub, Int.reduceNeg, reduceCtorEq, if_true, if_false, ite_true, ite_false, ne_eq, eq_self, OPK_, KEY_, WR_, CHK_, Nat.reduceBEq, K4_, K5_, K6_, K7_, hb2]
                      exact hK
                    · rw [if_neg (by simp [bothT, beforeT]; omega)] at hkinv
                      simp only [RUN_, U_hourglassref23_Check, FR_, Nat.reducePow, Int.reducePow, Nat.reduceAdd, Nat.reduceSub, Nat.reduceMul, Int.reduceToNat, Nat.reduceLeDiff, Nat.reduceEqDiff, Nat.reduceLT, Nat.reduceGT, Int.reduceGT, Int.reduceGE, Int.reduceLT, Int.reduceLE, Int.reduceEq, Int.reduceAdd, Int.reduceSub, Int.reduceNeg, reduceCtorEq, if_true, if_false, ite_true, ite_false, ne_eq, eq_self, OPK_, KEY_, WR_, CHK_, Nat.reduceBEq, K4_, K5_, K6_, K7_, hb2, hwk]
                      exact ih2 (k + 1) _ _ _ (by omega) ⟨by omega, by omega, hkinv⟩ rfl (by rw [app_take_add]; rfl) rfl
                  · rw [if_neg (by simp [bothT, beforeT]; omega)] at hkinv
                    simp only [RUN_, U_hourglassref23_Check, FR_, Nat.reducePow, Int.reducePow, Nat.reduceAdd, Nat.reduceSub, Nat.reduceMul, Int.reduceToNat, Nat.reduceLeDiff, Nat.reduceEqDiff, Nat.reduceLT, Nat.reduceGT, Int.reduceGT, Int.reduceGE, Int.reduceLT, Int.reduceLE, Int.reduceEq, Int.reduceAdd, Int.reduceSub, Int.reduceNeg, reduceCtorEq, if_true, if_false, ite_true, ite_false, ne_eq, eq_self, OPK_, KEY_, WR_, CHK_, Nat.reduceBEq, K4_, K5_, K6_, K7_, hb1, hwk]
                    exact ih2 (k + 1) _ _ _ (by omega) ⟨by omega, by omega, hkinv⟩ rfl (by rw [app_take_add]; rfl) rfl
              · refine h1' (l[i]).writes (l[k]).writes _ _ _ (hok _ (List.getElem_mem h16)).1 (hok _ (List.getElem_mem h17)).1 ?_
                rw [show ((l[i]).writes.any fun w => (lastR w.key (l[k]).writes).2) = sharesT l[i] l[k] from rfl]
                cases hsh : sharesT l[i] l[k] with
                | false =>
                  rw [if_neg (by simp [bothT, hsh])] at hkinv
                  simp only [RUN_, U_hourglassref23_Check, FR_, Nat.reducePow, Int.reducePow, Nat.reduceAdd, Nat.reduceSub, Nat.reduceMul, Int.reduceToNat, Nat.reduceLeDiff, Nat.reduceEqDiff, Nat.reduceLT, Nat.reduceGT, Int.reduceGT, Int.reduceGE, Int.reduceLT, Int.reduceLE, Int.reduceEq, Int.reduceAdd, Int.reduceSub, Int.reduceNeg, reduceCtorEq, if_true, if_false, ite_true, ite_false, ne_eq, eq_self, OPK_, KEY_, WR_, CHK_, Nat.reduceBEq, K4_, K5_, K6_, K7_, hwk]
                  exact ih2 (k + 1) _ _ _ (by omega) ⟨by omega, by omega, hkinv⟩ rfl (by rw [app_take_add]; rfl) rfl
                | true =>
                  simp only [RUN_, U_hourglassref23_Check, FR_, Nat.reducePow, Int.reducePow, Nat.reduceAdd, Nat.reduceSub, Nat.reduceMul, Int.reduceToNat, Nat.reduceLeDiff, Nat.reduceEqDiff, Nat.reduceLT, Nat.reduceGT, Int.reduceGT, Int.reduceGE, Int.reduceLT, Int.reduceLE, Int.reduceEq, Int.reduceAdd, Int.reduceSub, Int.reduceNeg, reduceCtorEq, if_true, if_false, ite_true, ite_false, ne_eq, eq_self, OPK_, KEY_, WR_, CHK_, Nat.reduceBEq, K4_, K5_, K6_, K7_]
                  refine h0' (l[i]).stamp (l[k]).snap _ _ _ ?_
                  by_cases hb1 : 0 < cmpS (l[i]).stamp (l[k]).snap
                  · simp only [RUN_, U_hourglassref23_Check, FR_, Nat.reducePow, Int.reducePow, Nat.reduceAdd, Nat.reduceSub, Nat.reduceMul, Int.reduceToNat, Nat.reduceLeDiff, Nat.reduceEqDiff, Nat.reduceLT, Nat.reduceGT, Int.reduceGT, Int.reduceGE, Int.reduceLT, Int.reduceLE, Int.reduceEq, Int.reduceAdd, Int.reduceSub, Int.reduceNeg, reduceCtorEq, if_true, if_false, ite_true, ite_false, ne_eq, eq_self, OPK_, KEY_, WR_, CHK_, Nat.reduceBEq, K4_, K5_, K6_, K7_, hb1]
                    refine h0' (l[k]).stamp (l[i]).snap _ _ _ ?_
                    by_cases hb2 : 0 < cmpS (l[k]).stamp (l[i]).snap
                    · obtain ⟨wa, wb⟩ := shares_some hsh
                      rw [if_pos ⟨by simp [wroteT, hdx, wa], by simp [wroteT, hdy, wb], by simp [bothT, hsh, beforeT]; omega⟩] at hkinv
                      rw [hkinv] at hinv
                      have hK := hKp _ hinv
                      simp only [RUN_, U_hourglassref23_Check, FR_, Nat.reducePow, Int.reducePow, Nat.reduceAdd, Nat.reduceSub, Nat.reduceMul, Int.reduceToNat, Nat.reduceLeDiff, Nat.reduceEqDiff, Nat.reduceLT, Nat.reduceGT, Int.reduceGT, Int.reduceGE, Int.reduceLT, Int.reduceLE, Int.reduceEq, Int.reduceAdd, Int.reduceSub, Int.reduceNeg, reduceCtorEq, if_true, if_false, ite_true, ite_false, ne_eq, eq_self, OPK_, KEY_, WR_, CHK_, Nat.reduceBEq, K4_, K5_, K6_, K7_, hb2]
                      exact hK
                    · rw [if_neg (by simp [bothT, beforeT]; omega)] at hkinv
                      simp only [RUN_, U_hourglassref23_Check, FR_, Nat.reducePow, Int.reducePow, Nat.reduceAdd, Nat.reduceSub, Nat.reduceMul, Int.reduceToNat, Nat.reduceLeDiff, Nat.reduceEqDiff, Nat.reduceLT, Nat.reduceGT, Int.reduceGT, Int.reduceGE, Int.reduceLT, Int.reduceLE, Int.reduceEq, Int.reduceAdd, Int.reduceSub, Int.reduceNeg, reduceCtorEq, if_true, if_false, ite_true, ite_false, ne_eq, eq_self, OPK_, KEY_, WR_, CHK_, Nat.reduceBEq, K4_, K5_, K6_, K7_, hb2, hwk]
                      exact ih2 (k + 1) _ _ _ (by omega) ⟨by omega, by omega, hkinv⟩ rfl (by rw [app_take_add]; rfl) rfl
                  · rw [if_neg (by simp [bothT, beforeT]; omega)] at hkinv
                    simp only [RUN_, U_hourglassref23_Check, FR_, Nat.reducePow, Int.reducePow, Nat.reduceAdd, Nat.reduceSub, Nat.reduceMul, Int.reduceToNat, Nat.reduceLeDiff, Nat.reduceEqDiff, Nat.reduceLT, Nat.reduceGT, Int.reduceGT, Int.reduceGE, Int.reduceLT, Int.reduceLE, Int.reduceEq, Int.reduceAdd, Int.reduceSub, Int.reduceNeg, reduceCtorEq, if_true, if_false, ite_true, ite_false, ne_eq, eq_self, OPK_, KEY_, WR_, CHK_, Nat.reduceBEq, K4_, K5_, K6_, K7_, hb1, hwk]
                    exact ih2 (k + 1) _ _ _ (by omega) ⟨by omega, by omega, hkinv⟩ rfl (by rw [app_take_add]; rfl) rfl
        · have hltk : ¬ ((k : Int) < (l.length : Int)) := by omega
          rw [show l.drop k = [] from List.drop_of_length_le (by omega)] at hkinv
          rw [hkinv, pairIn] at hinv
          simp only [RUN_, U_hourglassref23_Check, FR_, Nat.reducePow, Int.reducePow, Nat.reduceAdd, Nat.reduceSub, Nat.reduceMul, Int.reduceToNat, Nat.reduceLeDiff, Nat.reduceEqDiff, Nat.reduceLT, Nat.reduceGT, Int.reduceGT, Int.reduceGE, Int.reduceLT, Int.reduceLE, Int.reduceEq, Int.reduceAdd, Int.reduceSub, Int.reduceNeg, reduceCtorEq, if_true, if_false, ite_true, ite_false, ne_eq, eq_self, OPK_, KEY_, WR_, CHK_, Nat.reduceBEq, K4_, K5_, K6_, K7_, hltk, hw]
          exact ih (i + 1) _ _ _ (by omega) ⟨by omega, hinv⟩ rfl (by rw [app_take_add]; rfl) rfl
      · have hlt : ¬ ((i : Int) < (l.length : Int)) := by omega
        rw [List.drop_of_length_le (by omega)] at hinv
        simp only [RUN_, U_hourglassref23_Check, FR_, Nat.reducePow, Int.reducePow, Nat.reduceAdd, Nat.reduceSub, Nat.reduceMul, Int.reduceToNat, Nat.reduceLeDiff, Nat.reduceEqDiff, Nat.reduceLT, Nat.reduceGT, Int.reduceGT, Int.reduceGE, Int.reduceLT, Int.reduceLE, Int.reduceEq, Int.reduceAdd, Int.reduceSub, Int.reduceNeg, reduceCtorEq, if_true, if_false, ite_true, ite_false, ne_eq, eq_self, OPK_, KEY_, WR_, CHK_, Nat.reduceBEq, K4_, K5_, K6_, K7_, hlt]
        have hn3 : pairF bothT l 0 = none := hinv
        have hK := hKr hn3
        clear ih
        refine go (by simp [keep, AV.under, AV.under.go]) ?_
        simp only [keep, List.take_left', app_take_add, List.take_succ_cons, List.take_zero, List.take_nil]
        simp only [RUN_, U_hourglassref23_Check, FR_, Nat.reducePow, Int.reducePow, Nat.reduceAdd, Nat.reduceSub, Nat.reduceMul, Int.reduceToNat, Nat.reduceLeDiff, Nat.reduceEqDiff, Nat.reduceLT, Nat.reduceGT, Int.reduceGT, Int.reduceGE, Int.reduceLT, Int.reduceLE, Int.reduceEq, Int.reduceAdd, Int.reduceSub, Int.reduceNeg, reduceCtorEq, if_true, if_false, ite_true, ite_false, ne_eq, eq_self, OPK_, KEY_, WR_, CHK_, Nat.reduceBEq, K4_, K5_, K6_, K7_]
        refine loop_rule hC (α := Nat) (fun a => l.length - a) (fun a => [.list .sh 8 (l.map txA), .undef, .ptr (.stk S.length) 0, .undef, .undef, .undef, .undef, .undef, .undef, .s (.int .i64 a), .undef, .undef, .undef, .undef, .undef, .undef, .undef, .undef, .undef, .undef, .undef, .undef, .undef, .undef, .undef, .undef, .undef, .undef, .undef, .undef, .undef, .undef, .undef, .undef, .undef, .undef, .undef, .undef, .undef, .undef, .undef, .undef, .undef, .undef, .undef, .undef, .undef, .undef, .undef, .undef, .undef, .undef, .undef, .undef, .undef, .undef, .undef, .undef, .undef, .undef, .undef, .undef, .undef, .undef, .undef, .undef, .undef, .undef, .undef, .undef, .undef, .undef, .undef, .undef, .undef, .undef, .undef, .undef, .undef, .undef, .undef, .undef, .undef, .undef, .undef, .undef, .undef, .undef, .undef, .undef, .undef, .undef, .undef, .undef, .undef, .undef, .undef, .undef, .undef, .undef, .undef, .undef, .undef, .undef, .undef, .undef, .undef, .undef, .undef, .undef, .undef, .undef, .undef, .undef, .undef, .undef, .undef, .undef, .undef, .undef, .undef, .undef, .undef, .undef, .undef, .undef, .undef, .undef, .undef, .undef, .undef, .undef, .undef, .undef, .undef, .undef, .undef, .undef, .undef, .undef, .undef, .undef, .undef, .undef, .undef, .undef, .undef, .undef, .undef, .undef, .undef, .undef, .undef, .undef, .undef, .undef, .undef, .undef, .undef, .undef, .undef, .undef, .undef, .undef, .undef, .undef, .undef, .undef, .undef, .undef, .undef, .undef, .undef, .undef, .undef, .undef, .undef, .undef, .undef, .undef, .undef, .undef, .undef, .undef, .undef, .undef, .undef, .undef, .undef, .undef, .undef, .undef, .undef, .undef, .undef, .undef, .undef, .undef, .undef, .undef, .undef, .undef]) (fun a => S ++ [[.i 0, .i 0, .i 0]]) (fun a => H) (fun a => a ≤ l.length ∧ readsF l l 0 = readsF l (l.drop a) a) 0 ⟨by simp, rfl⟩ rfl (by rw [app_take_add]; rfl) rfl (fun a _ => by simp [AV.under, AV.under.go]) ?_
        rintro i ⟨hi, hinv⟩ ih
        by_cases h16 : i < l.length
        · have hlt : ((i : Int) < (l.length : Int)) := by omega
          have hw : IntKind.i64.wrap ((i : Int) + 1) = (i : Int) + 1 := wrap_i64 (by omega) (by omega)
          rw [List.drop_eq_getElem_cons h16, readsF] at hinv
          have hx := hok _ (List.getElem_mem h16)
          have h2' := h2 (l[i]).writes
          unfold lstW at h2'
          simp only [RUN_, U_hourglassref23_Check, FR_, Nat.reducePow, Int.reducePow, Nat.reduceAdd, Nat.reduceSub, Nat.reduceMul, Int.reduceToNat, Nat.reduceLeDiff, Nat.reduceEqDiff, Nat.reduceLT, Nat.reduceGT, Int.reduceGT, Int.reduceGE, Int.reduceLT, Int.reduceLE, Int.reduceEq, Int.reduceAdd, Int.reduceSub, Int.reduceNeg, reduceCtorEq, if_true, if_false, ite_true, ite_false, ne_eq, eq_self, OPK_, KEY_, WR_, CHK_, Nat.reduceBEq, K4_, K5_, K6_, K7_, hlt, h16, hw]
          refine loop_rule hC (α := Nat) (fun a => (l[i]).reads.length - a) (fun a => [.list .sh 8 (l.map txA), .undef, .ptr (.stk S.length) 0, .undef, .undef, .undef, .undef, .undef, .undef, .s (.int .i64 i), .s (.int .i64 a), .undef, .undef, .undef, .undef, .undef, .undef, .undef, .undef, .undef, .undef, .undef, .undef, .undef, .undef, .undef, .undef, .undef, .undef, .undef, .undef, .undef, .undef, .undef, .undef, .undef, .undef, .undef, .undef, .undef, .undef, .undef, .undef, .undef, .undef, .undef, .undef, .undef, .undef, .undef, .undef, .undef, .undef, .undef, .undef, .undef, .undef, .undef, .undef, .undef, .undef, .undef, .undef, .undef, .undef, .undef, .undef, .undef, .undef, .undef, .undef, .undef, .undef, .undef, .undef, .undef, .undef, .undef, .undef, .undef, .undef, .undef, .undef, .undef, .undef, .undef, .undef, .undef, .undef, .undef, .undef, .undef, .undef, .undef, .undef, .undef, .undef, .undef, .undef, .undef, .undef, .undef, .undef, .undef, .undef, .undef, .undef, .undef, .undef, .undef, .undef, .undef, .undef, .undef, .undef, .undef, .undef, .undef, .undef, .undef, .undef, .undef, .undef, .undef, .undef, .undef, .undef, .undef, .undef, .undef, .undef, .undef, .undef, .undef, .undef, .undef, .undef, .undef, .undef, .undef, .undef, .undef, .undef, .undef, .undef, .undef, .undef, .undef, .undef, .undef, .undef, .undef, .undef, .undef, .undef, .undef, .undef, .undef, .undef, .undef, .undef, .undef, .undef, .undef, .undef, .undef, .undef, .undef, .undef, .undef, .undef, .undef, .undef, .undef, .undef, .undef, .undef, .undef, .undef, .undef, .undef, .undef, .undef, .undef, .undef, .undef, .undef, .undef, .undef, .undef, .undef, .undef, .undef, .undef, .undef, .undef, .undef, .undef, .undef, .undef, .undef, .undef]) (fun a => S ++ [[.i 0, .i 0, .i 0]]) (fun a => H) (fun a => a ≤ (l[i]).reads.length ∧ (l[i]).reads.any (badRead l l[i]) = ((l[i]).reads.drop a).any (badRead l l[i])) 0 ⟨by simp, rfl⟩ rfl (by rw [app_take_add]; rfl) rfl (fun a _ => by simp [AV.under, AV.under.go]) ?_
          rintro k ⟨hk, hkinv⟩ ih2
          by_cases h17 : k < (l[i]).reads.length
          · have hltk : ((k : Int) < ((l[i]).reads.length : Int)) := by omega
            have hwk : IntKind.i64.wrap ((k : Int) + 1) = (k : Int) + 1 := wrap_i64 (by omega) (by omega)
            rw [List.drop_eq_getElem_cons h17, List.any_cons] at hkinv
            simp only [RUN_, U_hourglassref23_Check, FR_, Nat.reducePow, Int.reducePow, Nat.reduceAdd, Nat.reduceSub, Nat.reduceMul, Int.reduceToNat, Nat.reduceLeDiff, Nat.reduceEqDiff, Nat.reduceLT, Nat.reduceGT, Int.reduceGT, Int.reduceGE, Int.reduceLT, Int.reduceLE, Int.reduceEq, Int.reduceAdd, Int.reduceSub, Int.reduceNeg, reduceCtorEq, if_true, if_false, ite_true, ite_false, ne_eq, eq_self, OPK_, KEY_, WR_, CHK_, Nat.reduceBEq, K4_, K5_, K6_, K7_, hltk, h16, h17]
            refine ⟨?_, ?_⟩
            · refine h2' _ _ _ _ hx.1 ?_
              simp only [RUN_, U_hourglassref23_Check, FR_, Nat.reducePow, Int.reducePow, Nat.reduceAdd, Nat.reduceSub, Nat.reduceMul, Int.reduceToNat, Nat.reduceLeDiff, Nat.reduceEqDiff, Nat.reduceLT, Nat.reduceGT, Int.reduceGT, Int.reduceGE, Int.reduceLT, Int.reduceLE, Int.reduceEq, Int.reduceAdd, Int.reduceSub, Int.reduceNeg, reduceCtorEq, if_true, if_false, ite_true, ite_false, ne_eq, eq_self, OPK_, KEY_, WR_, CHK_, Nat.reduceBEq, K4_, K5_, K6_, K7_, h16]
              refine h3' _ (l[i]).snap _ _ _ hl hok ?_
              cases e1 : (lastR ((l[i]).reads[k]).key (l[i]).writes).2 with
              | true =>
                rw [show badRead l l[i] (l[i]).reads[k] = false by simp [badRead, e1], Bool.false_or] at hkinv
                simp only [RUN_, U_hourglassref23_Check, FR_, Nat.reducePow, Int.reducePow, Nat.reduceAdd, Nat.reduceSub, Nat.reduceMul, Int.reduceToNat, Nat.reduceLeDiff, Nat.reduceEqDiff, Nat.reduceLT, Nat.reduceGT, Int.reduceGT, Int.reduceGE, Int.reduceLT, Int.reduceLE, Int.reduceEq, Int.reduceAdd, Int.reduceSub, Int.reduceNeg, reduceCtorEq, if_true, if_false, ite_true, ite_false, ne_eq, eq_self, OPK_, KEY_, WR_, CHK_, Nat.reduceBEq, K4_, K5_, K6_, K7_, e1, hwk]
                exact ih2 (k + 1) _ _ _ (by omega) ⟨by omega, hkinv⟩ rfl (by rw [app_take_add]; rfl) rfl
              | false =>
                by_cases e2 : (valueT l ((l[i]).reads[k]).key (l[i]).snap).1 = ((l[i]).reads[k]).val
                · have e2' := eq_true e2
                  by_cases e3 : (valueT l ((l[i]).reads[k]).key (l[i]).snap).2 = ((l[i]).reads[k]).gone
                  · have e3' := eq_true e3
                    rw [show badRead l l[i] (l[i]).reads[k] = false by simp [badRead, e1, e2, e3], Bool.false_or] at hkinv
                    simp only [RUN_, U_hourglassref23_Check, FR_, Nat.reducePow, Int.reducePow, Nat.reduceAdd, Nat.reduceSub, Nat.reduceMul, Int.reduceToNat, Nat.reduceLeDiff, Nat.reduceEqDiff, Nat.reduceLT, Nat.reduceGT, Int.reduceGT, Int.reduceGE, Int.reduceLT, Int.reduceLE, Int.reduceEq, Int.reduceAdd, Int.reduceSub, Int.reduceNeg, reduceCtorEq, if_true, if_false, ite_true, ite_false, ne_eq, eq_self, OPK_, KEY_, WR_, CHK_, Nat.reduceBEq, K4_, K5_, K6_, K7_, e1, e2', e3', hwk]
                    exact ih2 (k + 1) _ _ _ (by omega) ⟨by omega, hkinv⟩ rfl (by rw [app_take_add]; rfl) rfl
                  · rw [show badRead l l[i] (l[i]).reads[k] = true by simp [badRead, e1, e2, e3], Bool.true_or] at hkinv
                    rw [if_pos hkinv] at hinv
                    rw [hinv] at hK
                    simp only [RUN_, U_hourglassref23_Check, FR_, Nat.reducePow, Int.reducePow, Nat.reduceAdd, Nat.reduceSub, Nat.reduceMul, Int.reduceToNat, Nat.reduceLeDiff, Nat.reduceEqDiff, Nat.reduceLT, Nat.reduceGT, Int.reduceGT, Int.reduceGE, Int.reduceLT, Int.reduceLE, Int.reduceEq, Int.reduceAdd, Int.reduceSub, Int.reduceNeg, reduceCtorEq, if_true, if_false, ite_true, ite_false, ne_eq, eq_self, OPK_, KEY_, WR_, CHK_, Nat.reduceBEq, K4_, K5_, K6_, K7_, e1, e2', e3]
                    exact hK
                · rw [show badRead l l[i] (l[i]).reads[k] = true by simp [badRead, e1, e2], Bool.true_or] at hkinv
                  rw [if_pos hkinv] at hinv
                  rw [hinv] at hK
                  simp only [RUN_, U_hourglassref23_Check, FR_, Nat.reducePow, Int.reducePow, Nat.reduceAdd, Nat.reduceSub, Nat.reduceMul, Int.reduceToNat, Nat.reduceLeDiff, Nat.reduceEqDiff, Nat.reduceLT, Nat.reduceGT, Int.reduceGT, Int.reduceGE, Int.reduceLT, Int.reduceLE, Int.reduceEq, Int.reduceAdd, Int.reduceSub, Int.reduceNeg, reduceCtorEq, if_true, if_false, ite_true, ite_false, ne_eq, eq_self, OPK_, KEY_, WR_, CHK_, Nat.reduceBEq, K4_, K5_, K6_, K7_, e1, e2]
                  exact hK
            · refine h2' _ _ _ _ hx.1 ?_
              simp only [RUN_, U_hourglassref23_Check, FR_, Nat.reducePow, Int.reducePow, Nat.reduceAdd, Nat.reduceSub, Nat.reduceMul, Int.reduceToNat, Nat.reduceLeDiff, Nat.reduceEqDiff, Nat.reduceLT, Nat.reduceGT, Int.reduceGT, Int.reduceGE, Int.reduceLT, Int.reduceLE, Int.reduceEq, Int.reduceAdd, Int.reduceSub, Int.reduceNeg, reduceCtorEq, if_true, if_false, ite_true, ite_false, ne_eq, eq_self, OPK_, KEY_, WR_, CHK_, Nat.reduceBEq, K4_, K5_, K6_, K7_, h16]
              refine h3' _ (l[i]).snap _ _ _ hl hok ?_
              cases e1 : (lastR ((l[i]).reads[k]).key (l[i]).writes).2 with
              | true =>
                rw [show badRead l l[i] (l[i]).reads[k] = false by simp [badRead, e1], Bool.false_or] at hkinv
                simp only [RUN_, U_hourglassref23_Check, FR_, Nat.reducePow, Int.reducePow, Nat.reduceAdd, Nat.reduceSub, Nat.reduceMul, Int.reduceToNat, Nat.reduceLeDiff, Nat.reduceEqDiff, Nat.reduceLT, Nat.reduceGT, Int.reduceGT, Int.reduceGE, Int.reduceLT, Int.reduceLE, Int.reduceEq, Int.reduceAdd, Int.reduceSub, Int.reduceNeg, reduceCtorEq, if_true, if_false, ite_true, ite_false, ne_eq, eq_self, OPK_, KEY_, WR_, CHK_, Nat.reduceBEq, K4_, K5_, K6_, K7_, e1, hwk]
                exact ih2 (k + 1) _ _ _ (by omega) ⟨by omega, hkinv⟩ rfl (by rw [app_take_add]; rfl) rfl
              | false =>
                by_cases e2 : (valueT l ((l[i]).reads[k]).key (l[i]).snap).1 = ((l[i]).reads[k]).val
                · have e2' := eq_true e2
                  by_cases e3 : (valueT l ((l[i]).reads[k]).key (l[i]).snap).2 = ((l[i]).reads[k]).gone
                  · have e3' := eq_true e3
                    rw [show badRead l l[i] (l[i]).reads[k] = false by simp [badRead, e1, e2, e3], Bool.false_or] at hkinv
                    simp only [RUN_, U_hourglassref23_Check, FR_, Nat.reducePow, Int.reducePow, Nat.reduceAdd, Nat.reduceSub, Nat.reduceMul, Int.reduceToNat, Nat.reduceLeDiff, Nat.reduceEqDiff, Nat.reduceLT, Nat.reduceGT, Int.reduceGT, Int.reduceGE, Int.reduceLT, Int.reduceLE, Int.reduceEq, Int.reduceAdd, Int.reduceSub, Int.reduceNeg, reduceCtorEq, if_true, if_false, ite_true, ite_false, ne_eq, eq_self, OPK_, KEY_, WR_, CHK_, Nat.reduceBEq, K4_, K5_, K6_, K7_, e1, e2', e3', hwk]
                    exact ih2 (k + 1) _ _ _ (by omega) ⟨by omega, hkinv⟩ rfl (by rw [app_take_add]; rfl) rfl
                  · rw [show badRead l l[i] (l[i]).reads[k] = true by simp [badRead, e1, e2, e3], Bool.true_or] at hkinv
                    rw [if_pos hkinv] at hinv
                    rw [hinv] at hK
                    simp only [RUN_, U_hourglassref23_Check, FR_, Nat.reducePow, Int.reducePow, Nat.reduceAdd, Nat.reduceSub, Nat.reduceMul, Int.reduceToNat, Nat.reduceLeDiff, Nat.reduceEqDiff, Nat.reduceLT, Nat.reduceGT, Int.reduceGT, Int.reduceGE, Int.reduceLT, Int.reduceLE, Int.reduceEq, Int.reduceAdd, Int.reduceSub, Int.reduceNeg, reduceCtorEq, if_true, if_false, ite_true, ite_false, ne_eq, eq_self, OPK_, KEY_, WR_, CHK_, Nat.reduceBEq, K4_, K5_, K6_, K7_, e1, e2', e3]
                    exact hK
                · rw [show badRead l l[i] (l[i]).reads[k] = true by simp [badRead, e1, e2], Bool.true_or] at hkinv
                  rw [if_pos hkinv] at hinv
                  rw [hinv] at hK
                  simp only [RUN_, U_hourglassref23_Check, FR_, Nat.reducePow, Int.reducePow, Nat.reduceAdd, Nat.reduceSub, Nat.reduceMul, Int.reduceToNat, Nat.reduceLeDiff, Nat.reduceEqDiff, Nat.reduceLT, Nat.reduceGT, Int.reduceGT, Int.reduceGE, Int.reduceLT, Int.reduceLE, Int.reduceEq, Int.reduceAdd, Int.reduceSub, Int.reduceNeg, reduceCtorEq, if_true, if_false, ite_true, ite_false, ne_eq, eq_self, OPK_, KEY_, WR_, CHK_, Nat.reduceBEq, K4_, K5_, K6_, K7_, e1, e2]
                  exact hK
          · have hltk : ¬ ((k : Int) < ((l[i]).reads.length : Int)) := by omega
            rw [List.drop_of_length_le (by omega)] at hkinv
            rw [hkinv, if_neg (by simp)] at hinv
            simp only [RUN_, U_hourglassref23_Check, FR_, Nat.reducePow, Int.reducePow, Nat.reduceAdd, Nat.reduceSub, Nat.reduceMul, Int.reduceToNat, Nat.reduceLeDiff, Nat.reduceEqDiff, Nat.reduceLT, Nat.reduceGT, Int.reduceGT, Int.reduceGE, Int.reduceLT, Int.reduceLE, Int.reduceEq, Int.reduceAdd, Int.reduceSub, Int.reduceNeg, reduceCtorEq, if_true, if_false, ite_true, ite_false, ne_eq, eq_self, OPK_, KEY_, WR_, CHK_, Nat.reduceBEq, K4_, K5_, K6_, K7_, hltk, h16, hw]
            exact ih (i + 1) _ _ _ (by omega) ⟨by omega, hinv⟩ rfl (by rw [app_take_add]; rfl) rfl
        · have hlt : ¬ ((i : Int) < (l.length : Int)) := by omega
          rw [List.drop_of_length_le (by omega)] at hinv
          rw [hinv] at hK
          simp only [RUN_, U_hourglassref23_Check, FR_, Nat.reducePow, Int.reducePow, Nat.reduceAdd, Nat.reduceSub, Nat.reduceMul, Int.reduceToNat, Nat.reduceLeDiff, Nat.reduceEqDiff, Nat.reduceLT, Nat.reduceGT, Int.reduceGT, Int.reduceGE, Int.reduceLT, Int.reduceLE, Int.reduceEq, Int.reduceAdd, Int.reduceSub, Int.reduceNeg, reduceCtorEq, if_true, if_false, ite_true, ite_false, ne_eq, eq_self, OPK_, KEY_, WR_, CHK_, Nat.reduceBEq, K4_, K5_, K6_, K7_, hlt]
          exact hK
end Go.AM
namespace Go.AM
open Go
set_option maxRecDepth 20000
set_option linter.unusedSimpArgs false
set_option linter.unusedVariables false

def rdgV (rs : List Wr) : AV := if rs = [] then .s .nilS else .list .sh 18 (rs.map wA)
def txV (x : Tx) : AV := .agg [.s (.int .i64 x.id), .s (.int .i64 x.snap.t), u8 x.snap.n, .s (.int .i64 x.stamp.t), u8 x.stamp.n, .s (.bool x.done), rdgV x.reads, .list .sh 18 (x.writes.map wA)]
theorem rdgV_under {n : Nat} {rs : List Wr} : AV.under n (rdgV rs) = true := by unfold rdgV; split <;> rfl
theorem txV_under {n : Nat} {x : Tx} : AV.under n (txV x) = true := by simp [txV, AV.under, AV.under.go, under_u8, rdgV_under]
set_option maxHeartbeats 8000000 in
theorem txns_spec {C : CallW} (hC : LeC C C) (P : Program) : ∀ (l : List Tx) S H (K : AV → St → Prop), l.length ≤ 1000 → (∀ x ∈ l, x.reads.length ≤ 1000) → K (slG 8 (l.map txV)) ⟨S, H⟩ → runL C P C_hourglasslaw24_txns [lstT l] ⟨S, H⟩ K := by
  intro l S H K hl hr hK
  simp only [lstT, C_hourglasslaw24_txns, RUN_, U_hourglasslaw24_txns, FR_, Nat.reducePow, Int.reducePow, Nat.reduceAdd, Nat.reduceSub, Nat.reduceMul, Int.reduceToNat, Nat.reduceLeDiff, Nat.reduceEqDiff, Nat.reduceLT, Nat.reduceGT, Int.reduceGT, Int.reduceGE, Int.reduceLT, Int.reduceLE, Int.reduceEq, Int.reduceAdd, Int.reduceSub, Int.reduceNeg, reduceCtorEq, if_true, if_false, ite_true, ite_false, ne_eq, eq_self, OPK_, KEY_, WR_, CHK_, Nat.reduceBEq, K4_, K5_, K6_, K7_]
  refine loop_rule hC (α := Nat) (fun a => l.length - a) (fun a => [.list .sh 8 (l.map txA), .undef, .undef, slG 8 ((l.take a).map txV), .s (.int .i64 a), .undef, .undef, .undef, .undef, .undef, .undef, .undef, .undef, .undef, .undef, .undef, .undef, .undef, .undef, .undef, .undef, .undef, .undef, .undef, .undef, .undef, .undef, .undef, .undef, .undef, .undef, .undef, .undef, .undef, .undef, .undef, .undef, .undef, .undef, .undef, .undef, .undef, .undef, .undef, .undef, .undef, .undef, .undef, .undef, .undef, .undef, .undef, .undef, .undef, .undef, .undef, .undef, .undef, .undef, .undef, .undef, .undef, .undef, .undef, .undef, .undef, .undef, .undef, .undef, .undef, .undef, .undef, .undef, .undef, .undef]) (fun a => S) (fun a => H) (fun a => a ≤ l.length) 0 (by simp) rfl (by simp) rfl (fun a _ => by simp [AV.under, AV.under.go, slG_under]) ?_
  rintro i hi ih
  by_cases h16 : i < l.length
  · have hlt : ((i : Int) < (l.length : Int)) := by omega
    have hw : IntKind.i64.wrap ((i : Int) + 1) = (i : Int) + 1 := wrap_i64 (by omega) (by omega)
    have hrl := hr _ (List.getElem_mem h16)
    simp only [RUN_, U_hourglasslaw24_txns, FR_, Nat.reducePow, Int.reducePow, Nat.reduceAdd, Nat.reduceSub, Nat.reduceMul, Int.reduceToNat, Nat.reduceLeDiff, Nat.reduceEqDiff, Nat.reduceLT, Nat.reduceGT, Int.reduceGT, Int.reduceGE, Int.reduceLT, Int.reduceLE, Int.reduceEq, Int.reduceAdd, Int.reduceSub, Int.reduceNeg, reduceCtorEq, if_true, if_false, ite_true, ite_false, ne_eq, eq_self, OPK_, KEY_, WR_, CHK_, Nat.reduceBEq, K4_, K5_, K6_, K7_, hlt, h16]
    refine loop_rule hC (α := Nat) (fun a => (l[i]).reads.length - a) (fun a => [.list .sh 8 (l.map txA), .undef, .undef, slG 8 ((l.take i).map txV), .s (.int .i64 i), .ptr (.stk S.length) 0, .s (.int .i64 a), .undef, .undef, .undef, .undef, .undef, .undef, .undef, .undef, .undef, .undef, .undef, .undef, .undef, .undef, .undef, .undef, .undef, .undef, .undef, .undef, .undef, .undef, .undef, .undef, .undef, .undef, .undef, .undef, .undef, .undef, .undef, .undef, .undef, .undef, .undef, .undef, .undef, .undef, .undef, .undef, .undef, .undef, .undef, .undef, .undef, .undef, .undef, .undef, .undef, .undef, .undef, .undef, .undef, .undef, .undef, .undef, .undef, .undef, .undef, .undef, .undef, .undef, .undef, .undef, .undef, .undef, .undef, .undef]) (fun a => S ++ [[.s (.int .i64 (l[i]).id), .s (.int .i64 (l[i]).snap.t), u8 (l[i]).snap.n, .s (.int .i64 (l[i]).stamp.t), u8 (l[i]).stamp.n, .s (.bool (l[i]).done), slO ((l[i]).reads.take a), .list .sh 18 ((l[i]).writes.map wA)]]) (fun a => H) (fun a => a ≤ (l[i]).reads.length) 0 (by simp) rfl (by rw [app_take_add]; rfl) rfl (fun a _ => by simp [AV.under, AV.under.go, slG_under]) ?_
    rintro k hk ih2
    by_cases h17 : k < (l[i]).reads.length
    · have hltk : ((k : Int) < ((l[i]).reads.length : Int)) := by omega
      have hwk : IntKind.i64.wrap ((k : Int) + 1) = (k : Int) + 1 := wrap_i64 (by omega) (by omega)
      have htk : (l[i]).reads.take (k + 1) = (l[i]).reads.take k ++ [(l[i]).reads[k]] := List.take_succ_eq_append_getElem h17
      by_cases hk0 : k = 0
      · have ht0 : (l[i]).reads.take k = [] := by rw [hk0]; rfl
        have hs0 : slO ((l[i]).reads.take k) = .s .nilS := by rw [ht0]; rfl
        have ih3 := ih2 (k + 1)
        rw [show slO ((l[i]).reads.take (k + 1)) = .list .own 18 [.agg (wc (l[i]).reads[k])] by rw [htk, ht0]; rfl] at ih3
        simp only [RUN_, U_hourglasslaw24_txns, FR_, Nat.reducePow, Int.reducePow, Nat.reduceAdd, Nat.reduceSub, Nat.reduceMul, Int.reduceToNat, Nat.reduceLeDiff, Nat.reduceEqDiff, Nat.reduceLT, Nat.reduceGT, Int.reduceGT, Int.reduceGE, Int.reduceLT, Int.reduceLE, Int.reduceEq, Int.reduceAdd, Int.reduceSub, Int.reduceNeg, reduceCtorEq, if_true, if_false, ite_true, ite_false, ne_eq, eq_self, OPK_, KEY_, WR_, CHK_, Nat.reduceBEq, K4_, K5_, K6_, K7_, hltk, h16, h17, hs0, wc_eq', app_nilW, hwk]
        exact ih3 _ _ _ (by omega) (by omega) rfl (by rw [app_take_add]; rfl) rfl
      · have hne : (l[i]).reads.take k ≠ [] := fun e => by have := congrArg List.length e; simp only [List.length_take, List.length_nil] at this; omega
        have hne1 : (l[i]).reads.take (k + 1) ≠ [] := fun e => by have := congrArg List.length e; simp only [List.length_take, List.length_nil] at this; omega
        have hlen : ((l[i]).reads.take k).length ≤ 1000000 := by rw [List.length_take]; omega
        have hs0 := slO_own hne
        have ih3 := ih2 (k + 1)
        rw [slO_own hne1, htk] at ih3
        simp only [RUN_, U_hourglasslaw24_txns, FR_, Nat.reducePow, Int.reducePow, Nat.reduceAdd, Nat.reduceSub, Nat.reduceMul, Int.reduceToNat, Nat.reduceLeDiff, Nat.reduceEqDiff, Nat.reduceLT, Nat.reduceGT, Int.reduceGT, Int.reduceGE, Int.reduceLT, Int.reduceLE, Int.reduceEq, Int.reduceAdd, Int.reduceSub, Int.reduceNeg, reduceCtorEq, if_true, if_false, ite_true, ite_false, ne_eq, eq_self, OPK_, KEY_, WR_, CHK_, Nat.reduceBEq, K4_, K5_, K6_, K7_, hltk, h16, h17, hs0, wc_eq', app_ownW, hlen, hwk]
        exact ih3 _ _ _ (by omega) (by omega) rfl (by rw [app_take_add]; rfl) rfl
    · have hltk : ¬ ((k : Int) < ((l[i]).reads.length : Int)) := by omega
      have hkk : (l[i]).reads.take k = (l[i]).reads := List.take_of_length_le (by omega)
      have htk : l.take (i + 1) = l.take i ++ [l[i]] := List.take_succ_eq_append_getElem h16
      have happ : ∀ σ, appendL ⟨8, true, 96, (.agg [(.s (.int .i64 0)), (.s (.int .i64 0)), (.s (.int .u8 0)), (.s (.int .i64 0)), (.s (.int .u8 0)), (.s (.bool false)), (.s .nilS), (.s .nilS)])⟩ false (slG 8 ((l.take i).map txV)) (.list .full 8 [txV l[i]]) σ = some (slG 8 ((l.take (i + 1)).map txV), σ) := by
        intro σ
        rw [htk, List.map_append]
        exact app_slG (e := ⟨8, true, 96, (.agg [(.s (.int .i64 0)), (.s (.int .i64 0)), (.s (.int .u8 0)), (.s (.int .i64 0)), (.s (.int .u8 0)), (.s (.bool false)), (.s .nilS), (.s .nilS)])⟩) (es := (l.take i).map txV) (a := txV l[i]) (σ := σ) txV_under (by simp; omega)
      by_cases hr0 : (l[i]).reads = []
      · rw [show txV l[i] = .agg [.s (.int .i64 (l[i]).id), .s (.int .i64 (l[i]).snap.t), u8 (l[i]).snap.n, .s (.int .i64 (l[i]).stamp.t), u8 (l[i]).stamp.n, .s (.bool (l[i]).done), .s .nilS, .list .sh 18 ((l[i]).writes.map wA)] by unfold txV rdgV; rw [if_pos hr0]] at happ
        have hs0 : slO (l[i]).reads = .s .nilS := by rw [hr0]; rfl
        simp only [RUN_, U_hourglasslaw24_txns, FR_, Nat.reducePow, Int.reducePow, Nat.reduceAdd, Nat.reduceSub, Nat.reduceMul, Int.reduceToNat, Nat.reduceLeDiff, Nat.reduceEqDiff, Nat.reduceLT, Nat.reduceGT, Int.reduceGT, Int.reduceGE, Int.reduceLT, Int.reduceLE, Int.reduceEq, Int.reduceAdd, Int.reduceSub, Int.reduceNeg, reduceCtorEq, if_true, if_false, ite_true, ite_false, ne_eq, eq_self, OPK_, KEY_, WR_, CHK_, Nat.reduceBEq, K4_, K5_, K6_, K7_, hltk, h16, hkk, hs0, happ, hw]
        exact ih (i + 1) _ _ _ (by omega) (by omega) rfl (by simp) rfl
      · rw [show txV l[i] = .agg [.s (.int .i64 (l[i]).id), .s (.int .i64 (l[i]).snap.t), u8 (l[i]).snap.n, .s (.int .i64 (l[i]).stamp.t), u8 (l[i]).stamp.n, .s (.bool (l[i]).done), .list .sh 18 ((l[i]).reads.map wA), .list .sh 18 ((l[i]).writes.map wA)] by unfold txV rdgV; rw [if_neg hr0]] at happ
        have hs0 := slO_own hr0
        simp only [RUN_, U_hourglasslaw24_txns, FR_, Nat.reducePow, Int.reducePow, Nat.reduceAdd, Nat.reduceSub, Nat.reduceMul, Int.reduceToNat, Nat.reduceLeDiff, Nat.reduceEqDiff, Nat.reduceLT, Nat.reduceGT, Int.reduceGT, Int.reduceGE, Int.reduceLT, Int.reduceLE, Int.reduceEq, Int.reduceAdd, Int.reduceSub, Int.reduceNeg, reduceCtorEq, if_true, if_false, ite_true, ite_false, ne_eq, eq_self, OPK_, KEY_, WR_, CHK_, Nat.reduceBEq, K4_, K5_, K6_, K7_, hltk, h16, hkk, hs0, happ, hw]
        exact ih (i + 1) _ _ _ (by omega) (by omega) rfl (by simp) rfl
  · have hlt : ¬ ((i : Int) < (l.length : Int)) := by omega
    have : l.take i = l := List.take_of_length_le (by omega)
    rw [← this] at hK
    simp only [RUN_, U_hourglasslaw24_txns, FR_, Nat.reducePow, Int.reducePow, Nat.reduceAdd, Nat.reduceSub, Nat.reduceMul, Int.reduceToNat, Nat.reduceLeDiff, Nat.reduceEqDiff, Nat.reduceLT, Nat.reduceGT, Int.reduceGT, Int.reduceGE, Int.reduceLT, Int.reduceLE, Int.reduceEq, Int.reduceAdd, Int.reduceSub, Int.reduceNeg, reduceCtorEq, if_true, if_false, ite_true, ite_false, ne_eq, eq_self, OPK_, KEY_, WR_, CHK_, Nat.reduceBEq, K4_, K5_, K6_, K7_, hlt]
    exact hK
theorem rdgV_wk (rs : List Wr) {as bs : List AV} (t : WkL as bs) : WkL (rdgV rs :: as) (.list .sh 18 (rs.map wA) :: bs) := by
  unfold rdgV
  split
  · rename_i h; subst h; exact .nilS (by omega) t
  · exact .same t
theorem txV_wk : ∀ (l : List Tx), WkL ((l.map txV).flatMap AV.cells) ((l.map txA).flatMap AV.cells)
  | [] => .nil
  | x :: l => by
    simp only [List.map_cons, List.flatMap_cons]
    refine WkL.app ?_ (txV_wk l)
    exact .same (.same (.same (.same (.same (.same (rdgV_wk _ (.same .nil)))))))
theorem txA_elems (l : List Tx) : Elems 8 (l.map txA) := by
  intro e he
  obtain ⟨x, _, rfl⟩ := List.mem_map.1 he
  refine ⟨rfl, fun c hc => ?_⟩
  have hc : c ∈ txc x := hc
  simp only [txc, List.mem_cons, List.not_mem_nil, or_false] at hc
  rcases hc with rfl | rfl | rfl | rfl | rfl | rfl | rfl | rfl <;> rfl
theorem txns_wk (l : List Tx) : WkL [(slG 8 (l.map txV)).sh] [lstT l] := by
  unfold slG
  split
  · rename_i h
    have : l = [] := by simpa using h
    subst this
    exact .nilS (by omega) .nil
  · exact .list (txV_wk l) (by simp) (txA_elems l) txA_low .nil

def TxnsS (C : CallW) (f : FuncId) : Prop := ∀ (l : List Tx) S H (K : AV → St → Prop), l.length ≤ 1000 → (∀ x ∈ l, x.reads.length ≤ 1000) → K (lstT l) ⟨S, H⟩ → C (.fn f) [lstT l] ⟨S, H⟩ K
theorem great_small {l : List Tx} (h : greatT l = false) : ∀ x ∈ l, x.reads.length ≤ 1000 := by
  intro x hx
  unfold greatT at h
  rw [Bool.or_eq_false_iff] at h
  have := List.any_eq_false.1 h.2 x hx
  simp only [Bool.or_eq_true, decide_eq_true_eq] at this
  omega
set_option maxHeartbeats 8000000 in
theorem HistSays_spec {C : CallW} (P : Program) {c : Nat → FuncId} (h0 : AwakeS C (c 0)) (h1 : GreatS C (c 1)) (h2 : CheckS C (c 2)) (h3 : TxnsS C (c 3)) (h4 : CheckRS C (c 4)) (h5 : ValueS C (c 5)) (h6 : ValueRS C (c 6)) : ∀ (l : List Tx) (k : Key) (s : Stp) S H (K : AV → St → Prop), l.length ≤ 9223372036854775807 → (∀ G, K (.bool true) ⟨S, H ++ G⟩) → runL C P (C_hourglasslaw24_HistSays c) [lstT l, .agg (bs k.b), .agg (stc s)] ⟨S, H⟩ K := by
  intro l k s S H K hl hK
  have h1' := h1 l
  have h2' := h2 l
  have h3' := h3 l
  have h4' := h4 l
  have h5' := h5 l
  have h6' := h6 l
  unfold lstT at h1' h2' h3' h4' h5' h6'
  simp only [lstT, C_hourglasslaw24_HistSays, RUN_, U_hourglasslaw24_HistSays, FR_, Nat.reducePow, Int.reducePow, Nat.reduceAdd, Nat.reduceSub, Nat.reduceMul, Int.reduceToNat, Nat.reduceLeDiff, Nat.reduceEqDiff, Nat.reduceLT, Nat.reduceGT, Int.reduceGT, Int.reduceGE, Int.reduceLT, Int.reduceLE, Int.reduceEq, Int.reduceAdd, Int.reduceSub, Int.reduceNeg, reduceCtorEq, if_true, if_false, ite_true, ite_false, ne_eq, eq_self, OPK_, KEY_, WR_, CHK_, Nat.reduceBEq, K4_, K5_, K6_, K7_]
  refine h0 _ _ _ fun G => ?_
  simp only [RUN_, U_hourglasslaw24_HistSays, FR_, Nat.reducePow, Int.reducePow, Nat.reduceAdd, Nat.reduceSub, Nat.reduceMul, Int.reduceToNat, Nat.reduceLeDiff, Nat.reduceEqDiff, Nat.reduceLT, Nat.reduceGT, Int.reduceGT, Int.reduceGE, Int.reduceLT, Int.reduceLE, Int.reduceEq, Int.reduceAdd, Int.reduceSub, Int.reduceNeg, reduceCtorEq, if_true, if_false, ite_true, ite_false, ne_eq, eq_self, OPK_, KEY_, WR_, CHK_, Nat.reduceBEq, K4_, K5_, K6_, K7_]
  refine h1' _ _ _ hl ?_
  cases hg : greatT l with
  | true =>
    simp only [RUN_, U_hourglasslaw24_HistSays, FR_, Nat.reducePow, Int.reducePow, Nat.reduceAdd, Nat.reduceSub, Nat.reduceMul, Int.reduceToNat, Nat.reduceLeDiff, Nat.reduceEqDiff, Nat.reduceLT, Nat.reduceGT, Int.reduceGT, Int.reduceGE, Int.reduceLT, Int.reduceLE, Int.reduceEq, Int.reduceAdd, Int.reduceSub, Int.reduceNeg, reduceCtorEq, if_true, if_false, ite_true, ite_false, ne_eq, eq_self, OPK_, KEY_, WR_, CHK_, Nat.reduceBEq, K4_, K5_, K6_, K7_]
    exact hK _
  | false =>
  obtain ⟨hl15, hok⟩ := great_false hg
  have hsm := great_small hg
  simp only [RUN_, U_hourglasslaw24_HistSays, FR_, Nat.reducePow, Int.reducePow, Nat.reduceAdd, Nat.reduceSub, Nat.reduceMul, Int.reduceToNat, Nat.reduceLeDiff, Nat.reduceEqDiff, Nat.reduceLT, Nat.reduceGT, Int.reduceGT, Int.reduceGE, Int.reduceLT, Int.reduceLE, Int.reduceEq, Int.reduceAdd, Int.reduceSub, Int.reduceNeg, reduceCtorEq, if_true, if_false, ite_true, ite_false, ne_eq, eq_self, OPK_, KEY_, WR_, CHK_, Nat.reduceBEq, K4_, K5_, K6_, K7_]
  refine h2' _ _ _ (by omega) hok fun G2 => ?_
  simp only [fltA, RUN_, U_hourglasslaw24_HistSays, FR_, Nat.reducePow, Int.reducePow, Nat.reduceAdd, Nat.reduceSub, Nat.reduceMul, Int.reduceToNat, Nat.reduceLeDiff, Nat.reduceEqDiff, Nat.reduceLT, Nat.reduceGT, Int.reduceGT, Int.reduceGE, Int.reduceLT, Int.reduceLE, Int.reduceEq, Int.reduceAdd, Int.reduceSub, Int.reduceNeg, reduceCtorEq, if_true, if_false, ite_true, ite_false, ne_eq, eq_self, OPK_, KEY_, WR_, CHK_, Nat.reduceBEq, K4_, K5_, K6_, K7_]
  refine h3' _ _ _ (by omega) hsm ?_
  simp only [RUN_, U_hourglasslaw24_HistSays, FR_, Nat.reducePow, Int.reducePow, Nat.reduceAdd, Nat.reduceSub, Nat.reduceMul, Int.reduceToNat, Nat.reduceLeDiff, Nat.reduceEqDiff, Nat.reduceLT, Nat.reduceGT, Int.reduceGT, Int.reduceGE, Int.reduceLT, Int.reduceLE, Int.reduceEq, Int.reduceAdd, Int.reduceSub, Int.reduceNeg, reduceCtorEq, if_true, if_false, ite_true, ite_false, ne_eq, eq_self, OPK_, KEY_, WR_, CHK_, Nat.reduceBEq, K4_, K5_, K6_, K7_]
  refine h4' _ _ _ (by omega) hok ?_
  simp only [fltA, RUN_, U_hourglasslaw24_HistSays, FR_, Nat.reducePow, Int.reducePow, Nat.reduceAdd, Nat.reduceSub, Nat.reduceMul, Int.reduceToNat, Nat.reduceLeDiff, Nat.reduceEqDiff, Nat.reduceLT, Nat.reduceGT, Int.reduceGT, Int.reduceGE, Int.reduceLT, Int.reduceLE, Int.reduceEq, Int.reduceAdd, Int.reduceSub, Int.reduceNeg, reduceCtorEq, if_true, if_false, ite_true, ite_false, ne_eq, eq_self, OPK_, KEY_, WR_, CHK_, Nat.reduceBEq, K4_, K5_, K6_, K7_]
  refine h5' _ _ _ _ _ hl hok fun G3 => ?_
  simp only [RUN_, U_hourglasslaw24_HistSays, FR_, Nat.reducePow, Int.reducePow, Nat.reduceAdd, Nat.reduceSub, Nat.reduceMul, Int.reduceToNat, Nat.reduceLeDiff, Nat.reduceEqDiff, Nat.reduceLT, Nat.reduceGT, Int.reduceGT, Int.reduceGE, Int.reduceLT, Int.reduceLE, Int.reduceEq, Int.reduceAdd, Int.reduceSub, Int.reduceNeg, reduceCtorEq, if_true, if_false, ite_true, ite_false, ne_eq, eq_self, OPK_, KEY_, WR_, CHK_, Nat.reduceBEq, K4_, K5_, K6_, K7_]
  refine h3' _ _ _ (by omega) hsm ?_
  simp only [RUN_, U_hourglasslaw24_HistSays, FR_, Nat.reducePow, Int.reducePow, Nat.reduceAdd, Nat.reduceSub, Nat.reduceMul, Int.reduceToNat, Nat.reduceLeDiff, Nat.reduceEqDiff, Nat.reduceLT, Nat.reduceGT, Int.reduceGT, Int.reduceGE, Int.reduceLT, Int.reduceLE, Int.reduceEq, Int.reduceAdd, Int.reduceSub, Int.reduceNeg, reduceCtorEq, if_true, if_false, ite_true, ite_false, ne_eq, eq_self, OPK_, KEY_, WR_, CHK_, Nat.reduceBEq, K4_, K5_, K6_, K7_]
  refine h6' _ _ _ _ _ hl hok ?_
  simp only [RUN_, U_hourglasslaw24_HistSays, FR_, Nat.reducePow, Int.reducePow, Nat.reduceAdd, Nat.reduceSub, Nat.reduceMul, Int.reduceToNat, Nat.reduceLeDiff, Nat.reduceEqDiff, Nat.reduceLT, Nat.reduceGT, Int.reduceGT, Int.reduceGE, Int.reduceLT, Int.reduceLE, Int.reduceEq, Int.reduceAdd, Int.reduceSub, Int.reduceNeg, reduceCtorEq, if_true, if_false, ite_true, ite_false, ne_eq, eq_self, OPK_, KEY_, WR_, CHK_, Nat.reduceBEq, K4_, K5_, K6_, K7_]
  exact hK _
end Go.AM
/-! Arguments as they are read, told as the machine's values. -/
namespace Go.AM
open Go
set_option linter.unusedVariables false

section
variable {H : Type} {enc : TypeId × Value → H} {P : Program} {w : World} {sp : Nat → Bool} {held : Bool}

theorem of_each {α β : Type} {f : β → α} : ∀ (l : List α), (∀ x ∈ l, ∃ b, x = f b) → ∃ bs : List β, l = bs.map f
  | [], _ => ⟨[], rfl⟩
  | x :: l, h => by
    obtain ⟨b, rfl⟩ := h x List.mem_cons_self
    obtain ⟨bs, rfl⟩ := of_each l fun y hy => h y (List.mem_cons_of_mem _ hy)
    exact ⟨b :: bs, rfl⟩

theorem trodAll_stays {W W' : World} (hl : laidOutB P = true) (hb : RowKit.Below W.heap.size W W') : ∀ {ts : List TypeId} {vs : List Value} {ds : List (DataW H)} {ps : List MemPlace}, (∀ t ∈ ts, P.readableRec t = true ∧ t < P.types.size) →
    DataW.TrodAll enc P W 0 (fun _ => true) true ts vs ds ps → DataW.TrodAll enc P W' 0 (fun b => decide (b < W.heap.size)) true ts vs ds ps
  | [], [], [], _, _, h => h
  | t :: ts, v :: vs, d :: ds, ps, ht, ⟨p, q, h1, h2, e⟩ => by
    obtain ⟨n, hn⟩ := h1
    exact ⟨p, q, RowKit.Below.trod hl (ht t List.mem_cons_self).1 (ht t List.mem_cons_self).2 ⟨n, hn⟩ hb (DataW.trod_lt n _ _ _ hn), trodAll_stays hl hb (fun t h => ht t (List.mem_cons_of_mem _ h)) h2, e⟩
  | [], [], _ :: _, _, _, h => h.elim
  | [], _ :: _, _, _, _, h => h.elim
  | _ :: _, [], _, _, _, h => h.elim
  | _ :: _, _ :: _, [], _, _, h => h.elim

end
end Go.AM
/-! Whatever datum is an argument, told as the machine's value. -/
namespace Go.AM
open Go
set_option linter.unusedVariables false

section
variable {H : Type} {enc : TypeId × Value → H} {P : Program} {w : World} {sp : Nat → Bool} {held : Bool}

/-- Types of plain data: numbers, texts, truths, structs, arrays, slices of such. -/
def contig (P : Program) : List Field → Nat → Nat → Bool
  | [], o, tot => o == tot
  | f :: l, o, tot => f.offset == o && contig P l (o + P.cellsOf f.type) tot
def plainT (P : Program) : Nat → TypeId → Bool
  | 0, _ => false
  | d + 1, t => match P.underlying t with
    | some .bool | some (.int _) | some .string => true
    | some (.slice e) => decide (0 < P.cellsOf e) && (isAgg P e || P.cellsOf e == 1) && plainT P d e
    | some (.struct fs) => contig P fs.toList 0 (P.cellsOf t) && fs.toList.all fun f => plainT P d f.type
    | some (.array m e) => P.cellsOf t == m * P.cellsOf e && plainT P d e
    | _ => false

/-- The cells of such. -/
def shp (P : Program) : Nat → TypeId → List AV → Prop
  | 0, _, _ => False
  | d + 1, t, as => match P.underlying t with
    | some .bool => ∃ b, as = [.s (.bool b)]
    | some (.int k) => ∃ i, as = [.s (.int k i)] ∧ (Lit.int k i).wf = true
    | some .string => ∃ l, as = [.s (.str l)] ∧ l.length ≤ maxLen
    | some (.slice e) => ∃ es : List AV, as = [.list .sh (P.cellsOf e) es] ∧ es.length ≤ maxLen ∧ ∀ x ∈ es, shp P d e x.cells ∧ (isAgg P e = true → x = .agg x.cells)
    | some (.struct fs) => fs.toList.foldr (fun f (Q : List AV → Prop) as => ∃ a b, as = a ++ b ∧ shp P d f.type a ∧ Q b) (fun as => as = []) as
    | some (.array m e) => ∃ ps : List (List AV), ps.length = m ∧ as = ps.flatten ∧ ∀ p ∈ ps, shp P d e p
    | _ => False

/-- Cells that stand for values: whole, low. -/
structure Tells (w : World) (as : List AV) (cs : List Value) : Prop where
  vl : VL G.none w as cs
  cell : ∀ c ∈ as, c.isCell = true
  low : AV.under.go 0 as = true

theorem Tells.nil : Tells w [] [] := ⟨.nil, (fun _ h => by cases h), rfl⟩
theorem Tells.app {a b : List AV} {c d : List Value} (h : Tells w a c) (h' : Tells w b d) : Tells w (a ++ b) (c ++ d) :=
  ⟨h.vl.app h'.vl, fun x hx => (List.mem_append.1 hx).elim (h.cell x) (h'.cell x), by rw [under_app', h.low, h'.low]; rfl⟩
theorem Tells.flat : ∀ {ps : List (List AV)} {qs : List (List Value)}, ps.length = qs.length → (∀ (i : Nat) (p : List AV) (q : List Value), ps[i]? = some p → qs[i]? = some q → Tells w p q) → Tells w ps.flatten qs.flatten
  | [], [], _, _ => .nil
  | [], _ :: _, h, _ => by simp at h
  | _ :: _, [], h, _ => by simp at h
  | p :: ps, q :: qs, h, hall => by
    rw [List.flatten_cons, List.flatten_cons]
    exact (hall 0 p q rfl rfl).app (Tells.flat (by simpa using h) fun i a b ha hb => hall (i + 1) a b (by simpa using ha) (by simpa using hb))
theorem Tells.sc (x : Sc) : Tells w [.s x] [x.toV] := ⟨.sc x .nil, fun c hc => by rw [List.mem_singleton.1 hc]; rfl, rfl⟩

theorem lies_flat {b c : Nat} : ∀ (qs : List (List Value)) (off : Nat), (∀ i q, qs[i]? = some q → w.cells? 0 ⟨b, off + i * c, none⟩ c = some q) → ∀ j v, qs.flatten[j]? = some v → w.cell? ⟨b, off + j, none⟩ = some v
  | [], off, _, j, v, h => by simp at h
  | q :: qs, off, hall, j, v, h => by
    have hk := hall 0 q rfl
    rw [Nat.zero_mul, Nat.add_zero] at hk
    have hs := World.cells?_some hk
    rw [List.flatten_cons] at h
    by_cases hj : j < c
    · rw [List.getElem?_append_left (by omega)] at h
      have := hs.2.2 j hj
      rw [Addr.add_lit] at this
      rw [this]; exact h
    · rw [List.getElem?_append_right (by omega), hs.2.1] at h
      have := lies_flat qs (off + c) (fun i q hi => by
        have := hall (i + 1) q (by simpa using hi)
        rw [show off + c + i * c = off + (i + 1) * c by rw [Nat.add_mul]; omega]
        exact this) (j - c) v h
      rwa [show off + c + (j - c) = off + j by omega] at this

theorem choose_list {β : Type} {n : Nat} {p : Nat → β → Prop} (h : ∀ i, i < n → ∃ b, p i b) : ∃ l : List β, l.length = n ∧ ∀ i b, l[i]? = some b → p i b := by
  induction n with
  | zero => exact ⟨[], rfl, fun i b h => by simp at h⟩
  | succ n ih =>
    obtain ⟨l, hl, hall⟩ := ih fun i hi => h i (by omega)
    obtain ⟨b, hb⟩ := h n (by omega)
    refine ⟨l ++ [b], by simp [hl], fun i c hc => ?_⟩
    by_cases hi : i < l.length
    · rw [List.getElem?_append_left hi] at hc; exact hall i c hc
    · rw [List.getElem?_append_right (by omega)] at hc
      have : i = n := by
        have := (List.getElem?_eq_some_iff.1 hc).1
        simp at this; omega
      subst this
      rw [hl, Nat.sub_self] at hc
      injection hc with hc; subst hc; exact hb

/-- An element of a slice. -/
def elemA (ag : Bool) (as : List AV) : AV := match ag with
  | true => .agg as
  | false => as.getD 0 .undef
theorem elemA_cells {w : World} {ag : Bool} {as : List AV} {cs : List Value} (h : Tells w as cs) (hl : ag = true ∨ as.length = 1) : (elemA ag as).cells = as := by
  cases ag with
  | true => rfl
  | false =>
    obtain ⟨a, rfl⟩ := List.length_eq_one_iff.1 (hl.resolve_left (by simp))
    have hc := h.cell a (by simp)
    show a.cells = [a]
    cases a <;> simp [AV.isCell] at hc <;> rfl
theorem elemA_low {w : World} {ag : Bool} {as : List AV} {cs : List Value} (h : Tells w as cs) (hl : ag = true ∨ as.length = 1) : AV.under 0 (elemA ag as) = true := by
  cases ag with
  | true => exact h.low
  | false =>
    obtain ⟨a, rfl⟩ := List.length_eq_one_iff.1 (hl.resolve_left (by simp))
    have := h.low
    simpa [elemA, AV.under.go] using this

theorem trod_struct_shp {d m tot : Nat} {cs : List Value} (ih : ∀ t, plainT P d t = true → ∀ N cs x, DataW.trod enc P w 0 sp held N t cs = some x → ∃ as, shp P d t as ∧ Tells w as cs) (htot : cs.length = tot) :
    ∀ (l : List Field) (o : Nat), contig P l o tot = true → (l.all fun f => plainT P d f.type) = true → (∀ f ∈ l, ∃ x, DataW.trod enc P w 0 sp held m f.type ((cs.drop f.offset).take (P.cellsOf f.type)) = some x) →
    ∃ as, l.foldr (fun f (Q : List AV → Prop) as => ∃ a b, as = a ++ b ∧ shp P d f.type a ∧ Q b) (fun as => as = []) as ∧ Tells w as (cs.drop o)
  | [], o, hc, _, _ => by
    have : o = tot := by simpa [contig] using hc
    subst this
    rw [List.drop_of_length_le (by omega)]
    exact ⟨[], rfl, .nil⟩
  | f :: l, o, hc, hp, hall => by
    simp only [contig, Bool.and_eq_true, beq_iff_eq] at hc
    simp only [List.all_cons, Bool.and_eq_true] at hp
    obtain ⟨x, hx⟩ := hall f List.mem_cons_self
    obtain ⟨a, ha, hta⟩ := ih _ hp.1 _ _ _ hx
    obtain ⟨b, hb, htb⟩ := trod_struct_shp ih htot l _ hc.2 hp.2 fun g hg => hall g (List.mem_cons_of_mem _ hg)
    refine ⟨a ++ b, ⟨a, b, rfl, ha, hb⟩, ?_⟩
    rw [hc.1] at hta
    have : cs.drop o = (cs.drop o).take (P.cellsOf f.type) ++ cs.drop (o + P.cellsOf f.type) := by
      rw [← List.drop_drop, List.take_append_drop]
    rw [this]
    exact hta.app htb

theorem flat_parts {c : Nat} : ∀ (m : Nat) (cs : List Value), cs.length = m * c → ((List.range m).map fun i => (cs.drop (i * c)).take c).flatten = cs
  | 0, cs, h => by simp at h; subst h; rfl
  | m + 1, cs, h => by
    rw [List.range_succ_eq_map, List.map_cons, List.map_map, List.flatten_cons, Nat.zero_mul, List.drop_zero]
    have := flat_parts (c := c) m (cs.drop c) (by rw [List.length_drop, h, Nat.add_mul]; omega)
    have e : ((fun i => (cs.drop (i * c)).take c) ∘ Nat.succ) = fun i => ((cs.drop c).drop (i * c)).take c := by
      funext i
      simp only [Function.comp, List.drop_drop, Nat.succ_eq_add_one, Nat.add_mul, Nat.one_mul]
      rw [Nat.add_comm c]
    rw [e, this, List.take_append_drop]

/-- Whatever datum of such a type is read is a value of the machine. -/
theorem trod_shp : ∀ (d : Nat) (t : TypeId), plainT P d t = true → ∀ (N : Nat) (cs : List Value) (x : DataW H × List MemPlace), DataW.trod enc P w 0 sp held N t cs = some x → ∃ as, shp P d t as ∧ Tells w as cs
  | 0, t, h, _, _, _, _ => by simp [plainT] at h
  | d + 1, t, h, N, cs, x, hx => by
    have ih := trod_shp d
    unfold plainT at h
    unfold shp
    cases hu : P.underlying t with
    | none => rw [hu] at h; cases h
    | some D =>
      rw [hu] at h
      cases D with
      | bool =>
        obtain ⟨b, rfl, _⟩ := DataW.trod_bool hu hx
        exact ⟨_, ⟨b, rfl⟩, .sc (.bool b)⟩
      | int k =>
        obtain ⟨n, rfl, _, hw⟩ := DataW.trod_int hu hx
        exact ⟨_, ⟨n, rfl, hw⟩, .sc (.int k n)⟩
      | string =>
        obtain ⟨s, rfl, _, hl⟩ := DataW.trod_string hu hx
        refine ⟨_, ⟨s.data.toList, rfl, by simpa using hl⟩, ?_⟩
        have := Tells.sc (w := w) (.str s.data.toList)
        simpa [Sc.toV] using this
      | slice e =>
        simp only [Bool.and_eq_true, decide_eq_true_eq, Bool.or_eq_true, beq_iff_eq] at h
        obtain ⟨⟨hpos, hag⟩, hpe⟩ := h
        rcases DataW.trod_slice hu hx with ⟨rfl, _⟩ | ⟨a, len, cap, elems, rest, n, _, rfl, _, _, hle, hcap, hlen, hel, _, _⟩
        · exact ⟨_, ⟨[], rfl, Nat.zero_le _, fun _ h => by cases h⟩, ⟨.lnil hpos .nil, fun c hc => by rw [List.mem_singleton.1 hc]; rfl, rfl⟩⟩
        · have each : ∀ i, i < len → ∃ z : List Value × List AV, w.cells? 0 (a.add (i * P.cellsOf e)) (P.cellsOf e) = some z.1 ∧ shp P d e z.2 ∧ Tells w z.2 z.1 := fun i hi => by
            have h1 := hel i hi
            rw [List.getElem?_eq_getElem (by omega)] at h1
            obtain ⟨q, hq, hq2⟩ := Option.bind_eq_some_iff.1 h1
            obtain ⟨as, h2, h3⟩ := ih e hpe _ _ _ hq2
            exact ⟨(q, as), hq, h2, h3⟩
          obtain ⟨l, hl, hall⟩ := choose_list each
          have hin : ∀ z ∈ l, (∃ i, w.cells? 0 (a.add (i * P.cellsOf e)) (P.cellsOf e) = some z.1) ∧ shp P d e z.2 ∧ Tells w z.2 z.1 := fun z hz => by
            obtain ⟨i, hi⟩ := List.getElem?_of_mem hz
            exact ⟨⟨i, (hall i z hi).1⟩, (hall i z hi).2⟩
          have hone : ∀ z ∈ l, z.2.length = P.cellsOf e := fun z hz => by
            obtain ⟨⟨i, h1⟩, _, h2⟩ := hin z hz
            rw [← h2.vl.length]; exact (World.cells?_some h1).2.1
          have hag' : ∀ z ∈ l, isAgg P e = true ∨ z.2.length = 1 := fun z hz => hag.imp id fun h => by rw [hone z hz, h]
          let es : List AV := l.map fun z => elemA (isAgg P e) z.2
          have hcells : es.flatMap AV.cells = (l.map (·.2)).flatten := by
            have : ∀ (l' : List (List Value × List AV)), (∀ z ∈ l', z ∈ l) → (l'.map fun z => elemA (isAgg P e) z.2).flatMap AV.cells = (l'.map (·.2)).flatten := by
              intro l'
              induction l' with
              | nil => intro _; rfl
              | cons z l' ihl =>
                intro hs
                rw [List.map_cons, List.flatMap_cons, List.map_cons, List.flatten_cons, ihl fun y hy => hs y (List.mem_cons_of_mem _ hy)]
                have hz := hs z List.mem_cons_self
                rw [elemA_cells (hin z hz).2.2 (hag' z hz)]
            exact this l fun _ h => h
          have hspot : es = [] ∨ a.spot = none := by
            by_cases h0 : len = 0
            · left; apply List.length_eq_zero_iff.1; simp [es, hl, h0]
            · right
              obtain ⟨z, hz, _⟩ := each 0 (by omega)
              have h1 := (World.cells?_some hz).2.2 0 hpos
              have h2 : (a.add (0 * P.cellsOf e)).add 0 = a := by simp [Addr.add]
              rw [h2, List.getElem?_eq_getElem (by rw [(World.cells?_some hz).2.1]; exact hpos)] at h1
              unfold World.cell? at h1
              split at h1
              · split at h1
                · cases h1
                · rename_i h3; simpa using h3
              · cases h1
          have htell : Tells w (l.map (·.2)).flatten (l.map (·.1)).flatten := Tells.flat (by simp) fun i p q hp hq => by
            rw [List.getElem?_map] at hp hq
            cases hz : l[i]? with
            | none => rw [hz] at hp; cases hp
            | some z =>
              rw [hz] at hp hq
              injection hp with hp; injection hq with hq; subst hp; subst hq
              exact (hall i z hz).2.2
          refine ⟨_, ⟨es, rfl, by simp [es, hl]; omega, fun y hy => ?_⟩, ⟨?_, fun c hc => by rw [List.mem_singleton.1 hc]; rfl, rfl⟩⟩
          · obtain ⟨z, hz, rfl⟩ := List.mem_map.1 hy
            rw [elemA_cells (hin z hz).2.2 (hag' z hz)]
            exact ⟨(hin z hz).2.1, fun h => by rw [h]; rfl⟩
          · refine .list (xs := (l.map (·.1)).flatten) (.inl rfl) (by simp [es, hl]) hle hpos hspot (fun y hy => ?_) ?_ (by rw [hcells]; exact htell.vl) (fun i v hv => ⟨?_, fun h => (show False from h)⟩) .nil
            · obtain ⟨z, hz, rfl⟩ := List.mem_map.1 hy
              rw [elemA_cells (hin z hz).2.2 (hag' z hz)]
              exact ⟨hone z hz, (hin z hz).2.2.cell⟩
            · refine under_mem.2 fun y hy => ?_
              obtain ⟨z, hz, rfl⟩ := List.mem_map.1 hy
              exact elemA_low (hin z hz).2.2 (hag' z hz)
            · rcases hspot with h0 | h0
              · have : l = [] := by simpa [es] using h0
                rw [this] at hv; simp at hv
              · obtain ⟨ab, ao, as⟩ := a
                dsimp only at h0; subst h0
                refine lies_flat (c := P.cellsOf e) _ ao (fun j q hq => ?_) i v hv
                rw [List.getElem?_map] at hq
                cases hz : l[j]? with
                | none => rw [hz] at hq; cases hq
                | some z =>
                  rw [hz] at hq
                  injection hq with hq; subst hq
                  have := (hall j z hz).1
                  rwa [Addr.add_lit] at this
      | struct fs =>
        simp only [Bool.and_eq_true] at h
        obtain ⟨xs, n, _, _, hl, hxl, hf⟩ := DataW.trod_struct hu hx
        obtain ⟨as, h1, h2⟩ := trod_struct_shp (m := n) ih hl fs.toList 0 h.1 h.2 fun f hm => by
          obtain ⟨i, hi⟩ := List.getElem?_of_mem hm
          have hi' : fs[i]? = some f := by simpa using hi
          have := hf i f hi'
          have hlt := (Array.getElem?_eq_some_iff.1 hi').1
          rw [List.getElem?_eq_getElem (by omega)] at this
          exact ⟨_, this⟩
        exact ⟨as, h1, by simpa using h2⟩
      | array m e =>
        simp only [Bool.and_eq_true, beq_iff_eq] at h
        obtain ⟨xs, n, _, _, hl, hxl, hf⟩ := DataW.trod_array hu hx
        obtain ⟨ps, hpl, hall⟩ := choose_list (n := m) (p := fun i as => shp P d e as ∧ Tells w as ((cs.drop (i * P.cellsOf e)).take (P.cellsOf e))) fun i hi => by
          have := hf i hi
          rw [List.getElem?_eq_getElem (by omega)] at this
          exact ih e h.2 _ _ _ this
        refine ⟨ps.flatten, ⟨ps, hpl, rfl, fun p hp => ?_⟩, ?_⟩
        · obtain ⟨i, hi⟩ := List.getElem?_of_mem hp
          exact (hall i p hi).1
        · rw [← flat_parts (c := P.cellsOf e) m cs (by rw [hl, h.1])]
          refine Tells.flat (by simp [hpl]) fun i p q hp hq => ?_
          have hlt : i < m := by have := (List.getElem?_eq_some_iff.1 hp).1; omega
          have : q = (cs.drop (i * P.cellsOf e)).take (P.cellsOf e) := by
            rw [List.getElem?_map, List.getElem?_range hlt] at hq
            injection hq with hq; exact hq.symm
          subst this
          exact (hall i p hp).2
      | _ => cases h

/-- An argument of such a type. -/
def argA (ag : Bool) (as : List AV) : AV := elemA ag as
theorem trod_arg {d : Nat} {t : TypeId} {v : Value} {D : DataW H} {ps : List MemPlace} (hp : plainT P d t = true) (hok : Value.okWide P w .any 0 t v) (h : DataW.Trod enc P w 0 sp held t v D ps) :
    ∃ as, shp P d t as ∧ V G.none w (argA (isAgg P t) as) v := by
  obtain ⟨n, hn⟩ := h
  obtain ⟨as, h1, h2⟩ := trod_shp d t hp n _ _ hn
  refine ⟨as, h1, ?_⟩
  cases hu : P.underlying t with
  | none =>
    cases d with
    | zero => simp [plainT] at hp
    | succ d => rw [plainT, hu] at hp; cases hp
  | some D =>
    have scalar : isAgg P t = false → (∀ xs, v ≠ .agg xs) → V G.none w (argA (isAgg P t) as) v := fun hf hv => by
      rw [hf]
      have e : v.cells.toList = [v] := by
        cases v <;> first | rfl | exact (hv _ rfl).elim
      rw [e] at h2
      obtain ⟨a, as', rfl, h3, h4⟩ : ∃ a as', as = a :: as' ∧ V G.none w a v ∧ VL G.none w as' [] := by
        cases as with
        | nil => have := h2.vl.length; simp at this
        | cons a as' =>
          obtain ⟨v', vs', hh, h3, h4⟩ := h2.vl.cons_left
          injection hh with hh1 hh2; subst hh1; subst hh2
          exact ⟨a, as', rfl, h3, h4⟩
      exact h3
    cases D with
    | struct fs =>
      simp only [Value.okWide, hu] at hok
      obtain ⟨cs, rfl, _, _⟩ := hok
      rw [show isAgg P t = true by simp [isAgg, hu]]
      exact .agg h2.cell (by simpa [Value.cells] using h2.vl) .nil
    | array m e =>
      simp only [Value.okWide, hu] at hok
      obtain ⟨cs, rfl, _, _⟩ := hok
      rw [show isAgg P t = true by simp [isAgg, hu]]
      exact .agg h2.cell (by simpa [Value.cells] using h2.vl) .nil
    | _ =>
      refine scalar (by simp [isAgg, hu]) fun xs hv => ?_
      subst hv
      simp [Value.okWide, Cell.okWide, Cell.ok, hu] at hok
end
end Go.AM
/-! Data of this program's types. -/
namespace Go.AM
open Go
set_option linter.unusedVariables false

section
variable {P : Program}

def parts (P : Program) (d : Nat) : List TypeId → List AV → Prop
  | [], as => as = []
  | u :: ts, as => ∃ a b, as = a ++ b ∧ shp P d u a ∧ parts P d ts b
theorem parts_of {d : Nat} : ∀ {fs : List Field} {as : List AV}, fs.foldr (fun f (Q : List AV → Prop) as => ∃ a b, as = a ++ b ∧ shp P d f.type a ∧ Q b) (fun as => as = []) as → parts P d (fs.map (·.type)) as
  | [], _, h => h
  | f :: fs, as, h => by
    obtain ⟨a, b, h1, h2, h3⟩ := h
    exact ⟨a, b, h1, h2, parts_of h3⟩
theorem shp_struct {d : Nat} {t : TypeId} {fs : Array Field} {ts : List TypeId} {as : List AV} (ht : P.underlying t = some (.struct fs)) (hts : fs.toList.map (·.type) = ts) (h : shp P (d + 1) t as) : parts P d ts as := by
  unfold shp at h
  rw [ht] at h
  subst hts
  exact parts_of h
theorem shp_int {d : Nat} {t : TypeId} {k : IntKind} {as : List AV} (ht : P.underlying t = some (.int k)) (h : shp P (d + 1) t as) : ∃ i, as = [.s (.int k i)] ∧ (Lit.int k i).wf = true := by
  unfold shp at h; rw [ht] at h; exact h
theorem shp_bool {d : Nat} {t : TypeId} {as : List AV} (ht : P.underlying t = some .bool) (h : shp P (d + 1) t as) : ∃ b, as = [.s (.bool b)] := by
  unfold shp at h; rw [ht] at h; exact h
theorem shp_str {d : Nat} {t : TypeId} {as : List AV} (ht : P.underlying t = some .string) (h : shp P (d + 1) t as) : ∃ l, as = [.s (.str l)] ∧ l.length ≤ maxLen := by
  unfold shp at h; rw [ht] at h; exact h
theorem shp_slice {d : Nat} {t e : TypeId} {as : List AV} {α : Type} (f : α → AV) (ht : P.underlying t = some (.slice e)) (he : ∀ x : AV, shp P d e x.cells → (isAgg P e = true → x = .agg x.cells) → ∃ a, x = f a) (h : shp P (d + 1) t as) :
    ∃ l : List α, as = [.list .sh (P.cellsOf e) (l.map f)] ∧ l.length ≤ 9223372036854775807 := by
  unfold shp at h; rw [ht] at h
  obtain ⟨es, rfl, hl, hall⟩ := h
  obtain ⟨l, rfl⟩ := of_each (f := f) es fun x hx => he x (hall x hx).1 (hall x hx).2
  refine ⟨l, rfl, ?_⟩
  rw [List.length_map] at hl
  unfold maxLen at hl; omega
theorem shp_u8 {d : Nat} {t : TypeId} {as : List AV} (ht : P.underlying t = some (.int .u8)) (h : shp P (d + 1) t as) : ∃ b : UInt8, as = [u8 b] := by
  obtain ⟨i, rfl, hw⟩ := shp_int ht h
  have := bounds_u8 hw
  refine ⟨UInt8.ofNat i.toNat, ?_⟩
  have : ((UInt8.ofNat i.toNat).toNat : Int) = i := by rw [UInt8.toNat_ofNat']; omega
  show _ = [AV.s (.int .u8 _)]
  rw [this]
theorem shp_key {d : Nat} {t u : TypeId} {as : List AV} (ht : P.underlying t = some (.array 16 u)) (hu : P.underlying u = some (.int .u8)) (h : shp P (d + 2) t as) : ∃ k : Key, as = bs k.b := by
  unfold shp at h; rw [ht] at h
  obtain ⟨ps, hl, rfl, hall⟩ := h
  obtain ⟨l, rfl⟩ := of_each (f := fun b => [u8 b]) ps fun p hp => shp_u8 hu (hall p hp)
  refine ⟨⟨l, by simpa using hl⟩, ?_⟩
  show _ = l.map u8
  clear hl hall
  induction l with
  | nil => rfl
  | cons b l ih => simp only [List.map_cons, List.flatten_cons, ih]; rfl
/-- A struct of a key, a text, a truth. -/
theorem shp_wr {d : Nat} {t tk u ts tb : TypeId} {fs : Array Field} {as : List AV} (ht : P.underlying t = some (.struct fs)) (hf : fs.toList.map (·.type) = [tk, ts, tb]) (hk : P.underlying tk = some (.array 16 u)) (hu : P.underlying u = some (.int .u8)) (hs : P.underlying ts = some .string) (hb : P.underlying tb = some .bool)
    (h : shp P (d + 3) t as) : ∃ w : Wr, as = wc w := by
  obtain ⟨a, r, rfl, h1, a2, r2, rfl, h2, a3, r3, rfl, h3, rfl⟩ := shp_struct ht hf h
  obtain ⟨k, rfl⟩ := shp_key hk hu h1
  obtain ⟨l, rfl, _⟩ := shp_str hs h2
  obtain ⟨b, rfl⟩ := shp_bool hb h3
  exact ⟨⟨k, l, b⟩, rfl⟩
end
end Go.AM
/-! Stamps and transactions, as they are read. -/
namespace Go.AM
open Go
set_option linter.unusedVariables false
section
variable {P : Program}
theorem shp_stamp {d : Nat} {t ti tn : TypeId} {fs : Array Field} {as : List AV} (ht : P.underlying t = some (.struct fs)) (hf : fs.toList.map (·.type) = [ti, tn]) (hi : P.underlying ti = some (.int .i64)) (hn : P.underlying tn = some (.int .u8)) (h : shp P (d + 2) t as) : ∃ s : Stp, as = stc s := by
  obtain ⟨a, r, rfl, h1, a2, r2, rfl, h2, rfl⟩ := shp_struct ht hf h
  obtain ⟨i, rfl, _⟩ := shp_int hi h1
  obtain ⟨b, rfl⟩ := shp_u8 hn h2
  exact ⟨⟨i, b⟩, rfl⟩
theorem shp_wrs {d : Nat} {t e tk u ts tb : TypeId} {fs : Array Field} {as : List AV} (ht : P.underlying t = some (.slice e)) (hc : P.cellsOf e = 18) (hag : isAgg P e = true) (he : P.underlying e = some (.struct fs)) (hf : fs.toList.map (·.type) = [tk, ts, tb]) (hk : P.underlying tk = some (.array 16 u)) (hu : P.underlying u = some (.int .u8)) (hs : P.underlying ts = some .string) (hb : P.underlying tb = some .bool)
    (h : shp P (d + 4) t as) : ∃ l : List Wr, as = [.list .sh 18 (l.map wA)] ∧ l.length ≤ 9223372036854775807 := by
  obtain ⟨l, h1, h2⟩ := shp_slice wA ht (fun x hx hg => by obtain ⟨w, hw⟩ := shp_wr he hf hk hu hs hb hx; exact ⟨w, by rw [hg hag, hw]; rfl⟩) h
  rw [hc] at h1
  exact ⟨l, h1, h2⟩
theorem shp_tx {d : Nat} {t ti tst tn tb tr tw er ew tk u ts : TypeId} {fs fst fr fw : Array Field} {as : List AV} (ht : P.underlying t = some (.struct fs)) (hf : fs.toList.map (·.type) = [ti, tst, tst, tb, tr, tw]) (hi : P.underlying ti = some (.int .i64))
    (hst : P.underlying tst = some (.struct fst)) (hft : fst.toList.map (·.type) = [ti, tn]) (hn : P.underlying tn = some (.int .u8)) (hb : P.underlying tb = some .bool)
    (hr : P.underlying tr = some (.slice er)) (hcr : P.cellsOf er = 18) (har : isAgg P er = true) (her : P.underlying er = some (.struct fr)) (hfr : fr.toList.map (·.type) = [tk, ts, tb])
    (hw : P.underlying tw = some (.slice ew)) (hcw : P.cellsOf ew = 18) (haw : isAgg P ew = true) (hew : P.underlying ew = some (.struct fw)) (hfw : fw.toList.map (·.type) = [tk, ts, tb])
    (hk : P.underlying tk = some (.array 16 u)) (hu : P.underlying u = some (.int .u8)) (hs : P.underlying ts = some .string)
    (h : shp P (d + 5) t as) : ∃ x : Tx, as = txc x ∧ x.writes.length ≤ 9223372036854775807 ∧ x.reads.length ≤ 9223372036854775807 := by
  obtain ⟨a1, r1, rfl, h1, a2, r2, rfl, h2, a3, r3, rfl, h3, a4, r4, rfl, h4, a5, r5, rfl, h5, a6, r6, rfl, h6, rfl⟩ := shp_struct ht hf h
  obtain ⟨i, rfl, _⟩ := shp_int hi h1
  obtain ⟨s1, rfl⟩ := shp_stamp (d := d + 2) hst hft hi hn h2
  obtain ⟨s2, rfl⟩ := shp_stamp (d := d + 2) hst hft hi hn h3
  obtain ⟨b, rfl⟩ := shp_bool hb h4
  obtain ⟨l1, rfl, b1⟩ := shp_wrs (d := d) hr hcr har her hfr hk hu hs hb h5
  obtain ⟨l2, rfl, b2⟩ := shp_wrs (d := d) hw hcw haw hew hfw hk hu hs hb h6
  exact ⟨⟨i, s1, s2, b, l1, l2⟩, rfl, b2, b1⟩
end
end Go.AM
