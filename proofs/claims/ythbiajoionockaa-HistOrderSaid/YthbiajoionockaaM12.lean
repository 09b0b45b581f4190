import Derived.Test.YthbiajoionockaaM11
import Derived.Test.YthbiajoionockaaM10
import Derived.Test.YthbiajoionockaaM7
import Derived.OpenShut
import Derived.Carry
import Derived.ChangeOld
namespace Go.AM
open Go
set_option maxRecDepth 20000
set_option linter.unusedSimpArgs false
set_option linter.unusedVariables false

def alikeT (a b : Tx) : Bool := decide (a.stamp = b.stamp)
def bothT (a b : Tx) : Bool := sharesT a b && !beforeT a b && !beforeT b a
theorem stp_beq (a b : Stp) : (decide (a.t = b.t) && decide (a.n = b.n)) = decide (a = b) := by
  cases a; cases b; simp [Stp.mk.injEq, Bool.decide_and]
theorem Check1_spec {C : CallW} (P : Program) : ∀ (a b : Tx) S H (K : AV → St → Prop), a.writes.length ≤ 9223372036854775807 → b.writes.length ≤ 9223372036854775807 → (∀ G, K (.bool (alikeT a b)) ⟨S, H ++ G⟩) → runL C P C_hist_Check_1 [.agg (txc a), .agg (txc b)] ⟨S, H⟩ K := by
  intro a b S H K _ _ hK
  have hK := hK []
  rw [List.append_nil, alikeT, ← stp_beq] at hK
  simp only [C_hist_Check_1, RUN_, U_hist_Check_1, FR_, Nat.reducePow, Int.reducePow, Nat.reduceAdd, Nat.reduceSub, Nat.reduceMul, Int.reduceToNat, Nat.reduceLeDiff, Nat.reduceEqDiff, Nat.reduceLT, Nat.reduceGT, Int.reduceGT, Int.reduceGE, Int.reduceLT, Int.reduceLE, Int.reduceEq, Int.reduceAdd, Int.reduceSub, Int.reduceNeg, reduceCtorEq, if_true, if_false, ite_true, ite_false, ne_eq, eq_self, OPK_, KEY_, WR_, CHK_, Nat.reduceBEq, K4_, K5_, K6_, K7_]
  exact hK
def BeforeS (C : CallW) (f : FuncId) : Prop := ∀ a b : Tx, FnS C f [.agg (txc a), .agg (txc b)] (.bool (beforeT a b))
theorem Check2_spec {C : CallW} (P : Program) {c : Nat → FuncId} (h0 : TwoT sharesT C (c 0)) (h1 : BeforeS C (c 1)) : ∀ (a b : Tx) S H (K : AV → St → Prop), a.writes.length ≤ 9223372036854775807 → b.writes.length ≤ 9223372036854775807 → (∀ G, K (.bool (bothT a b)) ⟨S, H ++ G⟩) → runL C P (C_hist_Check_2 c) [.agg (txc a), .agg (txc b)] ⟨S, H⟩ K := by
  intro a b S H K ha hb hK
  have h0' := h0 a b
  have h1' := h1 a b
  have h2' := h1 b a
  unfold txc at h0' h1' h2'
  unfold bothT at hK
  simp only [C_hist_Check_2, RUN_, U_hist_Check_2, FR_, Nat.reducePow, Int.reducePow, Nat.reduceAdd, Nat.reduceSub, Nat.reduceMul, Int.reduceToNat, Nat.reduceLeDiff, Nat.reduceEqDiff, Nat.reduceLT, Nat.reduceGT, Int.reduceGT, Int.reduceGE, Int.reduceLT, Int.reduceLE, Int.reduceEq, Int.reduceAdd, Int.reduceSub, Int.reduceNeg, reduceCtorEq, if_true, if_false, ite_true, ite_false, ne_eq, eq_self, OPK_, KEY_, WR_, CHK_, Nat.reduceBEq, K4_, K5_, K6_, K7_]
  refine h0' _ _ _ ha hb fun G => ?_
  cases e1 : sharesT a b with
  | false =>
    rw [e1] at hK
    simp only [RUN_, U_hist_Check_2, FR_, Nat.reducePow, Int.reducePow, Nat.reduceAdd, Nat.reduceSub, Nat.reduceMul, Int.reduceToNat, Nat.reduceLeDiff, Nat.reduceEqDiff, Nat.reduceLT, Nat.reduceGT, Int.reduceGT, Int.reduceGE, Int.reduceLT, Int.reduceLE, Int.reduceEq, Int.reduceAdd, Int.reduceSub, Int.reduceNeg, reduceCtorEq, if_true, if_false, ite_true, ite_false, ne_eq, eq_self, OPK_, KEY_, WR_, CHK_, Nat.reduceBEq, K4_, K5_, K6_, K7_]
    exact hK _
  | true =>
    simp only [RUN_, U_hist_Check_2, FR_, Nat.reducePow, Int.reducePow, Nat.reduceAdd, Nat.reduceSub, Nat.reduceMul, Int.reduceToNat, Nat.reduceLeDiff, Nat.reduceEqDiff, Nat.reduceLT, Nat.reduceGT, Int.reduceGT, Int.reduceGE, Int.reduceLT, Int.reduceLE, Int.reduceEq, Int.reduceAdd, Int.reduceSub, Int.reduceNeg, reduceCtorEq, if_true, if_false, ite_true, ite_false, ne_eq, eq_self, OPK_, KEY_, WR_, CHK_, Nat.reduceBEq, K4_, K5_, K6_, K7_]
    refine h1' _ _ _ ?_
    cases e2 : beforeT a b with
    | true =>
      rw [e1, e2] at hK
      simp only [RUN_, U_hist_Check_2, FR_, Nat.reducePow, Int.reducePow, Nat.reduceAdd, Nat.reduceSub, Nat.reduceMul, Int.reduceToNat, Nat.reduceLeDiff, Nat.reduceEqDiff, Nat.reduceLT, Nat.reduceGT, Int.reduceGT, Int.reduceGE, Int.reduceLT, Int.reduceLE, Int.reduceEq, Int.reduceAdd, Int.reduceSub, Int.reduceNeg, reduceCtorEq, if_true, if_false, ite_true, ite_false, ne_eq, eq_self, OPK_, KEY_, WR_, CHK_, Nat.reduceBEq, K4_, K5_, K6_, K7_]
      exact hK _
    | false =>
      simp only [RUN_, U_hist_Check_2, FR_, Nat.reducePow, Int.reducePow, Nat.reduceAdd, Nat.reduceSub, Nat.reduceMul, Int.reduceToNat, Nat.reduceLeDiff, Nat.reduceEqDiff, Nat.reduceLT, Nat.reduceGT, Int.reduceGT, Int.reduceGE, Int.reduceLT, Int.reduceLE, Int.reduceEq, Int.reduceAdd, Int.reduceSub, Int.reduceNeg, reduceCtorEq, if_true, if_false, ite_true, ite_false, ne_eq, eq_self, OPK_, KEY_, WR_, CHK_, Nat.reduceBEq, K4_, K5_, K6_, K7_]
      refine h2' _ _ _ ?_
      rw [e1, e2] at hK
      cases e3 : beforeT b a with
      | true =>
        rw [e3] at hK
        simp only [RUN_, U_hist_Check_2, FR_, Nat.reducePow, Int.reducePow, Nat.reduceAdd, Nat.reduceSub, Nat.reduceMul, Int.reduceToNat, Nat.reduceLeDiff, Nat.reduceEqDiff, Nat.reduceLT, Nat.reduceGT, Int.reduceGT, Int.reduceGE, Int.reduceLT, Int.reduceLE, Int.reduceEq, Int.reduceAdd, Int.reduceSub, Int.reduceNeg, reduceCtorEq, if_true, if_false, ite_true, ite_false, ne_eq, eq_self, OPK_, KEY_, WR_, CHK_, Nat.reduceBEq, K4_, K5_, K6_, K7_]
        exact hK _
      | false =>
        rw [e3] at hK
        simp only [RUN_, U_hist_Check_2, FR_, Nat.reducePow, Int.reducePow, Nat.reduceAdd, Nat.reduceSub, Nat.reduceMul, Int.reduceToNat, Nat.reduceLeDiff, Nat.reduceEqDiff, Nat.reduceLT, Nat.reduceGT, Int.reduceGT, Int.reduceGE, Int.reduceLT, Int.reduceLE, Int.reduceEq, Int.reduceAdd, Int.reduceSub, Int.reduceNeg, reduceCtorEq, if_true, if_false, ite_true, ite_false, ne_eq, eq_self, OPK_, KEY_, WR_, CHK_, Nat.reduceBEq, K4_, K5_, K6_, K7_]
        exact hK _

def badRead (l : List Tx) (x : Tx) (r : Wr) : Bool := !(lastR r.key x.writes).2 && !(decide ((valueT l r.key x.snap).1 = r.val) && decide ((valueT l r.key x.snap).2 = r.gone))
def readsF (l0 : List Tx) : List Tx → Nat → Option Nat
  | [], _ => none
  | x :: l, i => if x.reads.any (badRead l0 x) = true then some i else readsF l0 l (i + 1)
def readsA : Option Nat → AV
  | some i => .tup [fltA 4 i (-1), .bool true]
  | none => .tup [fltA 0 0 0, .bool false]
set_option maxHeartbeats 8000000 in
theorem reads_spec {C : CallW} (hC : LeC C C) (P : Program) {c : Nat → FuncId} (h0 : LastS C (c 0)) (h1 : ValueS C (c 1)) : ∀ (l : List Tx) S H (K : AV → St → Prop), l.length ≤ 9223372036854775807 → okT l → (∀ G, K (readsA (readsF l l 0)) ⟨S, H ++ G⟩) → runL C P (C_hist_reads c) [lstT l] ⟨S, H⟩ K := by
  intro l S H K hl hok hK
  have h1' : ∀ (k : Key) (s : Stp) S H (K : AV → St → Prop), l.length ≤ 9223372036854775807 → okT l → (∀ G, K (.tup [.s (.str (valueT l k s).1), .bool (valueT l k s).2]) ⟨S, H ++ G⟩) → C (.fn (c 1)) [.list .sh 8 (l.map txA), .agg (bs k.b), .agg [.s (.int .i64 s.t), u8 s.n]] ⟨S, H⟩ K := h1 l
  simp only [lstT, C_hist_reads, RUN_, U_hist_reads, FR_, Nat.reducePow, Int.reducePow, Nat.reduceAdd, Nat.reduceSub, Nat.reduceMul, Int.reduceToNat, Nat.reduceLeDiff, Nat.reduceEqDiff, Nat.reduceLT, Nat.reduceGT, Int.reduceGT, Int.reduceGE, Int.reduceLT, Int.reduceLE, Int.reduceEq, Int.reduceAdd, Int.reduceSub, Int.reduceNeg, reduceCtorEq, if_true, if_false, ite_true, ite_false, ne_eq, eq_self, OPK_, KEY_, WR_, CHK_, Nat.reduceBEq, K4_, K5_, K6_, K7_]
  refine loop_rule hC (α := Nat × List HObj) (fun a => l.length - a.1) (fun a => [.list .sh 8 (l.map txA), .undef, .ptr (.stk S.length) 0, .undef, .undef, .undef, .undef, .undef, .undef, .undef, .undef, .undef, .list .sh 8 (l.map txA), .s (.int .i64 l.length), .s (.int .i64 a.1), .undef, .undef, .undef, .undef, .undef, .undef, .undef, .undef, .undef, .undef, .undef, .undef, .undef, .undef, .undef, .undef, .undef, .undef, .undef, .undef, .undef, .undef, .undef, .undef, .undef, .undef, .undef, .undef, .undef, .undef, .undef, .undef, .undef, .undef, .undef, .undef, .undef, .undef, .undef, .undef, .undef, .undef, .undef]) (fun a => S ++ [[.i 0, .i 0, .i 0]]) (fun a => H ++ a.2) (fun a => a.1 ≤ l.length ∧ readsF l l 0 = readsF l (l.drop a.1) a.1) (0, []) ⟨by simp, rfl⟩ rfl (by rw [app_take_add]; rfl) (by simp) (fun a _ => by simp [AV.under, AV.under.go]) ?_
  rintro ⟨i, G⟩ ⟨hi, hinv⟩ ih
  dsimp only at hi hinv ih ⊢
  by_cases h16 : i < l.length
  · have hlt : ((i : Int) < (l.length : Int)) := by omega
    have hw : IntKind.i64.wrap ((i : Int) + 1) = (i : Int) + 1 := wrap_i64 (by omega) (by omega)
    rw [List.drop_eq_getElem_cons h16, readsF] at hinv
    have hx := hok _ (List.getElem_mem h16)
    have hxr := hx.2
    have h0' := h0 l[i]
    unfold txc at h0'
    simp only [RUN_, U_hist_reads, FR_, Nat.reducePow, Int.reducePow, Nat.reduceAdd, Nat.reduceSub, Nat.reduceMul, Int.reduceToNat, Nat.reduceLeDiff, Nat.reduceEqDiff, Nat.reduceLT, Nat.reduceGT, Int.reduceGT, Int.reduceGE, Int.reduceLT, Int.reduceLE, Int.reduceEq, Int.reduceAdd, Int.reduceSub, Int.reduceNeg, reduceCtorEq, if_true, if_false, ite_true, ite_false, ne_eq, eq_self, OPK_, KEY_, WR_, CHK_, Nat.reduceBEq, K4_, K5_, K6_, K7_, hlt, h16, hw]
    generalize hrs : (l[i]).reads = rs at *
    refine loop_rule hC (α := Nat × List HObj) (fun a => rs.length - a.1) (fun a => [.list .sh 8 (l.map txA), .undef, .ptr (.stk S.length) 0, .undef, .s (.int .i64 i), .ptr (.stk (S.length + 1)) 0, .undef, .undef, .undef, .undef, .undef, .undef, .list .sh 8 (l.map txA), .s (.int .i64 l.length), .s (.int .i64 i), .undef, .undef, .undef, .undef, .undef, .list .sh 18 (rs.map wA), .s (.int .i64 rs.length), .s (.int .i64 a.1), .undef, .undef, .undef, .undef, .undef, .undef, .undef, .undef, .undef, .undef, .undef, .undef, .undef, .undef, .undef, .undef, .undef, .undef, .undef, .undef, .undef, .undef, .undef, .undef, .undef, .undef, .undef, .undef, .undef, .undef, .undef, .undef, .undef, .undef, .undef]) (fun a => S ++ [[.i 0, .i 0, .i 0], [.s (.int .i64 (l[i]).id), .s (.int .i64 (l[i]).snap.t), u8 (l[i]).snap.n, .s (.int .i64 (l[i]).stamp.t), u8 (l[i]).stamp.n, .s (.bool (l[i]).done), .list .sh 18 (rs.map wA), .list .sh 18 ((l[i]).writes.map wA)]]) (fun a => H ++ a.2) (fun a => a.1 ≤ rs.length ∧ rs.any (badRead l l[i]) = (rs.drop a.1).any (badRead l l[i])) (0, G) ⟨by simp, rfl⟩ rfl (by rw [app_take_add]; rfl) rfl (fun a _ => by simp [AV.under, AV.under.go]) ?_
    rintro ⟨k, G1⟩ ⟨hk, hkinv⟩ ih2
    dsimp only at hk hkinv ih2 ⊢
    by_cases h17 : k < rs.length
    · have hltk : ((k : Int) < (rs.length : Int)) := by omega
      have hwk : IntKind.i64.wrap ((k : Int) + 1) = (k : Int) + 1 := wrap_i64 (by omega) (by omega)
      rw [List.drop_eq_getElem_cons h17, List.any_cons] at hkinv
      simp only [RUN_, U_hist_reads, FR_, Nat.reducePow, Int.reducePow, Nat.reduceAdd, Nat.reduceSub, Nat.reduceMul, Int.reduceToNat, Nat.reduceLeDiff, Nat.reduceEqDiff, Nat.reduceLT, Nat.reduceGT, Int.reduceGT, Int.reduceGE, Int.reduceLT, Int.reduceLE, Int.reduceEq, Int.reduceAdd, Int.reduceSub, Int.reduceNeg, reduceCtorEq, if_true, if_false, ite_true, ite_false, ne_eq, eq_self, OPK_, KEY_, WR_, CHK_, Nat.reduceBEq, K4_, K5_, K6_, K7_, hltk, h17]
      refine h0' _ _ _ _ hx.1 fun G2 => ?_
      cases e1 : (lastR (rs[k]).key (l[i]).writes).2 with
      | true =>
        rw [show badRead l l[i] rs[k] = false by simp [badRead, e1], Bool.false_or] at hkinv
        simp only [RUN_, U_hist_reads, FR_, Nat.reducePow, Int.reducePow, Nat.reduceAdd, Nat.reduceSub, Nat.reduceMul, Int.reduceToNat, Nat.reduceLeDiff, Nat.reduceEqDiff, Nat.reduceLT, Nat.reduceGT, Int.reduceGT, Int.reduceGE, Int.reduceLT, Int.reduceLE, Int.reduceEq, Int.reduceAdd, Int.reduceSub, Int.reduceNeg, reduceCtorEq, if_true, if_false, ite_true, ite_false, ne_eq, eq_self, OPK_, KEY_, WR_, CHK_, Nat.reduceBEq, K4_, K5_, K6_, K7_, hwk]
        exact ih2 (k + 1, G1 ++ G2) _ _ _ (by simp; omega) ⟨by simp; omega, hkinv⟩ rfl (by rw [app_take_add]; rfl) (by simp)
      | false =>
        simp only [RUN_, U_hist_reads, FR_, Nat.reducePow, Int.reducePow, Nat.reduceAdd, Nat.reduceSub, Nat.reduceMul, Int.reduceToNat, Nat.reduceLeDiff, Nat.reduceEqDiff, Nat.reduceLT, Nat.reduceGT, Int.reduceGT, Int.reduceGE, Int.reduceLT, Int.reduceLE, Int.reduceEq, Int.reduceAdd, Int.reduceSub, Int.reduceNeg, reduceCtorEq, if_true, if_false, ite_true, ite_false, ne_eq, eq_self, OPK_, KEY_, WR_, CHK_, Nat.reduceBEq, K4_, K5_, K6_, K7_]
        refine h1' _ (l[i]).snap _ _ _ hl hok fun G3 => ?_
        by_cases e2 : (valueT l (rs[k]).key (l[i]).snap).1 = (rs[k]).val
        · have e2' := eq_true e2
          by_cases e3 : (valueT l (rs[k]).key (l[i]).snap).2 = (rs[k]).gone
          · have e3' := eq_true e3
            rw [show badRead l l[i] rs[k] = false by simp [badRead, e1, e2, e3], Bool.false_or] at hkinv
            simp only [RUN_, U_hist_reads, FR_, Nat.reducePow, Int.reducePow, Nat.reduceAdd, Nat.reduceSub, Nat.reduceMul, Int.reduceToNat, Nat.reduceLeDiff, Nat.reduceEqDiff, Nat.reduceLT, Nat.reduceGT, Int.reduceGT, Int.reduceGE, Int.reduceLT, Int.reduceLE, Int.reduceEq, Int.reduceAdd, Int.reduceSub, Int.reduceNeg, reduceCtorEq, if_true, if_false, ite_true, ite_false, ne_eq, eq_self, OPK_, KEY_, WR_, CHK_, Nat.reduceBEq, K4_, K5_, K6_, K7_, e2', e3', hwk]
            exact ih2 (k + 1, G1 ++ (G2 ++ G3)) _ _ _ (by simp; omega) ⟨by simp; omega, hkinv⟩ rfl (by rw [app_take_add]; rfl) (by simp)
          · rw [show badRead l l[i] rs[k] = true by simp [badRead, e1, e2, e3], Bool.true_or] at hkinv
            rw [if_pos hkinv] at hinv
            rw [hinv] at hK
            simp only [RUN_, U_hist_reads, FR_, Nat.reducePow, Int.reducePow, Nat.reduceAdd, Nat.reduceSub, Nat.reduceMul, Int.reduceToNat, Nat.reduceLeDiff, Nat.reduceEqDiff, Nat.reduceLT, Nat.reduceGT, Int.reduceGT, Int.reduceGE, Int.reduceLT, Int.reduceLE, Int.reduceEq, Int.reduceAdd, Int.reduceSub, Int.reduceNeg, reduceCtorEq, if_true, if_false, ite_true, ite_false, ne_eq, eq_self, OPK_, KEY_, WR_, CHK_, Nat.reduceBEq, K4_, K5_, K6_, K7_, e2', e3]
            exact hK _
        · rw [show badRead l l[i] rs[k] = true by simp [badRead, e1, e2], Bool.true_or] at hkinv
          rw [if_pos hkinv] at hinv
          rw [hinv] at hK
          simp only [RUN_, U_hist_reads, FR_, Nat.reducePow, Int.reducePow, Nat.reduceAdd, Nat.reduceSub, Nat.reduceMul, Int.reduceToNat, Nat.reduceLeDiff, Nat.reduceEqDiff, Nat.reduceLT, Nat.reduceGT, Int.reduceGT, Int.reduceGE, Int.reduceLT, Int.reduceLE, Int.reduceEq, Int.reduceAdd, Int.reduceSub, Int.reduceNeg, reduceCtorEq, if_true, if_false, ite_true, ite_false, ne_eq, eq_self, OPK_, KEY_, WR_, CHK_, Nat.reduceBEq, K4_, K5_, K6_, K7_, e2]
          exact hK _
    · have hltk : ¬ ((k : Int) < (rs.length : Int)) := by omega
      rw [List.drop_of_length_le (by omega)] at hkinv
      rw [hkinv, if_neg (by simp)] at hinv
      simp only [RUN_, U_hist_reads, FR_, Nat.reducePow, Int.reducePow, Nat.reduceAdd, Nat.reduceSub, Nat.reduceMul, Int.reduceToNat, Nat.reduceLeDiff, Nat.reduceEqDiff, Nat.reduceLT, Nat.reduceGT, Int.reduceGT, Int.reduceGE, Int.reduceLT, Int.reduceLE, Int.reduceEq, Int.reduceAdd, Int.reduceSub, Int.reduceNeg, reduceCtorEq, if_true, if_false, ite_true, ite_false, ne_eq, eq_self, OPK_, KEY_, WR_, CHK_, Nat.reduceBEq, K4_, K5_, K6_, K7_, hltk, hw]
      exact ih (i + 1, G1) _ _ _ (by simp; omega) ⟨by simp; omega, hinv⟩ rfl (by rw [app_take_add]; rfl) rfl
  · have hlt : ¬ ((i : Int) < (l.length : Int)) := by omega
    rw [List.drop_of_length_le (by omega)] at hinv
    rw [hinv] at hK
    simp only [RUN_, U_hist_reads, FR_, Nat.reducePow, Int.reducePow, Nat.reduceAdd, Nat.reduceSub, Nat.reduceMul, Int.reduceToNat, Nat.reduceLeDiff, Nat.reduceEqDiff, Nat.reduceLT, Nat.reduceGT, Int.reduceGT, Int.reduceGE, Int.reduceLT, Int.reduceLE, Int.reduceEq, Int.reduceAdd, Int.reduceSub, Int.reduceNeg, reduceCtorEq, if_true, if_false, ite_true, ite_false, ne_eq, eq_self, OPK_, KEY_, WR_, CHK_, Nat.reduceBEq, K4_, K5_, K6_, K7_, hlt]
    exact hK _

/-- The first fault. -/
def checkT (l : List Tx) : Int × Int × Int :=
  match aloneF l 0 with
  | some i => (1, (i : Int), -1)
  | none => match pairF alikeT l 0 with
    | some p => (2, (p.1 : Int), (p.2 : Int))
    | none => match pairF bothT l 0 with
      | some p => (3, (p.1 : Int), (p.2 : Int))
      | none => match readsF l l 0 with
        | some i => (4, (i : Int), -1)
        | none => (0, -1, -1)
def ReadsS (C : CallW) (f : FuncId) : Prop := ∀ (l : List Tx) S H (K : AV → St → Prop), l.length ≤ 9223372036854775807 → okT l → (∀ G, K (readsA (readsF l l 0)) ⟨S, H ++ G⟩) → C (.fn f) [lstT l] ⟨S, H⟩ K
set_option maxHeartbeats 4000000 in
theorem Check_spec {C : CallW} (P : Program) {c : Nat → FuncId} (h0 : AloneS C (c 0)) (h1 : PairS C (c 1)) (h2 : TwoT alikeT C (c 2)) (h3 : TwoT bothT C (c 3)) (h4 : ReadsS C (c 4)) : ∀ (l : List Tx) S H (K : AV → St → Prop), l.length < 9223372036854775807 → okT l → (∀ G, K (fltA (checkT l).1 (checkT l).2.1 (checkT l).2.2) ⟨S, H ++ G⟩) → runL C P (C_hist_Check c) [lstT l] ⟨S, H⟩ K := by
  intro l S H K hl hok hK
  unfold fltA at hK
  have h0' := h0 l
  have h1' := h1 l
  have h4' := h4 l
  unfold lstT at h0' h1' h4'
  simp only [lstT, C_hist_Check, RUN_, U_hist_Check, FR_, Nat.reducePow, Int.reducePow, Nat.reduceAdd, Nat.reduceSub, Nat.reduceMul, Int.reduceToNat, Nat.reduceLeDiff, Nat.reduceEqDiff, Nat.reduceLT, Nat.reduceGT, Int.reduceGT, Int.reduceGE, Int.reduceLT, Int.reduceLE, Int.reduceEq, Int.reduceAdd, Int.reduceSub, Int.reduceNeg, reduceCtorEq, if_true, if_false, ite_true, ite_false, ne_eq, eq_self, OPK_, KEY_, WR_, CHK_, Nat.reduceBEq, K4_, K5_, K6_, K7_]
  refine h0' _ _ _ (by omega) ?_
  unfold checkT at hK
  cases e1 : aloneF l 0 with
  | some i =>
    rw [e1] at hK
    dsimp only at hK
    simp only [aloneA, fltA, RUN_, U_hist_Check, FR_, Nat.reducePow, Int.reducePow, Nat.reduceAdd, Nat.reduceSub, Nat.reduceMul, Int.reduceToNat, Nat.reduceLeDiff, Nat.reduceEqDiff, Nat.reduceLT, Nat.reduceGT, Int.reduceGT, Int.reduceGE, Int.reduceLT, Int.reduceLE, Int.reduceEq, Int.reduceAdd, Int.reduceSub, Int.reduceNeg, reduceCtorEq, if_true, if_false, ite_true, ite_false, ne_eq, eq_self, OPK_, KEY_, WR_, CHK_, Nat.reduceBEq, K4_, K5_, K6_, K7_]
    have := hK []
    rw [List.append_nil] at this
    exact this
  | none =>
    rw [e1] at hK
    dsimp only at hK
    simp only [aloneA, fltA, RUN_, U_hist_Check, FR_, Nat.reducePow, Int.reducePow, Nat.reduceAdd, Nat.reduceSub, Nat.reduceMul, Int.reduceToNat, Nat.reduceLeDiff, Nat.reduceEqDiff, Nat.reduceLT, Nat.reduceGT, Int.reduceGT, Int.reduceGE, Int.reduceLT, Int.reduceLE, Int.reduceEq, Int.reduceAdd, Int.reduceSub, Int.reduceNeg, reduceCtorEq, if_true, if_false, ite_true, ite_false, ne_eq, eq_self, OPK_, KEY_, WR_, CHK_, Nat.reduceBEq, K4_, K5_, K6_, K7_]
    refine h1' _ _ alikeT _ _ _ hl hok h2 fun G => ?_
    cases e2 : pairF alikeT l 0 with
    | some p =>
      obtain ⟨i, k⟩ := p
      rw [e2] at hK
      dsimp only at hK
      simp only [pairA, fltA, RUN_, U_hist_Check, FR_, Nat.reducePow, Int.reducePow, Nat.reduceAdd, Nat.reduceSub, Nat.reduceMul, Int.reduceToNat, Nat.reduceLeDiff, Nat.reduceEqDiff, Nat.reduceLT, Nat.reduceGT, Int.reduceGT, Int.reduceGE, Int.reduceLT, Int.reduceLE, Int.reduceEq, Int.reduceAdd, Int.reduceSub, Int.reduceNeg, reduceCtorEq, if_true, if_false, ite_true, ite_false, ne_eq, eq_self, OPK_, KEY_, WR_, CHK_, Nat.reduceBEq, K4_, K5_, K6_, K7_]
      exact hK _
    | none =>
      rw [e2] at hK
      dsimp only at hK
      simp only [pairA, fltA, RUN_, U_hist_Check, FR_, Nat.reducePow, Int.reducePow, Nat.reduceAdd, Nat.reduceSub, Nat.reduceMul, Int.reduceToNat, Nat.reduceLeDiff, Nat.reduceEqDiff, Nat.reduceLT, Nat.reduceGT, Int.reduceGT, Int.reduceGE, Int.reduceLT, Int.reduceLE, Int.reduceEq, Int.reduceAdd, Int.reduceSub, Int.reduceNeg, reduceCtorEq, if_true, if_false, ite_true, ite_false, ne_eq, eq_self, OPK_, KEY_, WR_, CHK_, Nat.reduceBEq, K4_, K5_, K6_, K7_]
      refine h1' _ _ bothT _ _ _ hl hok h3 fun G2 => ?_
      cases e3 : pairF bothT l 0 with
      | some p =>
        obtain ⟨i, k⟩ := p
        rw [e3] at hK
        dsimp only at hK
        simp only [pairA, fltA, RUN_, U_hist_Check, FR_, Nat.reducePow, Int.reducePow, Nat.reduceAdd, Nat.reduceSub, Nat.reduceMul, Int.reduceToNat, Nat.reduceLeDiff, Nat.reduceEqDiff, Nat.reduceLT, Nat.reduceGT, Int.reduceGT, Int.reduceGE, Int.reduceLT, Int.reduceLE, Int.reduceEq, Int.reduceAdd, Int.reduceSub, Int.reduceNeg, reduceCtorEq, if_true, if_false, ite_true, ite_false, ne_eq, eq_self, OPK_, KEY_, WR_, CHK_, Nat.reduceBEq, K4_, K5_, K6_, K7_]
        exact hK _
      | none =>
        rw [e3] at hK
        dsimp only at hK
        simp only [pairA, fltA, RUN_, U_hist_Check, FR_, Nat.reducePow, Int.reducePow, Nat.reduceAdd, Nat.reduceSub, Nat.reduceMul, Int.reduceToNat, Nat.reduceLeDiff, Nat.reduceEqDiff, Nat.reduceLT, Nat.reduceGT, Int.reduceGT, Int.reduceGE, Int.reduceLT, Int.reduceLE, Int.reduceEq, Int.reduceAdd, Int.reduceSub, Int.reduceNeg, reduceCtorEq, if_true, if_false, ite_true, ite_false, ne_eq, eq_self, OPK_, KEY_, WR_, CHK_, Nat.reduceBEq, K4_, K5_, K6_, K7_]
        refine h4' _ _ _ (by omega) hok fun G3 => ?_
        cases e4 : readsF l l 0 with
        | some i =>
          rw [e4] at hK
          dsimp only at hK
          simp only [readsA, fltA, RUN_, U_hist_Check, FR_, Nat.reducePow, Int.reducePow, Nat.reduceAdd, Nat.reduceSub, Nat.reduceMul, Int.reduceToNat, Nat.reduceLeDiff, Nat.reduceEqDiff, Nat.reduceLT, Nat.reduceGT, Int.reduceGT, Int.reduceGE, Int.reduceLT, Int.reduceLE, Int.reduceEq, Int.reduceAdd, Int.reduceSub, Int.reduceNeg, reduceCtorEq, if_true, if_false, ite_true, ite_false, ne_eq, eq_self, OPK_, KEY_, WR_, CHK_, Nat.reduceBEq, K4_, K5_, K6_, K7_]
          exact hK _
        | none =>
          rw [e4] at hK
          dsimp only at hK
          simp only [readsA, fltA, RUN_, U_hist_Check, FR_, Nat.reducePow, Int.reducePow, Nat.reduceAdd, Nat.reduceSub, Nat.reduceMul, Int.reduceToNat, Nat.reduceLeDiff, Nat.reduceEqDiff, Nat.reduceLT, Nat.reduceGT, Int.reduceGT, Int.reduceGE, Int.reduceLT, Int.reduceLE, Int.reduceEq, Int.reduceAdd, Int.reduceSub, Int.reduceNeg, reduceCtorEq, if_true, if_false, ite_true, ite_false, ne_eq, eq_self, OPK_, KEY_, WR_, CHK_, Nat.reduceBEq, K4_, K5_, K6_, K7_]
          exact hK _
end Go.AM
/-! What chapter 24's faults hang on: plain law. -/
namespace Go.AM
open Go
set_option linter.unusedVariables false

theorem aloneF_none : ∀ {l : List Tx} {i : Nat}, aloneF l i = none ↔ ∀ x ∈ l, ¬ (wroteT x = true ∧ cmpS x.stamp x.snap ≤ 0)
  | [], i => by simp [aloneF]
  | x :: l, i => by
    simp only [aloneF]
    by_cases h : wroteT x = true ∧ cmpS x.stamp x.snap ≤ 0
    · rw [if_pos h]; simp only [reduceCtorEq, List.mem_cons, forall_eq_or_imp, false_iff]; exact fun k => k.1 h
    · rw [if_neg h, aloneF_none]; simp only [List.mem_cons, forall_eq_or_imp]; exact ⟨fun k => ⟨h, k⟩, fun k => k.2⟩
theorem pairIn_none {p : Tx → Tx → Bool} {x : Tx} : ∀ {l : List Tx} {k : Nat}, pairIn p x l k = none ↔ ∀ y ∈ l, ¬ (wroteT x = true ∧ wroteT y = true ∧ p x y = true)
  | [], k => by simp [pairIn]
  | y :: l, k => by
    simp only [pairIn]
    by_cases h : wroteT x = true ∧ wroteT y = true ∧ p x y = true
    · rw [if_pos h]; simp only [reduceCtorEq, List.mem_cons, forall_eq_or_imp, false_iff]; exact fun k => k.1 h
    · rw [if_neg h, pairIn_none]; simp only [List.mem_cons, forall_eq_or_imp]; exact ⟨fun k => ⟨h, k⟩, fun k => k.2⟩
def Apart (p : Tx → Tx → Bool) (x y : Tx) : Prop := ¬ (wroteT x = true ∧ wroteT y = true ∧ p x y = true)
theorem pairF_none {p : Tx → Tx → Bool} : ∀ {l : List Tx} {i : Nat}, pairF p l i = none ↔ l.Pairwise (Apart p)
  | [], i => by simp [pairF]
  | x :: l, i => by
    simp only [pairF, List.pairwise_cons]
    cases h : pairIn p x l (i + 1) with
    | none =>
      have := pairIn_none.1 h
      simp only [pairF_none]
      exact ⟨fun k => ⟨this, k⟩, fun k => k.2⟩
    | some k =>
      simp only [reduceCtorEq, false_iff]
      intro hk
      rw [pairIn_none.2 hk.1] at h; cases h
theorem readsF_none {l0 : List Tx} : ∀ {l : List Tx} {i : Nat}, readsF l0 l i = none ↔ ∀ x ∈ l, x.reads.any (badRead l0 x) = false
  | [], i => by simp [readsF]
  | x :: l, i => by
    simp only [readsF]
    by_cases h : x.reads.any (badRead l0 x) = true
    · rw [if_pos h]; simp only [reduceCtorEq, List.mem_cons, forall_eq_or_imp, false_iff]; exact fun k => by rw [k.1] at h; cases h
    · rw [if_neg h, readsF_none]; simp only [List.mem_cons, forall_eq_or_imp]; exact ⟨fun k => ⟨by simpa using h, k⟩, fun k => k.2⟩

theorem lastR_iff {k : Key} : ∀ {ws : List Wr}, (lastR k ws).2 = true ↔ ∃ w ∈ ws, w.key = k
  | [] => by simp [lastR]
  | w :: ws => by
    simp only [lastR, List.mem_cons, exists_eq_or_imp]
    by_cases h : (lastR k ws).2 = true
    · rw [if_pos h]; simp only [h, true_iff]; exact .inr (lastR_iff.1 h)
    · rw [if_neg h]
      by_cases hk : w.key = k
      · rw [if_pos hk]; simp [hk]
      · rw [if_neg hk]; simp only [Bool.false_eq_true, hk, false_or, false_iff]; exact fun k => h (lastR_iff.2 k)
theorem shares_symm (a b : Tx) : sharesT a b = sharesT b a := by
  have : ∀ a b : Tx, sharesT a b = true → sharesT b a = true := by
    intro a b h
    unfold sharesT at *
    rw [List.any_eq_true] at *
    obtain ⟨w, hw, h⟩ := h
    obtain ⟨v, hv, e⟩ := lastR_iff.1 h
    exact ⟨v, hv, lastR_iff.2 ⟨w, hw, e.symm⟩⟩
  cases h1 : sharesT a b with
  | true => exact (this _ _ h1).symm
  | false =>
    cases h2 : sharesT b a with
    | false => rfl
    | true => rw [this _ _ h2] at h1; cases h1
theorem both_symm (a b : Tx) : bothT a b = bothT b a := by
  unfold bothT; rw [shares_symm a b, Bool.and_assoc, Bool.and_assoc, Bool.and_comm (!beforeT a b)]
theorem alike_symm (a b : Tx) : alikeT a b = alikeT b a := by
  unfold alikeT; exact decide_eq_decide.2 eq_comm
theorem apart_symm {p : Tx → Tx → Bool} (hp : ∀ a b, p a b = p b a) {x y : Tx} (h : Apart p x y) : Apart p y x := fun k => h ⟨k.2.1, k.1, by rw [hp]; exact k.2.2⟩

/-! what a key was -/
def Cand (k : Key) (at_ : Stp) (x : Tx) : Prop := (lastR k x.writes).2 = true ∧ x.done = true ∧ cmpS x.stamp at_ ≤ 0
theorem cmpS_refl (a : Stp) : cmpS a a = 0 := by unfold cmpS; simp [UInt8.lt_irrefl]
theorem cmpS_flip (a b : Stp) : cmpS b a = - cmpS a b := by
  unfold cmpS
  have hu : ∀ x y : UInt8, x < y → ¬ y < x := fun x y h h' => by rw [UInt8.lt_iff_toNat_lt] at h h'; omega
  by_cases h1 : a.t < b.t
  · have : ¬ b.t < a.t := by omega
    simp [h1, this]
  · by_cases h2 : b.t < a.t
    · simp [h1, h2]
    · by_cases h3 : a.n < b.n
      · simp [h1, h2, h3, hu _ _ h3]
      · by_cases h4 : b.n < a.n
        · simp [h1, h2, h3, h4]
        · simp [h1, h2, h3, h4]
theorem cmpS_zero {a b : Stp} (h : cmpS a b = 0) : a = b := by
  unfold cmpS at h
  by_cases h1 : a.t < b.t
  · simp [h1] at h
  · by_cases h2 : b.t < a.t
    · simp [h1, h2] at h
    · by_cases h3 : a.n < b.n
      · simp [h1, h2, h3] at h
      · by_cases h4 : b.n < a.n
        · simp [h1, h2, h3, h4] at h
        · cases a; cases b
          rw [UInt8.lt_iff_toNat_lt] at h3 h4
          dsimp only at *
          rw [Stp.mk.injEq]
          exact ⟨by omega, UInt8.toNat_inj.1 (by omega)⟩
theorem cmpS_trans {a b c : Stp} (h1 : cmpS a b ≤ 0) (h2 : cmpS b c ≤ 0) : cmpS a c ≤ 0 := by
  unfold cmpS at *
  simp only [UInt8.lt_iff_toNat_lt] at *
  repeat' split at h1
  all_goals repeat' split at h2
  all_goals repeat' split
  all_goals omega
def VGood (k : Key) (at_ : Stp) (l : List Tx) (st : VSt) : Prop :=
  (st.found = false ∧ ∀ y ∈ l, ¬ Cand k at_ y) ∨ ∃ x ∈ l, Cand k at_ x ∧ st = ⟨(lastR k x.writes).1, x.stamp, true⟩ ∧ ∀ y ∈ l, Cand k at_ y → cmpS y.stamp x.stamp ≤ 0
theorem val_step {k : Key} {at_ : Stp} {l : List Tx} {st : VSt} {x : Tx} (h : VGood k at_ l st) : VGood k at_ (l ++ [x]) (valStep k at_ st x) := by
  have keep : ∀ st', ¬ Cand k at_ x → VGood k at_ l st' → VGood k at_ (l ++ [x]) st' := by
    intro st' hc h
    rcases h with ⟨h1, h2⟩ | ⟨y, hy, h1, h2, h3⟩
    · exact .inl ⟨h1, fun z hz => by
        rcases List.mem_append.1 hz with hz | hz
        · exact h2 z hz
        · rw [List.mem_singleton.1 hz]; exact hc⟩
    · exact .inr ⟨y, by simp [hy], h1, h2, fun z hz hcz => by
        rcases List.mem_append.1 hz with hz | hz
        · exact h3 z hz hcz
        · rw [List.mem_singleton.1 hz] at hcz; exact absurd hcz hc⟩
  unfold valStep
  split
  · rename_i e; exact keep _ (fun hc => by rw [hc.1] at e; cases e) h
  rename_i e1
  split
  · rename_i e; exact keep _ (fun hc => by rw [hc.2.1] at e; cases e) h
  rename_i e2
  split
  · rename_i e; exact keep _ (fun hc => by have := hc.2.2; omega) h
  rename_i e3
  have hc : Cand k at_ x := ⟨by simpa using e1, by simpa using e2, by omega⟩
  split
  · rename_i e
    rcases h with ⟨h1, h2⟩ | ⟨y, hy, h1, h2, h3⟩
    · rw [h1] at e; cases e.1
    · refine .inr ⟨y, by simp [hy], h1, h2, fun z hz hcz => ?_⟩
      rcases List.mem_append.1 hz with hz | hz
      · exact h3 z hz hcz
      · rw [List.mem_singleton.1 hz, show y.stamp = st.top by rw [h2]]; exact e.2
  · rename_i e
    refine .inr ⟨x, by simp, hc, rfl, fun z hz hcz => ?_⟩
    rcases List.mem_append.1 hz with hz | hz
    · rcases h with ⟨h1, h2⟩ | ⟨y, hy, h1, h2, h3⟩
      · exact absurd hcz (h2 z hz)
      · have hlt : ¬ cmpS x.stamp y.stamp ≤ 0 := fun h => e ⟨by rw [h2], by rw [h2]; exact h⟩
        have := cmpS_flip x.stamp y.stamp
        exact cmpS_trans (h3 z hz hcz) (by omega)
    · rw [List.mem_singleton.1 hz, cmpS_refl]; exact Int.le_refl _
theorem val_good (k : Key) (at_ : Stp) : ∀ (l l' : List Tx) (st : VSt), VGood k at_ l' st → VGood k at_ (l' ++ l) (l.foldl (valStep k at_) st)
  | [], l', st, h => by simpa using h
  | x :: l, l', st, h => by
    have := val_good k at_ l (l' ++ [x]) _ (val_step (x := x) h)
    simpa using this
theorem val_good0 (k : Key) (at_ : Stp) (l : List Tx) : VGood k at_ l (l.foldl (valStep k at_) vSt0) := by
  simpa using val_good k at_ l [] vSt0 (.inl ⟨rfl, fun _ h => by cases h⟩)
theorem pair_eq {l : List Tx} {R : Tx → Tx → Prop} (hs : ∀ a b, R a b → R b a) (h : l.Pairwise R) : ∀ x ∈ l, ∀ y ∈ l, x = y ∨ R x y := by
  induction h with
  | nil => intro x hx; cases hx
  | cons h1 _ ih =>
    intro x hx y hy
    rcases List.mem_cons.1 hx with e1 | hx'
    · rcases List.mem_cons.1 hy with e2 | hy'
      · exact .inl (e1.trans e2.symm)
      · rw [e1]; exact .inr (h1 y hy')
    · rcases List.mem_cons.1 hy with e2 | hy'
      · rw [e2]; exact .inr (hs _ _ (h1 x hx'))
      · exact ih x hx' y hy'
theorem cand_wrote {k : Key} {at_ : Stp} {x : Tx} (h : Cand k at_ x) : wroteT x = true := by
  obtain ⟨w, hw, _⟩ := lastR_iff.1 h.1
  unfold wroteT
  rw [h.2.1, Bool.true_and]
  exact decide_eq_true (List.length_pos_of_mem hw)
theorem valueT_rev {l : List Tx} (h : l.Pairwise (Apart alikeT)) (k : Key) (at_ : Stp) : valueT l.reverse k at_ = valueT l k at_ := by
  have h1 := val_good0 k at_ l
  have h2 := val_good0 k at_ l.reverse
  unfold valueT
  generalize hs : l.foldl (valStep k at_) vSt0 = s at *
  generalize ht : l.reverse.foldl (valStep k at_) vSt0 = t at *
  rcases h1 with ⟨f1, n1⟩ | ⟨x, hx, cx, ex, mx⟩
  · rcases h2 with ⟨f2, n2⟩ | ⟨y, hy, cy, _, _⟩
    · simp [valR, f1, f2]
    · exact absurd cy (n1 y (List.mem_reverse.1 hy))
  · rcases h2 with ⟨f2, n2⟩ | ⟨y, hy, cy, ey, my⟩
    · exact absurd cx (n2 x (List.mem_reverse.2 hx))
    · have a1 := mx y (List.mem_reverse.1 hy) cy
      have a2 := my x (List.mem_reverse.2 hx) cx
      have := cmpS_flip x.stamp y.stamp
      have e : x.stamp = y.stamp := cmpS_zero (by omega)
      rcases pair_eq (fun a b => apart_symm alike_symm) h x hx y (List.mem_reverse.1 hy) with rfl | hap
      · rw [ex, ey]
      · exact absurd ⟨cand_wrote cx, cand_wrote cy, by unfold alikeT; exact decide_eq_true e⟩ hap

/-- The kind of the first fault. -/
theorem kind_rev (l : List Tx) : (checkT l.reverse).1 = (checkT l).1 := by
  have ha : aloneF l.reverse 0 = none ↔ aloneF l 0 = none := by rw [aloneF_none, aloneF_none]; simp
  have hp : ∀ p : Tx → Tx → Bool, (∀ a b, p a b = p b a) → (pairF p l.reverse 0 = none ↔ pairF p l 0 = none) := by
    intro p hp
    rw [pairF_none, pairF_none, List.pairwise_reverse]
    exact ⟨fun h => h.imp fun h => apart_symm hp h, fun h => h.imp fun h => apart_symm hp h⟩
  have h2 := hp alikeT alike_symm
  have h3 := hp bothT both_symm
  unfold checkT
  cases e1 : aloneF l 0 with
  | some i =>
    cases f1 : aloneF l.reverse 0 with
    | some j => rfl
    | none => rw [ha.1 f1] at e1; cases e1
  | none =>
    rw [ha.2 e1]
    dsimp only
    cases e2 : pairF alikeT l 0 with
    | some i =>
      cases f2 : pairF alikeT l.reverse 0 with
      | some j => rfl
      | none => rw [h2.1 f2] at e2; cases e2
    | none =>
      rw [h2.2 e2]
      dsimp only
      cases e3 : pairF bothT l 0 with
      | some i =>
        cases f3 : pairF bothT l.reverse 0 with
        | some j => rfl
        | none => rw [h3.1 f3] at e3; cases e3
      | none =>
        rw [h3.2 e3]
        dsimp only
        have hb : ∀ x, badRead l.reverse x = badRead l x := by
          intro x; funext r
          unfold badRead
          rw [valueT_rev (pairF_none.1 e2)]
        have h4 : readsF l.reverse l.reverse 0 = none ↔ readsF l l 0 = none := by
          rw [readsF_none, readsF_none]
          simp only [List.mem_reverse, hb]
        cases e4 : readsF l l 0 with
        | some i =>
          cases f4 : readsF l.reverse l.reverse 0 with
          | some j => rfl
          | none => rw [h4.1 f4] at e4; cases e4
        | none => rw [h4.2 e4]

theorem kind_zero {l : List Tx} : (checkT l).1 = 0 ↔ (∀ x ∈ l, ¬ (wroteT x = true ∧ cmpS x.stamp x.snap ≤ 0)) ∧ l.Pairwise (Apart alikeT) ∧ l.Pairwise (Apart bothT) ∧ ∀ x ∈ l, x.reads.any (badRead l x) = false := by
  rw [← aloneF_none (i := 0), ← pairF_none (i := 0), ← pairF_none (i := 0), ← readsF_none (i := 0)]
  unfold checkT
  cases e1 : aloneF l 0 with
  | some i => simp
  | none =>
    cases e2 : pairF alikeT l 0 with
    | some i => simp
    | none =>
      cases e3 : pairF bothT l 0 with
      | some i => simp
      | none =>
        cases e4 : readsF l l 0 with
        | some i => simp
        | none => simp
theorem val_skip {k : Key} {at_ : Stp} {st : VSt} {x : Tx} (h : wroteT x = false) : valStep k at_ st x = st := by
  unfold valStep
  by_cases h1 : (lastR k x.writes).2 = false
  · rw [if_pos h1]
  · rw [if_neg h1]
    obtain ⟨w, hw, _⟩ := lastR_iff.1 (by simpa using h1 : (lastR k x.writes).2 = true)
    unfold wroteT at h
    rw [decide_eq_true (List.length_pos_of_mem hw), Bool.and_true] at h
    rw [if_pos h]
theorem kind_less {l : List Tx} {n : Nat} (hn : n < l.length) (hw : wroteT l[n] = false) (h : (checkT l).1 = 0) : (checkT (l.take n ++ l.drop (n + 1))).1 = 0 := by
  obtain ⟨h1, h2, h3, h4⟩ := kind_zero.1 h
  have hsub : (l.take n ++ l.drop (n + 1)).Sublist l := by
    have : l.take n ++ l.drop n = l := List.take_append_drop n l
    conv => rhs; rw [← this]
    exact List.Sublist.append (List.Sublist.refl _) (by rw [List.drop_eq_getElem_cons hn]; exact List.sublist_cons_self _ _)
  have hv : ∀ k at_, valueT (l.take n ++ l.drop (n + 1)) k at_ = valueT l k at_ := by
    intro k at_
    unfold valueT
    congr 1
    have : l = l.take n ++ l[n] :: l.drop (n + 1) := by rw [← List.drop_eq_getElem_cons hn, List.take_append_drop]
    conv => rhs; rw [this]
    rw [List.foldl_append, List.foldl_append, List.foldl_cons, val_skip hw]
  refine kind_zero.2 ⟨fun x hx => h1 x (hsub.subset hx), h2.sublist hsub, h3.sublist hsub, fun x hx => ?_⟩
  have hb : badRead (l.take n ++ l.drop (n + 1)) x = badRead l x := by
    funext r; unfold badRead; rw [hv]
  rw [hb]
  exact h4 x (hsub.subset hx)
end Go.AM
namespace Go.AM
open Go
set_option maxRecDepth 20000
set_option linter.unusedSimpArgs false
def textOf (k : Key) : List UInt8 := k.b.takeWhile (· != 0)
theorem take_stop {l : List UInt8} {i : Nat} (h : i ≤ l.length) (hall : ∀ j, (hj : j < i) → l[j]'(by omega) ≠ 0) (hs : ∀ hi : i < l.length, l[i] = 0) : l.take i = l.takeWhile (· != 0) := by
  induction l generalizing i with
  | nil => simp
  | cons x l ih =>
    cases i with
    | zero =>
      have := hs (by simp)
      simp at this
      subst this; simp
    | succ i =>
      have h0 := hall 0 (by omega)
      simp at h0
      rw [List.take_succ_cons, List.takeWhile_cons]
      have hx : (x != 0) = true := by simpa using h0
      rw [hx]
      simp only [if_true]
      rw [ih (by simpa using h) (fun j hj => by have := hall (j + 1) (by omega); simpa using this) fun hi => by have := hs (by simpa using hi); simpa using this]
set_option maxHeartbeats 1000000 in
theorem key_text_spec {C : CallW} (hC : LeC C C) (P : Program) (k : Key) (S : List (List AV)) (H : List HObj) (K : AV → St → Prop) (hK : K (.str (textOf k)) ⟨S, H⟩) : runL C P C_key_text [.agg k.c] ⟨S, H⟩ K := by
  simp only [C_key_text, RUN_, u_C_key_text_k1, u_C_key_text_k2, u_C_key_text_k3, u_C_key_text_k4, FR_, Nat.reducePow, Int.reducePow, Nat.reduceAdd, Nat.reduceSub, Nat.reduceMul, Int.reduceToNat, Nat.reduceLeDiff, Nat.reduceEqDiff, Nat.reduceLT, Nat.reduceGT, Int.reduceGT, Int.reduceGE, Int.reduceLT, Int.reduceLE, Int.reduceEq, Int.reduceAdd, Int.reduceSub, Int.reduceNeg, reduceCtorEq, if_true, if_false, ite_true, ite_false, ne_eq, eq_self, binL, scBin, blBin, intBin, intShift, unL, load1L, storeL, readA, readCells, writeCells, splice, mayHold, boxOf_stk, boxOf_heap, setBox_stk, setBox_heap, newBox_stk, newBox_heap, app_get0, app_get, app_set0, app_set, app_take, app_one, List.length_append, shift, partL, lenL, capL, Nat.add_assoc, AV.under, AV.under.go, finL, under_bs]
  refine loop_rule hC (α := Nat) (fun i => 16 - i) (fun i => [.undef, .ptr (.stk S.length) 0, .undef, .s (.int .i64 i), .undef, .undef, .undef, .undef, .undef, .undef, .undef, .undef, .undef, .undef, .undef, .undef, .undef]) (fun _ => S ++ [k.c]) (fun _ => H) (fun i => i ≤ 16 ∧ ∀ j, (hj : j < i) → (hj' : j < k.b.length) → k.b[j] ≠ 0) 0 ⟨by omega, fun j hj => by omega⟩ rfl (app_take_add _ _ _) rfl (fun i hi => by simp [AV.under, AV.under.go]) ?_
  rintro i ⟨hi, hall⟩ ih
  have hkl := k.h
  by_cases h16 : i < 16
  · have hb := bs_get (l := k.b) (i := i) (by omega)
    have hw : IntKind.i64.wrap ((i : Int) + 1) = ((i + 1 : Nat) : Int) := by rw [wrap_i64 (by omega) (by omega)]; rfl
    have h1 : ((i : Int) < 16) := by omega
    have h2 : (0 : Int) ≤ (i : Int) := by omega
    by_cases hz : k.b[i]'(by omega) = 0
    · have hc := conv_row (σ := ⟨S ++ [k.c], H⟩) (r := .stk S.length) (off := 0) (len := i) (cap := 16) (l := k.b) (by rw [boxOf_stk, app_get0]; rfl) (by omega)
      rw [List.drop_zero, take_stop (by omega) (fun j hj => hall j hj (by omega)) (fun _ => hz)] at hc
      simp only [RUN_, u_C_key_text_k1, u_C_key_text_k2, u_C_key_text_k3, u_C_key_text_k4, FR_, Nat.reducePow, Int.reducePow, Nat.reduceAdd, Nat.reduceSub, Nat.reduceMul, Int.reduceToNat, Nat.reduceLeDiff, Nat.reduceEqDiff, Nat.reduceLT, Nat.reduceGT, Int.reduceGT, Int.reduceGE, Int.reduceLT, Int.reduceLE, Int.reduceEq, Int.reduceAdd, Int.reduceSub, Int.reduceNeg, reduceCtorEq, if_true, if_false, ite_true, ite_false, ne_eq, eq_self, binL, scBin, blBin, intBin, intShift, unL, load1L, storeL, readA, readCells, writeCells, splice, mayHold, boxOf_stk, boxOf_heap, setBox_stk, setBox_heap, newBox_stk, newBox_heap, app_get0, app_get, app_set0, app_set, app_take, app_one, List.length_append, shift, partL, lenL, capL, Nat.add_assoc, AV.under, AV.under.go, finL, indexAddrL, h1, h2, hb, Int.toNat_natCast, Nat.mul_one, u8, hz, sliceL, bound, Option.map_some, Nat.zero_le, hi, UInt8.toNat_zero, hc, Nat.sub_zero]
      exact hK
    · have hz' : ¬ (((k.b[i]'(by omega)).toNat : Int) = 0) := fun e => hz (by
        have : (k.b[i]'(by omega)).toNat = 0 := by omega
        exact UInt8.toNat_inj.1 this)
      simp only [RUN_, u_C_key_text_k1, u_C_key_text_k2, u_C_key_text_k3, u_C_key_text_k4, FR_, Nat.reducePow, Int.reducePow, Nat.reduceAdd, Nat.reduceSub, Nat.reduceMul, Int.reduceToNat, Nat.reduceLeDiff, Nat.reduceEqDiff, Nat.reduceLT, Nat.reduceGT, Int.reduceGT, Int.reduceGE, Int.reduceLT, Int.reduceLE, Int.reduceEq, Int.reduceAdd, Int.reduceSub, Int.reduceNeg, reduceCtorEq, if_true, if_false, ite_true, ite_false, ne_eq, eq_self, binL, scBin, blBin, intBin, intShift, unL, load1L, storeL, readA, readCells, writeCells, splice, mayHold, boxOf_stk, boxOf_heap, setBox_stk, setBox_heap, newBox_stk, newBox_heap, app_get0, app_get, app_set0, app_set, app_take, app_one, List.length_append, shift, partL, lenL, capL, Nat.add_assoc, AV.under, AV.under.go, finL, indexAddrL, h1, h2, hb, Int.toNat_natCast, Nat.mul_one, u8, hz', hw]
      exact ih (i + 1) _ _ _ (by omega) ⟨by omega, fun j hj hj' => by
        rcases Nat.lt_or_ge j i with h | h
        · exact hall j h hj'
        · have : j = i := by omega
          subst this; exact hz⟩ rfl (app_take_add _ _ _) rfl
  · have h1 : ¬ ((i : Int) < 16) := by omega
    have h16' : i = 16 := by omega
    have h2 : (0 : Int) ≤ (i : Int) := by omega
    have hc := conv_row (σ := ⟨S ++ [k.c], H⟩) (r := .stk S.length) (off := 0) (len := i) (cap := 16) (l := k.b) (by rw [boxOf_stk, app_get0]; rfl) (by omega)
    rw [List.drop_zero, take_stop (by omega) (fun j hj => hall j hj (by omega)) (fun h => by omega)] at hc
    simp only [RUN_, u_C_key_text_k1, u_C_key_text_k2, u_C_key_text_k3, u_C_key_text_k4, FR_, Nat.reducePow, Int.reducePow, Nat.reduceAdd, Nat.reduceSub, Nat.reduceMul, Int.reduceToNat, Nat.reduceLeDiff, Nat.reduceEqDiff, Nat.reduceLT, Nat.reduceGT, Int.reduceGT, Int.reduceGE, Int.reduceLT, Int.reduceLE, Int.reduceEq, Int.reduceAdd, Int.reduceSub, Int.reduceNeg, reduceCtorEq, if_true, if_false, ite_true, ite_false, ne_eq, eq_self, binL, scBin, blBin, intBin, intShift, unL, load1L, storeL, readA, readCells, writeCells, splice, mayHold, boxOf_stk, boxOf_heap, setBox_stk, setBox_heap, newBox_stk, newBox_heap, app_get0, app_get, app_set0, app_set, app_take, app_one, List.length_append, shift, partL, lenL, capL, Nat.add_assoc, AV.under, AV.under.go, finL, h1, h2, sliceL, bound, Option.map_some, Nat.zero_le, hi, hc, Nat.sub_zero, Int.toNat_natCast]
    exact hK
end Go.AM
/-! Keys: what the functions of key and of hourglassref10 answer. -/
namespace Go.AM
open Go
set_option maxRecDepth 20000
set_option linter.unusedSimpArgs false
set_option linter.unusedVariables false

def CmpB (C : CallW) (f : FuncId) : Prop := ∀ (a b : List UInt8) (S : List (List AV)) (H : List HObj) (r1 r2 : Nat) (K : AV → St → Prop), S[r1]? = some (bs a) → S[r2]? = some (bs b) → a.length = 16 → b.length = 16 →
  K (.i (Lib.compareBytes a b)) ⟨S, H⟩ → C (.fn f) [.row (.stk r1) 0 16 16, .row (.stk r2) 0 16 16] ⟨S, H⟩ K
def KCmp (C : CallW) (f : FuncId) : Prop := ∀ (a b : Key) S H K, K (.i (Lib.compareBytes a.b b.b)) ⟨S, H⟩ → C (.fn f) [.agg (bs a.b), .agg (bs b.b)] ⟨S, H⟩ K

set_option maxHeartbeats 1000000 in
theorem bytes_Compare_spec {C : CallW} (hC : LeC C C) (P : Program) {f : FuncId} (hf : CmpB C f) : ∀ (a b : List UInt8) (S : List (List AV)) (H : List HObj) (r1 r2 : Nat) (K : AV → St → Prop), S[r1]? = some (bs a) → S[r2]? = some (bs b) → a.length = 16 → b.length = 16 →
  K (.i (Lib.compareBytes a b)) ⟨S, H⟩ → runL C P (C_bytes_Compare f) [.row (.stk r1) 0 16 16, .row (.stk r2) 0 16 16] ⟨S, H⟩ K := by
  intro a b S H r1 r2 K h1 h2 ha hb hK
  simp only [C_bytes_Compare, RUN_, u_C_bytes_Compare_k1, FR_, Nat.reducePow, Int.reducePow, Nat.reduceAdd, Nat.reduceSub, Nat.reduceMul, Int.reduceToNat, Nat.reduceLeDiff, Nat.reduceEqDiff, Nat.reduceLT, Nat.reduceGT, Int.reduceGT, Int.reduceGE, Int.reduceLT, Int.reduceLE, Int.reduceEq, Int.reduceAdd, Int.reduceSub, Int.reduceNeg, reduceCtorEq, if_true, if_false, ite_true, ite_false, ne_eq, eq_self, OPK_, KEY_]
  refine hf a b S H r1 r2 _ h1 h2 ha hb ?_
  simp only [RUN_, u_C_bytes_Compare_k1, FR_, Nat.reducePow, Int.reducePow, Nat.reduceAdd, Nat.reduceSub, Nat.reduceMul, Int.reduceToNat, Nat.reduceLeDiff, Nat.reduceEqDiff, Nat.reduceLT, Nat.reduceGT, Int.reduceGT, Int.reduceGE, Int.reduceLT, Int.reduceLE, Int.reduceEq, Int.reduceAdd, Int.reduceSub, Int.reduceNeg, reduceCtorEq, if_true, if_false, ite_true, ite_false, ne_eq, eq_self, OPK_, KEY_, List.take_length]
  exact hK

set_option maxHeartbeats 1000000 in
theorem key_Cmp_spec {C : CallW} (hC : LeC C C) (P : Program) {f : FuncId} (hf : CmpB C f) : ∀ (a b : Key) S H K, K (.i (Lib.compareBytes a.b b.b)) ⟨S, H⟩ → runL C P (C_key_Cmp f) [.agg (bs a.b), .agg (bs b.b)] ⟨S, H⟩ K := by
  intro a b S H K hK
  simp only [C_key_Cmp, RUN_, u_C_key_Cmp_k1, FR_, Nat.reducePow, Int.reducePow, Nat.reduceAdd, Nat.reduceSub, Nat.reduceMul, Int.reduceToNat, Nat.reduceLeDiff, Nat.reduceEqDiff, Nat.reduceLT, Nat.reduceGT, Int.reduceGT, Int.reduceGE, Int.reduceLT, Int.reduceLE, Int.reduceEq, Int.reduceAdd, Int.reduceSub, Int.reduceNeg, reduceCtorEq, if_true, if_false, ite_true, ite_false, ne_eq, eq_self, OPK_, KEY_]
  refine hf a.b b.b _ _ _ _ _ ?_ ?_ a.h b.h ?_
  · simp
  · simp
  simp only [RUN_, u_C_key_Cmp_k1, FR_, Nat.reducePow, Int.reducePow, Nat.reduceAdd, Nat.reduceSub, Nat.reduceMul, Int.reduceToNat, Nat.reduceLeDiff, Nat.reduceEqDiff, Nat.reduceLT, Nat.reduceGT, Int.reduceGT, Int.reduceGE, Int.reduceLT, Int.reduceLE, Int.reduceEq, Int.reduceAdd, Int.reduceSub, Int.reduceNeg, reduceCtorEq, if_true, if_false, ite_true, ite_false, ne_eq, eq_self, OPK_, KEY_]
  exact hK

def IdxS (C : CallW) (f : FuncId) : Prop := ∀ (l : List UInt8) (S : List (List AV)) (H : List HObj) (K : AV → St → Prop), K (.i (Lib.indexByte l 0)) ⟨S, H⟩ → C (.fn f) [.s (.str l), .s (.int .u8 0)] ⟨S, H⟩ K

theorem strings_IndexByte_spec {C : CallW} (hC : LeC C C) (P : Program) {f : FuncId} (hf : IdxS C f) : ∀ (l : List UInt8) (S : List (List AV)) (H : List HObj) (K : AV → St → Prop), K (.i (Lib.indexByte l 0)) ⟨S, H⟩ → runL C P (C_strings_IndexByte f) [.s (.str l), .s (.int .u8 0)] ⟨S, H⟩ K := by
  intro l S H K hK
  simp only [C_strings_IndexByte, RUN_, u_C_strings_IndexByte_k1, FR_, Nat.reducePow, Int.reducePow, Nat.reduceAdd, Nat.reduceSub, Nat.reduceMul, Int.reduceToNat, Nat.reduceLeDiff, Nat.reduceEqDiff, Nat.reduceLT, Nat.reduceGT, Int.reduceGT, Int.reduceGE, Int.reduceLT, Int.reduceLE, Int.reduceEq, Int.reduceAdd, Int.reduceSub, Int.reduceNeg, reduceCtorEq, if_true, if_false, ite_true, ite_false, ne_eq, eq_self, OPK_, KEY_]
  refine hf _ _ _ _ ?_
  simp only [RUN_, u_C_strings_IndexByte_k1, FR_, Nat.reducePow, Int.reducePow, Nat.reduceAdd, Nat.reduceSub, Nat.reduceMul, Int.reduceToNat, Nat.reduceLeDiff, Nat.reduceEqDiff, Nat.reduceLT, Nat.reduceGT, Int.reduceGT, Int.reduceGE, Int.reduceLT, Int.reduceLE, Int.reduceEq, Int.reduceAdd, Int.reduceSub, Int.reduceNeg, reduceCtorEq, if_true, if_false, ite_true, ite_false, ne_eq, eq_self, OPK_, KEY_, List.take_length]
  exact hK
theorem stringslite_IndexByte_spec {C : CallW} (hC : LeC C C) (P : Program) {f : FuncId} (hf : IdxS C f) : ∀ (l : List UInt8) (S : List (List AV)) (H : List HObj) (K : AV → St → Prop), K (.i (Lib.indexByte l 0)) ⟨S, H⟩ → runL C P (C_internal_stringslite_IndexByte f) [.s (.str l), .s (.int .u8 0)] ⟨S, H⟩ K := by
  intro l S H K hK
  simp only [C_internal_stringslite_IndexByte, RUN_, u_C_internal_stringslite_IndexByte_k1, FR_, Nat.reducePow, Int.reducePow, Nat.reduceAdd, Nat.reduceSub, Nat.reduceMul, Int.reduceToNat, Nat.reduceLeDiff, Nat.reduceEqDiff, Nat.reduceLT, Nat.reduceGT, Int.reduceGT, Int.reduceGE, Int.reduceLT, Int.reduceLE, Int.reduceEq, Int.reduceAdd, Int.reduceSub, Int.reduceNeg, reduceCtorEq, if_true, if_false, ite_true, ite_false, ne_eq, eq_self, OPK_, KEY_]
  refine hf _ _ _ _ ?_
  simp only [RUN_, u_C_internal_stringslite_IndexByte_k1, FR_, Nat.reducePow, Int.reducePow, Nat.reduceAdd, Nat.reduceSub, Nat.reduceMul, Int.reduceToNat, Nat.reduceLeDiff, Nat.reduceEqDiff, Nat.reduceLT, Nat.reduceGT, Int.reduceGT, Int.reduceGE, Int.reduceLT, Int.reduceLE, Int.reduceEq, Int.reduceAdd, Int.reduceSub, Int.reduceNeg, reduceCtorEq, if_true, if_false, ite_true, ite_false, ne_eq, eq_self, OPK_, KEY_, List.take_length]
  exact hK

/-- A text as a key's bytes. -/
def padB (s : List UInt8) : List UInt8 := s.take 16 ++ List.replicate (16 - s.length) 0
def padK (s : List UInt8) : Key := ⟨padB s, by simp [padB]; omega⟩
def badT (s : List UInt8) : Prop := s = [] ∨ 16 < s.length ∨ (0 : UInt8) ∈ s
instance (s : List UInt8) : Decidable (badT s) := inferInstanceAs (Decidable (_ ∨ _))
def keyOf (s : List UInt8) : Key × Int := if badT s then (key0, 1) else (padK s, 0)

theorem idx_neg {l : List UInt8} : Lib.indexByte l 0 ≥ 0 ↔ (0 : UInt8) ∈ l := by
  induction l with
  | nil => simp [Lib.indexByte]
  | cons x l ih =>
    simp only [Lib.indexByte, beq_iff_eq, List.mem_cons]
    by_cases h : x = 0
    · simp [h]
    · rw [if_neg h]
      have hge := Lib.indexByte_ge l 0
      by_cases h1 : Lib.indexByte l 0 = -1
      · rw [if_pos h1]
        have : ¬ ((0 : UInt8) ∈ l) := fun hm => by have := ih.2 hm; omega
        simp [this]; exact fun e => h e.symm
      · rw [if_neg h1]
        have : (0 : UInt8) ∈ l := ih.1 (by omega)
        simp [this]; omega

theorem splice_zero {cs vs : List AV} (h : vs.length ≤ cs.length) : splice cs 0 vs = vs ++ cs.drop vs.length := by
  unfold splice
  split
  · cases cs with
    | nil => simp at h
    | cons c cs => simp
  · simp

theorem flat_bs (l : List UInt8) : (bs l).flatMap AV.cells = bs l := by
  induction l with
  | nil => rfl
  | cons x l ih => show [u8 x] ++ (bs l).flatMap AV.cells = _; rw [ih]; rfl

theorem copy_str {e : ET} {S l : List (List AV)} {H : List HObj} {j : Nat} {s : List UInt8} {k : Key} (he : e.c = 1) (hj : j < l.length) (hk : l.getD j [] = bs k.b) (hs : s.length ≤ 16) :
    copyL e true (.row (.stk (S.length + j)) 0 16 16) (.s (.str s)) ⟨S ++ l, H⟩ = some (.i s.length, ⟨S ++ l.set j (bs (s ++ k.b.drop s.length)), H⟩) := by
  have e1 : l[j]? = some (bs k.b) := by rw [← hk]; simp [List.getD, hj]
  have hi : elemsL e (.s (.str s)) ⟨S ++ l, H⟩ = some (bs s) := by simp [elemsL, he, bs, u8]
  unfold copyL
  simp only [srcL, AV.isStr, if_true, hi]
  rw [List.take_of_length_le (by rw [bs_length]; exact hs), flat_bs, bs_length]
  simp only [writeCells, boxOf_stk, app_get, e1, Option.bind_some, mayHold, under_bs, bs_length, k.h, Nat.zero_add, hs, decide_true, Bool.and_self, if_true, Option.map_some, setBox_stk, app_set]
  rw [splice_zero (by rw [bs_length, bs_length, k.h]; exact hs), bs_length, bs_drop]
  simp only [bs, List.map_append]

theorem pad_drop {s : List UInt8} (hs : s.length ≤ 16) : s ++ key0.b.drop s.length = padB s := by
  unfold padB key0
  rw [List.take_of_length_le hs, List.drop_replicate]

def OfK (C : CallW) (f : FuncId) : Prop := ∀ (s : List UInt8) (S : List (List AV)) (H : List HObj) (K : AV → St → Prop), K (.tup [.agg (bs (keyOf s).1.b), .i (keyOf s).2]) ⟨S, H⟩ → C (.fn f) [.s (.str s)] ⟨S, H⟩ K

set_option maxHeartbeats 1000000 in
theorem key_Of_spec {C : CallW} (hC : LeC C C) (P : Program) {f : FuncId} (hf : IdxS C f) : ∀ (s : List UInt8) (S : List (List AV)) (H : List HObj) (K : AV → St → Prop), K (.tup [.agg (bs (keyOf s).1.b), .i (keyOf s).2]) ⟨S, H⟩ → runL C P (C_key_Of f) [.s (.str s)] ⟨S, H⟩ K := by
  intro s S H K hK
  have key0l : (bs key0.b).length = 16 := rfl
  by_cases h0 : s = []
  · have e : keyOf s = (key0, 1) := if_pos (.inl h0)
    rw [e] at hK
    simp only [C_key_Of, RUN_, u_C_key_Of_k1, u_C_key_Of_k2, u_C_key_Of_k3, u_C_key_Of_k4, FR_, Nat.reducePow, Int.reducePow, Nat.reduceAdd, Nat.reduceSub, Nat.reduceMul, Int.reduceToNat, Nat.reduceLeDiff, Nat.reduceEqDiff, Nat.reduceLT, Nat.reduceGT, Int.reduceGT, Int.reduceGE, Int.reduceLT, Int.reduceLE, Int.reduceEq, Int.reduceAdd, Int.reduceSub, Int.reduceNeg, reduceCtorEq, if_true, if_false, ite_true, ite_false, ne_eq, eq_self, OPK_, KEY_, h0]
    exact hK
  · have h0' : ¬ (s.length = 0) := fun e => h0 (List.length_eq_zero_iff.1 e)
    by_cases h1 : 16 < s.length
    · have e : keyOf s = (key0, 1) := if_pos (.inr (.inl h1))
      rw [e] at hK
      have h1' : (16 : Int) < (s.length : Int) := by omega
      simp only [C_key_Of, RUN_, u_C_key_Of_k1, u_C_key_Of_k2, u_C_key_Of_k3, u_C_key_Of_k4, FR_, Nat.reducePow, Int.reducePow, Nat.reduceAdd, Nat.reduceSub, Nat.reduceMul, Int.reduceToNat, Nat.reduceLeDiff, Nat.reduceEqDiff, Nat.reduceLT, Nat.reduceGT, Int.reduceGT, Int.reduceGE, Int.reduceLT, Int.reduceLE, Int.reduceEq, Int.reduceAdd, Int.reduceSub, Int.reduceNeg, reduceCtorEq, if_true, if_false, ite_true, ite_false, ne_eq, eq_self, OPK_, KEY_, h0, h1']
      exact hK
    · have h1' : ¬ ((16 : Int) < (s.length : Int)) := by omega
      simp only [C_key_Of, RUN_, u_C_key_Of_k1, u_C_key_Of_k2, u_C_key_Of_k3, u_C_key_Of_k4, FR_, Nat.reducePow, Int.reducePow, Nat.reduceAdd, Nat.reduceSub, Nat.reduceMul, Int.reduceToNat, Nat.reduceLeDiff, Nat.reduceEqDiff, Nat.reduceLT, Nat.reduceGT, Int.reduceGT, Int.reduceGE, Int.reduceLT, Int.reduceLE, Int.reduceEq, Int.reduceAdd, Int.reduceSub, Int.reduceNeg, reduceCtorEq, if_true, if_false, ite_true, ite_false, ne_eq, eq_self, OPK_, KEY_, h0, h1']
      refine hf _ _ _ _ ?_
      by_cases h2 : (0 : UInt8) ∈ s
      · have e : keyOf s = (key0, 1) := if_pos (.inr (.inr h2))
        rw [e] at hK
        have h2' : (0 : Int) ≤ Lib.indexByte s 0 := idx_neg.2 h2
        simp only [RUN_, u_C_key_Of_k1, u_C_key_Of_k2, u_C_key_Of_k3, u_C_key_Of_k4, FR_, Nat.reducePow, Int.reducePow, Nat.reduceAdd, Nat.reduceSub, Nat.reduceMul, Int.reduceToNat, Nat.reduceLeDiff, Nat.reduceEqDiff, Nat.reduceLT, Nat.reduceGT, Int.reduceGT, Int.reduceGE, Int.reduceLT, Int.reduceLE, Int.reduceEq, Int.reduceAdd, Int.reduceSub, Int.reduceNeg, reduceCtorEq, if_true, if_false, ite_true, ite_false, ne_eq, eq_self, OPK_, KEY_, h2']
        exact hK
      · have e : keyOf s = (padK s, 0) := if_neg (by rintro (h | h | h) <;> contradiction)
        rw [e] at hK
        have h2' : ¬ ((0 : Int) ≤ Lib.indexByte s 0) := fun h => h2 (idx_neg.1 h)
        have hcp := copy_str (e := ⟨1, false, 1, .s (.int .u8 0)⟩) (S := S) (l := [bs key0.b, bs key0.b]) (H := H) (j := 1) (s := s) (k := key0) rfl (by simp) rfl (by omega)
        rw [pad_drop (by omega)] at hcp
        have hk2 : (bs (padB s)).length = 16 := by rw [bs_length]; exact (padK s).h
        simp only [RUN_, u_C_key_Of_k1, u_C_key_Of_k2, u_C_key_Of_k3, u_C_key_Of_k4, FR_, Nat.reducePow, Int.reducePow, Nat.reduceAdd, Nat.reduceSub, Nat.reduceMul, Int.reduceToNat, Nat.reduceLeDiff, Nat.reduceEqDiff, Nat.reduceLT, Nat.reduceGT, Int.reduceGT, Int.reduceGE, Int.reduceLT, Int.reduceLE, Int.reduceEq, Int.reduceAdd, Int.reduceSub, Int.reduceNeg, reduceCtorEq, if_true, if_false, ite_true, ite_false, ne_eq, eq_self, OPK_, KEY_, h2', hcp, hk2]
        exact hK
end Go.AM
namespace Go.AM
open Go
set_option maxRecDepth 20000
set_option linter.unusedSimpArgs false
set_option linter.unusedVariables false

def TextS (C : CallW) (f : FuncId) : Prop := ∀ (k : Key) S H K, K (.str (textOf k)) ⟨S, H⟩ → C (.fn f) [.agg (bs k.b)] ⟨S, H⟩ K
def BoolK (g : Key → Bool) (C : CallW) (f : FuncId) : Prop := ∀ (k : Key) S H K, K (.bool (g k)) ⟨S, H⟩ → C (.fn f) [.agg (bs k.b)] ⟨S, H⟩ K

theorem text_nz (k : Key) : (0 : UInt8) ∉ textOf k := by
  intro h
  have h2 : ∀ (l : List UInt8), (0 : UInt8) ∉ l.takeWhile (· != 0) := by
    intro l
    induction l with
    | nil => simp
    | cons x l ih =>
      rw [List.takeWhile_cons]
      split
      · rename_i hx
        intro h
        rcases List.mem_cons.1 h with h | h
        · subst h; simp at hx
        · exact ih h
      · simp
  exact h2 _ h
theorem text_len (k : Key) : (textOf k).length ≤ 16 := by
  have := (List.takeWhile_sublist (fun x : UInt8 => x != 0) (l := k.b)).length_le
  rw [k.h] at this
  exact this

def goodK (k : Key) : Bool := decide (textOf k ≠ []) && decide (padK (textOf k) = k)

theorem good_of (k : Key) : goodK k = (decide ((keyOf (textOf k)).2 = 0) && decide ((keyOf (textOf k)).1 = k)) := by
  unfold goodK keyOf
  by_cases h : textOf k = []
  · rw [if_pos (.inl h)]; simp [h]
  · rw [if_neg (by
      rintro (h1 | h1 | h1)
      · exact h h1
      · have := text_len k; omega
      · exact text_nz k h1)]
    simp [h]

set_option maxHeartbeats 1000000 in
theorem key_Good_spec {C : CallW} (hC : LeC C C) (P : Program) {f1 f2 : FuncId} (h1 : TextS C f1) (h2 : OfK C f2) : ∀ (k : Key) S H K, K (.bool (goodK k)) ⟨S, H⟩ → runL C P (C_key_Good f1 f2) [.agg (bs k.b)] ⟨S, H⟩ K := by
  intro k S H K hK
  rw [good_of] at hK
  simp only [C_key_Good, RUN_, u_C_key_Good_k1, u_C_key_Good_k2, FR_, Nat.reducePow, Int.reducePow, Nat.reduceAdd, Nat.reduceSub, Nat.reduceMul, Int.reduceToNat, Nat.reduceLeDiff, Nat.reduceEqDiff, Nat.reduceLT, Nat.reduceGT, Int.reduceGT, Int.reduceGE, Int.reduceLT, Int.reduceLE, Int.reduceEq, Int.reduceAdd, Int.reduceSub, Int.reduceNeg, reduceCtorEq, if_true, if_false, ite_true, ite_false, ne_eq, eq_self, OPK_, KEY_]
  refine h1 _ _ _ _ ?_
  simp only [RUN_, u_C_key_Good_k1, u_C_key_Good_k2, FR_, Nat.reducePow, Int.reducePow, Nat.reduceAdd, Nat.reduceSub, Nat.reduceMul, Int.reduceToNat, Nat.reduceLeDiff, Nat.reduceEqDiff, Nat.reduceLT, Nat.reduceGT, Int.reduceGT, Int.reduceGE, Int.reduceLT, Int.reduceLE, Int.reduceEq, Int.reduceAdd, Int.reduceSub, Int.reduceNeg, reduceCtorEq, if_true, if_false, ite_true, ite_false, ne_eq, eq_self, OPK_, KEY_]
  refine h2 _ _ _ _ ?_
  by_cases he : (keyOf (textOf k)).2 = 0
  · simp only [RUN_, u_C_key_Good_k1, u_C_key_Good_k2, FR_, Nat.reducePow, Int.reducePow, Nat.reduceAdd, Nat.reduceSub, Nat.reduceMul, Int.reduceToNat, Nat.reduceLeDiff, Nat.reduceEqDiff, Nat.reduceLT, Nat.reduceGT, Int.reduceGT, Int.reduceGE, Int.reduceLT, Int.reduceLE, Int.reduceEq, Int.reduceAdd, Int.reduceSub, Int.reduceNeg, reduceCtorEq, if_true, if_false, ite_true, ite_false, ne_eq, eq_self, OPK_, KEY_, he]
    rw [he] at hK
    simpa using hK
  · simp only [RUN_, u_C_key_Good_k1, u_C_key_Good_k2, FR_, Nat.reducePow, Int.reducePow, Nat.reduceAdd, Nat.reduceSub, Nat.reduceMul, Int.reduceToNat, Nat.reduceLeDiff, Nat.reduceEqDiff, Nat.reduceLT, Nat.reduceGT, Int.reduceGT, Int.reduceGE, Int.reduceLT, Int.reduceLE, Int.reduceEq, Int.reduceAdd, Int.reduceSub, Int.reduceNeg, reduceCtorEq, if_true, if_false, ite_true, ite_false, ne_eq, eq_self, OPK_, KEY_, he]
    simpa [he] using hK

/-! hourglassref10 -/
def goodL : Bool → List UInt8 → Bool
  | _, [] => true
  | e, x :: l => if x = 0 then goodL true l else if e then false else goodL false l
def goodR (k : Key) : Bool := goodL false k.b && decide (k.b[0]'(by rw [k.h]; omega) ≠ 0)

theorem goodL_drop {e : Bool} {l : List UInt8} {i : Nat} (h : i < l.length) : goodL e (l.drop i) = if l[i] = 0 then goodL true (l.drop (i + 1)) else if e then false else goodL false (l.drop (i + 1)) := by
  rw [List.drop_eq_getElem_cons h]; rfl

theorem wrap_succ {i : Nat} (h : i < 4611686018427387904) : IntKind.i64.wrap ((i : Int) + 1) = ((i + 1 : Nat) : Int) := by rw [wrap_i64 (by omega) (by omega)]; rfl
theorem u8_zero {x : UInt8} : ((x.toNat : Int) = 0) ↔ x = 0 := ⟨fun h => UInt8.toNat_inj.1 (by simp; omega), fun h => by subst h; rfl⟩

set_option maxHeartbeats 1000000 in
theorem ref10_Good_spec {C : CallW} (hC : LeC C C) (P : Program) : ∀ (k : Key) S H K, K (.bool (goodR k)) ⟨S, H⟩ → runL C P C_hourglassref10_Good [.agg (bs k.b)] ⟨S, H⟩ K := by
  intro k S H K hK
  have hkl := k.h
  simp only [C_hourglassref10_Good, RUN_, u_C_hourglassref10_Good_k1, u_C_hourglassref10_Good_k2, u_C_hourglassref10_Good_k3, u_C_hourglassref10_Good_k4, u_C_hourglassref10_Good_k5, u_C_hourglassref10_Good_k6, u_C_hourglassref10_Good_k7, FR_, Nat.reducePow, Int.reducePow, Nat.reduceAdd, Nat.reduceSub, Nat.reduceMul, Int.reduceToNat, Nat.reduceLeDiff, Nat.reduceEqDiff, Nat.reduceLT, Nat.reduceGT, Int.reduceGT, Int.reduceGE, Int.reduceLT, Int.reduceLE, Int.reduceEq, Int.reduceAdd, Int.reduceSub, Int.reduceNeg, reduceCtorEq, if_true, if_false, ite_true, ite_false, ne_eq, eq_self, OPK_, KEY_]
  refine loop_rule hC (α := Nat × Bool) (fun a => 16 - a.1) (fun a => [.undef, .ptr (.stk S.length) 0, .undef, .bool a.2, .s (.int .i64 a.1), .undef, .undef, .undef, .undef, .undef, .undef, .undef, .undef, .undef, .undef, .undef, .undef]) (fun _ => S ++ [bs k.b]) (fun _ => H) (fun a => a.1 ≤ 16 ∧ goodL false k.b = goodL a.2 (k.b.drop a.1)) (0, false) ⟨by simp, by simp⟩ rfl (app_take_add _ _ _) rfl (fun i hi => by simp [AV.under, AV.under.go]) ?_
  rintro ⟨i, e⟩ ⟨hi, hinv⟩ ih
  dsimp only at hi hinv ih ⊢
  by_cases h16 : i < 16
  · have hb := bs_get (l := k.b) (i := i) (by omega)
    have hw := wrap_succ (i := i) (by omega)
    have h1 : ((i : Int) < 16) := by omega
    have h2 : (0 : Int) ≤ (i : Int) := by omega
    rw [goodL_drop (by omega)] at hinv
    by_cases hz : k.b[i]'(by omega) = 0
    · simp only [RUN_, u_C_hourglassref10_Good_k1, u_C_hourglassref10_Good_k2, u_C_hourglassref10_Good_k3, u_C_hourglassref10_Good_k4, u_C_hourglassref10_Good_k5, u_C_hourglassref10_Good_k6, u_C_hourglassref10_Good_k7, FR_, Nat.reducePow, Int.reducePow, Nat.reduceAdd, Nat.reduceSub, Nat.reduceMul, Int.reduceToNat, Nat.reduceLeDiff, Nat.reduceEqDiff, Nat.reduceLT, Nat.reduceGT, Int.reduceGT, Int.reduceGE, Int.reduceLT, Int.reduceLE, Int.reduceEq, Int.reduceAdd, Int.reduceSub, Int.reduceNeg, reduceCtorEq, if_true, if_false, ite_true, ite_false, ne_eq, eq_self, OPK_, KEY_, indexAddrL, h1, h2, hb, u8, hz, UInt8.toNat_zero, hw, Nat.mul_one]
      rw [if_pos hz] at hinv
      exact ih (i + 1, true) _ _ _ (by simp; omega) ⟨by simp; omega, hinv⟩ rfl (app_take_add _ _ _) rfl
    · have hz' : ¬ (((k.b[i]'(by omega)).toNat : Int) = 0) := fun e => hz (u8_zero.1 e)
      rw [if_neg hz] at hinv
      cases e with
      | true =>
        have : goodR k = false := by unfold goodR; rw [hinv]; rfl
        rw [this] at hK
        simp only [RUN_, u_C_hourglassref10_Good_k1, u_C_hourglassref10_Good_k2, u_C_hourglassref10_Good_k3, u_C_hourglassref10_Good_k4, u_C_hourglassref10_Good_k5, u_C_hourglassref10_Good_k6, u_C_hourglassref10_Good_k7, FR_, Nat.reducePow, Int.reducePow, Nat.reduceAdd, Nat.reduceSub, Nat.reduceMul, Int.reduceToNat, Nat.reduceLeDiff, Nat.reduceEqDiff, Nat.reduceLT, Nat.reduceGT, Int.reduceGT, Int.reduceGE, Int.reduceLT, Int.reduceLE, Int.reduceEq, Int.reduceAdd, Int.reduceSub, Int.reduceNeg, reduceCtorEq, if_true, if_false, ite_true, ite_false, ne_eq, eq_self, OPK_, KEY_, indexAddrL, h1, h2, hb, u8, hz', hw, Nat.mul_one]
        exact hK
      | false =>
        simp only [RUN_, u_C_hourglassref10_Good_k1, u_C_hourglassref10_Good_k2, u_C_hourglassref10_Good_k3, u_C_hourglassref10_Good_k4, u_C_hourglassref10_Good_k5, u_C_hourglassref10_Good_k6, u_C_hourglassref10_Good_k7, FR_, Nat.reducePow, Int.reducePow, Nat.reduceAdd, Nat.reduceSub, Nat.reduceMul, Int.reduceToNat, Nat.reduceLeDiff, Nat.reduceEqDiff, Nat.reduceLT, Nat.reduceGT, Int.reduceGT, Int.reduceGE, Int.reduceLT, Int.reduceLE, Int.reduceEq, Int.reduceAdd, Int.reduceSub, Int.reduceNeg, reduceCtorEq, if_true, if_false, ite_true, ite_false, ne_eq, eq_self, OPK_, KEY_, indexAddrL, h1, h2, hb, u8, hz', hw, Nat.mul_one]
        exact ih (i + 1, false) _ _ _ (by simp; omega) ⟨by simp; omega, by simpa using hinv⟩ rfl (app_take_add _ _ _) rfl
  · have h1 : ¬ ((i : Int) < 16) := by omega
    have hb := bs_get (l := k.b) (i := 0) (by omega)
    have hd : k.b.drop i = [] := List.drop_of_length_le (by omega)
    rw [hd] at hinv
    have hz : (((k.b[0]'(by omega)).toNat : Int) = 0) ↔ k.b[0]'(by omega) = 0 := u8_zero
    have hg : goodR k = decide (k.b[0]'(by omega) ≠ 0) := by unfold goodR; rw [hinv]; rfl
    rw [hg] at hK
    simp only [RUN_, u_C_hourglassref10_Good_k1, u_C_hourglassref10_Good_k2, u_C_hourglassref10_Good_k3, u_C_hourglassref10_Good_k4, u_C_hourglassref10_Good_k5, u_C_hourglassref10_Good_k6, u_C_hourglassref10_Good_k7, FR_, Nat.reducePow, Int.reducePow, Nat.reduceAdd, Nat.reduceSub, Nat.reduceMul, Int.reduceToNat, Nat.reduceLeDiff, Nat.reduceEqDiff, Nat.reduceLT, Nat.reduceGT, Int.reduceGT, Int.reduceGE, Int.reduceLT, Int.reduceLE, Int.reduceEq, Int.reduceAdd, Int.reduceSub, Int.reduceNeg, reduceCtorEq, if_true, if_false, ite_true, ite_false, ne_eq, eq_self, OPK_, KEY_, indexAddrL, h1, hb, u8, hz, Nat.mul_one]
    simpa using hK

theorem cmp_drop {a b : List UInt8} {i : Nat} (ha : i < a.length) (hb : i < b.length) : Lib.compareBytes (a.drop i) (b.drop i) = if a[i] < b[i] then -1 else if b[i] < a[i] then 1 else Lib.compareBytes (a.drop (i + 1)) (b.drop (i + 1)) := by
  rw [List.drop_eq_getElem_cons ha, List.drop_eq_getElem_cons hb]; rfl
theorem u8_lt {x y : UInt8} : ((x.toNat : Int) < (y.toNat : Int)) ↔ x < y := by rw [UInt8.lt_iff_toNat_lt]; omega

set_option maxHeartbeats 1000000 in
theorem ref10_Cmp_spec {C : CallW} (hC : LeC C C) (P : Program) : ∀ (a b : Key) S H K, K (.i (Lib.compareBytes a.b b.b)) ⟨S, H⟩ → runL C P C_hourglassref10_Cmp [.agg (bs a.b), .agg (bs b.b)] ⟨S, H⟩ K := by
  intro a b S H K hK
  have hal := a.h
  have hbl := b.h
  simp only [C_hourglassref10_Cmp, RUN_, u_C_hourglassref10_Cmp_k1, u_C_hourglassref10_Cmp_k2, u_C_hourglassref10_Cmp_k3, u_C_hourglassref10_Cmp_k4, u_C_hourglassref10_Cmp_k5, u_C_hourglassref10_Cmp_k6, FR_, Nat.reducePow, Int.reducePow, Nat.reduceAdd, Nat.reduceSub, Nat.reduceMul, Int.reduceToNat, Nat.reduceLeDiff, Nat.reduceEqDiff, Nat.reduceLT, Nat.reduceGT, Int.reduceGT, Int.reduceGE, Int.reduceLT, Int.reduceLE, Int.reduceEq, Int.reduceAdd, Int.reduceSub, Int.reduceNeg, reduceCtorEq, if_true, if_false, ite_true, ite_false, ne_eq, eq_self, OPK_, KEY_]
  refine loop_rule hC (α := Nat) (fun i => 16 - i) (fun i => [.undef, .undef, .ptr (.stk S.length) 0, .ptr (.stk (S.length + 1)) 0, .undef, .s (.int .i64 i), .undef, .undef, .undef, .undef, .undef, .undef, .undef, .undef, .undef, .undef, .undef, .undef, .undef, .undef, .undef, .undef, .undef, .undef]) (fun _ => S ++ [bs a.b, bs b.b]) (fun _ => H) (fun i => i ≤ 16 ∧ Lib.compareBytes a.b b.b = Lib.compareBytes (a.b.drop i) (b.b.drop i)) 0 ⟨by simp, by simp⟩ rfl (app_take_add _ _ _) rfl (fun i hi => by simp [AV.under, AV.under.go]) ?_
  rintro i ⟨hi, hinv⟩ ih
  by_cases h16 : i < 16
  · have hb := bs_get (l := a.b) (i := i) (by omega)
    have hb' := bs_get (l := b.b) (i := i) (by omega)
    have hw := wrap_succ (i := i) (by omega)
    have h1 : ((i : Int) < 16) := by omega
    have h2 : (0 : Int) ≤ (i : Int) := by omega
    rw [cmp_drop (by omega) (by omega)] at hinv
    by_cases hx : a.b[i]'(by omega) < b.b[i]'(by omega)
    · rw [if_pos hx] at hinv
      rw [hinv] at hK
      have hx' := u8_lt.2 hx
      simp only [RUN_, u_C_hourglassref10_Cmp_k1, u_C_hourglassref10_Cmp_k2, u_C_hourglassref10_Cmp_k3, u_C_hourglassref10_Cmp_k4, u_C_hourglassref10_Cmp_k5, u_C_hourglassref10_Cmp_k6, FR_, Nat.reducePow, Int.reducePow, Nat.reduceAdd, Nat.reduceSub, Nat.reduceMul, Int.reduceToNat, Nat.reduceLeDiff, Nat.reduceEqDiff, Nat.reduceLT, Nat.reduceGT, Int.reduceGT, Int.reduceGE, Int.reduceLT, Int.reduceLE, Int.reduceEq, Int.reduceAdd, Int.reduceSub, Int.reduceNeg, reduceCtorEq, if_true, if_false, ite_true, ite_false, ne_eq, eq_self, OPK_, KEY_, indexAddrL, h1, h2, hb, hb', u8, hx', hw, Nat.mul_one]
      exact hK
    · rw [if_neg hx] at hinv
      have hx' : ¬ (((a.b[i]'(by omega)).toNat : Int) < ((b.b[i]'(by omega)).toNat : Int)) := fun h => hx (u8_lt.1 h)
      by_cases hy : b.b[i]'(by omega) < a.b[i]'(by omega)
      · rw [if_pos hy] at hinv
        rw [hinv] at hK
        have hy' := u8_lt.2 hy
        simp only [RUN_, u_C_hourglassref10_Cmp_k1, u_C_hourglassref10_Cmp_k2, u_C_hourglassref10_Cmp_k3, u_C_hourglassref10_Cmp_k4, u_C_hourglassref10_Cmp_k5, u_C_hourglassref10_Cmp_k6, FR_, Nat.reducePow, Int.reducePow, Nat.reduceAdd, Nat.reduceSub, Nat.reduceMul, Int.reduceToNat, Nat.reduceLeDiff, Nat.reduceEqDiff, Nat.reduceLT, Nat.reduceGT, Int.reduceGT, Int.reduceGE, Int.reduceLT, Int.reduceLE, Int.reduceEq, Int.reduceAdd, Int.reduceSub, Int.reduceNeg, reduceCtorEq, if_true, if_false, ite_true, ite_false, ne_eq, eq_self, OPK_, KEY_, indexAddrL, h1, h2, hb, hb', u8, hx', hy', hw, Nat.mul_one]
        exact hK
      · rw [if_neg hy] at hinv
        have hy' : ¬ (((b.b[i]'(by omega)).toNat : Int) < ((a.b[i]'(by omega)).toNat : Int)) := fun h => hy (u8_lt.1 h)
        simp only [RUN_, u_C_hourglassref10_Cmp_k1, u_C_hourglassref10_Cmp_k2, u_C_hourglassref10_Cmp_k3, u_C_hourglassref10_Cmp_k4, u_C_hourglassref10_Cmp_k5, u_C_hourglassref10_Cmp_k6, FR_, Nat.reducePow, Int.reducePow, Nat.reduceAdd, Nat.reduceSub, Nat.reduceMul, Int.reduceToNat, Nat.reduceLeDiff, Nat.reduceEqDiff, Nat.reduceLT, Nat.reduceGT, Int.reduceGT, Int.reduceGE, Int.reduceLT, Int.reduceLE, Int.reduceEq, Int.reduceAdd, Int.reduceSub, Int.reduceNeg, reduceCtorEq, if_true, if_false, ite_true, ite_false, ne_eq, eq_self, OPK_, KEY_, indexAddrL, h1, h2, hb, hb', u8, hx', hy', hw, Nat.mul_one]
        exact ih (i + 1) _ _ _ (by omega) ⟨by omega, hinv⟩ rfl (app_take_add _ _ _) rfl
  · have h1 : ¬ ((i : Int) < 16) := by omega
    have hd : a.b.drop i = [] := List.drop_of_length_le (by omega)
    have hd' : b.b.drop i = [] := List.drop_of_length_le (by omega)
    rw [hd, hd'] at hinv
    rw [hinv] at hK
    simp only [RUN_, u_C_hourglassref10_Cmp_k1, u_C_hourglassref10_Cmp_k2, u_C_hourglassref10_Cmp_k3, u_C_hourglassref10_Cmp_k4, u_C_hourglassref10_Cmp_k5, u_C_hourglassref10_Cmp_k6, FR_, Nat.reducePow, Int.reducePow, Nat.reduceAdd, Nat.reduceSub, Nat.reduceMul, Int.reduceToNat, Nat.reduceLeDiff, Nat.reduceEqDiff, Nat.reduceLT, Nat.reduceGT, Int.reduceGT, Int.reduceGE, Int.reduceLT, Int.reduceLE, Int.reduceEq, Int.reduceAdd, Int.reduceSub, Int.reduceNeg, reduceCtorEq, if_true, if_false, ite_true, ite_false, ne_eq, eq_self, OPK_, KEY_, h1]
    exact hK
end Go.AM
namespace Go.AM
open Go
set_option maxRecDepth 20000
set_option linter.unusedSimpArgs false
set_option linter.unusedVariables false

def cmpK (a b : Key) : Int := Lib.compareBytes a.b b.b
def withinK (k a b : Key) : Bool := decide (0 ≤ cmpK k a) && (decide (b = key0) || decide (cmpK k b < 0))

set_option maxHeartbeats 1000000 in
theorem ref10_Within_spec {C : CallW} (hC : LeC C C) (P : Program) {f : FuncId} (hf : KCmp C f) : ∀ (k a b : Key) S H K, K (.bool (withinK k a b)) ⟨S, H⟩ → runL C P (C_hourglassref10_Within f) [.agg (bs k.b), .agg (bs a.b), .agg (bs b.b)] ⟨S, H⟩ K := by
  intro k a b S H K hK
  simp only [C_hourglassref10_Within, RUN_, u_C_hourglassref10_Within_k1, FR_, Nat.reducePow, Int.reducePow, Nat.reduceAdd, Nat.reduceSub, Nat.reduceMul, Int.reduceToNat, Nat.reduceLeDiff, Nat.reduceEqDiff, Nat.reduceLT, Nat.reduceGT, Int.reduceGT, Int.reduceGE, Int.reduceLT, Int.reduceLE, Int.reduceEq, Int.reduceAdd, Int.reduceSub, Int.reduceNeg, reduceCtorEq, if_true, if_false, ite_true, ite_false, ne_eq, eq_self, OPK_, KEY_]
  refine hf _ _ _ _ _ ?_
  by_cases h1 : (0 : Int) ≤ Lib.compareBytes k.b a.b
  · by_cases h2 : b = key0
    · have e : withinK k a b = true := by simp [withinK, cmpK, h1, h2]
      rw [e] at hK
      simp only [RUN_, u_C_hourglassref10_Within_k1, FR_, Nat.reducePow, Int.reducePow, Nat.reduceAdd, Nat.reduceSub, Nat.reduceMul, Int.reduceToNat, Nat.reduceLeDiff, Nat.reduceEqDiff, Nat.reduceLT, Nat.reduceGT, Int.reduceGT, Int.reduceGE, Int.reduceLT, Int.reduceLE, Int.reduceEq, Int.reduceAdd, Int.reduceSub, Int.reduceNeg, reduceCtorEq, if_true, if_false, ite_true, ite_false, ne_eq, eq_self, OPK_, KEY_, h1, h2]
      exact hK
    · have e : withinK k a b = decide (Lib.compareBytes k.b b.b < 0) := by unfold withinK cmpK; rw [decide_eq_true h1, decide_eq_false h2]; rfl
      rw [e] at hK
      simp only [RUN_, u_C_hourglassref10_Within_k1, FR_, Nat.reducePow, Int.reducePow, Nat.reduceAdd, Nat.reduceSub, Nat.reduceMul, Int.reduceToNat, Nat.reduceLeDiff, Nat.reduceEqDiff, Nat.reduceLT, Nat.reduceGT, Int.reduceGT, Int.reduceGE, Int.reduceLT, Int.reduceLE, Int.reduceEq, Int.reduceAdd, Int.reduceSub, Int.reduceNeg, reduceCtorEq, if_true, if_false, ite_true, ite_false, ne_eq, eq_self, OPK_, KEY_, h1, h2]
      refine hf _ _ _ _ _ ?_
      simp only [RUN_, u_C_hourglassref10_Within_k1, FR_, Nat.reducePow, Int.reducePow, Nat.reduceAdd, Nat.reduceSub, Nat.reduceMul, Int.reduceToNat, Nat.reduceLeDiff, Nat.reduceEqDiff, Nat.reduceLT, Nat.reduceGT, Int.reduceGT, Int.reduceGE, Int.reduceLT, Int.reduceLE, Int.reduceEq, Int.reduceAdd, Int.reduceSub, Int.reduceNeg, reduceCtorEq, if_true, if_false, ite_true, ite_false, ne_eq, eq_self, OPK_, KEY_, h1, h2]
      exact hK
  · have e : withinK k a b = false := by simp [withinK, cmpK, h1]
    rw [e] at hK
    simp only [RUN_, u_C_hourglassref10_Within_k1, FR_, Nat.reducePow, Int.reducePow, Nat.reduceAdd, Nat.reduceSub, Nat.reduceMul, Int.reduceToNat, Nat.reduceLeDiff, Nat.reduceEqDiff, Nat.reduceLT, Nat.reduceGT, Int.reduceGT, Int.reduceGE, Int.reduceLT, Int.reduceLE, Int.reduceEq, Int.reduceAdd, Int.reduceSub, Int.reduceNeg, reduceCtorEq, if_true, if_false, ite_true, ite_false, ne_eq, eq_self, OPK_, KEY_, h1]
    exact hK

def lstK (l : List Key) : AV := .list .sh 16 (l.map kA)
def ListK (F : List Key → List Key) (pre : List Key → Prop) (C : CallW) (f : FuncId) : Prop := ∀ (l : List Key) S H K, pre l → K (lstK (F l)) ⟨S, H⟩ → C (.fn f) [lstK l] ⟨S, H⟩ K

/-- What Clone brings, before it is told less sharply. -/
def cloneA (l : List Key) (v : AV) : Prop := v = .list .uniq 16 (l.map kA) ∨ (l = [] ∧ (v = .nilS ∨ v = .list .full 16 []))
theorem cloneA_wk {l : List Key} {v : AV} (h : cloneA l v) : WkL [v.sh] [lstK l] := by
  rcases h with rfl | ⟨rfl, rfl | rfl⟩
  · exact .same .nil
  · exact .nilS (by omega) .nil
  · exact .full .nil

set_option maxHeartbeats 1000000 in
theorem slices_Clone_spec {C : CallW} (hC : LeC C C) (P : Program) : ∀ (l : List Key) S H (K : AV → St → Prop), l.length ≤ 1000 → (∀ v, cloneA l v → K v ⟨S, H⟩) → runL C P C_slices_Clone_Key [lstK l] ⟨S, H⟩ K := by
  intro l S H K hl hK
  have he : ∀ (e : ET) (σ : St), e.c = 16 → elemsL e (.list .sh 16 (l.map kA)) σ = some (l.map kA) := fun e σ h => by simp [elemsL, h]
  cases l with
  | nil =>
    simp only [lstK, C_slices_Clone_Key, RUN_, u_C_slices_Clone_Key_k1, u_C_slices_Clone_Key_k2, FR_, Nat.reducePow, Int.reducePow, Nat.reduceAdd, Nat.reduceSub, Nat.reduceMul, Int.reduceToNat, Nat.reduceLeDiff, Nat.reduceEqDiff, Nat.reduceLT, Nat.reduceGT, Int.reduceGT, Int.reduceGE, Int.reduceLT, Int.reduceLE, Int.reduceEq, Int.reduceAdd, Int.reduceSub, Int.reduceNeg, reduceCtorEq, if_true, if_false, ite_true, ite_false, ne_eq, eq_self, OPK_, KEY_]
    rintro (_ | _)
    · simp only [RUN_, u_C_slices_Clone_Key_k1, u_C_slices_Clone_Key_k2, FR_, Nat.reducePow, Int.reducePow, Nat.reduceAdd, Nat.reduceSub, Nat.reduceMul, Int.reduceToNat, Nat.reduceLeDiff, Nat.reduceEqDiff, Nat.reduceLT, Nat.reduceGT, Int.reduceGT, Int.reduceGE, Int.reduceLT, Int.reduceLE, Int.reduceEq, Int.reduceAdd, Int.reduceSub, Int.reduceNeg, reduceCtorEq, if_true, if_false, ite_true, ite_false, ne_eq, eq_self, OPK_, KEY_, bslL, appendL, srcL, appItems, elemsL, List.isEmpty_nil, Option.bind_some]
      exact hK _ (.inr ⟨rfl, .inr rfl⟩)
    · simp only [RUN_, u_C_slices_Clone_Key_k1, u_C_slices_Clone_Key_k2, FR_, Nat.reducePow, Int.reducePow, Nat.reduceAdd, Nat.reduceSub, Nat.reduceMul, Int.reduceToNat, Nat.reduceLeDiff, Nat.reduceEqDiff, Nat.reduceLT, Nat.reduceGT, Int.reduceGT, Int.reduceGE, Int.reduceLT, Int.reduceLE, Int.reduceEq, Int.reduceAdd, Int.reduceSub, Int.reduceNeg, reduceCtorEq, if_true, if_false, ite_true, ite_false, ne_eq, eq_self, OPK_, KEY_]
      exact hK _ (.inr ⟨rfl, .inl rfl⟩)
  | cons k l =>
    have hlow : AV.under.go 0 (l.map kA) = true := kA_low
    simp only [List.length_cons] at hl
    have hb : (l.length + 1) * 16 ≤ 2 ^ 48 := by omega
    simp only [lstK, C_slices_Clone_Key, RUN_, u_C_slices_Clone_Key_k1, u_C_slices_Clone_Key_k2, FR_, Nat.reducePow, Int.reducePow, Nat.reduceAdd, Nat.reduceSub, Nat.reduceMul, Int.reduceToNat, Nat.reduceLeDiff, Nat.reduceEqDiff, Nat.reduceLT, Nat.reduceGT, Int.reduceGT, Int.reduceGE, Int.reduceLT, Int.reduceLE, Int.reduceEq, Int.reduceAdd, Int.reduceSub, Int.reduceNeg, reduceCtorEq, if_true, if_false, ite_true, ite_false, ne_eq, eq_self, OPK_, KEY_, refEq, bslL, appendL, srcL, appItems, elemsL, List.isEmpty_nil, List.isEmpty_cons, Option.bind_some, hb, Option.map_some, and_self]
    exact hK _ (.inl rfl)

def tabA (l : List Key) : HObj := .cells [lstK l]

set_option maxHeartbeats 1000000 in
theorem Nodes_spec {C : CallW} (hC : LeC C C) (P : Program) : ∀ (l : List Key) (h : Nat) S H (K : AV → St → Prop), H[h]? = some (tabA l) → l.length < 9223372036854775807 → K (.i ((l.length + 1 : Nat) : Int)) ⟨S, H⟩ → runL C P C_route_Table_Nodes [.ptr (.heap h) 0] ⟨S, H⟩ K := by
  intro l h S H K hh hl hK
  have hw : IntKind.i64.wrap ((l.length : Int) + 1) = ((l.length + 1 : Nat) : Int) := by rw [wrap_i64 (by omega) (by omega)]; rfl
  unfold tabA lstK at hh
  simp only [C_route_Table_Nodes, RUN_, u_C_route_Table_Nodes_k1, FR_, Nat.reducePow, Int.reducePow, Nat.reduceAdd, Nat.reduceSub, Nat.reduceMul, Int.reduceToNat, Nat.reduceLeDiff, Nat.reduceEqDiff, Nat.reduceLT, Nat.reduceGT, Int.reduceGT, Int.reduceGE, Int.reduceLT, Int.reduceLE, Int.reduceEq, Int.reduceAdd, Int.reduceSub, Int.reduceNeg, reduceCtorEq, if_true, if_false, ite_true, ite_false, ne_eq, eq_self, OPK_, KEY_, hh, hw]
  exact hK
end Go.AM
namespace Go.AM
open Go
set_option maxRecDepth 20000
set_option linter.unusedSimpArgs false
set_option linter.unusedVariables false

/-- How many points are not above a key. -/
def cntK (k : Key) : List Key → Nat
  | [] => 0
  | p :: l => (if cmpK p k ≤ 0 then 1 else 0) + cntK k l
def ofK (pts : List Key) (k : Key) : Int := if goodK k then (cntK k pts : Int) else -1

theorem cnt_drop {k : Key} {l : List Key} {i : Nat} (h : i < l.length) : cntK k (l.drop i) = (if cmpK l[i] k ≤ 0 then 1 else 0) + cntK k (l.drop (i + 1)) := by
  rw [List.drop_eq_getElem_cons h]; rfl

set_option maxHeartbeats 2000000 in
theorem Of_spec {C : CallW} (hC : LeC C C) (P : Program) {f1 f2 : FuncId} (hg : BoolK goodK C f1) (hc : KCmp C f2) : ∀ (l : List Key) (k : Key) (h : Nat) S H (K : AV → St → Prop), H[h]? = some (tabA l) → l.length < 9223372036854775807 → K (.i (ofK l k)) ⟨S, H⟩ → runL C P (C_route_Table_Of f1 f2) [.ptr (.heap h) 0, .agg (bs k.b)] ⟨S, H⟩ K := by
  intro l k h S H K hh hl hK
  unfold tabA lstK at hh
  simp only [C_route_Table_Of, RUN_, u_C_route_Table_Of_k1, u_C_route_Table_Of_k2, u_C_route_Table_Of_k3, u_C_route_Table_Of_k4, u_C_route_Table_Of_k5, u_C_route_Table_Of_k6, u_C_route_Table_Of_k7, FR_, Nat.reducePow, Int.reducePow, Nat.reduceAdd, Nat.reduceSub, Nat.reduceMul, Int.reduceToNat, Nat.reduceLeDiff, Nat.reduceEqDiff, Nat.reduceLT, Nat.reduceGT, Int.reduceGT, Int.reduceGE, Int.reduceLT, Int.reduceLE, Int.reduceEq, Int.reduceAdd, Int.reduceSub, Int.reduceNeg, reduceCtorEq, if_true, if_false, ite_true, ite_false, ne_eq, eq_self, OPK_, KEY_]
  refine hg _ _ _ _ ?_
  by_cases hgk : goodK k = true
  · simp only [RUN_, u_C_route_Table_Of_k1, u_C_route_Table_Of_k2, u_C_route_Table_Of_k3, u_C_route_Table_Of_k4, u_C_route_Table_Of_k5, u_C_route_Table_Of_k6, u_C_route_Table_Of_k7, FR_, Nat.reducePow, Int.reducePow, Nat.reduceAdd, Nat.reduceSub, Nat.reduceMul, Int.reduceToNat, Nat.reduceLeDiff, Nat.reduceEqDiff, Nat.reduceLT, Nat.reduceGT, Int.reduceGT, Int.reduceGE, Int.reduceLT, Int.reduceLE, Int.reduceEq, Int.reduceAdd, Int.reduceSub, Int.reduceNeg, reduceCtorEq, if_true, if_false, ite_true, ite_false, ne_eq, eq_self, OPK_, KEY_, hgk, hh]
    have hK : K (.i (cntK k l : Nat)) ⟨S, H⟩ := by simpa [ofK, hgk] using hK
    refine loop_rule hC (α := Nat × Nat) (fun a => l.length - a.1) (fun a => [.undef, .undef, .undef, .ptr (.stk S.length) 0, .undef, .s (.int .i64 a.2), .undef, .undef, .undef, .undef, .undef, .undef, .undef, .undef, .list .sh 16 (l.map kA), .s (.int .i64 l.length), .s (.int .i64 a.1), .undef, .undef, .undef, .undef, .undef, .undef, .undef, .undef, .undef, .undef, .undef]) (fun _ => S ++ [bs k.b]) (fun _ => H) (fun a => a.1 ≤ l.length ∧ a.2 ≤ a.1 ∧ cntK k l = a.2 + cntK k (l.drop a.1)) (0, 0) ⟨by simp, by simp, by simp⟩ rfl (by rw [app_take_add]; rfl) rfl (fun i hi => by simp [AV.under, AV.under.go]) ?_
    rintro ⟨i, n⟩ ⟨hi, hn, hinv⟩ ih
    dsimp only at hi hn hinv ih ⊢
    by_cases h16 : i < l.length
    · have h1 : ((i : Int) < (l.length : Int)) := by omega
      have hw : IntKind.i64.wrap ((i : Int) + 1) = ((i + 1 : Nat) : Int) := by rw [wrap_i64 (by omega) (by omega)]; rfl
      have hwn : IntKind.i64.wrap ((n : Int) + 1) = ((n + 1 : Nat) : Int) := by rw [wrap_i64 (by omega) (by omega)]; rfl
      rw [cnt_drop h16] at hinv
      simp only [RUN_, u_C_route_Table_Of_k1, u_C_route_Table_Of_k2, u_C_route_Table_Of_k3, u_C_route_Table_Of_k4, u_C_route_Table_Of_k5, u_C_route_Table_Of_k6, u_C_route_Table_Of_k7, FR_, Nat.reducePow, Int.reducePow, Nat.reduceAdd, Nat.reduceSub, Nat.reduceMul, Int.reduceToNat, Nat.reduceLeDiff, Nat.reduceEqDiff, Nat.reduceLT, Nat.reduceGT, Int.reduceGT, Int.reduceGE, Int.reduceLT, Int.reduceLE, Int.reduceEq, Int.reduceAdd, Int.reduceSub, Int.reduceNeg, reduceCtorEq, if_true, if_false, ite_true, ite_false, ne_eq, eq_self, OPK_, KEY_, h1, h16]
      refine hc _ _ _ _ _ ?_
      by_cases hx : Lib.compareBytes (l[i]).b k.b ≤ 0
      · rw [if_pos (show cmpK l[i] k ≤ 0 from hx)] at hinv
        simp only [RUN_, u_C_route_Table_Of_k1, u_C_route_Table_Of_k2, u_C_route_Table_Of_k3, u_C_route_Table_Of_k4, u_C_route_Table_Of_k5, u_C_route_Table_Of_k6, u_C_route_Table_Of_k7, FR_, Nat.reducePow, Int.reducePow, Nat.reduceAdd, Nat.reduceSub, Nat.reduceMul, Int.reduceToNat, Nat.reduceLeDiff, Nat.reduceEqDiff, Nat.reduceLT, Nat.reduceGT, Int.reduceGT, Int.reduceGE, Int.reduceLT, Int.reduceLE, Int.reduceEq, Int.reduceAdd, Int.reduceSub, Int.reduceNeg, reduceCtorEq, if_true, if_false, ite_true, ite_false, ne_eq, eq_self, OPK_, KEY_, hx, hw, hwn]
        exact ih (i + 1, n + 1) _ _ _ (by simp; omega) ⟨by simp; omega, by simp; omega, by simp; omega⟩ rfl (by rw [app_take_add]; rfl) rfl
      · rw [if_neg (show ¬ cmpK l[i] k ≤ 0 from hx)] at hinv
        simp only [RUN_, u_C_route_Table_Of_k1, u_C_route_Table_Of_k2, u_C_route_Table_Of_k3, u_C_route_Table_Of_k4, u_C_route_Table_Of_k5, u_C_route_Table_Of_k6, u_C_route_Table_Of_k7, FR_, Nat.reducePow, Int.reducePow, Nat.reduceAdd, Nat.reduceSub, Nat.reduceMul, Int.reduceToNat, Nat.reduceLeDiff, Nat.reduceEqDiff, Nat.reduceLT, Nat.reduceGT, Int.reduceGT, Int.reduceGE, Int.reduceLT, Int.reduceLE, Int.reduceEq, Int.reduceAdd, Int.reduceSub, Int.reduceNeg, reduceCtorEq, if_true, if_false, ite_true, ite_false, ne_eq, eq_self, OPK_, KEY_, hx, hw, hwn]
        exact ih (i + 1, n) _ _ _ (by simp; omega) ⟨by simp; omega, by simp; omega, by simp; omega⟩ rfl (by rw [app_take_add]; rfl) rfl
    · have h1 : ¬ ((i : Int) < (l.length : Int)) := by omega
      rw [List.drop_of_length_le (by omega)] at hinv
      have : cntK k l = n := hinv
      simp only [RUN_, u_C_route_Table_Of_k1, u_C_route_Table_Of_k2, u_C_route_Table_Of_k3, u_C_route_Table_Of_k4, u_C_route_Table_Of_k5, u_C_route_Table_Of_k6, u_C_route_Table_Of_k7, FR_, Nat.reducePow, Int.reducePow, Nat.reduceAdd, Nat.reduceSub, Nat.reduceMul, Int.reduceToNat, Nat.reduceLeDiff, Nat.reduceEqDiff, Nat.reduceLT, Nat.reduceGT, Int.reduceGT, Int.reduceGE, Int.reduceLT, Int.reduceLE, Int.reduceEq, Int.reduceAdd, Int.reduceSub, Int.reduceNeg, reduceCtorEq, if_true, if_false, ite_true, ite_false, ne_eq, eq_self, OPK_, KEY_, h1]
      rw [this] at hK
      exact hK
  · have hgk' : goodK k = false := by simpa using hgk
    simp only [RUN_, u_C_route_Table_Of_k1, u_C_route_Table_Of_k2, u_C_route_Table_Of_k3, u_C_route_Table_Of_k4, u_C_route_Table_Of_k5, u_C_route_Table_Of_k6, u_C_route_Table_Of_k7, FR_, Nat.reducePow, Int.reducePow, Nat.reduceAdd, Nat.reduceSub, Nat.reduceMul, Int.reduceToNat, Nat.reduceLeDiff, Nat.reduceEqDiff, Nat.reduceLT, Nat.reduceGT, Int.reduceGT, Int.reduceGE, Int.reduceLT, Int.reduceLE, Int.reduceEq, Int.reduceAdd, Int.reduceSub, Int.reduceNeg, reduceCtorEq, if_true, if_false, ite_true, ite_false, ne_eq, eq_self, OPK_, KEY_, hgk']
    simpa [ofK, hgk'] using hK

def okFrom : Option Key → List Key → Bool
  | _, [] => true
  | q, p :: l => goodK p && (match q with | none => true | some q => decide (cmpK q p < 0)) && okFrom (some p) l
def okPts (l : List Key) : Bool := okFrom none l

def prevK (l : List Key) (i : Nat) : Option Key := if i = 0 then none else l[i - 1]?
theorem ok_drop {q : Option Key} {l : List Key} {i : Nat} (h : i < l.length) : okFrom q (l.drop i) = (goodK l[i] && (match q with | none => true | some q => decide (cmpK q l[i] < 0)) && okFrom (some l[i]) (l.drop (i + 1))) := by
  rw [List.drop_eq_getElem_cons h]; rfl

def newA (l : List Key) (H : List HObj) : AV := if okPts l && decide (l.length < 8) then .tup [.ptr (.heap H.length) 0, .i 0] else .tup [.nilP, .i 1]
def newH (l : List Key) (H : List HObj) : List HObj := if okPts l && decide (l.length < 8) then H ++ [tabA l] else H

def CloneS (C : CallW) (f : FuncId) : Prop := ∀ (l : List Key) S H (K : AV → St → Prop), l.length ≤ 1000 → K (lstK l) ⟨S, H⟩ → C (.fn f) [lstK l] ⟨S, H⟩ K

set_option maxHeartbeats 4000000 in
theorem New_spec {C : CallW} (hC : LeC C C) (P : Program) {f1 f2 f3 : FuncId} (hg : BoolK goodK C f1) (hc : KCmp C f2) (hcl : CloneS C f3) : ∀ (l : List Key) S H (K : AV → St → Prop), l.length ≤ 9223372036854775807 → K (newA l H) ⟨S, newH l H⟩ → runL C P (C_route_New f1 f2 f3) [lstK l] ⟨S, H⟩ K := by
  intro l S H K hl hK
  simp only [lstK, C_route_New, RUN_, u_C_route_New_k1, u_C_route_New_k2, u_C_route_New_k3, u_C_route_New_k4, u_C_route_New_k5, u_C_route_New_k6, u_C_route_New_k7, u_C_route_New_k8, u_C_route_New_k9, FR_, Nat.reducePow, Int.reducePow, Nat.reduceAdd, Nat.reduceSub, Nat.reduceMul, Int.reduceToNat, Nat.reduceLeDiff, Nat.reduceEqDiff, Nat.reduceLT, Nat.reduceGT, Int.reduceGT, Int.reduceGE, Int.reduceLT, Int.reduceLE, Int.reduceEq, Int.reduceAdd, Int.reduceSub, Int.reduceNeg, reduceCtorEq, if_true, if_false, ite_true, ite_false, ne_eq, eq_self, OPK_, KEY_]
  have bad : okPts l = false → K (.tup [.nilP, .i 1]) ⟨S, H⟩ := fun h => by
    unfold newA newH at hK
    rw [h] at hK
    simpa using hK
  refine loop_rule hC (α := Nat) (fun a => l.length - a) (fun a => [.list .sh 16 (l.map kA), .undef, .undef, .undef, .undef, .undef, .list .sh 16 (l.map kA), .s (.int .i64 l.length), .s (.int .i64 a), .undef, .undef, .undef, .undef, .undef, .undef, .undef, .undef, .undef, .undef, .undef, .undef, .undef, .undef, .undef, .undef, .undef, .undef, .undef, .undef, .undef, .undef, .undef, .undef, .undef, .undef, .undef, .undef, .undef]) (fun _ => S) (fun _ => H) (fun i => i ≤ l.length ∧ okPts l = okFrom (prevK l i) (l.drop i)) 0 ⟨by simp, rfl⟩ rfl (by simp) rfl (fun i hi => by simp [AV.under, AV.under.go]) ?_
  rintro i ⟨hi, hinv⟩ ih
  by_cases h16 : i < l.length
  · have h1 : ((i : Int) < (l.length : Int)) := by omega
    have hw : IntKind.i64.wrap ((i : Int) + 1) = ((i + 1 : Nat) : Int) := by rw [wrap_i64 (by omega) (by omega)]; rfl
    rw [ok_drop h16] at hinv
    simp only [RUN_, u_C_route_New_k1, u_C_route_New_k2, u_C_route_New_k3, u_C_route_New_k4, u_C_route_New_k5, u_C_route_New_k6, u_C_route_New_k7, u_C_route_New_k8, u_C_route_New_k9, FR_, Nat.reducePow, Int.reducePow, Nat.reduceAdd, Nat.reduceSub, Nat.reduceMul, Int.reduceToNat, Nat.reduceLeDiff, Nat.reduceEqDiff, Nat.reduceLT, Nat.reduceGT, Int.reduceGT, Int.reduceGE, Int.reduceLT, Int.reduceLE, Int.reduceEq, Int.reduceAdd, Int.reduceSub, Int.reduceNeg, reduceCtorEq, if_true, if_false, ite_true, ite_false, ne_eq, eq_self, OPK_, KEY_, h1, h16]
    refine hg _ _ _ _ ?_
    cases hgk : goodK l[i] with
    | false =>
      rw [hgk] at hinv
      simp only [RUN_, u_C_route_New_k1, u_C_route_New_k2, u_C_route_New_k3, u_C_route_New_k4, u_C_route_New_k5, u_C_route_New_k6, u_C_route_New_k7, u_C_route_New_k8, u_C_route_New_k9, FR_, Nat.reducePow, Int.reducePow, Nat.reduceAdd, Nat.reduceSub, Nat.reduceMul, Int.reduceToNat, Nat.reduceLeDiff, Nat.reduceEqDiff, Nat.reduceLT, Nat.reduceGT, Int.reduceGT, Int.reduceGE, Int.reduceLT, Int.reduceLE, Int.reduceEq, Int.reduceAdd, Int.reduceSub, Int.reduceNeg, reduceCtorEq, if_true, if_false, ite_true, ite_false, ne_eq, eq_self, OPK_, KEY_]
      exact bad (by rw [hinv]; rfl)
    | true =>
      rw [hgk, Bool.true_and] at hinv
      by_cases h0 : i = 0
      · have h0' : ¬ ((0 : Int) < (i : Int)) := by omega
        rw [show prevK l i = none from if_pos h0, Bool.true_and] at hinv
        simp only [RUN_, u_C_route_New_k1, u_C_route_New_k2, u_C_route_New_k3, u_C_route_New_k4, u_C_route_New_k5, u_C_route_New_k6, u_C_route_New_k7, u_C_route_New_k8, u_C_route_New_k9, FR_, Nat.reducePow, Int.reducePow, Nat.reduceAdd, Nat.reduceSub, Nat.reduceMul, Int.reduceToNat, Nat.reduceLeDiff, Nat.reduceEqDiff, Nat.reduceLT, Nat.reduceGT, Int.reduceGT, Int.reduceGE, Int.reduceLT, Int.reduceLE, Int.reduceEq, Int.reduceAdd, Int.reduceSub, Int.reduceNeg, reduceCtorEq, if_true, if_false, ite_true, ite_false, ne_eq, eq_self, OPK_, KEY_, h0', hw]
        refine ih (i + 1) _ _ _ (by omega) ⟨by omega, ?_⟩ rfl (by rw [app_take]) rfl
        rw [hinv]; simp [prevK, h16]
      · have h0' : ((0 : Int) < (i : Int)) := by omega
        have hwp : IntKind.i64.wrap ((i : Int) - 1) = ((i - 1 : Nat) : Int) := by rw [wrap_i64 (by omega) (by omega)]; omega
        have h17 : i - 1 < l.length := by omega
        rw [show prevK l i = some l[i - 1] from (if_neg h0).trans (List.getElem?_eq_getElem h17)] at hinv
        dsimp only at hinv
        simp only [RUN_, u_C_route_New_k1, u_C_route_New_k2, u_C_route_New_k3, u_C_route_New_k4, u_C_route_New_k5, u_C_route_New_k6, u_C_route_New_k7, u_C_route_New_k8, u_C_route_New_k9, FR_, Nat.reducePow, Int.reducePow, Nat.reduceAdd, Nat.reduceSub, Nat.reduceMul, Int.reduceToNat, Nat.reduceLeDiff, Nat.reduceEqDiff, Nat.reduceLT, Nat.reduceGT, Int.reduceGT, Int.reduceGE, Int.reduceLT, Int.reduceLE, Int.reduceEq, Int.reduceAdd, Int.reduceSub, Int.reduceNeg, reduceCtorEq, if_true, if_false, ite_true, ite_false, ne_eq, eq_self, OPK_, KEY_, h0', hw, hwp, h17]
        refine hc _ _ _ _ _ ?_
        by_cases hx : (0 : Int) ≤ Lib.compareBytes (l[i - 1]).b (l[i]).b
        · simp only [RUN_, u_C_route_New_k1, u_C_route_New_k2, u_C_route_New_k3, u_C_route_New_k4, u_C_route_New_k5, u_C_route_New_k6, u_C_route_New_k7, u_C_route_New_k8, u_C_route_New_k9, FR_, Nat.reducePow, Int.reducePow, Nat.reduceAdd, Nat.reduceSub, Nat.reduceMul, Int.reduceToNat, Nat.reduceLeDiff, Nat.reduceEqDiff, Nat.reduceLT, Nat.reduceGT, Int.reduceGT, Int.reduceGE, Int.reduceLT, Int.reduceLE, Int.reduceEq, Int.reduceAdd, Int.reduceSub, Int.reduceNeg, reduceCtorEq, if_true, if_false, ite_true, ite_false, ne_eq, eq_self, OPK_, KEY_, hx]
          refine bad ?_
          rw [hinv, decide_eq_false (by unfold cmpK; omega)]; rfl
        · simp only [RUN_, u_C_route_New_k1, u_C_route_New_k2, u_C_route_New_k3, u_C_route_New_k4, u_C_route_New_k5, u_C_route_New_k6, u_C_route_New_k7, u_C_route_New_k8, u_C_route_New_k9, FR_, Nat.reducePow, Int.reducePow, Nat.reduceAdd, Nat.reduceSub, Nat.reduceMul, Int.reduceToNat, Nat.reduceLeDiff, Nat.reduceEqDiff, Nat.reduceLT, Nat.reduceGT, Int.reduceGT, Int.reduceGE, Int.reduceLT, Int.reduceLE, Int.reduceEq, Int.reduceAdd, Int.reduceSub, Int.reduceNeg, reduceCtorEq, if_true, if_false, ite_true, ite_false, ne_eq, eq_self, OPK_, KEY_, hx, hw]
          refine ih (i + 1) _ _ _ (by omega) ⟨by omega, ?_⟩ rfl (by rw [app_take]) rfl
          rw [hinv, decide_eq_true (show cmpK l[i - 1] l[i] < 0 by unfold cmpK; omega)]; simp [prevK, h16]
  · have h1 : ¬ ((i : Int) < (l.length : Int)) := by omega
    rw [List.drop_of_length_le (by omega)] at hinv
    have hok : okPts l = true := hinv
    by_cases h8 : l.length < 8
    · have h8' : ¬ ((8 : Int) ≤ (l.length : Int)) := by omega
      simp only [RUN_, u_C_route_New_k1, u_C_route_New_k2, u_C_route_New_k3, u_C_route_New_k4, u_C_route_New_k5, u_C_route_New_k6, u_C_route_New_k7, u_C_route_New_k8, u_C_route_New_k9, FR_, Nat.reducePow, Int.reducePow, Nat.reduceAdd, Nat.reduceSub, Nat.reduceMul, Int.reduceToNat, Nat.reduceLeDiff, Nat.reduceEqDiff, Nat.reduceLT, Nat.reduceGT, Int.reduceGT, Int.reduceGE, Int.reduceLT, Int.reduceLE, Int.reduceEq, Int.reduceAdd, Int.reduceSub, Int.reduceNeg, reduceCtorEq, if_true, if_false, ite_true, ite_false, ne_eq, eq_self, OPK_, KEY_, h1, h8']
      refine hcl l _ _ _ (by omega) ?_
      unfold newA newH at hK
      rw [hok, decide_eq_true h8] at hK
      simp only [RUN_, u_C_route_New_k1, u_C_route_New_k2, u_C_route_New_k3, u_C_route_New_k4, u_C_route_New_k5, u_C_route_New_k6, u_C_route_New_k7, u_C_route_New_k8, u_C_route_New_k9, FR_, Nat.reducePow, Int.reducePow, Nat.reduceAdd, Nat.reduceSub, Nat.reduceMul, Int.reduceToNat, Nat.reduceLeDiff, Nat.reduceEqDiff, Nat.reduceLT, Nat.reduceGT, Int.reduceGT, Int.reduceGE, Int.reduceLT, Int.reduceLE, Int.reduceEq, Int.reduceAdd, Int.reduceSub, Int.reduceNeg, reduceCtorEq, if_true, if_false, ite_true, ite_false, ne_eq, eq_self, OPK_, KEY_, lstK, fillL]
      exact hK
    · have h8' : ((8 : Int) ≤ (l.length : Int)) := by omega
      simp only [RUN_, u_C_route_New_k1, u_C_route_New_k2, u_C_route_New_k3, u_C_route_New_k4, u_C_route_New_k5, u_C_route_New_k6, u_C_route_New_k7, u_C_route_New_k8, u_C_route_New_k9, FR_, Nat.reducePow, Int.reducePow, Nat.reduceAdd, Nat.reduceSub, Nat.reduceMul, Int.reduceToNat, Nat.reduceLeDiff, Nat.reduceEqDiff, Nat.reduceLT, Nat.reduceGT, Int.reduceGT, Int.reduceGE, Int.reduceLT, Int.reduceLE, Int.reduceEq, Int.reduceAdd, Int.reduceSub, Int.reduceNeg, reduceCtorEq, if_true, if_false, ite_true, ite_false, ne_eq, eq_self, OPK_, KEY_, h1, h8']
      unfold newA newH at hK
      rw [decide_eq_false h8] at hK
      simpa using hK
end Go.AM
namespace Go.AM
open Go
set_option maxRecDepth 20000
set_option linter.unusedSimpArgs false
set_option linter.unusedVariables false

theorem pad_set {s : List UInt8} {i : Nat} (h : i < s.length) (hs : s.length ≤ 16) : (bs (padB (s.take i))).set i (u8 s[i]) = bs (padB (s.take (i + 1))) := by
  have e : ∀ (t : List UInt8), t.length ≤ 16 → padB t = t ++ List.replicate (16 - t.length) 0 := fun t ht => by unfold padB; rw [List.take_of_length_le ht]
  rw [e _ (by simp; omega), e _ (by simp; omega)]
  have h1 : (s.take i).length = i := by simp; omega
  have h2 : (s.take (i + 1)).length = i + 1 := by simp; omega
  rw [h1, h2, show 16 - i = (16 - (i + 1)) + 1 by omega, List.replicate_succ]
  simp only [bs, List.map_append, List.map_cons]
  rw [List.set_append_right _ _ (by rw [List.length_map, h1]; exact Nat.le_refl _)]
  simp only [List.length_map, h1, Nat.sub_self, List.set_cons_zero]
  rw [List.take_succ_eq_append_getElem h]
  simp only [List.map_append, List.map_cons, List.map_nil, List.append_assoc, List.cons_append, List.nil_append]

def OfR (C : CallW) (f : FuncId) : Prop := ∀ (s : List UInt8) (S : List (List AV)) (H : List HObj) (K : AV → St → Prop), K (.tup [.agg (bs (keyOf s).1.b), .bool (decide ((keyOf s).2 = 0))]) ⟨S, H⟩ → C (.fn f) [.s (.str s)] ⟨S, H⟩ K

set_option maxHeartbeats 2000000 in
theorem ref10_Of_spec {C : CallW} (hC : LeC C C) (P : Program) : ∀ (s : List UInt8) (S : List (List AV)) (H : List HObj) (K : AV → St → Prop), K (.tup [.agg (bs (keyOf s).1.b), .bool (decide ((keyOf s).2 = 0))]) ⟨S, H⟩ → runL C P C_hourglassref10_Of [.s (.str s)] ⟨S, H⟩ K := by
  intro s S H K hK
  have key0l : (bs key0.b).length = 16 := rfl
  have bad : badT s → K (.tup [.agg (bs key0.b), .bool false]) ⟨S, H⟩ := fun h => by
    rw [show keyOf s = (key0, 1) from if_pos h] at hK; exact hK
  by_cases h0 : s.length < 1
  · have h0' : ((s.length : Int) < 1) := by omega
    simp only [C_hourglassref10_Of, RUN_, u_C_hourglassref10_Of_k1, u_C_hourglassref10_Of_k2, u_C_hourglassref10_Of_k3, u_C_hourglassref10_Of_k4, u_C_hourglassref10_Of_k5, u_C_hourglassref10_Of_k6, u_C_hourglassref10_Of_k7, u_C_hourglassref10_Of_k8, u_C_hourglassref10_Of_k9, u_C_hourglassref10_Of_k10, FR_, Nat.reducePow, Int.reducePow, Nat.reduceAdd, Nat.reduceSub, Nat.reduceMul, Int.reduceToNat, Nat.reduceLeDiff, Nat.reduceEqDiff, Nat.reduceLT, Nat.reduceGT, Int.reduceGT, Int.reduceGE, Int.reduceLT, Int.reduceLE, Int.reduceEq, Int.reduceAdd, Int.reduceSub, Int.reduceNeg, reduceCtorEq, if_true, if_false, ite_true, ite_false, ne_eq, eq_self, OPK_, KEY_, h0']
    exact bad (.inl (List.length_eq_zero_iff.1 (by omega)))
  · have h0' : ¬ ((s.length : Int) < 1) := by omega
    by_cases h1 : 16 < s.length
    · have h1' : (16 : Int) < (s.length : Int) := by omega
      simp only [C_hourglassref10_Of, RUN_, u_C_hourglassref10_Of_k1, u_C_hourglassref10_Of_k2, u_C_hourglassref10_Of_k3, u_C_hourglassref10_Of_k4, u_C_hourglassref10_Of_k5, u_C_hourglassref10_Of_k6, u_C_hourglassref10_Of_k7, u_C_hourglassref10_Of_k8, u_C_hourglassref10_Of_k9, u_C_hourglassref10_Of_k10, FR_, Nat.reducePow, Int.reducePow, Nat.reduceAdd, Nat.reduceSub, Nat.reduceMul, Int.reduceToNat, Nat.reduceLeDiff, Nat.reduceEqDiff, Nat.reduceLT, Nat.reduceGT, Int.reduceGT, Int.reduceGE, Int.reduceLT, Int.reduceLE, Int.reduceEq, Int.reduceAdd, Int.reduceSub, Int.reduceNeg, reduceCtorEq, if_true, if_false, ite_true, ite_false, ne_eq, eq_self, OPK_, KEY_, h0', h1']
      exact bad (.inr (.inl h1))
    · have h1' : ¬ ((16 : Int) < (s.length : Int)) := by omega
      simp only [C_hourglassref10_Of, RUN_, u_C_hourglassref10_Of_k1, u_C_hourglassref10_Of_k2, u_C_hourglassref10_Of_k3, u_C_hourglassref10_Of_k4, u_C_hourglassref10_Of_k5, u_C_hourglassref10_Of_k6, u_C_hourglassref10_Of_k7, u_C_hourglassref10_Of_k8, u_C_hourglassref10_Of_k9, u_C_hourglassref10_Of_k10, FR_, Nat.reducePow, Int.reducePow, Nat.reduceAdd, Nat.reduceSub, Nat.reduceMul, Int.reduceToNat, Nat.reduceLeDiff, Nat.reduceEqDiff, Nat.reduceLT, Nat.reduceGT, Int.reduceGT, Int.reduceGE, Int.reduceLT, Int.reduceLE, Int.reduceEq, Int.reduceAdd, Int.reduceSub, Int.reduceNeg, reduceCtorEq, if_true, if_false, ite_true, ite_false, ne_eq, eq_self, OPK_, KEY_, h0', h1']
      refine loop_rule hC (α := Nat) (fun a => s.length - a) (fun a => [.s (.str s), .undef, .ptr (.stk S.length) 0, .undef, .ptr (.stk (S.length + 1)) 0, .s (.int .i64 a), .undef, .undef, .undef, .undef, .undef, .undef, .undef, .undef, .undef, .undef, .undef, .undef, .undef, .undef, .undef, .undef, .undef, .undef, .undef, .undef, .undef, .undef, .undef, .undef, .undef, .undef, .undef]) (fun a => S ++ [bs key0.b, bs (padB (s.take a))]) (fun _ => H) (fun i => i ≤ s.length ∧ ∀ j, (hj : j < i) → (hj' : j < s.length) → s[j] ≠ 0) 0 ⟨by simp, fun j hj => by omega⟩ rfl (by rw [app_take_add]; rfl) rfl (fun i hi => by simp [AV.under, AV.under.go]) ?_
      rintro i ⟨hi, hall⟩ ih
      have hpl : ∀ t, (bs (padB t)).length = 16 := fun t => by rw [bs_length]; exact (padK t).h
      by_cases h16 : i < s.length
      · have hlt : ((i : Int) < (s.length : Int)) := by omega
        have h16' : ((i : Int) < 16) := by omega
        have hge : (0 : Int) ≤ (i : Int) := by omega
        have hw := wrap_succ (i := i) (by omega)
        have hg : s.getD i 0 = s[i] := by simp [List.getD, h16]
        by_cases hz : s[i] = 0
        · simp only [RUN_, u_C_hourglassref10_Of_k1, u_C_hourglassref10_Of_k2, u_C_hourglassref10_Of_k3, u_C_hourglassref10_Of_k4, u_C_hourglassref10_Of_k5, u_C_hourglassref10_Of_k6, u_C_hourglassref10_Of_k7, u_C_hourglassref10_Of_k8, u_C_hourglassref10_Of_k9, u_C_hourglassref10_Of_k10, FR_, Nat.reducePow, Int.reducePow, Nat.reduceAdd, Nat.reduceSub, Nat.reduceMul, Int.reduceToNat, Nat.reduceLeDiff, Nat.reduceEqDiff, Nat.reduceLT, Nat.reduceGT, Int.reduceGT, Int.reduceGE, Int.reduceLT, Int.reduceLE, Int.reduceEq, Int.reduceAdd, Int.reduceSub, Int.reduceNeg, reduceCtorEq, if_true, if_false, ite_true, ite_false, ne_eq, eq_self, OPK_, KEY_, hlt, hge, hg, hz, UInt8.toNat_zero, hpl]
          exact bad (.inr (.inr (hz ▸ List.getElem_mem h16)))
        · have hz' : ¬ (((s[i]).toNat : Int) = 0) := fun e => hz (u8_zero.1 e)
          have hps := pad_set h16 (by omega)
          have hi16 : i < 16 := by omega
          unfold u8 at hps
          simp only [RUN_, u_C_hourglassref10_Of_k1, u_C_hourglassref10_Of_k2, u_C_hourglassref10_Of_k3, u_C_hourglassref10_Of_k4, u_C_hourglassref10_Of_k5, u_C_hourglassref10_Of_k6, u_C_hourglassref10_Of_k7, u_C_hourglassref10_Of_k8, u_C_hourglassref10_Of_k9, u_C_hourglassref10_Of_k10, FR_, Nat.reducePow, Int.reducePow, Nat.reduceAdd, Nat.reduceSub, Nat.reduceMul, Int.reduceToNat, Nat.reduceLeDiff, Nat.reduceEqDiff, Nat.reduceLT, Nat.reduceGT, Int.reduceGT, Int.reduceGE, Int.reduceLT, Int.reduceLE, Int.reduceEq, Int.reduceAdd, Int.reduceSub, Int.reduceNeg, reduceCtorEq, if_true, if_false, ite_true, ite_false, ne_eq, eq_self, OPK_, KEY_, hlt, hge, hg, hz', hpl, indexAddrL, h16', hw, Nat.mul_one, hi16, hps]
          exact ih (i + 1) _ _ _ (by omega) ⟨by omega, fun j hj hj' => by
            rcases Nat.lt_or_ge j i with h | h
            · exact hall j h hj'
            · have : j = i := by omega
              subst this; exact hz⟩ rfl (app_take_add _ _ _) rfl
      · have hlt : ¬ ((i : Int) < (s.length : Int)) := by omega
        have hnb : ¬ badT s := by
          rintro (h | h | h)
          · rw [h] at h0; exact h0 (by simp)
          · exact h1 h
          · obtain ⟨j, hj, e⟩ := List.getElem_of_mem h
            exact hall j (by omega) hj e
        have hp : padB (s.take i) = padB s := by rw [List.take_of_length_le (by omega)]
        rw [show keyOf s = (padK s, 0) from if_neg hnb] at hK
        have e2 : (bs (padB s)).take 16 = bs (padB s) := List.take_of_length_le (by rw [hpl]; omega)
        simp only [RUN_, u_C_hourglassref10_Of_k1, u_C_hourglassref10_Of_k2, u_C_hourglassref10_Of_k3, u_C_hourglassref10_Of_k4, u_C_hourglassref10_Of_k5, u_C_hourglassref10_Of_k6, u_C_hourglassref10_Of_k7, u_C_hourglassref10_Of_k8, u_C_hourglassref10_Of_k9, u_C_hourglassref10_Of_k10, FR_, Nat.reducePow, Int.reducePow, Nat.reduceAdd, Nat.reduceSub, Nat.reduceMul, Int.reduceToNat, Nat.reduceLeDiff, Nat.reduceEqDiff, Nat.reduceLT, Nat.reduceGT, Int.reduceGT, Int.reduceGE, Int.reduceLT, Int.reduceLE, Int.reduceEq, Int.reduceAdd, Int.reduceSub, Int.reduceNeg, reduceCtorEq, if_true, if_false, ite_true, ite_false, ne_eq, eq_self, OPK_, KEY_, hlt, hp, hpl, e2]
        exact hK

def kS (C : CallW) (f : FuncId) : Prop := ∀ (s : List UInt8) (S : List (List AV)) (H : List HObj) (K : AV → St → Prop), K (.agg (bs (keyOf s).1.b)) ⟨S, H⟩ → C (.fn f) [.s (.str s)] ⟨S, H⟩ K

set_option maxHeartbeats 1000000 in
theorem law_k_spec {C : CallW} (hC : LeC C C) (P : Program) {f : FuncId} (hf : OfR C f) : ∀ (s : List UInt8) (S : List (List AV)) (H : List HObj) (K : AV → St → Prop), K (.agg (bs (keyOf s).1.b)) ⟨S, H⟩ → runL C P (C_hourglasslaw17_k f) [.s (.str s)] ⟨S, H⟩ K := by
  intro s S H K hK
  simp only [C_hourglasslaw17_k, RUN_, u_C_hourglasslaw17_k_k1, FR_, Nat.reducePow, Int.reducePow, Nat.reduceAdd, Nat.reduceSub, Nat.reduceMul, Int.reduceToNat, Nat.reduceLeDiff, Nat.reduceEqDiff, Nat.reduceLT, Nat.reduceGT, Int.reduceGT, Int.reduceGE, Int.reduceLT, Int.reduceLE, Int.reduceEq, Int.reduceAdd, Int.reduceSub, Int.reduceNeg, reduceCtorEq, if_true, if_false, ite_true, ite_false, ne_eq, eq_self, OPK_, KEY_]
  refine hf _ _ _ _ ?_
  simp only [RUN_, u_C_hourglasslaw17_k_k1, FR_, Nat.reducePow, Int.reducePow, Nat.reduceAdd, Nat.reduceSub, Nat.reduceMul, Int.reduceToNat, Nat.reduceLeDiff, Nat.reduceEqDiff, Nat.reduceLT, Nat.reduceGT, Int.reduceGT, Int.reduceGE, Int.reduceLT, Int.reduceLE, Int.reduceEq, Int.reduceAdd, Int.reduceSub, Int.reduceNeg, reduceCtorEq, if_true, if_false, ite_true, ite_false, ne_eq, eq_self, OPK_, KEY_]
  exact hK
end Go.AM
namespace Go.AM
open Go
set_option maxRecDepth 20000
set_option linter.unusedSimpArgs false
set_option linter.unusedVariables false

theorem law24_k_spec {C : CallW} (P : Program) {c : Nat → FuncId} (hf : OfR C (c 0)) : ∀ (s : List UInt8) (S : List (List AV)) (H : List HObj) (K : AV → St → Prop), K (.agg (bs (keyOf s).1.b)) ⟨S, H⟩ → runL C P (C_hourglasslaw24_k c) [.s (.str s)] ⟨S, H⟩ K := by
  intro s S H K hK
  simp only [C_hourglasslaw24_k, RUN_, U_hourglasslaw24_k, FR_, Nat.reducePow, Int.reducePow, Nat.reduceAdd, Nat.reduceSub, Nat.reduceMul, Int.reduceToNat, Nat.reduceLeDiff, Nat.reduceEqDiff, Nat.reduceLT, Nat.reduceGT, Int.reduceGT, Int.reduceGE, Int.reduceLT, Int.reduceLE, Int.reduceEq, Int.reduceAdd, Int.reduceSub, Int.reduceNeg, reduceCtorEq, if_true, if_false, ite_true, ite_false, ne_eq, eq_self, OPK_, KEY_, WR_, CHK_, Nat.reduceBEq, K4_, K5_, K6_, K7_]
  refine hf _ _ _ _ ?_
  simp only [RUN_, U_hourglasslaw24_k, FR_, Nat.reducePow, Int.reducePow, Nat.reduceAdd, Nat.reduceSub, Nat.reduceMul, Int.reduceToNat, Nat.reduceLeDiff, Nat.reduceEqDiff, Nat.reduceLT, Nat.reduceGT, Int.reduceGT, Int.reduceGE, Int.reduceLT, Int.reduceLE, Int.reduceEq, Int.reduceAdd, Int.reduceSub, Int.reduceNeg, reduceCtorEq, if_true, if_false, ite_true, ite_false, ne_eq, eq_self, OPK_, KEY_, WR_, CHK_, Nat.reduceBEq, K4_, K5_, K6_, K7_]
  exact hK
def AtS (C : CallW) (f : FuncId) : Prop := ∀ t : Int, FnS C f [.s (.int .i64 t)] (.agg (stc ⟨t, 0⟩))
theorem law24_at_spec {C : CallW} (P : Program) : ∀ (t : Int) S H (K : AV → St → Prop), K (.agg (stc ⟨t, 0⟩)) ⟨S, H⟩ → runL C P C_hourglasslaw24_at [.s (.int .i64 t)] ⟨S, H⟩ K := by
  intro t S H K hK
  simp only [C_hourglasslaw24_at, RUN_, U_hourglasslaw24_at, FR_, Nat.reducePow, Int.reducePow, Nat.reduceAdd, Nat.reduceSub, Nat.reduceMul, Int.reduceToNat, Nat.reduceLeDiff, Nat.reduceEqDiff, Nat.reduceLT, Nat.reduceGT, Int.reduceGT, Int.reduceGE, Int.reduceLT, Int.reduceLE, Int.reduceEq, Int.reduceAdd, Int.reduceSub, Int.reduceNeg, reduceCtorEq, if_true, if_false, ite_true, ite_false, ne_eq, eq_self, OPK_, KEY_, WR_, CHK_, Nat.reduceBEq, K4_, K5_, K6_, K7_]
  exact hK
def ofT (id snap t : Int) (s v : List UInt8) : Tx := ⟨id, ⟨snap, 0⟩, ⟨t, 0⟩, true, [], [⟨(keyOf s).1, v, false⟩]⟩
def ofV (id snap t : Int) (s v : List UInt8) : AV := .agg [.s (.int .i64 id), .s (.int .i64 snap), u8 0, .s (.int .i64 t), u8 0, .s (.bool true), .s .nilS, .list .full 18 [.agg (wc ⟨(keyOf s).1, v, false⟩)]]
theorem law24_of_spec {C : CallW} (P : Program) {c : Nat → FuncId} (h0 : AtS C (c 0)) (h1 : kS C (c 1)) : ∀ (id snap t : Int) (s v : List UInt8) S H (K : AV → St → Prop), K (ofV id snap t s v) ⟨S, H⟩ → runL C P (C_hourglasslaw24_of c) [.s (.int .i64 id), .s (.int .i64 snap), .s (.int .i64 t), .s (.str s), .s (.str v)] ⟨S, H⟩ K := by
  intro id snap t s v S H K hK
  simp only [C_hourglasslaw24_of, RUN_, U_hourglasslaw24_of, FR_, Nat.reducePow, Int.reducePow, Nat.reduceAdd, Nat.reduceSub, Nat.reduceMul, Int.reduceToNat, Nat.reduceLeDiff, Nat.reduceEqDiff, Nat.reduceLT, Nat.reduceGT, Int.reduceGT, Int.reduceGE, Int.reduceLT, Int.reduceLE, Int.reduceEq, Int.reduceAdd, Int.reduceSub, Int.reduceNeg, reduceCtorEq, if_true, if_false, ite_true, ite_false, ne_eq, eq_self, OPK_, KEY_, WR_, CHK_, Nat.reduceBEq, K4_, K5_, K6_, K7_]
  refine h0 _ _ _ _ ?_
  simp only [RUN_, U_hourglasslaw24_of, FR_, Nat.reducePow, Int.reducePow, Nat.reduceAdd, Nat.reduceSub, Nat.reduceMul, Int.reduceToNat, Nat.reduceLeDiff, Nat.reduceEqDiff, Nat.reduceLT, Nat.reduceGT, Int.reduceGT, Int.reduceGE, Int.reduceLT, Int.reduceLE, Int.reduceEq, Int.reduceAdd, Int.reduceSub, Int.reduceNeg, reduceCtorEq, if_true, if_false, ite_true, ite_false, ne_eq, eq_self, OPK_, KEY_, WR_, CHK_, Nat.reduceBEq, K4_, K5_, K6_, K7_]
  refine h0 _ _ _ _ ?_
  simp only [RUN_, U_hourglasslaw24_of, FR_, Nat.reducePow, Int.reducePow, Nat.reduceAdd, Nat.reduceSub, Nat.reduceMul, Int.reduceToNat, Nat.reduceLeDiff, Nat.reduceEqDiff, Nat.reduceLT, Nat.reduceGT, Int.reduceGT, Int.reduceGE, Int.reduceLT, Int.reduceLE, Int.reduceEq, Int.reduceAdd, Int.reduceSub, Int.reduceNeg, reduceCtorEq, if_true, if_false, ite_true, ite_false, ne_eq, eq_self, OPK_, KEY_, WR_, CHK_, Nat.reduceBEq, K4_, K5_, K6_, K7_]
  refine h1 _ _ _ _ ?_
  simp only [RUN_, U_hourglasslaw24_of, FR_, Nat.reducePow, Int.reducePow, Nat.reduceAdd, Nat.reduceSub, Nat.reduceMul, Int.reduceToNat, Nat.reduceLeDiff, Nat.reduceEqDiff, Nat.reduceLT, Nat.reduceGT, Int.reduceGT, Int.reduceGE, Int.reduceLT, Int.reduceLE, Int.reduceEq, Int.reduceAdd, Int.reduceSub, Int.reduceNeg, reduceCtorEq, if_true, if_false, ite_true, ite_false, ne_eq, eq_self, OPK_, KEY_, WR_, CHK_, Nat.reduceBEq, K4_, K5_, K6_, K7_, stc]
  exact hK
def OfTS (C : CallW) (f : FuncId) : Prop := ∀ (id snap t : Int) (s v : List UInt8), FnS C f [.s (.int .i64 id), .s (.int .i64 snap), .s (.int .i64 t), .s (.str s), .s (.str v)] (.agg (txc (ofT id snap t s v)))
theorem ofV_wk (id snap t : Int) (s v : List UInt8) : WkL [(ofV id snap t s v).sh] [.agg (txc (ofT id snap t s v))] := by
  refine .agg (.same (.same (.same (.same (.same (.same (.nilS (by omega) (.full .nil)))))))) ?_ .nil
  intro c hc
  simp only [txc, List.mem_cons, List.not_mem_nil, or_false] at hc
  rcases hc with rfl | rfl | rfl | rfl | rfl | rfl | rfl | rfl <;> rfl

def CheckS (C : CallW) (f : FuncId) : Prop := ∀ (l : List Tx) S H (K : AV → St → Prop), l.length < 9223372036854775807 → okT l → (∀ G, K (fltA (checkT l).1 (checkT l).2.1 (checkT l).2.2) ⟨S, H ++ G⟩) → C (.fn f) [lstT l] ⟨S, H⟩ K
set_option maxHeartbeats 4000000 in
theorem awake24_spec {C : CallW} (hW : WkC C) (P : Program) {c : Nat → FuncId} (h0 : OfTS C (c 0)) (h1 : CheckS C (c 1)) : ∀ S H (K : AV → St → Prop), (∀ G, K (.bool true) ⟨S, H ++ G⟩) → runL C P (C_hourglasslaw24_awake c) [] ⟨S, H⟩ K := by
  intro S H K hK
  have e1 : checkT [ofT 1 0 1 [97] [120], ofT 2 0 2 [97] [121]] = (3, 0, 1) := by decide
  have e2 : checkT [ofT 1 0 1 [97] [120], ofT 2 1 2 [97] [121]] = (0, -1, -1) := by decide
  have hok : ∀ a b c d e a' b' c' d' e', okT [ofT a b c d e, ofT a' b' c' d' e'] := by
    intro a b c d e a' b' c' d' e' x hx
    simp only [List.mem_cons, List.not_mem_nil, or_false] at hx
    rcases hx with rfl | rfl <;> simp [ofT]
  have h0' : ∀ (id snap t : Int) (s v : List UInt8) S H (K : AV → St → Prop), K (.agg (txc (ofT id snap t s v))) ⟨S, H⟩ → C (.fn (c 0)) [.s (.int .i64 id), .s (.int .i64 snap), .s (.int .i64 t), .s (.str s), .s (.str v)] ⟨S, H⟩ K := h0
  have ht : ∀ x : Tx, AV.agg (txc x) = txA x := fun x => rfl
  have sh : ∀ x : Tx, (txA x).sh = txA x ∧ (txA x).look = txA x ∧ (txA x).left = txA x ∧ (txA x).calm = txA x ∧ (txA x).fit = true ∧ (txA x).cells = txc x := fun x => ⟨rfl, rfl, rfl, rfl, rfl, rfl⟩
  have hbsl : ∀ x y : Tx, bslL ⟨8, true, 96, (.agg [(.s (.int .i64 0)), (.s (.int .i64 0)), (.s (.int .u8 0)), (.s (.int .i64 0)), (.s (.int .u8 0)), (.s (.bool false)), (.s .nilS), (.s .nilS)])⟩ 2 [(0, .agg (txc x)), (1, .agg (txc y))] = some (.list .full 8 ([x, y].map txA)) := fun x y => rfl
  simp only [C_hourglasslaw24_awake, RUN_, U_hourglasslaw24_awake, FR_, Nat.reducePow, Int.reducePow, Nat.reduceAdd, Nat.reduceSub, Nat.reduceMul, Int.reduceToNat, Nat.reduceLeDiff, Nat.reduceEqDiff, Nat.reduceLT, Nat.reduceGT, Int.reduceGT, Int.reduceGE, Int.reduceLT, Int.reduceLE, Int.reduceEq, Int.reduceAdd, Int.reduceSub, Int.reduceNeg, reduceCtorEq, if_true, if_false, ite_true, ite_false, ne_eq, eq_self, OPK_, KEY_, WR_, CHK_, Nat.reduceBEq, K4_, K5_, K6_, K7_]
  refine h0' 1 0 1 [97] [120] _ _ _ ?_
  simp only [RUN_, U_hourglasslaw24_awake, FR_, Nat.reducePow, Int.reducePow, Nat.reduceAdd, Nat.reduceSub, Nat.reduceMul, Int.reduceToNat, Nat.reduceLeDiff, Nat.reduceEqDiff, Nat.reduceLT, Nat.reduceGT, Int.reduceGT, Int.reduceGE, Int.reduceLT, Int.reduceLE, Int.reduceEq, Int.reduceAdd, Int.reduceSub, Int.reduceNeg, reduceCtorEq, if_true, if_false, ite_true, ite_false, ne_eq, eq_self, OPK_, K5_]
  refine h0' 2 0 2 [97] [121] _ _ _ ?_
  simp only [RUN_, U_hourglasslaw24_awake, FR_, Nat.reducePow, Int.reducePow, Nat.reduceAdd, Nat.reduceSub, Nat.reduceMul, Int.reduceToNat, Nat.reduceLeDiff, Nat.reduceEqDiff, Nat.reduceLT, Nat.reduceGT, Int.reduceGT, Int.reduceGE, Int.reduceLT, Int.reduceLE, Int.reduceEq, Int.reduceAdd, Int.reduceSub, Int.reduceNeg, reduceCtorEq, if_true, if_false, ite_true, ite_false, ne_eq, eq_self, OPK_, K5_, hbsl]
  refine hW _ _ [lstT [_, _]] _ _ (.full .nil) ?_
  refine h1 _ _ _ _ (by simp) (hok _ _ _ _ _ _ _ _ _ _) fun G => ?_
  rw [e1]
  simp only [fltA, RUN_, U_hourglasslaw24_awake, FR_, Nat.reducePow, Int.reducePow, Nat.reduceAdd, Nat.reduceSub, Nat.reduceMul, Int.reduceToNat, Nat.reduceLeDiff, Nat.reduceEqDiff, Nat.reduceLT, Nat.reduceGT, Int.reduceGT, Int.reduceGE, Int.reduceLT, Int.reduceLE, Int.reduceEq, Int.reduceAdd, Int.reduceSub, Int.reduceNeg, reduceCtorEq, if_true, if_false, ite_true, ite_false, ne_eq, eq_self, OPK_, KEY_, WR_, CHK_, Nat.reduceBEq, K4_, K5_, K6_, K7_]
  refine h0' 1 0 1 [97] [120] _ _ _ ?_
  simp only [RUN_, U_hourglasslaw24_awake, FR_, Nat.reducePow, Int.reducePow, Nat.reduceAdd, Nat.reduceSub, Nat.reduceMul, Int.reduceToNat, Nat.reduceLeDiff, Nat.reduceEqDiff, Nat.reduceLT, Nat.reduceGT, Int.reduceGT, Int.reduceGE, Int.reduceLT, Int.reduceLE, Int.reduceEq, Int.reduceAdd, Int.reduceSub, Int.reduceNeg, reduceCtorEq, if_true, if_false, ite_true, ite_false, ne_eq, eq_self, OPK_, K5_]
  refine h0' 2 1 2 [97] [121] _ _ _ ?_
  simp only [RUN_, U_hourglasslaw24_awake, FR_, Nat.reducePow, Int.reducePow, Nat.reduceAdd, Nat.reduceSub, Nat.reduceMul, Int.reduceToNat, Nat.reduceLeDiff, Nat.reduceEqDiff, Nat.reduceLT, Nat.reduceGT, Int.reduceGT, Int.reduceGE, Int.reduceLT, Int.reduceLE, Int.reduceEq, Int.reduceAdd, Int.reduceSub, Int.reduceNeg, reduceCtorEq, if_true, if_false, ite_true, ite_false, ne_eq, eq_self, OPK_, K5_, hbsl]
  refine hW _ _ [lstT [_, _]] _ _ (.full .nil) ?_
  refine h1 _ _ _ _ (by simp) (hok _ _ _ _ _ _ _ _ _ _) fun G => ?_
  rw [e2]
  simp only [fltA, RUN_, U_hourglasslaw24_awake, FR_, Nat.reducePow, Int.reducePow, Nat.reduceAdd, Nat.reduceSub, Nat.reduceMul, Int.reduceToNat, Nat.reduceLeDiff, Nat.reduceEqDiff, Nat.reduceLT, Nat.reduceGT, Int.reduceGT, Int.reduceGE, Int.reduceLT, Int.reduceLE, Int.reduceEq, Int.reduceAdd, Int.reduceSub, Int.reduceNeg, reduceCtorEq, if_true, if_false, ite_true, ite_false, ne_eq, eq_self, OPK_, KEY_, WR_, CHK_, Nat.reduceBEq, K4_, K5_, K6_, K7_]
  exact hK _
end Go.AM
namespace Go.AM
open Go
set_option maxRecDepth 20000
set_option linter.unusedSimpArgs false
set_option linter.unusedVariables false

def greatT (l : List Tx) : Bool := decide (15 < l.length) || l.any fun x => decide (10 < x.reads.length) || decide (10 < x.writes.length)
def GreatS (C : CallW) (f : FuncId) : Prop := ∀ (l : List Tx) S H (K : AV → St → Prop), l.length ≤ 9223372036854775807 → K (.bool (greatT l)) ⟨S, H⟩ → C (.fn f) [lstT l] ⟨S, H⟩ K
set_option maxHeartbeats 2000000 in
theorem great_spec {C : CallW} (hC : LeC C C) (P : Program) : ∀ (l : List Tx) S H (K : AV → St → Prop), l.length ≤ 9223372036854775807 → K (.bool (greatT l)) ⟨S, H⟩ → runL C P C_hourglasslaw24_great [lstT l] ⟨S, H⟩ K := by
  intro l S H K hl hK
  by_cases h15 : 15 < l.length
  · have h15' : (15 : Int) < (l.length : Int) := by omega
    rw [show greatT l = true by simp [greatT, h15]] at hK
    simp only [lstT, C_hourglasslaw24_great, RUN_, U_hourglasslaw24_great, FR_, Nat.reducePow, Int.reducePow, Nat.reduceAdd, Nat.reduceSub, Nat.reduceMul, Int.reduceToNat, Nat.reduceLeDiff, Nat.reduceEqDiff, Nat.reduceLT, Nat.reduceGT, Int.reduceGT, Int.reduceGE, Int.reduceLT, Int.reduceLE, Int.reduceEq, Int.reduceAdd, Int.reduceSub, Int.reduceNeg, reduceCtorEq, if_true, if_false, ite_true, ite_false, ne_eq, eq_self, OPK_, KEY_, WR_, CHK_, Nat.reduceBEq, K4_, K5_, K6_, K7_, h15']
    exact hK
  · have h15' : ¬ ((15 : Int) < (l.length : Int)) := by omega
    rw [show greatT l = l.any fun x => decide (10 < x.reads.length) || decide (10 < x.writes.length) by simp [greatT, h15]] at hK
    simp only [lstT, C_hourglasslaw24_great, RUN_, U_hourglasslaw24_great, FR_, Nat.reducePow, Int.reducePow, Nat.reduceAdd, Nat.reduceSub, Nat.reduceMul, Int.reduceToNat, Nat.reduceLeDiff, Nat.reduceEqDiff, Nat.reduceLT, Nat.reduceGT, Int.reduceGT, Int.reduceGE, Int.reduceLT, Int.reduceLE, Int.reduceEq, Int.reduceAdd, Int.reduceSub, Int.reduceNeg, reduceCtorEq, if_true, if_false, ite_true, ite_false, ne_eq, eq_self, OPK_, KEY_, WR_, CHK_, Nat.reduceBEq, K4_, K5_, K6_, K7_, h15']
    refine loop_rule hC (α := Nat) (fun a => l.length - a) (fun a => [.list .sh 8 (l.map txA), .undef, .undef, .s (.int .i64 a), .undef, .undef, .undef, .undef, .undef, .undef, .undef, .undef, .undef, .undef, .undef, .undef, .undef, .undef, .undef, .undef, .undef, .undef, .undef, .undef, .undef, .undef, .undef, .undef, .undef]) (fun a => S) (fun a => H) (fun a => a ≤ l.length ∧ (l.any fun x => decide (10 < x.reads.length) || decide (10 < x.writes.length)) = (l.drop a).any fun x => decide (10 < x.reads.length) || decide (10 < x.writes.length)) 0 ⟨by simp, rfl⟩ rfl (by simp) rfl (fun a _ => by simp [AV.under, AV.under.go]) ?_
    rintro i ⟨hi, hinv⟩ ih
    by_cases h16 : i < l.length
    · have hlt : ((i : Int) < (l.length : Int)) := by omega
      have hw : IntKind.i64.wrap ((i : Int) + 1) = (i : Int) + 1 := wrap_i64 (by omega) (by omega)
      rw [List.drop_eq_getElem_cons h16, List.any_cons] at hinv
      by_cases h1 : 10 < (l[i]).reads.length
      · have h1' : (10 : Int) < ((l[i]).reads.length : Int) := by omega
        rw [decide_eq_true h1, Bool.true_or, Bool.true_or] at hinv
        rw [hinv] at hK
        simp only [RUN_, U_hourglasslaw24_great, FR_, Nat.reducePow, Int.reducePow, Nat.reduceAdd, Nat.reduceSub, Nat.reduceMul, Int.reduceToNat, Nat.reduceLeDiff, Nat.reduceEqDiff, Nat.reduceLT, Nat.reduceGT, Int.reduceGT, Int.reduceGE, Int.reduceLT, Int.reduceLE, Int.reduceEq, Int.reduceAdd, Int.reduceSub, Int.reduceNeg, reduceCtorEq, if_true, if_false, ite_true, ite_false, ne_eq, eq_self, OPK_, KEY_, WR_, CHK_, Nat.reduceBEq, K4_, K5_, K6_, K7_, hlt, h16, h1']
        exact hK
      · have h1' : ¬ ((10 : Int) < ((l[i]).reads.length : Int)) := by omega
        rw [decide_eq_false h1, Bool.false_or] at hinv
        by_cases h2 : 10 < (l[i]).writes.length
        · have h2' : (10 : Int) < ((l[i]).writes.length : Int) := by omega
          rw [decide_eq_true h2, Bool.true_or] at hinv
          rw [hinv] at hK
          simp only [RUN_, U_hourglasslaw24_great, FR_, Nat.reducePow, Int.reducePow, Nat.reduceAdd, Nat.reduceSub, Nat.reduceMul, Int.reduceToNat, Nat.reduceLeDiff, Nat.reduceEqDiff, Nat.reduceLT, Nat.reduceGT, Int.reduceGT, Int.reduceGE, Int.reduceLT, Int.reduceLE, Int.reduceEq, Int.reduceAdd, Int.reduceSub, Int.reduceNeg, reduceCtorEq, if_true, if_false, ite_true, ite_false, ne_eq, eq_self, OPK_, KEY_, WR_, CHK_, Nat.reduceBEq, K4_, K5_, K6_, K7_, hlt, h16, h1', h2']
          exact hK
        · have h2' : ¬ ((10 : Int) < ((l[i]).writes.length : Int)) := by omega
          rw [decide_eq_false h2, Bool.false_or] at hinv
          simp only [RUN_, U_hourglasslaw24_great, FR_, Nat.reducePow, Int.reducePow, Nat.reduceAdd, Nat.reduceSub, Nat.reduceMul, Int.reduceToNat, Nat.reduceLeDiff, Nat.reduceEqDiff, Nat.reduceLT, Nat.reduceGT, Int.reduceGT, Int.reduceGE, Int.reduceLT, Int.reduceLE, Int.reduceEq, Int.reduceAdd, Int.reduceSub, Int.reduceNeg, reduceCtorEq, if_true, if_false, ite_true, ite_false, ne_eq, eq_self, OPK_, KEY_, WR_, CHK_, Nat.reduceBEq, K4_, K5_, K6_, K7_, hlt, h16, h1', h2', hw]
          exact ih (i + 1) _ _ _ (by omega) ⟨by omega, hinv⟩ rfl (by simp) rfl
    · have hlt : ¬ ((i : Int) < (l.length : Int)) := by omega
      rw [List.drop_of_length_le (by omega)] at hinv
      rw [hinv] at hK
      simp only [RUN_, U_hourglasslaw24_great, FR_, Nat.reducePow, Int.reducePow, Nat.reduceAdd, Nat.reduceSub, Nat.reduceMul, Int.reduceToNat, Nat.reduceLeDiff, Nat.reduceEqDiff, Nat.reduceLT, Nat.reduceGT, Int.reduceGT, Int.reduceGE, Int.reduceLT, Int.reduceLE, Int.reduceEq, Int.reduceAdd, Int.reduceSub, Int.reduceNeg, reduceCtorEq, if_true, if_false, ite_true, ite_false, ne_eq, eq_self, OPK_, KEY_, WR_, CHK_, Nat.reduceBEq, K4_, K5_, K6_, K7_, hlt]
      exact hK
theorem great_false {l : List Tx} (h : greatT l = false) : l.length ≤ 15 ∧ okT l := by
  unfold greatT at h
  rw [Bool.or_eq_false_iff] at h
  refine ⟨by simpa using h.1, fun x hx => ?_⟩
  have := List.any_eq_false.1 h.2 x hx
  simp only [Bool.or_eq_true, decide_eq_true_eq] at this
  omega
theorem txA_low {n : Nat} : ∀ {l : List Tx}, AV.under.go n (l.map txA) = true
  | [] => rfl
  | k :: l => by
    simp only [List.map_cons, AV.under.go, txA_low (l := l), Bool.and_true]
    show AV.under.go n (txc k) = true
    simp [txc, AV.under.go, AV.under, under_u8]
theorem txA_under {n : Nat} {x : Tx} : AV.under n (txA x) = true := by
  show AV.under.go n (txc x) = true
  simp [txc, AV.under.go, AV.under, under_u8]

def AwakeS (C : CallW) (f : FuncId) : Prop := ∀ S H (K : AV → St → Prop), (∀ G, K (.bool true) ⟨S, H ++ G⟩) → C (.fn f) [] ⟨S, H⟩ K
def txz : AV := (.agg [(.s (.int .i64 0)), (.s (.int .i64 0)), (.s (.int .u8 0)), (.s (.int .i64 0)), (.s (.int .u8 0)), (.s (.bool false)), (.s .nilS), (.s .nilS)])
set_option maxHeartbeats 8000000 in
theorem HistLess_spec {C : CallW} (hW : WkC C) (P : Program) {c : Nat → FuncId} (h0 : AwakeS C (c 0)) (h1 : GreatS C (c 1)) (h2 : CheckS C (c 2)) (h3 : AtS C (c 3)) (h4 : ∀ a : Stp, FnS C (c 4) [.agg (stc a)] (.bool (goodS a))) : ∀ (l : List Tx) (n : Int) S H (K : AV → St → Prop), l.length ≤ 9223372036854775807 → (∀ G, K (.bool true) ⟨S, H ++ G⟩) → runL C P (C_hourglasslaw24_HistLess c) [lstT l, .s (.int .i64 n)] ⟨S, H⟩ K := by
  intro l n S H K hl hK
  have h1' := h1 l
  have h2' := h2 l
  unfold lstT at h1' h2'
  simp only [lstT, C_hourglasslaw24_HistLess, RUN_, U_hourglasslaw24_HistLess, FR_, Nat.reducePow, Int.reducePow, Nat.reduceAdd, Nat.reduceSub, Nat.reduceMul, Int.reduceToNat, Nat.reduceLeDiff, Nat.reduceEqDiff, Nat.reduceLT, Nat.reduceGT, Int.reduceGT, Int.reduceGE, Int.reduceLT, Int.reduceLE, Int.reduceEq, Int.reduceAdd, Int.reduceSub, Int.reduceNeg, reduceCtorEq, if_true, if_false, ite_true, ite_false, ne_eq, eq_self, OPK_, KEY_, WR_, CHK_, Nat.reduceBEq, K4_, K5_, K6_, K7_]
  refine h0 _ _ _ fun G => ?_
  simp only [RUN_, U_hourglasslaw24_HistLess, FR_, Nat.reducePow, Int.reducePow, Nat.reduceAdd, Nat.reduceSub, Nat.reduceMul, Int.reduceToNat, Nat.reduceLeDiff, Nat.reduceEqDiff, Nat.reduceLT, Nat.reduceGT, Int.reduceGT, Int.reduceGE, Int.reduceLT, Int.reduceLE, Int.reduceEq, Int.reduceAdd, Int.reduceSub, Int.reduceNeg, reduceCtorEq, if_true, if_false, ite_true, ite_false, ne_eq, eq_self, OPK_, KEY_, WR_, CHK_, Nat.reduceBEq, K4_, K5_, K6_, K7_]
  refine h1' _ _ _ hl ?_
  cases hg : greatT l with
  | true =>
    simp only [RUN_, U_hourglasslaw24_HistLess, FR_, Nat.reducePow, Int.reducePow, Nat.reduceAdd, Nat.reduceSub, Nat.reduceMul, Int.reduceToNat, Nat.reduceLeDiff, Nat.reduceEqDiff, Nat.reduceLT, Nat.reduceGT, Int.reduceGT, Int.reduceGE, Int.reduceLT, Int.reduceLE, Int.reduceEq, Int.reduceAdd, Int.reduceSub, Int.reduceNeg, reduceCtorEq, if_true, if_false, ite_true, ite_false, ne_eq, eq_self, OPK_, KEY_, WR_, CHK_, Nat.reduceBEq, K4_, K5_, K6_, K7_]
    exact hK _
  | false =>
  obtain ⟨hl15, hok⟩ := great_false hg
  by_cases hn0 : n < 0
  · simp only [RUN_, U_hourglasslaw24_HistLess, FR_, Nat.reducePow, Int.reducePow, Nat.reduceAdd, Nat.reduceSub, Nat.reduceMul, Int.reduceToNat, Nat.reduceLeDiff, Nat.reduceEqDiff, Nat.reduceLT, Nat.reduceGT, Int.reduceGT, Int.reduceGE, Int.reduceLT, Int.reduceLE, Int.reduceEq, Int.reduceAdd, Int.reduceSub, Int.reduceNeg, reduceCtorEq, if_true, if_false, ite_true, ite_false, ne_eq, eq_self, OPK_, KEY_, WR_, CHK_, Nat.reduceBEq, K4_, K5_, K6_, K7_, hn0]
    exact hK _
  obtain ⟨m, rfl⟩ : ∃ m : Nat, n = (m : Int) := ⟨n.toNat, by omega⟩
  by_cases hnl : m < l.length
  case neg =>
    have hnl' : (l.length : Int) ≤ (m : Int) := by omega
    simp only [RUN_, U_hourglasslaw24_HistLess, FR_, Nat.reducePow, Int.reducePow, Nat.reduceAdd, Nat.reduceSub, Nat.reduceMul, Int.reduceToNat, Nat.reduceLeDiff, Nat.reduceEqDiff, Nat.reduceLT, Nat.reduceGT, Int.reduceGT, Int.reduceGE, Int.reduceLT, Int.reduceLE, Int.reduceEq, Int.reduceAdd, Int.reduceSub, Int.reduceNeg, reduceCtorEq, if_true, if_false, ite_true, ite_false, ne_eq, eq_self, OPK_, KEY_, WR_, CHK_, Nat.reduceBEq, K4_, K5_, K6_, K7_, hn0, hnl']
    exact hK _
  have hnl' : ¬ ((l.length : Int) ≤ (m : Int)) := by omega
  have hmw : IntKind.i64.wrap ((m : Int) + 1) = ((m + 1 : Nat) : Int) := by rw [wrap_i64 (by omega) (by omega)]; rfl
  have hlm : (l.map txA).length = l.length := List.length_map _
  obtain ⟨fl1, o1, a1⟩ := app_join (e := ⟨8, true, 96, (.agg [(.s (.int .i64 0)), (.s (.int .i64 0)), (.s (.int .u8 0)), (.s (.int .i64 0)), (.s (.int .u8 0)), (.s (.bool false)), (.s .nilS), (.s .nilS)])⟩) (fl := .full) (fl2 := .sh) (es := []) (items := (l.map txA).take m) Own1.full0 (by rw [← List.map_take]; exact txA_low) (by simp; omega)
  obtain ⟨fl2, o2, a2⟩ := app_join (e := ⟨8, true, 96, (.agg [(.s (.int .i64 0)), (.s (.int .i64 0)), (.s (.int .u8 0)), (.s (.int .i64 0)), (.s (.int .u8 0)), (.s (.bool false)), (.s .nilS), (.s .nilS)])⟩) (fl := fl1) (fl2 := .sh) (es := [] ++ (l.map txA).take m) (items := (l.map txA).drop (m + 1)) o1 (by rw [← List.map_drop]; exact txA_low) (by simp; omega)
  dsimp only at a1 a2
  have o3 : WkF [.list fl2 8 ([] ++ (l.map txA).take m ++ (l.map txA).drop (m + 1))] [lstT (l.take m ++ l.drop (m + 1))] := by
    have := o2.wk (c := 8) WkF.nil
    unfold lstT
    rw [List.map_append, List.map_take, List.map_drop]
    simpa using this
  simp only [List.nil_append] at a1 a2 o3
  have hm1 : m ≤ l.length := by omega
  have hm2 : m + 1 ≤ l.length := by omega
  have hok' : okT (l.take m ++ l.drop (m + 1)) := fun x hx => by
    rcases List.mem_append.1 hx with h | h
    · exact hok x (List.mem_of_mem_take h)
    · exact hok x (List.mem_of_mem_drop h)
  cases hd : (l[m]).done with
  | false =>
    have hwr : wroteT l[m] = false := by unfold wroteT; rw [hd]; rfl
    simp only [RUN_, U_hourglasslaw24_HistLess, FR_, Nat.reducePow, Int.reducePow, Nat.reduceAdd, Nat.reduceSub, Nat.reduceMul, Int.reduceToNat, Nat.reduceLeDiff, Nat.reduceEqDiff, Nat.reduceLT, Nat.reduceGT, Int.reduceGT, Int.reduceGE, Int.reduceLT, Int.reduceLE, Int.reduceEq, Int.reduceAdd, Int.reduceSub, Int.reduceNeg, reduceCtorEq, if_true, if_false, ite_true, ite_false, ne_eq, eq_self, OPK_, KEY_, WR_, CHK_, Nat.reduceBEq, K4_, K5_, K6_, K7_, hn0, hnl', hnl, hd]
    refine h2' _ _ _ (by omega) hok fun G2 => ?_
    by_cases hk : (checkT l).1 = 0
    · have hk' := eq_true hk
      simp only [fltA, RUN_, U_hourglasslaw24_HistLess, FR_, Nat.reducePow, Int.reducePow, Nat.reduceAdd, Nat.reduceSub, Nat.reduceMul, Int.reduceToNat, Nat.reduceLeDiff, Nat.reduceEqDiff, Nat.reduceLT, Nat.reduceGT, Int.reduceGT, Int.reduceGE, Int.reduceLT, Int.reduceLE, Int.reduceEq, Int.reduceAdd, Int.reduceSub, Int.reduceNeg, reduceCtorEq, if_true, if_false, ite_true, ite_false, ne_eq, eq_self, OPK_, KEY_, WR_, CHK_, Nat.reduceBEq, K4_, K5_, K6_, K7_, hk', hmw, hlm, hnl, hm1, hm2, a1, a2]
      refine hW _ _ [lstT (l.take m ++ l.drop (m + 1))] _ _ o3 ?_
      refine h2 _ _ _ _ (by simp; omega) hok' fun G3 => ?_
      have hz := eq_true (kind_less hnl hwr hk)
      simp only [fltA, RUN_, U_hourglasslaw24_HistLess, FR_, Nat.reducePow, Int.reducePow, Nat.reduceAdd, Nat.reduceSub, Nat.reduceMul, Int.reduceToNat, Nat.reduceLeDiff, Nat.reduceEqDiff, Nat.reduceLT, Nat.reduceGT, Int.reduceGT, Int.reduceGE, Int.reduceLT, Int.reduceLE, Int.reduceEq, Int.reduceAdd, Int.reduceSub, Int.reduceNeg, reduceCtorEq, if_true, if_false, ite_true, ite_false, ne_eq, eq_self, OPK_, KEY_, WR_, CHK_, Nat.reduceBEq, K4_, K5_, K6_, K7_, hz]
      refine h3 _ _ _ _ ?_
      simp only [RUN_, U_hourglasslaw24_HistLess, FR_, Nat.reducePow, Int.reducePow, Nat.reduceAdd, Nat.reduceSub, Nat.reduceMul, Int.reduceToNat, Nat.reduceLeDiff, Nat.reduceEqDiff, Nat.reduceLT, Nat.reduceGT, Int.reduceGT, Int.reduceGE, Int.reduceLT, Int.reduceLE, Int.reduceEq, Int.reduceAdd, Int.reduceSub, Int.reduceNeg, reduceCtorEq, if_true, if_false, ite_true, ite_false, ne_eq, eq_self, OPK_, KEY_, WR_, CHK_, Nat.reduceBEq, K4_, K5_, K6_, K7_]
      refine h4 _ _ _ _ ?_
      simp only [RUN_, U_hourglasslaw24_HistLess, FR_, Nat.reducePow, Int.reducePow, Nat.reduceAdd, Nat.reduceSub, Nat.reduceMul, Int.reduceToNat, Nat.reduceLeDiff, Nat.reduceEqDiff, Nat.reduceLT, Nat.reduceGT, Int.reduceGT, Int.reduceGE, Int.reduceLT, Int.reduceLE, Int.reduceEq, Int.reduceAdd, Int.reduceSub, Int.reduceNeg, reduceCtorEq, if_true, if_false, ite_true, ite_false, ne_eq, eq_self, OPK_, KEY_, WR_, CHK_, Nat.reduceBEq, K4_, K5_, K6_, K7_]
      exact hK _
    · simp only [fltA, RUN_, U_hourglasslaw24_HistLess, FR_, Nat.reducePow, Int.reducePow, Nat.reduceAdd, Nat.reduceSub, Nat.reduceMul, Int.reduceToNat, Nat.reduceLeDiff, Nat.reduceEqDiff, Nat.reduceLT, Nat.reduceGT, Int.reduceGT, Int.reduceGE, Int.reduceLT, Int.reduceLE, Int.reduceEq, Int.reduceAdd, Int.reduceSub, Int.reduceNeg, reduceCtorEq, if_true, if_false, ite_true, ite_false, ne_eq, eq_self, OPK_, KEY_, WR_, CHK_, Nat.reduceBEq, K4_, K5_, K6_, K7_, hk]
      exact hK _
  | true =>
    by_cases hw0 : 0 < (l[m]).writes.length
    · have hw0' : (0 : Int) < ((l[m]).writes.length : Int) := by omega
      simp only [RUN_, U_hourglasslaw24_HistLess, FR_, Nat.reducePow, Int.reducePow, Nat.reduceAdd, Nat.reduceSub, Nat.reduceMul, Int.reduceToNat, Nat.reduceLeDiff, Nat.reduceEqDiff, Nat.reduceLT, Nat.reduceGT, Int.reduceGT, Int.reduceGE, Int.reduceLT, Int.reduceLE, Int.reduceEq, Int.reduceAdd, Int.reduceSub, Int.reduceNeg, reduceCtorEq, if_true, if_false, ite_true, ite_false, ne_eq, eq_self, OPK_, KEY_, WR_, CHK_, Nat.reduceBEq, K4_, K5_, K6_, K7_, hn0, hnl', hnl, hd, hw0']
      exact hK _
    · have hw0' : ¬ ((0 : Int) < ((l[m]).writes.length : Int)) := by omega
      have hwr : wroteT l[m] = false := by unfold wroteT; rw [decide_eq_false hw0, Bool.and_false]
      simp only [RUN_, U_hourglasslaw24_HistLess, FR_, Nat.reducePow, Int.reducePow, Nat.reduceAdd, Nat.reduceSub, Nat.reduceMul, Int.reduceToNat, Nat.reduceLeDiff, Nat.reduceEqDiff, Nat.reduceLT, Nat.reduceGT, Int.reduceGT, Int.reduceGE, Int.reduceLT, Int.reduceLE, Int.reduceEq, Int.reduceAdd, Int.reduceSub, Int.reduceNeg, reduceCtorEq, if_true, if_false, ite_true, ite_false, ne_eq, eq_self, OPK_, KEY_, WR_, CHK_, Nat.reduceBEq, K4_, K5_, K6_, K7_, hn0, hnl', hnl, hd, hw0']
      refine h2' _ _ _ (by omega) hok fun G2 => ?_
      by_cases hk : (checkT l).1 = 0
      · have hk' := eq_true hk
        simp only [fltA, RUN_, U_hourglasslaw24_HistLess, FR_, Nat.reducePow, Int.reducePow, Nat.reduceAdd, Nat.reduceSub, Nat.reduceMul, Int.reduceToNat, Nat.reduceLeDiff, Nat.reduceEqDiff, Nat.reduceLT, Nat.reduceGT, Int.reduceGT, Int.reduceGE, Int.reduceLT, Int.reduceLE, Int.reduceEq, Int.reduceAdd, Int.reduceSub, Int.reduceNeg, reduceCtorEq, if_true, if_false, ite_true, ite_false, ne_eq, eq_self, OPK_, KEY_, WR_, CHK_, Nat.reduceBEq, K4_, K5_, K6_, K7_, hk', hmw, hlm, hnl, hm1, hm2, a1, a2]
        refine hW _ _ [lstT (l.take m ++ l.drop (m + 1))] _ _ o3 ?_
        refine h2 _ _ _ _ (by simp; omega) hok' fun G3 => ?_
        have hz := eq_true (kind_less hnl hwr hk)
        simp only [fltA, RUN_, U_hourglasslaw24_HistLess, FR_, Nat.reducePow, Int.reducePow, Nat.reduceAdd, Nat.reduceSub, Nat.reduceMul, Int.reduceToNat, Nat.reduceLeDiff, Nat.reduceEqDiff, Nat.reduceLT, Nat.reduceGT, Int.reduceGT, Int.reduceGE, Int.reduceLT, Int.reduceLE, Int.reduceEq, Int.reduceAdd, Int.reduceSub, Int.reduceNeg, reduceCtorEq, if_true, if_false, ite_true, ite_false, ne_eq, eq_self, OPK_, KEY_, WR_, CHK_, Nat.reduceBEq, K4_, K5_, K6_, K7_, hz]
        refine h3 _ _ _ _ ?_
        simp only [RUN_, U_hourglasslaw24_HistLess, FR_, Nat.reducePow, Int.reducePow, Nat.reduceAdd, Nat.reduceSub, Nat.reduceMul, Int.reduceToNat, Nat.reduceLeDiff, Nat.reduceEqDiff, Nat.reduceLT, Nat.reduceGT, Int.reduceGT, Int.reduceGE, Int.reduceLT, Int.reduceLE, Int.reduceEq, Int.reduceAdd, Int.reduceSub, Int.reduceNeg, reduceCtorEq, if_true, if_false, ite_true, ite_false, ne_eq, eq_self, OPK_, KEY_, WR_, CHK_, Nat.reduceBEq, K4_, K5_, K6_, K7_]
        refine h4 _ _ _ _ ?_
        simp only [RUN_, U_hourglasslaw24_HistLess, FR_, Nat.reducePow, Int.reducePow, Nat.reduceAdd, Nat.reduceSub, Nat.reduceMul, Int.reduceToNat, Nat.reduceLeDiff, Nat.reduceEqDiff, Nat.reduceLT, Nat.reduceGT, Int.reduceGT, Int.reduceGE, Int.reduceLT, Int.reduceLE, Int.reduceEq, Int.reduceAdd, Int.reduceSub, Int.reduceNeg, reduceCtorEq, if_true, if_false, ite_true, ite_false, ne_eq, eq_self, OPK_, KEY_, WR_, CHK_, Nat.reduceBEq, K4_, K5_, K6_, K7_]
        exact hK _
      · simp only [fltA, RUN_, U_hourglasslaw24_HistLess, FR_, Nat.reducePow, Int.reducePow, Nat.reduceAdd, Nat.reduceSub, Nat.reduceMul, Int.reduceToNat, Nat.reduceLeDiff, Nat.reduceEqDiff, Nat.reduceLT, Nat.reduceGT, Int.reduceGT, Int.reduceGE, Int.reduceLT, Int.reduceLE, Int.reduceEq, Int.reduceAdd, Int.reduceSub, Int.reduceNeg, reduceCtorEq, if_true, if_false, ite_true, ite_false, ne_eq, eq_self, OPK_, KEY_, WR_, CHK_, Nat.reduceBEq, K4_, K5_, K6_, K7_, hk]
        exact hK _
end Go.AM
namespace Go.AM
open Go
set_option maxRecDepth 20000
set_option linter.unusedSimpArgs false
set_option linter.unusedVariables false

set_option maxHeartbeats 8000000 in
theorem HistOrder_spec {C : CallW} (hC : LeC C C) (hW : WkC C) (P : Program) {c : Nat → FuncId} (h0 : AwakeS C (c 0)) (h1 : GreatS C (c 1)) (h2 : CheckS C (c 2)) : ∀ (l : List Tx) S H (K : AV → St → Prop), l.length ≤ 9223372036854775807 → (∀ G, K (.bool true) ⟨S, H ++ G⟩) → runL C P (C_hourglasslaw24_HistOrder c) [lstT l] ⟨S, H⟩ K := by
  intro l S H K hl hK
  have h1' := h1 l
  have h2' := h2 l
  unfold lstT at h1' h2'
  simp only [lstT, C_hourglasslaw24_HistOrder, RUN_, U_hourglasslaw24_HistOrder, FR_, Nat.reducePow, Int.reducePow, Nat.reduceAdd, Nat.reduceSub, Nat.reduceMul, Int.reduceToNat, Nat.reduceLeDiff, Nat.reduceEqDiff, Nat.reduceLT, Nat.reduceGT, Int.reduceGT, Int.reduceGE, Int.reduceLT, Int.reduceLE, Int.reduceEq, Int.reduceAdd, Int.reduceSub, Int.reduceNeg, reduceCtorEq, if_true, if_false, ite_true, ite_false, ne_eq, eq_self, OPK_, KEY_, WR_, CHK_, Nat.reduceBEq, K4_, K5_, K6_, K7_]
  refine h0 _ _ _ fun G => ?_
  simp only [RUN_, U_hourglasslaw24_HistOrder, FR_, Nat.reducePow, Int.reducePow, Nat.reduceAdd, Nat.reduceSub, Nat.reduceMul, Int.reduceToNat, Nat.reduceLeDiff, Nat.reduceEqDiff, Nat.reduceLT, Nat.reduceGT, Int.reduceGT, Int.reduceGE, Int.reduceLT, Int.reduceLE, Int.reduceEq, Int.reduceAdd, Int.reduceSub, Int.reduceNeg, reduceCtorEq, if_true, if_false, ite_true, ite_false, ne_eq, eq_self, OPK_, KEY_, WR_, CHK_, Nat.reduceBEq, K4_, K5_, K6_, K7_]
  refine h1' _ _ _ hl ?_
  cases hg : greatT l with
  | true =>
    simp only [RUN_, U_hourglasslaw24_HistOrder, FR_, Nat.reducePow, Int.reducePow, Nat.reduceAdd, Nat.reduceSub, Nat.reduceMul, Int.reduceToNat, Nat.reduceLeDiff, Nat.reduceEqDiff, Nat.reduceLT, Nat.reduceGT, Int.reduceGT, Int.reduceGE, Int.reduceLT, Int.reduceLE, Int.reduceEq, Int.reduceAdd, Int.reduceSub, Int.reduceNeg, reduceCtorEq, if_true, if_false, ite_true, ite_false, ne_eq, eq_self, OPK_, KEY_, WR_, CHK_, Nat.reduceBEq, K4_, K5_, K6_, K7_]
    exact hK _
  | false =>
  obtain ⟨hl15, hok⟩ := great_false hg
  have hwl := wrap_pred hl
  simp only [RUN_, U_hourglasslaw24_HistOrder, FR_, Nat.reducePow, Int.reducePow, Nat.reduceAdd, Nat.reduceSub, Nat.reduceMul, Int.reduceToNat, Nat.reduceLeDiff, Nat.reduceEqDiff, Nat.reduceLT, Nat.reduceGT, Int.reduceGT, Int.reduceGE, Int.reduceLT, Int.reduceLE, Int.reduceEq, Int.reduceAdd, Int.reduceSub, Int.reduceNeg, reduceCtorEq, if_true, if_false, ite_true, ite_false, ne_eq, eq_self, OPK_, KEY_, WR_, CHK_, Nat.reduceBEq, K4_, K5_, K6_, K7_, hwl]
  refine loop_rule hC (α := Nat) (fun a => a) (fun a => [.list .sh 8 (l.map txA), .undef, .undef, slG 8 ((l.drop a).reverse.map txA), .s (.int .i64 ((a : Int) - 1)), .undef, .undef, .undef, .undef, .undef, .undef, .undef, .undef, .undef, .undef, .undef, .undef, .undef, .undef, .undef, .undef, .undef, .undef, .undef, .undef, .undef, .undef, .undef, .undef, .undef, .undef, .undef, .undef, .undef, .undef, .undef, .undef, .undef, .undef, .undef, .undef, .undef, .undef, .undef]) (fun _ => S) (fun _ => H ++ G) (fun a => a ≤ l.length) l.length (Nat.le_refl _) (by rw [List.drop_length]; rfl) (by simp) rfl (fun a _ => by simp [AV.under, AV.under.go, slG_under]) ?_
  rintro a ha ih
  by_cases h0 : a = 0
  · subst h0
    have hn : ¬ ((0 : Int) ≤ ((0 : Nat) : Int) - 1) := by omega
    have hok' : okT l.reverse := fun x hx => hok x (List.mem_reverse.1 hx)
    have hk := kind_rev l
    simp only [RUN_, U_hourglasslaw24_HistOrder, FR_, Nat.reducePow, Int.reducePow, Nat.reduceAdd, Nat.reduceSub, Nat.reduceMul, Int.reduceToNat, Nat.reduceLeDiff, Nat.reduceEqDiff, Nat.reduceLT, Nat.reduceGT, Int.reduceGT, Int.reduceGE, Int.reduceLT, Int.reduceLE, Int.reduceEq, Int.reduceAdd, Int.reduceSub, Int.reduceNeg, reduceCtorEq, if_true, if_false, ite_true, ite_false, ne_eq, eq_self, OPK_, KEY_, WR_, CHK_, Nat.reduceBEq, K4_, K5_, K6_, K7_, hn]
    refine h2' _ _ _ (by omega) hok fun G2 => ?_
    simp only [fltA, RUN_, U_hourglasslaw24_HistOrder, FR_, Nat.reducePow, Int.reducePow, Nat.reduceAdd, Nat.reduceSub, Nat.reduceMul, Int.reduceToNat, Nat.reduceLeDiff, Nat.reduceEqDiff, Nat.reduceLT, Nat.reduceGT, Int.reduceGT, Int.reduceGE, Int.reduceLT, Int.reduceLE, Int.reduceEq, Int.reduceAdd, Int.reduceSub, Int.reduceNeg, reduceCtorEq, if_true, if_false, ite_true, ite_false, ne_eq, eq_self, OPK_, KEY_, WR_, CHK_, Nat.reduceBEq, K4_, K5_, K6_, K7_]
    refine hW _ _ [lstT l.reverse] _ _ (slG_cases (by omega) .nil) ?_
    refine h2 _ _ _ _ (by simp; omega) hok' fun G3 => ?_
    simp only [fltA, RUN_, U_hourglasslaw24_HistOrder, FR_, Nat.reducePow, Int.reducePow, Nat.reduceAdd, Nat.reduceSub, Nat.reduceMul, Int.reduceToNat, Nat.reduceLeDiff, Nat.reduceEqDiff, Nat.reduceLT, Nat.reduceGT, Int.reduceGT, Int.reduceGE, Int.reduceLT, Int.reduceLE, Int.reduceEq, Int.reduceAdd, Int.reduceSub, Int.reduceNeg, reduceCtorEq, if_true, if_false, ite_true, ite_false, ne_eq, eq_self, OPK_, KEY_, WR_, CHK_, Nat.reduceBEq, K4_, K5_, K6_, K7_, hk]
    exact hK _
  · have hp : ((0 : Int) ≤ (a : Int) - 1) := by omega
    have e : ((a : Int) - 1) = ((a - 1 : Nat) : Int) := by omega
    have hlt : a - 1 < l.length := by omega
    have hw := wrap_pred (i := a - 1) (by omega)
    have happ : ∀ σ, appendL ⟨8, true, 96, (.agg [(.s (.int .i64 0)), (.s (.int .i64 0)), (.s (.int .u8 0)), (.s (.int .i64 0)), (.s (.int .u8 0)), (.s (.bool false)), (.s .nilS), (.s .nilS)])⟩ false (slG 8 ((l.drop a).reverse.map txA)) (.list .full 8 [.agg (txc l[a - 1])]) σ = some (slG 8 ((l.drop (a - 1)).reverse.map txA), σ) := by
      intro σ
      have := app_slG (e := ⟨8, true, 96, (.agg [(.s (.int .i64 0)), (.s (.int .i64 0)), (.s (.int .u8 0)), (.s (.int .i64 0)), (.s (.int .u8 0)), (.s (.bool false)), (.s .nilS), (.s .nilS)])⟩) (es := (l.drop a).reverse.map txA) (a := txA l[a - 1]) (σ := σ) txA_under (by simp; omega)
      rw [show l.drop (a - 1) = l[a - 1] :: l.drop a by rw [List.drop_eq_getElem_cons hlt]; congr 2; omega]
      simp only [List.reverse_cons, List.map_append]
      exact this
    unfold txc at happ
    rw [e] at hp
    simp only [RUN_, U_hourglasslaw24_HistOrder, FR_, Nat.reducePow, Int.reducePow, Nat.reduceAdd, Nat.reduceSub, Nat.reduceMul, Int.reduceToNat, Nat.reduceLeDiff, Nat.reduceEqDiff, Nat.reduceLT, Nat.reduceGT, Int.reduceGT, Int.reduceGE, Int.reduceLT, Int.reduceLE, Int.reduceEq, Int.reduceAdd, Int.reduceSub, Int.reduceNeg, reduceCtorEq, if_true, if_false, ite_true, ite_false, ne_eq, eq_self, OPK_, KEY_, WR_, CHK_, Nat.reduceBEq, K4_, K5_, K6_, K7_, hp, e, hlt, happ, hw]
    exact ih (a - 1) _ _ _ (by omega) (by omega) rfl (by simp) rfl
end Go.AM
/-! Arguments as they are read, told as the machine's values. -/
namespace Go.AM
open Go
set_option linter.unusedVariables false

section
variable {H : Type} {enc : TypeId × Value → H} {P : Program} {w : World} {sp : Nat → Bool} {held : Bool}

theorem mapM_len {α β : Type} {f : α → Option β} : ∀ {l : List α} {r : List β}, l.mapM f = some r → r.length = l.length
  | [], r, h => by simp at h; subst h; rfl
  | a :: l, r, h => by
    simp only [List.mapM_cons, Option.pure_def, Option.bind_eq_bind, Option.bind_eq_some_iff, Option.some.injEq] at h
    obtain ⟨b, _, bs, h2, rfl⟩ := h
    simp [mapM_len h2]
theorem mapM_get {α β : Type} {f : α → Option β} : ∀ {l : List α} {r : List β}, l.mapM f = some r → ∀ (i : Nat) (a : α), l[i]? = some a → ∃ b, r[i]? = some b ∧ f a = some b
  | [], r, h, i, a, ha => by simp at ha
  | x :: l, r, h, i, a, ha => by
    simp only [List.mapM_cons, Option.pure_def, Option.bind_eq_bind, Option.bind_eq_some_iff, Option.some.injEq] at h
    obtain ⟨b, h1, bs, h2, rfl⟩ := h
    cases i with
    | zero => simp at ha; subst ha; exact ⟨b, rfl, h1⟩
    | succ i => obtain ⟨c, h3, h4⟩ := mapM_get h2 i a (by simpa using ha); exact ⟨c, by simpa using h3, h4⟩

/-- Bytes, as they are read. -/
theorem trod_u8 {fuel : Nat} {t : TypeId} {cs : List Value} {x : DataW H × List MemPlace} (ht : P.underlying t = some (.int .u8)) (h : DataW.trod enc P w 0 sp held fuel t cs = some x) : ∃ b : UInt8, cs = [.int .u8 b.toNat] := by
  cases fuel with
  | zero => simp [DataW.trod] at h
  | succ n =>
    unfold DataW.trod at h
    rw [ht] at h
    split at h
    case h_2 k k' n' heq =>
      have hk : IntKind.u8 = k := by injection heq with e; injection e
      subst hk
      split at h
      case isFalse => cases h
      rename_i hc
      obtain ⟨rfl, hw⟩ := hc
      have := bounds_u8 hw
      refine ⟨UInt8.ofNat n'.toNat, ?_⟩
      have : ((UInt8.ofNat n'.toNat).toNat : Int) = n' := by
        rw [UInt8.toNat_ofNat']; omega
      rw [this]
    all_goals first
      | (cases h; done)
      | (exfalso; simp_all; done)

/-- A byte's cell. -/
def uv (b : UInt8) : Value := .int .u8 b.toNat
theorem of_each {α β : Type} {f : β → α} : ∀ (l : List α), (∀ x ∈ l, ∃ b, x = f b) → ∃ bs : List β, l = bs.map f
  | [], _ => ⟨[], rfl⟩
  | x :: l, h => by
    obtain ⟨b, rfl⟩ := h x List.mem_cons_self
    obtain ⟨bs, rfl⟩ := of_each l fun y hy => h y (List.mem_cons_of_mem _ hy)
    exact ⟨b :: bs, rfl⟩

/-- A key, as it is read. -/
theorem trod_key {fuel : Nat} {t e : TypeId} {cs : List Value} {x : DataW H × List MemPlace} (ht : P.underlying t = some (.array 16 e)) (he : P.underlying e = some (.int .u8)) (h1 : P.cellsOf e = 1) (h16 : P.cellsOf t = 16)
    (h : DataW.trod enc P w 0 sp held fuel t cs = some x) : ∃ k : Key, cs = k.b.map uv := by
  obtain ⟨xs, m, _, _, hl, hx, hi⟩ := DataW.trod_array ht h
  rw [h16] at hl
  obtain ⟨bs, hbs⟩ := of_each (f := uv) cs fun c hc => by
    obtain ⟨i, hlt, rfl⟩ := List.getElem_of_mem hc
    have hix : i < xs.length := by omega
    have := hi i (by omega)
    rw [h1, Nat.mul_one, List.getElem?_eq_getElem hix] at this
    obtain ⟨b, hb⟩ := trod_u8 he this
    have e2 : (cs.drop i).take 1 = [cs[i]] := by rw [List.drop_eq_getElem_cons hlt]; rfl
    rw [e2] at hb
    exact ⟨b, by simpa [uv] using hb⟩
  exact ⟨⟨bs, by rw [hbs] at hl; simpa using hl⟩, hbs⟩

theorem VL_bs {g : G} : ∀ (l : List UInt8), VL g w (bs l) (l.map uv)
  | [] => .nil
  | b :: l => .sc (.int .u8 b.toNat) (VL_bs l)
theorem V_key {g : G} (k : Key) : V g w (.agg (bs k.b)) (.agg (k.b.map uv).toArray) := .agg u8_isCell (by simpa using VL_bs k.b) .nil

def kvs (l : List Key) : List Value := l.flatMap fun k => k.b.map uv
theorem VL_kvs {g : G} : ∀ (l : List Key), VL g w ((l.map kA).flatMap AV.cells) (kvs l)
  | [] => .nil
  | k :: l => by
    simp only [List.map_cons, List.flatMap_cons, kvs]
    exact (show VL g w (kA k).cells _ from VL_bs k.b).app (VL_kvs l)

theorem lies_kvs {b : Nat} : ∀ (l : List Key) (off : Nat), (∀ i, (h : i < l.length) → w.cells? 0 ⟨b, off + i * 16, none⟩ 16 = some ((l[i]).b.map uv)) → ∀ j v, (kvs l)[j]? = some v → w.cell? ⟨b, off + j, none⟩ = some v
  | [], off, _, j, v, h => by simp [kvs] at h
  | k :: l, off, hall, j, v, h => by
    have hk := hall 0 (by simp)
    simp only [List.getElem_cons_zero, Nat.zero_mul, Nat.add_zero] at hk
    have hl16 : (k.b.map uv).length = 16 := by rw [List.length_map, k.h]
    have hkv : kvs (k :: l) = k.b.map uv ++ kvs l := rfl
    rw [hkv] at h
    by_cases hj : j < 16
    · rw [List.getElem?_append_left (by omega)] at h
      have := (World.cells?_some hk).2.2 j hj
      rw [Addr.add_lit] at this
      rw [this]; exact h
    · rw [List.getElem?_append_right (by omega), hl16] at h
      have := lies_kvs l (off + 16) (fun i hi => by
        have := hall (i + 1) (by simpa using hi)
        simp only [List.getElem_cons_succ] at this
        rw [show off + 16 + i * 16 = off + (i + 1) * 16 by omega]
        exact this) (j - 16) v h
      rwa [show off + 16 + (j - 16) = off + j by omega] at this

/-- A slice of keys, as it is read. -/
theorem trod_keys {fuel : Nat} {t e u : TypeId} {v : Value} {x : DataW H × List MemPlace} (ht : P.underlying t = some (.slice e)) (he : P.underlying e = some (.array 16 u)) (hu : P.underlying u = some (.int .u8)) (h1 : P.cellsOf u = 1) (h16 : P.cellsOf e = 16)
    (hok : Value.okWide P w .any 0 t v) (h : DataW.trod enc P w 0 sp held fuel t v.cells.toList = some x) : ∃ l : List Key, V G.none w (lstK l) v ∧ l.length ≤ 9223372036854775807 := by
  have hspot : ∀ a len cap, v = .slice (some a) len cap → a.spot = none ∧ len ≤ cap := by
    intro a len cap hv
    subst hv
    simp only [Value.okWide, ht, Cell.okWide, Cell.ok] at hok
    exact ⟨hok.2.2.2.1, hok.1⟩
  obtain ⟨oa, len, cap, rfl⟩ := WideShapes.okWide_slice ht hok
  cases fuel with
  | zero => simp [DataW.trod] at h
  | succ m =>
    cases oa with
    | none =>
      refine ⟨[], ?_, by simp⟩
      simp only [Value.okWide, ht, Cell.okWide] at hok
      have : len = 0 ∧ cap = 0 := by
        cases len <;> cases cap <;> simp [Cell.ok, ht] at hok ⊢
      obtain ⟨rfl, rfl⟩ := this
      exact .lnil (by omega) .nil
    | some a =>
      obtain ⟨hs, hle⟩ := hspot a len cap rfl
      have hc : (Value.slice (some a) len cap).cells.toList = [.slice (some a) len cap] := rfl
      rw [hc] at h
      unfold DataW.trod at h
      rw [ht] at h
      dsimp only at h
      split at h
      case isFalse => cases h
      rename_i hcap
      rw [Option.bind_eq_some_iff] at h
      obtain ⟨elems, hel, _⟩ := h
      have hlen : elems.length = len := by have := mapM_len hel; simpa using this
      have each : ∀ i, i < len → ∃ k : Key, w.cells? 0 (a.add (i * 16)) 16 = some (k.b.map uv) := by
        intro i hi
        obtain ⟨y, _, hy⟩ := mapM_get hel i i (by simp [hi])
        rw [h16, Option.bind_eq_some_iff] at hy
        obtain ⟨cs, hcs, hy⟩ := hy
        obtain ⟨k, rfl⟩ := trod_key he hu h1 h16 hy
        exact ⟨k, hcs⟩
      have ex : ∀ n, n ≤ len → ∃ l : List Key, l.length = n ∧ ∀ i, (h : i < l.length) → w.cells? 0 (a.add (i * 16)) 16 = some ((l[i]).b.map uv) := by
        intro n
        induction n with
        | zero => exact fun _ => ⟨[], rfl, fun i h => by simp at h⟩
        | succ n ih =>
          intro hn
          obtain ⟨l, hl, hall⟩ := ih (by omega)
          obtain ⟨k, hk⟩ := each n (by omega)
          refine ⟨l ++ [k], by simp [hl], fun i h => ?_⟩
          by_cases hi : i < l.length
          · rw [List.getElem_append_left hi]; exact hall i hi
          · have : i = l.length := by simp at h; omega
            subst this
            rw [List.getElem_append_right (Nat.le_refl _)]
            simpa [hl] using hk
      obtain ⟨l, hl, hall⟩ := ex len (Nat.le_refl _)
      refine ⟨l, ?_, by have := hcap.2.2; unfold maxLen at this; omega⟩
      refine .list (xs := kvs l) (.inl rfl) (by simp [hl]) hle (by omega) (.inr hs) kA_elems kA_low (VL_kvs l) (fun i v hv => ⟨?_, fun h => (show False from h)⟩) .nil
      obtain ⟨ab, ao, as⟩ := a
      dsimp only at hs; subst hs
      exact lies_kvs l ao (fun i hi => by have := hall i hi; rwa [Addr.add_lit] at this) i v hv

theorem trodAll_stays {W W' : World} (hl : laidOutB P = true) (hb : RowKit.Below W.heap.size W W') : ∀ {ts : List TypeId} {vs : List Value} {ds : List (DataW H)} {ps : List MemPlace}, (∀ t ∈ ts, P.readableRec t = true ∧ t < P.types.size) →
    DataW.TrodAll enc P W 0 (fun _ => true) true ts vs ds ps → DataW.TrodAll enc P W' 0 (fun b => decide (b < W.heap.size)) true ts vs ds ps
  | [], [], [], _, _, h => h
  | t :: ts, v :: vs, d :: ds, ps, ht, ⟨p, q, h1, h2, e⟩ => by
    obtain ⟨n, hn⟩ := h1
    exact ⟨p, q, RowKit.Below.trod hl (ht t List.mem_cons_self).1 (ht t List.mem_cons_self).2 ⟨n, hn⟩ hb (DataW.trod_lt n _ _ _ hn), trodAll_stays hl hb (fun t h => ht t (List.mem_cons_of_mem _ h)) h2, e⟩
  | [], [], _ :: _, _, _, h => h.elim
  | [], _ :: _, _, _, _, h => h.elim
  | _ :: _, [], _, _, _, h => h.elim
  | _ :: _, _ :: _, [], _, _, h => h.elim

/-- A key that is an argument. -/
theorem trod_key1 {t e : TypeId} {v : Value} {d : DataW H} {ps : List MemPlace} (ht : P.underlying t = some (.array 16 e)) (he : P.underlying e = some (.int .u8)) (h1 : P.cellsOf e = 1) (h16 : P.cellsOf t = 16)
    (hok : Value.okWide P w .any 0 t v) (h : DataW.Trod enc P w 0 sp held t v d ps) : ∃ k : Key, V G.none w (.agg (bs k.b)) v := by
  obtain ⟨n, hn⟩ := h
  simp only [Value.okWide, ht] at hok
  obtain ⟨cs, rfl, _, _⟩ := hok
  obtain ⟨k, hk⟩ := trod_key ht he h1 h16 hn
  have e : cs = (k.b.map uv).toArray := by
    apply Array.ext'
    simpa [Value.cells] using hk
  subst e
  exact ⟨k, V_key k⟩
end
end Go.AM
/-! Whatever datum is an argument, told as the machine's value. -/
namespace Go.AM
open Go
set_option linter.unusedVariables false

section
variable {H : Type} {enc : TypeId × Value → H} {P : Program} {w : World} {sp : Nat → Bool} {held : Bool}

/-- Types of plain data: numbers, texts, truths, structs, arrays, slices of such. -/
def contig (P : Program) : List Field → Nat → Nat → Bool
  | [], o, tot => o == tot
  | f :: l, o, tot => f.offset == o && contig P l (o + P.cellsOf f.type) tot
def plainT (P : Program) : Nat → TypeId → Bool
  | 0, _ => false
  | d + 1, t => match P.underlying t with
    | some .bool | some (.int _) | some .string => true
    | some (.slice e) => decide (0 < P.cellsOf e) && (isAgg P e || P.cellsOf e == 1) && plainT P d e
    | some (.struct fs) => contig P fs.toList 0 (P.cellsOf t) && fs.toList.all fun f => plainT P d f.type
    | some (.array m e) => P.cellsOf t == m * P.cellsOf e && plainT P d e
    | _ => false

/-- The cells of such. -/
def shp (P : Program) : Nat → TypeId → List AV → Prop
  | 0, _, _ => False
  | d + 1, t, as => match P.underlying t with
    | some .bool => ∃ b, as = [.s (.bool b)]
    | some (.int k) => ∃ i, as = [.s (.int k i)] ∧ (Lit.int k i).wf = true
    | some .string => ∃ l, as = [.s (.str l)] ∧ l.length ≤ maxLen
    | some (.slice e) => ∃ es : List AV, as = [.list .sh (P.cellsOf e) es] ∧ es.length ≤ maxLen ∧ ∀ x ∈ es, shp P d e x.cells ∧ (isAgg P e = true → x = .agg x.cells)
    | some (.struct fs) => fs.toList.foldr (fun f (Q : List AV → Prop) as => ∃ a b, as = a ++ b ∧ shp P d f.type a ∧ Q b) (fun as => as = []) as
    | some (.array m e) => ∃ ps : List (List AV), ps.length = m ∧ as = ps.flatten ∧ ∀ p ∈ ps, shp P d e p
    | _ => False

/-- Cells that stand for values: whole, low. -/
structure Tells (w : World) (as : List AV) (cs : List Value) : Prop where
  vl : VL G.none w as cs
  cell : ∀ c ∈ as, c.isCell = true
  low : AV.under.go 0 as = true

theorem Tells.nil : Tells w [] [] := ⟨.nil, (fun _ h => by cases h), rfl⟩
theorem Tells.app {a b : List AV} {c d : List Value} (h : Tells w a c) (h' : Tells w b d) : Tells w (a ++ b) (c ++ d) :=
  ⟨h.vl.app h'.vl, fun x hx => (List.mem_append.1 hx).elim (h.cell x) (h'.cell x), by rw [under_app', h.low, h'.low]; rfl⟩
theorem Tells.flat : ∀ {ps : List (List AV)} {qs : List (List Value)}, ps.length = qs.length → (∀ (i : Nat) (p : List AV) (q : List Value), ps[i]? = some p → qs[i]? = some q → Tells w p q) → Tells w ps.flatten qs.flatten
  | [], [], _, _ => .nil
  | [], _ :: _, h, _ => by simp at h
  | _ :: _, [], h, _ => by simp at h
  | p :: ps, q :: qs, h, hall => by
    rw [List.flatten_cons, List.flatten_cons]
    exact (hall 0 p q rfl rfl).app (Tells.flat (by simpa using h) fun i a b ha hb => hall (i + 1) a b (by simpa using ha) (by simpa using hb))
theorem Tells.sc (x : Sc) : Tells w [.s x] [x.toV] := ⟨.sc x .nil, fun c hc => by rw [List.mem_singleton.1 hc]; rfl, rfl⟩

theorem lies_flat {b c : Nat} : ∀ (qs : List (List Value)) (off : Nat), (∀ i q, qs[i]? = some q → w.cells? 0 ⟨b, off + i * c, none⟩ c = some q) → ∀ j v, qs.flatten[j]? = some v → w.cell? ⟨b, off + j, none⟩ = some v
  | [], off, _, j, v, h => by simp at h
  | q :: qs, off, hall, j, v, h => by
    have hk := hall 0 q rfl
    rw [Nat.zero_mul, Nat.add_zero] at hk
    have hs := World.cells?_some hk
    rw [List.flatten_cons] at h
    by_cases hj : j < c
    · rw [List.getElem?_append_left (by omega)] at h
      have := hs.2.2 j hj
      rw [Addr.add_lit] at this
      rw [this]; exact h
    · rw [List.getElem?_append_right (by omega), hs.2.1] at h
      have := lies_flat qs (off + c) (fun i q hi => by
        have := hall (i + 1) q (by simpa using hi)
        rw [show off + c + i * c = off + (i + 1) * c by rw [Nat.add_mul]; omega]
        exact this) (j - c) v h
      rwa [show off + c + (j - c) = off + j by omega] at this

theorem choose_list {β : Type} {n : Nat} {p : Nat → β → Prop} (h : ∀ i, i < n → ∃ b, p i b) : ∃ l : List β, l.length = n ∧ ∀ i b, l[i]? = some b → p i b := by
  induction n with
  | zero => exact ⟨[], rfl, fun i b h => by simp at h⟩
  | succ n ih =>
    obtain ⟨l, hl, hall⟩ := ih fun i hi => h i (by omega)
    obtain ⟨b, hb⟩ := h n (by omega)
    refine ⟨l ++ [b], by simp [hl], fun i c hc => ?_⟩
    by_cases hi : i < l.length
    · rw [List.getElem?_append_left hi] at hc; exact hall i c hc
    · rw [List.getElem?_append_right (by omega)] at hc
      have : i = n := by
        have := (List.getElem?_eq_some_iff.1 hc).1
        simp at this; omega
      subst this
      rw [hl, Nat.sub_self] at hc
      injection hc with hc; subst hc; exact hb

/-- An element of a slice. -/
def elemA (ag : Bool) (as : List AV) : AV := match ag with
  | true => .agg as
  | false => as.getD 0 .undef
theorem elemA_cells {w : World} {ag : Bool} {as : List AV} {cs : List Value} (h : Tells w as cs) (hl : ag = true ∨ as.length = 1) : (elemA ag as).cells = as := by
  cases ag with
  | true => rfl
  | false =>
    obtain ⟨a, rfl⟩ := List.length_eq_one_iff.1 (hl.resolve_left (by simp))
    have hc := h.cell a (by simp)
    show a.cells = [a]
    cases a <;> simp [AV.isCell] at hc <;> rfl
theorem elemA_low {w : World} {ag : Bool} {as : List AV} {cs : List Value} (h : Tells w as cs) (hl : ag = true ∨ as.length = 1) : AV.under 0 (elemA ag as) = true := by
  cases ag with
  | true => exact h.low
  | false =>
    obtain ⟨a, rfl⟩ := List.length_eq_one_iff.1 (hl.resolve_left (by simp))
    have := h.low
    simpa [elemA, AV.under.go] using this

theorem trod_struct_shp {d m tot : Nat} {cs : List Value} (ih : ∀ t, plainT P d t = true → ∀ N cs x, DataW.trod enc P w 0 sp held N t cs = some x → ∃ as, shp P d t as ∧ Tells w as cs) (htot : cs.length = tot) :
    ∀ (l : List Field) (o : Nat), contig P l o tot = true → (l.all fun f => plainT P d f.type) = true → (∀ f ∈ l, ∃ x, DataW.trod enc P w 0 sp held m f.type ((cs.drop f.offset).take (P.cellsOf f.type)) = some x) →
    ∃ as, l.foldr (fun f (Q : List AV → Prop) as => ∃ a b, as = a ++ b ∧ shp P d f.type a ∧ Q b) (fun as => as = []) as ∧ Tells w as (cs.drop o)
  | [], o, hc, _, _ => by
    have : o = tot := by simpa [contig] using hc
    subst this
    rw [List.drop_of_length_le (by omega)]
    exact ⟨[], rfl, .nil⟩
  | f :: l, o, hc, hp, hall => by
    simp only [contig, Bool.and_eq_true, beq_iff_eq] at hc
    simp only [List.all_cons, Bool.and_eq_true] at hp
    obtain ⟨x, hx⟩ := hall f List.mem_cons_self
    obtain ⟨a, ha, hta⟩ := ih _ hp.1 _ _ _ hx
    obtain ⟨b, hb, htb⟩ := trod_struct_shp ih htot l _ hc.2 hp.2 fun g hg => hall g (List.mem_cons_of_mem _ hg)
    refine ⟨a ++ b, ⟨a, b, rfl, ha, hb⟩, ?_⟩
    rw [hc.1] at hta
    have : cs.drop o = (cs.drop o).take (P.cellsOf f.type) ++ cs.drop (o + P.cellsOf f.type) := by
      rw [← List.drop_drop, List.take_append_drop]
    rw [this]
    exact hta.app htb

theorem flat_parts {c : Nat} : ∀ (m : Nat) (cs : List Value), cs.length = m * c → ((List.range m).map fun i => (cs.drop (i * c)).take c).flatten = cs
  | 0, cs, h => by simp at h; subst h; rfl
  | m + 1, cs, h => by
    rw [List.range_succ_eq_map, List.map_cons, List.map_map, List.flatten_cons, Nat.zero_mul, List.drop_zero]
    have := flat_parts (c := c) m (cs.drop c) (by rw [List.length_drop, h, Nat.add_mul]; omega)
    have e : ((fun i => (cs.drop (i * c)).take c) ∘ Nat.succ) = fun i => ((cs.drop c).drop (i * c)).take c := by
      funext i
      simp only [Function.comp, List.drop_drop, Nat.succ_eq_add_one, Nat.add_mul, Nat.one_mul]
      rw [Nat.add_comm c]
    rw [e, this, List.take_append_drop]

/-- Whatever datum of such a type is read is a value of the machine. -/
theorem trod_shp : ∀ (d : Nat) (t : TypeId), plainT P d t = true → ∀ (N : Nat) (cs : List Value) (x : DataW H × List MemPlace), DataW.trod enc P w 0 sp held N t cs = some x → ∃ as, shp P d t as ∧ Tells w as cs
  | 0, t, h, _, _, _, _ => by simp [plainT] at h
  | d + 1, t, h, N, cs, x, hx => by
    have ih := trod_shp d
    unfold plainT at h
    unfold shp
    cases hu : P.underlying t with
    | none => rw [hu] at h; cases h
    | some D =>
      rw [hu] at h
      cases D with
      | bool =>
        obtain ⟨b, rfl, _⟩ := DataW.trod_bool hu hx
        exact ⟨_, ⟨b, rfl⟩, .sc (.bool b)⟩
      | int k =>
        obtain ⟨n, rfl, _, hw⟩ := DataW.trod_int hu hx
        exact ⟨_, ⟨n, rfl, hw⟩, .sc (.int k n)⟩
      | string =>
        obtain ⟨s, rfl, _, hl⟩ := DataW.trod_string hu hx
        refine ⟨_, ⟨s.data.toList, rfl, by simpa using hl⟩, ?_⟩
        have := Tells.sc (w := w) (.str s.data.toList)
        simpa [Sc.toV] using this
      | slice e =>
        simp only [Bool.and_eq_true, decide_eq_true_eq, Bool.or_eq_true, beq_iff_eq] at h
        obtain ⟨⟨hpos, hag⟩, hpe⟩ := h
        rcases DataW.trod_slice hu hx with ⟨rfl, _⟩ | ⟨a, len, cap, elems, rest, n, _, rfl, _, _, hle, hcap, hlen, hel, _, _⟩
        · exact ⟨_, ⟨[], rfl, Nat.zero_le _, fun _ h => by cases h⟩, ⟨.lnil hpos .nil, fun c hc => by rw [List.mem_singleton.1 hc]; rfl, rfl⟩⟩
        · have each : ∀ i, i < len → ∃ z : List Value × List AV, w.cells? 0 (a.add (i * P.cellsOf e)) (P.cellsOf e) = some z.1 ∧ shp P d e z.2 ∧ Tells w z.2 z.1 := fun i hi => by
            have h1 := hel i hi
            rw [List.getElem?_eq_getElem (by omega)] at h1
            obtain ⟨q, hq, hq2⟩ := Option.bind_eq_some_iff.1 h1
            obtain ⟨as, h2, h3⟩ := ih e hpe _ _ _ hq2
            exact ⟨(q, as), hq, h2, h3⟩
          obtain ⟨l, hl, hall⟩ := choose_list each
          have hin : ∀ z ∈ l, (∃ i, w.cells? 0 (a.add (i * P.cellsOf e)) (P.cellsOf e) = some z.1) ∧ shp P d e z.2 ∧ Tells w z.2 z.1 := fun z hz => by
            obtain ⟨i, hi⟩ := List.getElem?_of_mem hz
            exact ⟨⟨i, (hall i z hi).1⟩, (hall i z hi).2⟩
          have hone : ∀ z ∈ l, z.2.length = P.cellsOf e := fun z hz => by
            obtain ⟨⟨i, h1⟩, _, h2⟩ := hin z hz
            rw [← h2.vl.length]; exact (World.cells?_some h1).2.1
          have hag' : ∀ z ∈ l, isAgg P e = true ∨ z.2.length = 1 := fun z hz => hag.imp id fun h => by rw [hone z hz, h]
          let es : List AV := l.map fun z => elemA (isAgg P e) z.2
          have hcells : es.flatMap AV.cells = (l.map (·.2)).flatten := by
            have : ∀ (l' : List (List Value × List AV)), (∀ z ∈ l', z ∈ l) → (l'.map fun z => elemA (isAgg P e) z.2).flatMap AV.cells = (l'.map (·.2)).flatten := by
              intro l'
              induction l' with
              | nil => intro _; rfl
              | cons z l' ihl =>
                intro hs
                rw [List.map_cons, List.flatMap_cons, List.map_cons, List.flatten_cons, ihl fun y hy => hs y (List.mem_cons_of_mem _ hy)]
                have hz := hs z List.mem_cons_self
                rw [elemA_cells (hin z hz).2.2 (hag' z hz)]
            exact this l fun _ h => h
          have hspot : es = [] ∨ a.spot = none := by
            by_cases h0 : len = 0
            · left; apply List.length_eq_zero_iff.1; simp [es, hl, h0]
            · right
              obtain ⟨z, hz, _⟩ := each 0 (by omega)
              have h1 := (World.cells?_some hz).2.2 0 hpos
              have h2 : (a.add (0 * P.cellsOf e)).add 0 = a := by simp [Addr.add]
              rw [h2, List.getElem?_eq_getElem (by rw [(World.cells?_some hz).2.1]; exact hpos)] at h1
              unfold World.cell? at h1
              split at h1
              · split at h1
                · cases h1
                · rename_i h3; simpa using h3
              · cases h1
          have htell : Tells w (l.map (·.2)).flatten (l.map (·.1)).flatten := Tells.flat (by simp) fun i p q hp hq => by
            rw [List.getElem?_map] at hp hq
            cases hz : l[i]? with
            | none => rw [hz] at hp; cases hp
            | some z =>
              rw [hz] at hp hq
              injection hp with hp; injection hq with hq; subst hp; subst hq
              exact (hall i z hz).2.2
          refine ⟨_, ⟨es, rfl, by simp [es, hl]; omega, fun y hy => ?_⟩, ⟨?_, fun c hc => by rw [List.mem_singleton.1 hc]; rfl, rfl⟩⟩
          · obtain ⟨z, hz, rfl⟩ := List.mem_map.1 hy
            rw [elemA_cells (hin z hz).2.2 (hag' z hz)]
            exact ⟨(hin z hz).2.1, fun h => by rw [h]; rfl⟩
          · refine .list (xs := (l.map (·.1)).flatten) (.inl rfl) (by simp [es, hl]) hle hpos hspot (fun y hy => ?_) ?_ (by rw [hcells]; exact htell.vl) (fun i v hv => ⟨?_, fun h => (show False from h)⟩) .nil
            · obtain ⟨z, hz, rfl⟩ := List.mem_map.1 hy
              rw [elemA_cells (hin z hz).2.2 (hag' z hz)]
              exact ⟨hone z hz, (hin z hz).2.2.cell⟩
            · refine under_mem.2 fun y hy => ?_
              obtain ⟨z, hz, rfl⟩ := List.mem_map.1 hy
              exact elemA_low (hin z hz).2.2 (hag' z hz)
            · rcases hspot with h0 | h0
              · have : l = [] := by simpa [es] using h0
                rw [this] at hv; simp at hv
              · obtain ⟨ab, ao, as⟩ := a
                dsimp only at h0; subst h0
                refine lies_flat (c := P.cellsOf e) _ ao (fun j q hq => ?_) i v hv
                rw [List.getElem?_map] at hq
                cases hz : l[j]? with
                | none => rw [hz] at hq; cases hq
                | some z =>
                  rw [hz] at hq
                  injection hq with hq; subst hq
                  have := (hall j z hz).1
                  rwa [Addr.add_lit] at this
      | struct fs =>
        simp only [Bool.and_eq_true] at h
        obtain ⟨xs, n, _, _, hl, hxl, hf⟩ := DataW.trod_struct hu hx
        obtain ⟨as, h1, h2⟩ := trod_struct_shp (m := n) ih hl fs.toList 0 h.1 h.2 fun f hm => by
          obtain ⟨i, hi⟩ := List.getElem?_of_mem hm
          have hi' : fs[i]? = some f := by simpa using hi
          have := hf i f hi'
          have hlt := (Array.getElem?_eq_some_iff.1 hi').1
          rw [List.getElem?_eq_getElem (by omega)] at this
          exact ⟨_, this⟩
        exact ⟨as, h1, by simpa using h2⟩
      | array m e =>
        simp only [Bool.and_eq_true, beq_iff_eq] at h
        obtain ⟨xs, n, _, _, hl, hxl, hf⟩ := DataW.trod_array hu hx
        obtain ⟨ps, hpl, hall⟩ := choose_list (n := m) (p := fun i as => shp P d e as ∧ Tells w as ((cs.drop (i * P.cellsOf e)).take (P.cellsOf e))) fun i hi => by
          have := hf i hi
          rw [List.getElem?_eq_getElem (by omega)] at this
          exact ih e h.2 _ _ _ this
        refine ⟨ps.flatten, ⟨ps, hpl, rfl, fun p hp => ?_⟩, ?_⟩
        · obtain ⟨i, hi⟩ := List.getElem?_of_mem hp
          exact (hall i p hi).1
        · rw [← flat_parts (c := P.cellsOf e) m cs (by rw [hl, h.1])]
          refine Tells.flat (by simp [hpl]) fun i p q hp hq => ?_
          have hlt : i < m := by have := (List.getElem?_eq_some_iff.1 hp).1; omega
          have : q = (cs.drop (i * P.cellsOf e)).take (P.cellsOf e) := by
            rw [List.getElem?_map, List.getElem?_range hlt] at hq
            injection hq with hq; exact hq.symm
          subst this
          exact (hall i p hp).2
      | _ => cases h

/-- An argument of such a type. -/
def argA (ag : Bool) (as : List AV) : AV := elemA ag as
theorem trod_arg {d : Nat} {t : TypeId} {v : Value} {D : DataW H} {ps : List MemPlace} (hp : plainT P d t = true) (hok : Value.okWide P w .any 0 t v) (h : DataW.Trod enc P w 0 sp held t v D ps) :
    ∃ as, shp P d t as ∧ V G.none w (argA (isAgg P t) as) v := by
  obtain ⟨n, hn⟩ := h
  obtain ⟨as, h1, h2⟩ := trod_shp d t hp n _ _ hn
  refine ⟨as, h1, ?_⟩
  cases hu : P.underlying t with
  | none =>
    cases d with
    | zero => simp [plainT] at hp
    | succ d => rw [plainT, hu] at hp; cases hp
  | some D =>
    have scalar : isAgg P t = false → (∀ xs, v ≠ .agg xs) → V G.none w (argA (isAgg P t) as) v := fun hf hv => by
      rw [hf]
      have e : v.cells.toList = [v] := by
        cases v <;> first | rfl | exact (hv _ rfl).elim
      rw [e] at h2
      obtain ⟨a, as', rfl, h3, h4⟩ : ∃ a as', as = a :: as' ∧ V G.none w a v ∧ VL G.none w as' [] := by
        cases as with
        | nil => have := h2.vl.length; simp at this
        | cons a as' =>
          obtain ⟨v', vs', hh, h3, h4⟩ := h2.vl.cons_left
          injection hh with hh1 hh2; subst hh1; subst hh2
          exact ⟨a, as', rfl, h3, h4⟩
      exact h3
    cases D with
    | struct fs =>
      simp only [Value.okWide, hu] at hok
      obtain ⟨cs, rfl, _, _⟩ := hok
      rw [show isAgg P t = true by simp [isAgg, hu]]
      exact .agg h2.cell (by simpa [Value.cells] using h2.vl) .nil
    | array m e =>
      simp only [Value.okWide, hu] at hok
      obtain ⟨cs, rfl, _, _⟩ := hok
      rw [show isAgg P t = true by simp [isAgg, hu]]
      exact .agg h2.cell (by simpa [Value.cells] using h2.vl) .nil
    | _ =>
      refine scalar (by simp [isAgg, hu]) fun xs hv => ?_
      subst hv
      simp [Value.okWide, Cell.okWide, Cell.ok, hu] at hok
end
end Go.AM
/-! Data of this program's types. -/
namespace Go.AM
open Go
set_option linter.unusedVariables false

section
variable {P : Program}

def parts (P : Program) (d : Nat) : List TypeId → List AV → Prop
  | [], as => as = []
  | u :: ts, as => ∃ a b, as = a ++ b ∧ shp P d u a ∧ parts P d ts b
theorem parts_of {d : Nat} : ∀ {fs : List Field} {as : List AV}, fs.foldr (fun f (Q : List AV → Prop) as => ∃ a b, as = a ++ b ∧ shp P d f.type a ∧ Q b) (fun as => as = []) as → parts P d (fs.map (·.type)) as
  | [], _, h => h
  | f :: fs, as, h => by
    obtain ⟨a, b, h1, h2, h3⟩ := h
    exact ⟨a, b, h1, h2, parts_of h3⟩
theorem shp_struct {d : Nat} {t : TypeId} {fs : Array Field} {ts : List TypeId} {as : List AV} (ht : P.underlying t = some (.struct fs)) (hts : fs.toList.map (·.type) = ts) (h : shp P (d + 1) t as) : parts P d ts as := by
  unfold shp at h
  rw [ht] at h
  subst hts
  exact parts_of h
theorem shp_int {d : Nat} {t : TypeId} {k : IntKind} {as : List AV} (ht : P.underlying t = some (.int k)) (h : shp P (d + 1) t as) : ∃ i, as = [.s (.int k i)] ∧ (Lit.int k i).wf = true := by
  unfold shp at h; rw [ht] at h; exact h
theorem shp_bool {d : Nat} {t : TypeId} {as : List AV} (ht : P.underlying t = some .bool) (h : shp P (d + 1) t as) : ∃ b, as = [.s (.bool b)] := by
  unfold shp at h; rw [ht] at h; exact h
theorem shp_str {d : Nat} {t : TypeId} {as : List AV} (ht : P.underlying t = some .string) (h : shp P (d + 1) t as) : ∃ l, as = [.s (.str l)] ∧ l.length ≤ maxLen := by
  unfold shp at h; rw [ht] at h; exact h
theorem shp_slice {d : Nat} {t e : TypeId} {as : List AV} {α : Type} (f : α → AV) (ht : P.underlying t = some (.slice e)) (he : ∀ x : AV, shp P d e x.cells → (isAgg P e = true → x = .agg x.cells) → ∃ a, x = f a) (h : shp P (d + 1) t as) :
    ∃ l : List α, as = [.list .sh (P.cellsOf e) (l.map f)] ∧ l.length ≤ 9223372036854775807 := by
  unfold shp at h; rw [ht] at h
  obtain ⟨es, rfl, hl, hall⟩ := h
  obtain ⟨l, rfl⟩ := of_each (f := f) es fun x hx => he x (hall x hx).1 (hall x hx).2
  refine ⟨l, rfl, ?_⟩
  rw [List.length_map] at hl
  unfold maxLen at hl; omega
theorem shp_u8 {d : Nat} {t : TypeId} {as : List AV} (ht : P.underlying t = some (.int .u8)) (h : shp P (d + 1) t as) : ∃ b : UInt8, as = [u8 b] := by
  obtain ⟨i, rfl, hw⟩ := shp_int ht h
  have := bounds_u8 hw
  refine ⟨UInt8.ofNat i.toNat, ?_⟩
  have : ((UInt8.ofNat i.toNat).toNat : Int) = i := by rw [UInt8.toNat_ofNat']; omega
  show _ = [AV.s (.int .u8 _)]
  rw [this]
theorem shp_key {d : Nat} {t u : TypeId} {as : List AV} (ht : P.underlying t = some (.array 16 u)) (hu : P.underlying u = some (.int .u8)) (h : shp P (d + 2) t as) : ∃ k : Key, as = bs k.b := by
  unfold shp at h; rw [ht] at h
  obtain ⟨ps, hl, rfl, hall⟩ := h
  obtain ⟨l, rfl⟩ := of_each (f := fun b => [u8 b]) ps fun p hp => shp_u8 hu (hall p hp)
  refine ⟨⟨l, by simpa using hl⟩, ?_⟩
  show _ = l.map u8
  clear hl hall
  induction l with
  | nil => rfl
  | cons b l ih => simp only [List.map_cons, List.flatten_cons, ih]; rfl
/-- A struct of a key, a text, a truth. -/
theorem shp_wr {d : Nat} {t tk u ts tb : TypeId} {fs : Array Field} {as : List AV} (ht : P.underlying t = some (.struct fs)) (hf : fs.toList.map (·.type) = [tk, ts, tb]) (hk : P.underlying tk = some (.array 16 u)) (hu : P.underlying u = some (.int .u8)) (hs : P.underlying ts = some .string) (hb : P.underlying tb = some .bool)
    (h : shp P (d + 3) t as) : ∃ w : Wr, as = wc w := by
  obtain ⟨a, r, rfl, h1, a2, r2, rfl, h2, a3, r3, rfl, h3, rfl⟩ := shp_struct ht hf h
  obtain ⟨k, rfl⟩ := shp_key hk hu h1
  obtain ⟨l, rfl, _⟩ := shp_str hs h2
  obtain ⟨b, rfl⟩ := shp_bool hb h3
  exact ⟨⟨k, l, b⟩, rfl⟩
end
end Go.AM
/-! Stamps and transactions, as they are read. -/
namespace Go.AM
open Go
set_option linter.unusedVariables false
section
variable {P : Program}
theorem shp_stamp {d : Nat} {t ti tn : TypeId} {fs : Array Field} {as : List AV} (ht : P.underlying t = some (.struct fs)) (hf : fs.toList.map (·.type) = [ti, tn]) (hi : P.underlying ti = some (.int .i64)) (hn : P.underlying tn = some (.int .u8)) (h : shp P (d + 2) t as) : ∃ s : Stp, as = stc s := by
  obtain ⟨a, r, rfl, h1, a2, r2, rfl, h2, rfl⟩ := shp_struct ht hf h
  obtain ⟨i, rfl, _⟩ := shp_int hi h1
  obtain ⟨b, rfl⟩ := shp_u8 hn h2
  exact ⟨⟨i, b⟩, rfl⟩
theorem shp_wrs {d : Nat} {t e tk u ts tb : TypeId} {fs : Array Field} {as : List AV} (ht : P.underlying t = some (.slice e)) (hc : P.cellsOf e = 18) (hag : isAgg P e = true) (he : P.underlying e = some (.struct fs)) (hf : fs.toList.map (·.type) = [tk, ts, tb]) (hk : P.underlying tk = some (.array 16 u)) (hu : P.underlying u = some (.int .u8)) (hs : P.underlying ts = some .string) (hb : P.underlying tb = some .bool)
    (h : shp P (d + 4) t as) : ∃ l : List Wr, as = [.list .sh 18 (l.map wA)] ∧ l.length ≤ 9223372036854775807 := by
  obtain ⟨l, h1, h2⟩ := shp_slice wA ht (fun x hx hg => by obtain ⟨w, hw⟩ := shp_wr he hf hk hu hs hb hx; exact ⟨w, by rw [hg hag, hw]; rfl⟩) h
  rw [hc] at h1
  exact ⟨l, h1, h2⟩
theorem shp_tx {d : Nat} {t ti tst tn tb tr tw er ew tk u ts : TypeId} {fs fst fr fw : Array Field} {as : List AV} (ht : P.underlying t = some (.struct fs)) (hf : fs.toList.map (·.type) = [ti, tst, tst, tb, tr, tw]) (hi : P.underlying ti = some (.int .i64))
    (hst : P.underlying tst = some (.struct fst)) (hft : fst.toList.map (·.type) = [ti, tn]) (hn : P.underlying tn = some (.int .u8)) (hb : P.underlying tb = some .bool)
    (hr : P.underlying tr = some (.slice er)) (hcr : P.cellsOf er = 18) (har : isAgg P er = true) (her : P.underlying er = some (.struct fr)) (hfr : fr.toList.map (·.type) = [tk, ts, tb])
    (hw : P.underlying tw = some (.slice ew)) (hcw : P.cellsOf ew = 18) (haw : isAgg P ew = true) (hew : P.underlying ew = some (.struct fw)) (hfw : fw.toList.map (·.type) = [tk, ts, tb])
    (hk : P.underlying tk = some (.array 16 u)) (hu : P.underlying u = some (.int .u8)) (hs : P.underlying ts = some .string)
    (h : shp P (d + 5) t as) : ∃ x : Tx, as = txc x ∧ x.writes.length ≤ 9223372036854775807 ∧ x.reads.length ≤ 9223372036854775807 := by
  obtain ⟨a1, r1, rfl, h1, a2, r2, rfl, h2, a3, r3, rfl, h3, a4, r4, rfl, h4, a5, r5, rfl, h5, a6, r6, rfl, h6, rfl⟩ := shp_struct ht hf h
  obtain ⟨i, rfl, _⟩ := shp_int hi h1
  obtain ⟨s1, rfl⟩ := shp_stamp (d := d + 2) hst hft hi hn h2
  obtain ⟨s2, rfl⟩ := shp_stamp (d := d + 2) hst hft hi hn h3
  obtain ⟨b, rfl⟩ := shp_bool hb h4
  obtain ⟨l1, rfl, b1⟩ := shp_wrs (d := d) hr hcr har her hfr hk hu hs hb h5
  obtain ⟨l2, rfl, b2⟩ := shp_wrs (d := d) hw hcw haw hew hfw hk hu hs hb h6
  exact ⟨⟨i, s1, s2, b, l1, l2⟩, rfl, b2, b1⟩
end
end Go.AM
