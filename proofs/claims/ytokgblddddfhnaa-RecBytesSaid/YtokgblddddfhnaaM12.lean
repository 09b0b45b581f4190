import Derived.Test.YtokgblddddfhnaaM11
import Derived.Test.YtokgblddddfhnaaM10
import Derived.Test.YtokgblddddfhnaaM7
import Derived.OpenShut
import Derived.Carry
import Derived.ChangeOld
set_option linter.unusedSimpArgs false
set_option linter.unusedVariables false
namespace Go.AM
open Go
set_option maxRecDepth 20000
def gparts (prev : Int) : List Int → Bool
  | [] => true
  | x :: l => if x < 0 then false else if 8 ≤ x then false else if x ≤ prev then false else gparts x l
def goodParts (l : List Int) : Bool := gparts (-1) l && decide (0 < l.length)
def prevAt (l : List Int) (i : Nat) : Int := if 0 < i then l.getD (i - 1) 0 else -1
theorem gparts_step {l : List Int} {i : Nat} (h : i < l.length) : gparts (prevAt l i) (l.drop i) = if l[i] < 0 then false else if 8 ≤ l[i] then false else if l[i] ≤ prevAt l i then false else gparts (prevAt l (i + 1)) (l.drop (i + 1)) := by
  rw [List.drop_eq_getElem_cons h, gparts]
  have : prevAt l (i + 1) = l[i] := by
    unfold prevAt; rw [if_pos (by omega)]; simp [List.getD, h]
  rw [this]
def PartsS (C : CallW) (f : FuncId) : Prop := ∀ (l : List Int) S H (K : AV → St → Prop), l.length ≤ 9223372036854775807 → K (.bool (goodParts l)) ⟨S, H⟩ → C (.fn f) [lstN l] ⟨S, H⟩ K
set_option maxHeartbeats 16000000 in
theorem rec_GoodParts_spec {C : CallW} (hC : LeC C C) (P : Program) : ∀ (l : List Int) S H (K : AV → St → Prop), l.length ≤ 9223372036854775807 → K (.bool (goodParts l)) ⟨S, H⟩ → runL C P C_rec_GoodParts [lstN l] ⟨S, H⟩ K := by
  intro l S H K hl hK
  unfold goodParts at hK
  simp only [lstN, C_rec_GoodParts, A_, simprocAttr, ne_eq, U_rec_GoodParts.1]
  refine loop_rule hC (α := Nat) (fun a => l.length - a) (fun a => [.list .sh 1 (l.map pI), .undef, .undef, .undef, .undef, .list .sh 1 (l.map pI), .s (.int .i64 l.length), .s (.int .i64 a), .undef, .undef, .undef, .undef, .undef, .undef, .undef, .undef, .undef, .undef, .undef, .undef, .undef, .undef, .undef, .undef, .undef, .undef, .undef, .undef, .undef, .undef, .undef, .undef, .undef, .undef, .undef]) (fun _ => S) (fun a => H) (fun a => a ≤ l.length ∧ gparts (-1) l = gparts (prevAt l a) (l.drop a)) 0 ⟨by simp, rfl⟩ rfl (by simp) rfl (fun a _ => by simp [AV.under, AV.under.go]) ?_
  rintro i ⟨hi, hinv⟩ ih
  by_cases h16 : i < l.length
  case neg =>
    have hlt : ¬ ((i : Int) < (l.length : Int)) := by omega
    rw [hinv, List.drop_of_length_le (by omega), gparts, Bool.true_and] at hK
    by_cases h0 : 0 < l.length
    · have h0' : ((1 : Int) ≤ (l.length : Int)) := by omega
      rw [decide_eq_true h0] at hK
      simp only [A_, simprocAttr, ne_eq, U_rec_GoodParts.1, hlt, h0']
      exact hK
    · have h0' : ¬ ((1 : Int) ≤ (l.length : Int)) := by omega
      rw [decide_eq_false h0] at hK
      simp only [A_, simprocAttr, ne_eq, U_rec_GoodParts.1, hlt, h0']
      exact hK
  have hlt : ((i : Int) < (l.length : Int)) := by omega
  have hw : IntKind.i64.wrap ((i : Int) + 1) = (i : Int) + 1 := wrap_i64 (by omega) (by omega)
  have hx := ixl_pI h16
  rw [gparts_step h16] at hinv
  by_cases e1 : l[i] < 0
  · rw [if_pos e1] at hinv
    rw [hinv, Bool.false_and] at hK
    simp only [A_, simprocAttr, ne_eq, U_rec_GoodParts.1, hlt, hx, e1]
    exact hK
  by_cases e2 : 8 ≤ l[i]
  · rw [if_neg e1, if_pos e2] at hinv
    rw [hinv, Bool.false_and] at hK
    simp only [A_, simprocAttr, ne_eq, U_rec_GoodParts.1, hlt, hx, e1, e2]
    exact hK
  rw [if_neg e1, if_neg e2] at hinv
  by_cases h0 : 0 < i
  · have h0' : ((0 : Int) < (i : Int)) := by omega
    have hw2 : IntKind.i64.wrap ((i : Int) - 1) = ((i - 1 : Nat) : Int) := by rw [wrap_pred (by omega)]; omega
    have hx2 := ixl_pI (l := l) (i := i - 1) (by omega)
    have hp : prevAt l i = l[i - 1]'(by omega) := by unfold prevAt; rw [if_pos h0]; simp [List.getD, show i - 1 < l.length by omega]
    rw [hp] at hinv
    by_cases e3 : l[i] ≤ l[i - 1]'(by omega)
    · rw [if_pos e3] at hinv
      rw [hinv, Bool.false_and] at hK
      simp only [A_, simprocAttr, ne_eq, U_rec_GoodParts.1, hlt, hx, e1, e2, h0', hw2, hx2, e3]
      exact hK
    · rw [if_neg e3] at hinv
      simp only [A_, simprocAttr, ne_eq, U_rec_GoodParts.1, hlt, hx, e1, e2, h0', hw2, hx2, e3, hw]
      exact ih (i + 1) _ _ _ (by omega) ⟨by omega, hinv⟩ rfl (by simp) rfl
  · have h0' : ¬ ((0 : Int) < (i : Int)) := by omega
    have hp : prevAt l i = -1 := by unfold prevAt; rw [if_neg h0]
    rw [hp, if_neg (by omega)] at hinv
    simp only [A_, simprocAttr, ne_eq, U_rec_GoodParts.1, hlt, hx, e1, e2, h0', hw]
    exact ih (i + 1) _ _ _ (by omega) ⟨by omega, hinv⟩ rfl (by simp) rfl
set_option maxHeartbeats 16000000 in
theorem ref14_parts_spec {C : CallW} (hC : LeC C C) (P : Program) : ∀ (l : List Int) S H (K : AV → St → Prop), l.length ≤ 9223372036854775807 → K (.bool (goodParts l)) ⟨S, H⟩ → runL C P C_hourglassref14_parts [lstN l] ⟨S, H⟩ K := by
  intro l S H K hl hK
  unfold goodParts at hK
  simp only [lstN, C_hourglassref14_parts, A_, simprocAttr, ne_eq, U_hourglassref14_parts.1]
  refine loop_rule hC (α := Nat) (fun a => l.length - a) (fun a => [.list .sh 1 (l.map pI), .undef, .undef, .s (.int .i64 a), .undef, .undef, .undef, .undef, .undef, .undef, .undef, .undef, .undef, .undef, .undef, .undef, .undef, .undef, .undef, .undef, .undef, .undef, .undef, .undef, .undef, .undef, .undef, .undef, .undef, .undef, .undef, .undef, .undef, .undef, .undef, .undef, .undef, .undef, .undef, .undef, .undef]) (fun _ => S) (fun a => H) (fun a => a ≤ l.length ∧ gparts (-1) l = gparts (prevAt l a) (l.drop a)) 0 ⟨by simp, rfl⟩ rfl (by simp) rfl (fun a _ => by simp [AV.under, AV.under.go]) ?_
  rintro i ⟨hi, hinv⟩ ih
  by_cases h16 : i < l.length
  case neg =>
    have hlt : ¬ ((i : Int) < (l.length : Int)) := by omega
    rw [hinv, List.drop_of_length_le (by omega), gparts, Bool.true_and] at hK
    by_cases h0 : 0 < l.length
    · have h0' : ((0 : Int) < (l.length : Int)) := by omega
      rw [decide_eq_true h0] at hK
      simp only [A_, simprocAttr, ne_eq, U_hourglassref14_parts.1, hlt, h0']
      exact hK
    · have h0' : ¬ ((0 : Int) < (l.length : Int)) := by omega
      rw [decide_eq_false h0] at hK
      simp only [A_, simprocAttr, ne_eq, U_hourglassref14_parts.1, hlt, h0']
      exact hK
  have hlt : ((i : Int) < (l.length : Int)) := by omega
  have hw : IntKind.i64.wrap ((i : Int) + 1) = (i : Int) + 1 := wrap_i64 (by omega) (by omega)
  have hx := ixl_pI h16
  rw [gparts_step h16] at hinv
  by_cases e1 : l[i] < 0
  · rw [if_pos e1] at hinv
    rw [hinv, Bool.false_and] at hK
    simp only [A_, simprocAttr, ne_eq, U_hourglassref14_parts.1, hlt, hx, e1]
    exact hK
  by_cases e2 : 8 ≤ l[i]
  · have e2' : 7 < l[i] := by omega
    rw [if_neg e1, if_pos e2] at hinv
    rw [hinv, Bool.false_and] at hK
    simp only [A_, simprocAttr, ne_eq, U_hourglassref14_parts.1, hlt, hx, e1, e2']
    exact hK
  have e2' : ¬ (7 < l[i]) := by omega
  rw [if_neg e1, if_neg e2] at hinv
  by_cases h0 : 0 < i
  · have h0' : ((0 : Int) < (i : Int)) := by omega
    have hw2 : IntKind.i64.wrap ((i : Int) - 1) = ((i - 1 : Nat) : Int) := by rw [wrap_pred (by omega)]; omega
    have hx2 := ixl_pI (l := l) (i := i - 1) (by omega)
    have hp : prevAt l i = l[i - 1]'(by omega) := by unfold prevAt; rw [if_pos h0]; simp [List.getD, show i - 1 < l.length by omega]
    rw [hp] at hinv
    by_cases e3 : l[i] ≤ l[i - 1]'(by omega)
    · rw [if_pos e3] at hinv
      rw [hinv, Bool.false_and] at hK
      simp only [A_, simprocAttr, ne_eq, U_hourglassref14_parts.1, hlt, hx, e1, e2', h0', hw2, hx2, e3]
      exact hK
    · rw [if_neg e3] at hinv
      simp only [A_, simprocAttr, ne_eq, U_hourglassref14_parts.1, hlt, hx, e1, e2', h0', hw2, hx2, e3, hw]
      exact ih (i + 1) _ _ _ (by omega) ⟨by omega, hinv⟩ rfl (by simp) rfl
  · have h0' : ¬ ((0 : Int) < (i : Int)) := by omega
    have hp : prevAt l i = -1 := by unfold prevAt; rw [if_neg h0]
    rw [hp, if_neg (by omega)] at hinv
    simp only [A_, simprocAttr, ne_eq, U_hourglassref14_parts.1, hlt, hx, e1, e2', h0', hw]
    exact ih (i + 1) _ _ _ (by omega) ⟨by omega, hinv⟩ rfl (by simp) rfl
structure Ent where
  id : Int
  snap : Stp
  stamp : Stp
  writes : List Wr
def enc (e : Ent) : List AV := [.s (.int .i64 e.id), .s (.int .i64 e.snap.t), u8 e.snap.n, .s (.int .i64 e.stamp.t), u8 e.stamp.n, .list .sh 18 (e.writes.map wA)]
def mayE (e : Ent) : Bool := decide (1 ≤ e.id) && goodS e.snap && decide (1 ≤ e.writes.length) && decide (e.writes.length ≤ 16) && sgood [] e.writes
def goodE (e : Ent) : Bool := mayE e && goodS e.stamp && decide (0 < cmpS e.stamp e.snap)
theorem store_Many_spec {C : CallW} (P : Program) : ∀ (l : List Wr) S H (K : AV → St → Prop), K (.bool (decide (1 ≤ l.length) && decide (l.length ≤ 16))) ⟨S, H⟩ → runL C P C_store_Many [lstW l] ⟨S, H⟩ K := by
  intro l S H K hK
  by_cases h1 : 1 ≤ l.length
  · have h1' : ((1 : Int) ≤ (l.length : Int)) := by omega
    by_cases h2 : l.length ≤ 16
    · have h2' : ((l.length : Int) ≤ 16) := by omega
      rw [decide_eq_true h1, decide_eq_true h2] at hK
      simp only [lstW, C_store_Many, A_, simprocAttr, ne_eq, U_store_Many.1, h1', h2']
      exact hK
    · have h2' : ¬ ((l.length : Int) ≤ 16) := by omega
      rw [decide_eq_true h1, decide_eq_false h2] at hK
      simp only [lstW, C_store_Many, A_, simprocAttr, ne_eq, U_store_Many.1, h1', h2']
      exact hK
  · have h1' : ¬ ((1 : Int) ≤ (l.length : Int)) := by omega
    rw [decide_eq_false h1, Bool.false_and] at hK
    simp only [lstW, C_store_Many, A_, simprocAttr, ne_eq, U_store_Many.1, h1']
    exact hK
def EntS (g : Ent → Bool) (C : CallW) (f : FuncId) : Prop := ∀ (e : Ent) S H (K : AV → St → Prop), e.writes.length ≤ 9223372036854775807 → (∀ G, K (.bool (g e)) ⟨S, H ++ G⟩) → C (.fn f) [.agg (enc e)] ⟨S, H⟩ K
set_option maxHeartbeats 8000000 in
theorem prep_May_spec {C : CallW} (P : Program) {c : Nat → FuncId} (h0 : ∀ s : Stp, FnS C (c 0) [.agg (stc s)] (.bool (goodS s))) (h1 : ∀ l : List Wr, FnS C (c 1) [lstW l] (.bool (decide (1 ≤ l.length) && decide (l.length ≤ 16)))) (h2 : GoodWS C (c 2)) : ∀ (e : Ent) S H (K : AV → St → Prop), e.writes.length ≤ 9223372036854775807 → (∀ G, K (.bool (mayE e)) ⟨S, H ++ G⟩) → runL C P (C_prep_May c) [.agg (enc e)] ⟨S, H⟩ K := by
  intro e S H K hl hK
  have hK0 := hK []
  rw [List.append_nil] at hK0
  unfold mayE at hK hK0
  have h0' := h0 e.snap
  unfold stc at h0'
  have h1' := h1 e.writes
  have h2' := h2 e.writes
  unfold lstW at h1' h2'
  by_cases e1 : 1 ≤ e.id
  case neg =>
    simp only [e1, decide_false, Bool.false_and] at hK0
    simp only [C_prep_May, A_, simprocAttr, ne_eq, (U_prep_May _).1, enc, e1]
    exact hK0
  simp only [C_prep_May, A_, simprocAttr, ne_eq, (U_prep_May _).1, enc, e1]
  refine h0' _ _ _ ?_
  cases e2 : goodS e.snap with
  | false =>
    simp only [e1, e2, decide_true, Bool.true_and, Bool.false_and] at hK0
    simp only [A_, simprocAttr, ne_eq, (U_prep_May _).1]
    exact hK0
  | true =>
  simp only [A_, simprocAttr, ne_eq, (U_prep_May _).1]
  refine h1' _ _ _ ?_
  cases e3 : (decide (1 ≤ e.writes.length) && decide (e.writes.length ≤ 16)) with
  | false =>
    simp only [e1, e2, decide_true, Bool.true_and, e3, Bool.false_and] at hK0
    simp only [A_, simprocAttr, ne_eq, (U_prep_May _).1]
    exact hK0
  | true =>
  simp only [A_, simprocAttr, ne_eq, (U_prep_May _).1]
  refine h2' _ _ _ hl fun G => ?_
  have := hK G
  simp only [e1, e2, decide_true, Bool.true_and, e3] at this
  simp only [A_, simprocAttr, ne_eq, (U_prep_May _).1]
  exact this
set_option maxHeartbeats 8000000 in
theorem prep_Good_spec {C : CallW} (P : Program) {c : Nat → FuncId} (h0 : EntS mayE C (c 0)) (h1 : ∀ s : Stp, FnS C (c 1) [.agg (stc s)] (.bool (goodS s))) (h2 : CmpSS C (c 2)) : ∀ (e : Ent) S H (K : AV → St → Prop), e.writes.length ≤ 9223372036854775807 → (∀ G, K (.bool (goodE e)) ⟨S, H ++ G⟩) → runL C P (C_prep_Good c) [.agg (enc e)] ⟨S, H⟩ K := by
  intro e S H K hl hK
  have h0' := h0 e
  unfold enc at h0'
  have h1' := h1 e.stamp
  unfold stc at h1'
  have h2' := h2 e.stamp e.snap
  unfold stc at h2'
  unfold goodE at hK
  simp only [C_prep_Good, A_, simprocAttr, ne_eq, (U_prep_Good _).1, enc]
  refine h0' _ _ _ hl fun G => ?_
  have hKG := hK G
  cases e1 : mayE e with
  | false =>
    simp only [e1, Bool.false_and] at hKG
    simp only [A_, simprocAttr, ne_eq, (U_prep_Good _).1]
    exact hKG
  | true =>
  simp only [A_, simprocAttr, ne_eq, (U_prep_Good _).1]
  refine h1' _ _ _ ?_
  cases e2 : goodS e.stamp with
  | false =>
    simp only [e1, e2, Bool.and_false, Bool.false_and] at hKG
    simp only [A_, simprocAttr, ne_eq, (U_prep_Good _).1]
    exact hKG
  | true =>
  simp only [A_, simprocAttr, ne_eq, (U_prep_Good _).1]
  refine h2' _ _ _ ?_
  simp only [e1, e2, Bool.and_true, Bool.true_and] at hKG
  by_cases e3 : 0 < cmpS e.stamp e.snap
  · simp only [e3, decide_true] at hKG
    simp only [A_, simprocAttr, ne_eq, (U_prep_Good _).1, e3]
    exact hKG
  · simp only [e3, decide_false] at hKG
    simp only [A_, simprocAttr, ne_eq, (U_prep_Good _).1, e3]
    exact hKG
set_option maxHeartbeats 8000000 in
theorem ref10_GoodEntry_spec {C : CallW} (P : Program) {c : Nat → FuncId} (h0 : ∀ s : Stp, FnS C (c 0) [.agg (stc s)] (.bool (goodS s))) (h1 : CmpSS C (c 1)) (h2 : MayWS C (c 2)) : ∀ (e : Ent) S H (K : AV → St → Prop), e.writes.length ≤ 9223372036854775807 → K (.bool (goodE e)) ⟨S, H⟩ → runL C P (C_hourglassref10_GoodEntry c) [.agg (enc e)] ⟨S, H⟩ K := by
  intro e S H K hl hK
  have h0a := h0 e.snap
  have h0b := h0 e.stamp
  unfold stc at h0a h0b
  have h1' := h1 e.stamp e.snap
  unfold stc at h1'
  have h2' := h2 e.writes 1
  unfold lstW at h2'
  unfold goodE mayE at hK
  by_cases e1 : 1 ≤ e.id
  case neg =>
    simp only [e1, decide_false, Bool.false_and] at hK
    simp only [C_hourglassref10_GoodEntry, A_, simprocAttr, ne_eq, (U_hourglassref10_GoodEntry _).1, enc, e1]
    exact hK
  simp only [C_hourglassref10_GoodEntry, A_, simprocAttr, ne_eq, (U_hourglassref10_GoodEntry _).1, enc, e1]
  refine h0a _ _ _ ?_
  cases e2 : goodS e.snap with
  | false =>
    simp only [e1, e2, decide_true, Bool.true_and, Bool.false_and] at hK
    simp only [A_, simprocAttr, ne_eq, (U_hourglassref10_GoodEntry _).1]
    exact hK
  | true =>
  simp only [A_, simprocAttr, ne_eq, (U_hourglassref10_GoodEntry _).1]
  refine h0b _ _ _ ?_
  cases e3 : goodS e.stamp with
  | false =>
    simp only [e3, Bool.and_false, Bool.false_and] at hK
    simp only [A_, simprocAttr, ne_eq, (U_hourglassref10_GoodEntry _).1]
    exact hK
  | true =>
  simp only [A_, simprocAttr, ne_eq, (U_hourglassref10_GoodEntry _).1]
  refine h1' _ _ _ ?_
  by_cases e4 : 0 < cmpS e.stamp e.snap
  case neg =>
    simp only [e4, decide_false, Bool.and_false] at hK
    simp only [A_, simprocAttr, ne_eq, (U_hourglassref10_GoodEntry _).1, e4]
    exact hK
  simp only [A_, simprocAttr, ne_eq, (U_hourglassref10_GoodEntry _).1, e4]
  refine h2' _ _ _ hl ?_
  simp only [e1, e2, e3, e4, decide_true, Bool.true_and, Bool.and_true] at hK
  unfold mayW
  simp only [A_, simprocAttr, ne_eq, (U_hourglassref10_GoodEntry _).1]
  exact hK
end Go.AM
namespace Go.AM
open Go
set_option maxRecDepth 20000
def onlyR (r : Rec) : Rec :=
  if r.kind = 1 then ⟨r.kind, r.id, r.snap, r.stamp, r.writes, false, []⟩
  else if r.kind = 2 ∨ r.kind = 5 then ⟨r.kind, r.id, ⟨0, 0⟩, r.stamp, [], false, []⟩
  else if r.kind = 4 then ⟨r.kind, r.id, ⟨0, 0⟩, if r.yes = true then r.stamp else ⟨0, 0⟩, [], r.yes, r.parts⟩
  else ⟨r.kind, r.id, ⟨0, 0⟩, ⟨0, 0⟩, [], false, []⟩
theorem storeP_stk {S : List (List AV)} {l : List (List AV)} {H : List HObj} {j n off : Nat} {vs : List AV} (hj : j < l.length) (h : off + n ≤ (l.getD j []).length) (hv : vs.length = n) (hn : 2 ≤ n) (hu : AV.under.go (S.length + j) vs = true) : storeL n (.ptr (.stk (S.length + j)) off) (.agg vs) ⟨S ++ l, H⟩ = some ⟨S ++ l.set j ((l.getD j []).take off ++ vs ++ (l.getD j []).drop (off + n)), H⟩ := by
  have e : l[j]? = some (l.getD j []) := by simp [List.getD, hj]
  have hs : splice (l.getD j []) off vs = (l.getD j []).take off ++ vs ++ (l.getD j []).drop (off + n) := by
    unfold splice
    split
    · simp at hv; omega
    · rw [hv]
  simp only [storeL, AV.cells, AV.fit, hv, writeCells, boxOf_stk, app_get, e, Option.bind_some, hs, setBox_stk, app_set, mayHold, hu, h, decide_true, Bool.and_self, if_true, true_and]
  rw [if_pos (by simp; omega)]
theorem storeP_stk0 {S : List (List AV)} {l : List (List AV)} {H : List HObj} {n off : Nat} {vs : List AV} (hj : 0 < l.length) (h : off + n ≤ (l.getD 0 []).length) (hv : vs.length = n) (hn : 2 ≤ n) (hu : AV.under.go S.length vs = true) : storeL n (.ptr (.stk S.length) off) (.agg vs) ⟨S ++ l, H⟩ = some ⟨S ++ l.set 0 ((l.getD 0 []).take off ++ vs ++ (l.getD 0 []).drop (off + n)), H⟩ := storeP_stk (j := 0) hj h hv hn hu
def WkK (K : AV → St → Prop) : AV → St → Prop := fun v s => ∃ b, (b = v ∨ WkL [v.sh] [b]) ∧ K b s
theorem rcc_cell {r : Rec} : ∀ c ∈ rcc r, c.isCell = true := by
  intro c hc
  simp only [rcc, List.mem_cons, List.not_mem_nil, or_false] at hc
  rcases hc with rfl | rfl | rfl | rfl | rfl | rfl | rfl | rfl | rfl <;> rfl
theorem rcc_wk (r : Rec) (x z : AV) (hx : x = .list .sh 18 (r.writes.map wA) ∨ x = .s .nilS ∧ r.writes = []) (hz : z = .list .sh 1 (r.parts.map pI) ∨ z = .s .nilS ∧ r.parts = []) : WkL [(AV.agg [.s (.int .i64 r.kind), .s (.int .i64 r.id), .s (.int .i64 r.snap.t), u8 r.snap.n, .s (.int .i64 r.stamp.t), u8 r.stamp.n, x, .s (.bool r.yes), z]).sh] [.agg (rcc r)] := by
  have hsh : ∀ l, (AV.agg l).sh = .agg l := fun _ => rfl
  rw [hsh]
  refine .agg (.same (.same (.same (.same (.same (.same ?_)))))) rcc_cell .nil
  rcases hx with rfl | ⟨rfl, h1⟩ <;> rcases hz with rfl | ⟨rfl, h2⟩
  · exact .same (.same (.same .nil))
  · rw [h2]; exact .same (.same (.nilS (by omega) .nil))
  · rw [h1]; exact .nilS (by omega) (.same (.same .nil))
  · rw [h1, h2]; exact .nilS (by omega) (.same (.nilS (by omega) .nil))
set_option maxHeartbeats 16000000 in
theorem rec_only_spec {C : CallW} (P : Program) : ∀ (r : Rec) S H (K : AV → St → Prop), K (.agg (rcc (onlyR r))) ⟨S, H⟩ → runL C P C_rec_only [.agg (rcc r)] ⟨S, H⟩ (WkK K) := by
  intro r S H K hK
  unfold onlyR at hK
  by_cases k1 : r.kind = 1
  · rw [if_pos k1] at hK
    have k1' := eq_true k1
    simp only [C_rec_only, A_, simprocAttr, ne_eq, U_rec_only.1, fillL, storeP_stk, storeP_stk0, rcc, k1']
    refine ⟨_, ?_, hK⟩
    exact .inr (rcc_wk ⟨r.kind, r.id, r.snap, r.stamp, r.writes, false, []⟩ _ _ (.inl rfl) (.inr ⟨rfl, rfl⟩))
  rw [if_neg k1] at hK
  by_cases k2 : r.kind = 2
  · rw [if_pos (.inl k2)] at hK
    have k2' := eq_true k2
    simp only [C_rec_only, A_, simprocAttr, ne_eq, U_rec_only.1, fillL, storeP_stk, storeP_stk0, rcc, k1, k2']
    refine ⟨_, ?_, hK⟩
    exact .inr (rcc_wk ⟨r.kind, r.id, ⟨0, 0⟩, r.stamp, [], false, []⟩ _ _ (.inr ⟨rfl, rfl⟩) (.inr ⟨rfl, rfl⟩))
  by_cases k5 : r.kind = 5
  · rw [if_pos (.inr k5)] at hK
    have k5' := eq_true k5
    simp only [C_rec_only, A_, simprocAttr, ne_eq, U_rec_only.1, fillL, storeP_stk, storeP_stk0, rcc, k1, k2, k5']
    refine ⟨_, ?_, hK⟩
    exact .inr (rcc_wk ⟨r.kind, r.id, ⟨0, 0⟩, r.stamp, [], false, []⟩ _ _ (.inr ⟨rfl, rfl⟩) (.inr ⟨rfl, rfl⟩))
  rw [if_neg (by rintro (h | h); exact k2 h; exact k5 h)] at hK
  by_cases k4 : r.kind = 4
  · rw [if_pos k4] at hK
    have k4' := eq_true k4
    cases hy : r.yes with
    | true =>
      rw [hy, if_pos rfl] at hK
      simp only [C_rec_only, A_, simprocAttr, ne_eq, U_rec_only.1, fillL, storeP_stk, storeP_stk0, rcc, k1, k2, k5, k4', hy]
      refine ⟨_, ?_, hK⟩
      exact .inr (rcc_wk ⟨r.kind, r.id, ⟨0, 0⟩, r.stamp, [], true, r.parts⟩ _ _ (.inr ⟨rfl, rfl⟩) (.inl rfl))
    | false =>
      rw [hy, if_neg (by simp)] at hK
      simp only [C_rec_only, A_, simprocAttr, ne_eq, U_rec_only.1, fillL, storeP_stk, storeP_stk0, rcc, k1, k2, k5, k4', hy]
      refine ⟨_, ?_, hK⟩
      exact .inr (rcc_wk ⟨r.kind, r.id, ⟨0, 0⟩, ⟨0, 0⟩, [], false, r.parts⟩ _ _ (.inr ⟨rfl, rfl⟩) (.inl rfl))
  · rw [if_neg k4] at hK
    simp only [C_rec_only, A_, simprocAttr, ne_eq, U_rec_only.1, fillL, storeP_stk, storeP_stk0, rcc, k1, k2, k5, k4]
    refine ⟨_, ?_, hK⟩
    exact .inr (rcc_wk ⟨r.kind, r.id, ⟨0, 0⟩, ⟨0, 0⟩, [], false, []⟩ _ _ (.inr ⟨rfl, rfl⟩) (.inr ⟨rfl, rfl⟩))
def goodRec (r : Rec) : Bool :=
  if r ≠ onlyR r then false
  else if r.kind = 1 then goodE ⟨r.id, r.snap, r.stamp, r.writes⟩
  else if r.kind = 2 then decide (1 ≤ r.id) && goodS r.stamp
  else if r.kind = 3 then decide (1 ≤ r.id)
  else if r.kind = 4 then decide (1 ≤ r.id) && goodS r.stamp && goodParts r.parts
  else if r.kind = 5 then decide (r.id = 0) && goodS r.stamp && decide (r.stamp.n = 0)
  else false
theorem onlyR_ok {r : Rec} (h : okR r) : okR (onlyR r) := by
  unfold onlyR okR at *
  split
  · exact ⟨h.1, by simp⟩
  · split
    · simp
    · split
      · exact ⟨by simp, h.2⟩
      · simp
def OnlyS (C : CallW) (f : FuncId) : Prop := ∀ (r : Rec), FnS C f [.agg (rcc r)] (.agg (rcc (onlyR r)))
def GoodRS (C : CallW) (f : FuncId) : Prop := ∀ (r : Rec) S H (K : AV → St → Prop), okR r → (∀ G, K (.bool (goodRec r)) ⟨S, H ++ G⟩) → C (.fn f) [.agg (rcc r)] ⟨S, H⟩ K
set_option maxHeartbeats 16000000 in
theorem rec_Good_spec {C : CallW} (P : Program) {c : Nat → FuncId} (h0 : OnlyS C (c 0)) (h1 : SameS C (c 1)) (h2 : EntS goodE C (c 2)) (h3 : ∀ s : Stp, FnS C (c 3) [.agg (stc s)] (.bool (goodS s))) (h4 : PartsS C (c 4)) : ∀ (r : Rec) S H (K : AV → St → Prop), okR r → (∀ G, K (.bool (goodRec r)) ⟨S, H ++ G⟩) → runL C P (C_rec_Good c) [.agg (rcc r)] ⟨S, H⟩ K := by
  intro r S H K hr hK
  have hK0 := hK []
  rw [List.append_nil] at hK0
  have h0' := h0 r
  have h1' := h1 r (onlyR r)
  have h2' := h2 ⟨r.id, r.snap, r.stamp, r.writes⟩
  have h3' := h3 r.stamp
  have h4' := h4 r.parts
  have ecut : ∀ q, rcc r = q → q = rcc r := fun _ h => h.symm
  unfold stc at h3'
  unfold lstN at h4'
  unfold enc at h2'
  unfold goodRec at hK hK0
  have hrc : rcc r = [.s (.int .i64 r.kind), .s (.int .i64 r.id), .s (.int .i64 r.snap.t), u8 r.snap.n, .s (.int .i64 r.stamp.t), u8 r.stamp.n, .list .sh 18 (r.writes.map wA), .s (.bool r.yes), .list .sh 1 (r.parts.map pI)] := rfl
  rw [hrc] at h0' h1'
  simp only [C_rec_Good, A_, simprocAttr, ne_eq, (U_rec_Good _).1, rcc]
  refine h0' _ _ _ ?_
  generalize ho : onlyR r = o at *
  have hoc : rcc o = [.s (.int .i64 o.kind), .s (.int .i64 o.id), .s (.int .i64 o.snap.t), u8 o.snap.n, .s (.int .i64 o.stamp.t), u8 o.stamp.n, .list .sh 18 (o.writes.map wA), .s (.bool o.yes), .list .sh 1 (o.parts.map pI)] := rfl
  rw [hoc] at h1'
  simp only [A_, simprocAttr, ne_eq, (U_rec_Good _).1, rcc]
  refine h1' _ _ _ hr (ho ▸ onlyR_ok hr) ?_
  by_cases heq : r = o
  case neg =>
    rw [if_pos heq] at hK0
    simp only [A_, simprocAttr, ne_eq, (U_rec_Good _).1, heq]
    exact hK0
  have heq' := eq_true heq
  rw [if_neg (by simpa using heq)] at hK hK0
  simp only [A_, simprocAttr, ne_eq, (U_rec_Good _).1, heq']
  by_cases k1 : r.kind = 1
  · rw [if_pos k1] at hK
    have k1' := eq_true k1
    simp only [A_, simprocAttr, ne_eq, (U_rec_Good _).1, fillL, k1']
    refine h2' _ _ _ hr.1 fun G => ?_
    simp only [A_, simprocAttr, ne_eq, (U_rec_Good _).1]
    exact hK G
  rw [if_neg k1] at hK hK0
  by_cases k2 : r.kind = 2
  · rw [if_pos k2] at hK0
    have k2' := eq_true k2
    by_cases e1 : 1 ≤ r.id
    · simp only [A_, simprocAttr, ne_eq, (U_rec_Good _).1, k1, k2', e1]
      refine h3' _ _ _ ?_
      simp only [e1, decide_true, Bool.true_and] at hK0
      simp only [A_, simprocAttr, ne_eq, (U_rec_Good _).1]
      exact hK0
    · simp only [e1, decide_false, Bool.false_and] at hK0
      simp only [A_, simprocAttr, ne_eq, (U_rec_Good _).1, k1, k2', e1]
      exact hK0
  rw [if_neg k2] at hK0
  by_cases k3 : r.kind = 3
  · rw [if_pos k3] at hK0
    have k3' := eq_true k3
    by_cases e1 : 1 ≤ r.id
    · simp only [e1, decide_true] at hK0
      simp only [A_, simprocAttr, ne_eq, (U_rec_Good _).1, k1, k2, k3', e1]
      exact hK0
    · simp only [e1, decide_false] at hK0
      simp only [A_, simprocAttr, ne_eq, (U_rec_Good _).1, k1, k2, k3', e1]
      exact hK0
  rw [if_neg k3] at hK0
  by_cases k4 : r.kind = 4
  · rw [if_pos k4] at hK0
    have k4' := eq_true k4
    by_cases e1 : 1 ≤ r.id
    · simp only [A_, simprocAttr, ne_eq, (U_rec_Good _).1, k1, k2, k3, k4', e1]
      refine h3' _ _ _ ?_
      cases e2 : goodS r.stamp with
      | false =>
        simp only [e1, e2, decide_true, Bool.true_and, Bool.false_and] at hK0
        simp only [A_, simprocAttr, ne_eq, (U_rec_Good _).1]
        exact hK0
      | true =>
        simp only [e1, e2, decide_true, Bool.true_and] at hK0
        simp only [A_, simprocAttr, ne_eq, (U_rec_Good _).1]
        refine h4' _ _ _ hr.2 ?_
        simp only [A_, simprocAttr, ne_eq, (U_rec_Good _).1]
        exact hK0
    · simp only [e1, decide_false, Bool.false_and] at hK0
      simp only [A_, simprocAttr, ne_eq, (U_rec_Good _).1, k1, k2, k3, k4', e1]
      exact hK0
  rw [if_neg k4] at hK0
  by_cases k5 : r.kind = 5
  · rw [if_pos k5] at hK0
    have k5' := eq_true k5
    by_cases e1 : r.id = 0
    · have e1' := eq_true e1
      simp only [A_, simprocAttr, ne_eq, (U_rec_Good _).1, k1, k2, k3, k4, k5', e1']
      refine h3' _ _ _ ?_
      cases e2 : goodS r.stamp with
      | false =>
        simp only [e1, e2, decide_true, Bool.true_and, Bool.false_and] at hK0
        simp only [A_, simprocAttr, ne_eq, (U_rec_Good _).1]
        exact hK0
      | true =>
        simp only [e1, e2, decide_true, Bool.true_and] at hK0
        have ez : decide ((r.stamp.n.toNat : Int) = 0) = decide (r.stamp.n = 0) := by simp only [u8_zero]
        simp only [A_, simprocAttr, ne_eq, (U_rec_Good _).1, u8, ez]
        exact hK0
    · simp only [e1, decide_false, Bool.false_and] at hK0
      simp only [A_, simprocAttr, ne_eq, (U_rec_Good _).1, k1, k2, k3, k4, k5', e1]
      exact hK0
  · rw [if_neg k5] at hK0
    simp only [A_, simprocAttr, ne_eq, (U_rec_Good _).1, k1, k2, k3, k4, k5]
    exact hK0
end Go.AM
namespace Go.AM
open Go
set_option maxRecDepth 20000
theorem ref1_End_spec {C : CallW} (P : Program) : ∀ (j : Nat) (B : List UInt8) (p : Nat) (bad : Bool) S H (K : AV → St → Prop), S[j]? = some (rfc B p bad) → p ≤ B.length → K (.bool (decide (rfA B p bad = some []))) ⟨S, H⟩ → runL C P C_hourglassref1_Reader_End [.ptr (.stk j) 0] ⟨S, H⟩ K := by
  intro j B p bad S H K hj hp hK
  have hj' : S[j]? = some [.list .sh 1 (bs B), .s (.int .i64 p), .s (.bool bad)] := hj
  have hBl := bs_length B
  cases bad with
  | true =>
    rw [rfA_t, decide_eq_false (by simp)] at hK
    simp only [C_hourglassref1_Reader_End, A_, simprocAttr, ne_eq, U_hourglassref1_Reader_End.1, hj']
    exact hK
  | false =>
    rw [rfA_f] at hK
    have : (some (B.drop p) = some ([] : List UInt8)) = ((p : Int) = (B.length : Int)) := propext ⟨fun h => by
      have := congrArg List.length (Option.some.inj h)
      simp at this; omega, fun h => by rw [List.drop_of_length_le (by omega)]⟩
    simp only [this] at hK
    simp only [C_hourglassref1_Reader_End, A_, simprocAttr, ne_eq, U_hourglassref1_Reader_End.1, hj', hBl]
    exact hK
def EndS (C : CallW) (f : FuncId) : Prop := ∀ (j : Nat) (B : List UInt8) (p : Nat) (bad : Bool) S H (K : AV → St → Prop), S[j]? = some (rfc B p bad) → p ≤ B.length → K (.bool (decide (rfA B p bad = some []))) ⟨S, H⟩ → C (.fn f) [.ptr (.stk j) 0] ⟨S, H⟩ K
set_option maxHeartbeats 8000000 in
theorem law14_rcd_spec {C : CallW} (P : Program) : ∀ (r : Rec) S H (K : AV → St → Prop), K (.agg (rcc r)) ⟨S, H⟩ → runL C P C_hourglasslaw14_rcd [.agg (rcc r)] ⟨S, H⟩ K := by
  intro r S H K hK
  simp only [C_hourglasslaw14_rcd, A_, simprocAttr, ne_eq, U_hourglasslaw14_rcd.1, fillL, rcc]
  exact hK
def long14 (l : List Wr) : Bool := decide (20 < l.length) || l.any fun w => decide (250 < w.val.length)
theorem law14_long_spec {C : CallW} (hC : LeC C C) (P : Program) : ∀ (l : List Wr) S H (K : AV → St → Prop), l.length ≤ 9223372036854775807 → K (.bool (long14 l)) ⟨S, H⟩ → runL C P C_hourglasslaw14_long [lstW l] ⟨S, H⟩ K := by
  intro l S H K hl hK
  unfold long14 at hK
  by_cases h20 : 20 < l.length
  · have h20' : ((20 : Int) < (l.length : Int)) := by omega
    rw [decide_eq_true h20, Bool.true_or] at hK
    simp only [lstW, C_hourglasslaw14_long, A_, simprocAttr, ne_eq, U_hourglasslaw14_long.1, h20']
    exact hK
  have h20' : ¬ ((20 : Int) < (l.length : Int)) := by omega
  rw [decide_eq_false h20, Bool.false_or] at hK
  simp only [lstW, C_hourglasslaw14_long, A_, simprocAttr, ne_eq, U_hourglasslaw14_long.1, h20']
  refine loop_rule hC (α := Nat) (fun a => l.length - a) (fun a => [.list .sh 18 (l.map wA), .undef, .undef, .s (.int .i64 a), .undef, .undef, .undef, .undef, .undef, .undef, .undef, .undef, .undef, .undef, .undef, .undef, .undef, .undef, .undef, .undef]) (fun _ => S) (fun _ => H) (fun i => i ≤ l.length ∧ (l.any fun w => decide (250 < w.val.length)) = ((l.drop i).any fun w => decide (250 < w.val.length))) 0 ⟨by simp, rfl⟩ rfl (by simp) rfl (fun a _ => by simp [AV.under, AV.under.go]) ?_
  rintro i ⟨hi, hinv⟩ ih
  by_cases h16 : i < l.length
  · have hlt : ((i : Int) < (l.length : Int)) := by omega
    have hw : IntKind.i64.wrap ((i : Int) + 1) = (i : Int) + 1 := wrap_i64 (by omega) (by omega)
    rw [List.drop_eq_getElem_cons h16, List.any_cons] at hinv
    by_cases e : 250 < (l[i]).val.length
    · have e' : ((250 : Int) < ((l[i]).val.length : Int)) := by omega
      rw [decide_eq_true e, Bool.true_or] at hinv
      rw [hinv] at hK
      simp only [A_, simprocAttr, ne_eq, U_hourglasslaw14_long.1, hlt, h16, e']
      exact hK
    · have e' : ¬ ((250 : Int) < ((l[i]).val.length : Int)) := by omega
      rw [decide_eq_false e, Bool.false_or] at hinv
      simp only [A_, simprocAttr, ne_eq, U_hourglasslaw14_long.1, hlt, h16, e', hw]
      exact ih (i + 1) _ _ _ (by omega) ⟨by omega, hinv⟩ rfl (by simp) rfl
  · have hlt : ¬ ((i : Int) < (l.length : Int)) := by omega
    rw [List.drop_of_length_le (by omega), List.any_nil] at hinv
    rw [hinv] at hK
    simp only [A_, simprocAttr, ne_eq, U_hourglasslaw14_long.1, hlt]
    exact hK
def great14 (r : Rec) : Bool := long14 r.writes || decide (12 < r.parts.length)
def Long14S (C : CallW) (f : FuncId) : Prop := ∀ (l : List Wr) S H (K : AV → St → Prop), l.length ≤ 9223372036854775807 → K (.bool (long14 l)) ⟨S, H⟩ → C (.fn f) [lstW l] ⟨S, H⟩ K
theorem law14_great_spec {C : CallW} (P : Program) {c : Nat → FuncId} (h0 : Long14S C (c 0)) : ∀ (r : Rec) S H (K : AV → St → Prop), okR r → K (.bool (great14 r)) ⟨S, H⟩ → runL C P (C_hourglasslaw14_great c) [.agg (rcc r)] ⟨S, H⟩ K := by
  intro r S H K hr hK
  unfold great14 at hK
  have h0' := h0 r.writes
  unfold lstW at h0'
  have hlp : (r.parts.map pI).length = r.parts.length := List.length_map _
  simp only [C_hourglasslaw14_great, A_, simprocAttr, ne_eq, (U_hourglasslaw14_great _).1, rcc]
  refine h0' _ _ _ hr.1 ?_
  cases e : long14 r.writes with
  | true =>
    rw [e, Bool.true_or] at hK
    simp only [A_, simprocAttr, ne_eq, (U_hourglasslaw14_great _).1]
    exact hK
  | false =>
    rw [e, Bool.false_or] at hK
    have : (12 < r.parts.length) = ((12 : Int) < (r.parts.length : Int)) := propext (by omega)
    simp only [this] at hK
    simp only [A_, simprocAttr, ne_eq, (U_hourglasslaw14_great _).1, hlp]
    exact hK
set_option maxHeartbeats 16000000 in
theorem ref14_Same_spec {C : CallW} (hC : LeC C C) (P : Program) {c : Nat → FuncId} (h0 : EqWS C (c 0)) : ∀ (a b : Rec) S H (K : AV → St → Prop), okR a → okR b → K (.bool (decide (a = b))) ⟨S, H⟩ → runL C P (C_hourglassref14_Same c) [.agg (rcc a), .agg (rcc b)] ⟨S, H⟩ K := by
  intro a b S H K ha hb hK
  have hlpa : (a.parts.map pI).length = a.parts.length := List.length_map _
  have hlpb : (b.parts.map pI).length = b.parts.length := List.length_map _
  by_cases e1 : a.kind = b.kind
  case neg =>
    rw [decide_eq_false (fun e => e1 (by rw [e]))] at hK
    simp only [C_hourglassref14_Same, A_, simprocAttr, ne_eq, (U_hourglassref14_Same _).1, rcc, e1]
    exact hK
  have e1' := eq_true e1
  by_cases e2 : a.id = b.id
  case neg =>
    rw [decide_eq_false (fun e => e2 (by rw [e]))] at hK
    simp only [C_hourglassref14_Same, A_, simprocAttr, ne_eq, (U_hourglassref14_Same _).1, rcc, e1', e2]
    exact hK
  have e2' := eq_true e2
  by_cases e3 : a.snap = b.snap
  case neg =>
    rw [decide_eq_false (fun e => e3 (by rw [e]))] at hK
    simp only [C_hourglassref14_Same, A_, simprocAttr, ne_eq, (U_hourglassref14_Same _).1, rcc, e1', e2', stp_beq2, e3]
    exact hK
  have e3' := eq_true e3
  by_cases e4 : a.stamp = b.stamp
  case neg =>
    rw [decide_eq_false (fun e => e4 (by rw [e]))] at hK
    simp only [C_hourglassref14_Same, A_, simprocAttr, ne_eq, (U_hourglassref14_Same _).1, rcc, e1', e2', stp_beq2, e3', e4]
    exact hK
  have e4' := eq_true e4
  have h0' := h0 a.writes b.writes
  unfold lstW at h0'
  simp only [C_hourglassref14_Same, A_, simprocAttr, ne_eq, (U_hourglassref14_Same _).1, rcc, e1', e2', stp_beq2, e3', e4']
  refine h0' _ _ _ ha.1 hb.1 ?_
  by_cases e6 : a.writes = b.writes
  case neg =>
    rw [decide_eq_false (fun e => e6 (by rw [e]))] at hK
    simp only [A_, simprocAttr, ne_eq, (U_hourglassref14_Same _).1, e6]
    exact hK
  have e6' := eq_true e6
  by_cases e5 : a.yes = b.yes
  case neg =>
    rw [decide_eq_false (fun e => e5 (by rw [e]))] at hK
    simp only [A_, simprocAttr, ne_eq, (U_hourglassref14_Same _).1, e6', e5]
    exact hK
  have e5' := eq_true e5
  by_cases el : a.parts.length = b.parts.length
  case neg =>
    have el' : ¬ ((a.parts.length : Int) = (b.parts.length : Int)) := by omega
    rw [decide_eq_false (fun e => el (by rw [e]))] at hK
    simp only [A_, simprocAttr, ne_eq, (U_hourglassref14_Same _).1, e6', e5', hlpa, hlpb, el']
    exact hK
  have el' := eq_true (show ((a.parts.length : Int) = (b.parts.length : Int)) by omega)
  have : decide (a = b) = decide (a.parts = b.parts) := by
    cases a; cases b
    simp only [Rec.mk.injEq] at *
    simp [e1, e2, e3, e4, e5, e6]
  rw [this] at hK
  have hal := ha.2
  simp only [A_, simprocAttr, ne_eq, (U_hourglassref14_Same _).1, e6', e5', hlpa, hlpb, el']
  refine loop_rule hC (α := Nat) (fun i => a.parts.length - i) (fun i => [.undef, .undef, .ptr (.stk S.length) 0, .ptr (.stk (S.length + 1)) 0, .undef, .s (.int .i64 i), .undef, .undef, .undef, .undef, .undef, .undef, .undef, .undef, .undef, .undef, .undef, .undef, .undef, .undef, .undef, .undef, .undef, .undef, .undef, .undef, .undef, .undef, .undef, .undef, .undef, .undef, .undef, .undef, .undef, .undef, .undef, .undef, .undef, .undef, .undef, .undef, .undef, .undef, .undef, .undef, .undef, .undef, .undef, .undef, .undef, .undef, .undef, .undef, .undef, .undef, .undef, .undef, .undef, .undef, .undef, .undef, .undef, .undef, .undef, .undef, .undef, .undef, .undef, .undef, .undef, .undef, .undef, .undef]) (fun _ => S ++ [rcc a, rcc b]) (fun _ => H) (fun i => i ≤ a.parts.length ∧ decide (a.parts = b.parts) = decide (a.parts.drop i = b.parts.drop i)) 0 ⟨by simp, by simp⟩ rfl (by rw [app_take_add]; rfl) rfl (fun a _ => by simp [AV.under, AV.under.go]) ?_
  rintro i ⟨hi, hinv⟩ ih
  by_cases h16 : i < a.parts.length
  · have hlt : ((i : Int) < (a.parts.length : Int)) := by omega
    have h16' : i < b.parts.length := by omega
    have hw : IntKind.i64.wrap ((i : Int) + 1) = (i : Int) + 1 := wrap_i64 (by omega) (by omega)
    have hx1 := ixl_pI h16
    have hx2 := ixl_pI h16'
    rw [List.drop_eq_getElem_cons h16, List.drop_eq_getElem_cons h16'] at hinv
    by_cases he : a.parts[i] = b.parts[i]
    · have he' := eq_true he
      rw [he] at hinv
      simp only [List.cons.injEq, true_and] at hinv
      simp only [A_, simprocAttr, ne_eq, (U_hourglassref14_Same _).1, rcc, hlpa, hlt, hx1, hx2, he', hw]
      exact ih (i + 1) _ _ _ (by omega) ⟨by omega, hinv⟩ rfl (by rw [app_take_add]; rfl) rfl
    · simp only [List.cons.injEq, he, false_and, decide_false] at hinv
      rw [hinv] at hK
      simp only [A_, simprocAttr, ne_eq, (U_hourglassref14_Same _).1, rcc, hlpa, hlt, hx1, hx2, he]
      exact hK
  · have hlt : ¬ ((i : Int) < (a.parts.length : Int)) := by omega
    rw [List.drop_of_length_le (by omega), List.drop_of_length_le (by omega), decide_eq_true rfl] at hinv
    rw [hinv] at hK
    simp only [A_, simprocAttr, ne_eq, (U_hourglassref14_Same _).1, rcc, hlpa, hlt]
    exact hK
end Go.AM
namespace Go.AM
open Go
set_option maxRecDepth 20000
structure okB (r : Rec) : Prop where
  ws : r.writes.length ≤ 20
  vs : ∀ w ∈ r.writes, w.val.length ≤ 250
  ps : r.parts.length ≤ 12
  lo : -9223372036854775808 ≤ r.id
  hi : r.id ≤ 9223372036854775807
theorem okB.ok {r : Rec} (h : okB r) : okR r := ⟨by have := h.ws; omega, by have := h.ps; omega⟩
theorem gparts_mem : ∀ (l : List Int) (p : Int), gparts p l = true → ∀ x ∈ l, 0 ≤ x ∧ x < 8
  | [], _, _ => fun x hx => by simp at hx
  | y :: l, p, h => by
    intro x hx
    rw [gparts] at h
    split at h
    · cases h
    split at h
    · cases h
    split at h
    · cases h
    rcases List.mem_cons.1 hx with rfl | hx
    · omega
    · exact gparts_mem l y h x hx
theorem goodRec_kind {r : Rec} (h : goodRec r = true) : r.kind = 1 ∨ r.kind = 2 ∨ r.kind = 3 ∨ r.kind = 4 ∨ r.kind = 5 := by
  unfold goodRec at h
  split at h; · cases h
  split at h; · exact .inl ‹_›
  split at h; · exact .inr (.inl ‹_›)
  split at h; · exact .inr (.inr (.inl ‹_›))
  split at h; · exact .inr (.inr (.inr (.inl ‹_›)))
  split at h; · exact .inr (.inr (.inr (.inr ‹_›)))
  cases h
theorem goodRec_parts {r : Rec} (h : goodRec r = true) (h4 : r.kind = 4) : ∀ x ∈ r.parts, 0 ≤ x ∧ x < 8 := by
  unfold goodRec at h
  by_cases ho : r ≠ onlyR r
  · rw [if_pos ho] at h; cases h
  rw [if_neg ho] at h
  simp [h4] at h
  have := h.2
  unfold goodParts at this
  rw [Bool.and_eq_true] at this
  exact gparts_mem _ _ this.1
def putP (l : List Int) : List UInt8 := l.flatMap fun n => putN n.toNat
def putB (r : Rec) : List UInt8 := putN r.kind.toNat ++ putN (zig r.id)
def putRec (r : Rec) : List UInt8 :=
  if goodRec r = false then []
  else if r.kind = 1 then putB r ++ putN (packN r.snap) ++ putN (packN r.stamp) ++ putWs r.writes
  else if r.kind = 2 ∨ r.kind = 5 then putB r ++ putN (packN r.stamp)
  else if r.kind = 4 then putB r ++ putN (if r.yes = true then 1 else 0) ++ putN (packN r.stamp) ++ putN r.parts.length ++ putP r.parts
  else putB r
theorem pack_len (s : Stp) : (putN (packN s)).length ≤ 10 := putN_len10 (by have := packN_lt s; omega)
theorem putB_len {r : Rec} (h : okB r) (hk : r.kind.toNat < 100) : (putB r).length ≤ 20 := by
  have h1 := putN_len10 (v := r.kind.toNat) (by omega)
  have h2 := putN_len10 (v := zig r.id) (zig_lt h.lo h.hi)
  unfold putB; simp; omega
def RecPutS (C : CallW) (f : FuncId) : Prop := ∀ (r : Rec) S H (K : AV → St → Prop), okB r → (∀ G, K (.list .sh 1 (bs (putRec r))) ⟨S, H ++ G⟩) → C (.fn f) [.agg (rcc r)] ⟨S, H⟩ K
theorem wk_uniq {K : AV → St → Prop} {b : List UInt8} {s : St} {fl : Fl} (h : K (.list .sh 1 (bs b)) s) : WkK K (.list fl 1 (bs b)) s := by
  cases fl
  · exact ⟨_, .inl rfl, h⟩
  · exact ⟨_, .inr (show WkL [.list .sh 1 _] _ from .same .nil), h⟩
  · exact ⟨_, .inr (show WkL [.list .sh 1 _] _ from .same .nil), h⟩
  · exact ⟨_, .inr (show WkL [.list .full 1 _] _ from .full .nil), h⟩
set_option maxHeartbeats 16000000 in
theorem rec_Put_spec {C : CallW} (hC : LeC C C) (P : Program) {c : Nat → FuncId} (h0 : GoodRS C (c 0)) (h1 : NumS C (c 1)) (h2 : ∀ v : Int, -9223372036854775808 ≤ v → v ≤ 9223372036854775807 → FnS C (c 2) [.s (.int .i64 v)] (.s (.int .u64 (zig v : Nat)))) (h3 : PutS C (c 3)) (h4 : PutStampS C (c 4)) (h5 : PutWS C (c 5)) : ∀ (r : Rec) S H (K : AV → St → Prop), okB r → (∀ G, K (.list .sh 1 (bs (putRec r))) ⟨S, H ++ G⟩) → runL C P (C_rec_Put c) [.agg (rcc r)] ⟨S, H⟩ (WkK K) := by
  intro r S H K hr hK
  have h0' := h0 r
  have hrc : rcc r = [.s (.int .i64 r.kind), .s (.int .i64 r.id), .s (.int .i64 r.snap.t), u8 r.snap.n, .s (.int .i64 r.stamp.t), u8 r.stamp.n, .list .sh 18 (r.writes.map wA), .s (.bool r.yes), .list .sh 1 (r.parts.map pI)] := rfl
  rw [hrc] at h0'
  have h2' := h2 r.id hr.lo hr.hi
  simp only [C_rec_Put, A_, simprocAttr, ne_eq, (U_rec_Put _).1, rcc]
  refine h0' _ _ _ hr.ok fun G => ?_
  unfold putRec at hK
  cases hg : goodRec r with
  | false =>
    have := hK G
    rw [if_pos hg] at this
    simp only [A_, simprocAttr, ne_eq, (U_rec_Put _).1]
    exact ⟨_, .inr (.nilS (by omega) .nil), this⟩
  | true =>
  rw [if_neg (by rw [hg]; simp)] at hK
  have hk := goodRec_kind hg
  have hkn : r.kind = ((r.kind.toNat : Nat) : Int) := by omega
  have hkl : r.kind.toNat < 100 := by omega
  have hbl := putB_len hr hkl
  have h1k : ∀ S H (K : AV → St → Prop), K (.list .uniq 1 (bs ([] ++ putN r.kind.toNat))) ⟨S, H⟩ → C (.fn (c 1)) [.s .nilS, .s (.int .i64 r.kind)] ⟨S, H⟩ K := by
    intro S H K hK
    have := h1 (.s .nilS) [] r.kind.toNat S H K .n (by simp) (by omega) hK
    rwa [← hkn] at this
  simp only [A_, simprocAttr, ne_eq, (U_rec_Put _).1]
  refine h1k _ _ _ ?_
  simp only [A_, simprocAttr, ne_eq, (U_rec_Put _).1]
  refine h2' _ _ _ ?_
  simp only [A_, simprocAttr, ne_eq, (U_rec_Put _).1]
  refine h3 _ (putN r.kind.toNat) (zig r.id) _ _ _ .l (by have := putN_len10 (v := r.kind.toNat) (by omega); omega) (zig_lt hr.lo hr.hi) ?_
  have hpb : putN r.kind.toNat ++ putN (zig r.id) = putB r := rfl
  rw [hpb]
  generalize putB r = b0 at hbl hK ⊢
  have hs1 := pack_len r.snap
  have hs2 := pack_len r.stamp
  have h4a := fun a b => h4 a b r.snap
  have h4b := fun a b => h4 a b r.stamp
  unfold stc at h4a h4b
  have h5' := fun a b => h5 a b r.writes
  unfold lstW at h5'
  by_cases k1 : r.kind = 1
  · rw [if_pos k1] at hK
    have k1' := eq_true k1
    simp only [A_, simprocAttr, ne_eq, (U_rec_Put _).1, k1']
    refine h4a _ b0 _ _ _ .l (by omega) ?_
    simp only [A_, simprocAttr, ne_eq, (U_rec_Put _).1]
    refine h4b _ _ _ _ _ .l (by simp; omega) ?_
    simp only [A_, simprocAttr, ne_eq, (U_rec_Put _).1]
    refine h5' _ (b0 ++ putN (packN r.snap) ++ putN (packN r.stamp)) _ _ _ (by simp only [List.append_assoc]; exact .l) (by simp; omega) (by have := hr.ws; omega) (fun w hw => by have := hr.vs w hw; omega) fun G2 => ?_
    have := hK (G ++ G2)
    simp only [A_, simprocAttr, ne_eq, (U_rec_Put _).1]
    refine wk_uniq ?_
    simpa only [List.append_assoc] using this
  rw [if_neg k1] at hK
  by_cases k2 : r.kind = 2
  · rw [if_pos (.inl k2)] at hK
    have k2' := eq_true k2
    simp only [A_, simprocAttr, ne_eq, (U_rec_Put _).1, k1, k2']
    refine h4b _ b0 _ _ _ .l (by omega) ?_
    simp only [A_, simprocAttr, ne_eq, (U_rec_Put _).1]
    exact wk_uniq (hK G)
  by_cases k5 : r.kind = 5
  · rw [if_pos (.inr k5)] at hK
    have k5' := eq_true k5
    simp only [A_, simprocAttr, ne_eq, (U_rec_Put _).1, k1, k2, k5']
    refine h4b _ b0 _ _ _ .l (by omega) ?_
    simp only [A_, simprocAttr, ne_eq, (U_rec_Put _).1]
    exact wk_uniq (hK G)
  rw [if_neg (by rintro (h | h); exact k2 h; exact k5 h)] at hK
  by_cases k4 : r.kind = 4
  case neg =>
    rw [if_neg k4] at hK
    simp only [A_, simprocAttr, ne_eq, (U_rec_Put _).1, k1, k2, k5, k4]
    exact wk_uniq (hK G)
  rw [if_pos k4] at hK
  have k4' := eq_true k4
  have hpm := goodRec_parts hg k4
  have hpl := hr.ps
  have hlp : (r.parts.map pI).length = r.parts.length := List.length_map _
  have hfl : putP r.parts = putP r.parts := rfl
  have main : ∀ (fl : Nat), fl ≤ 1 → (∀ G, K (.list .sh 1 (bs (b0 ++ putN fl ++ putN (packN r.stamp) ++ putN r.parts.length ++ putP r.parts))) ⟨S, H ++ G⟩) → ∀ i, i ≤ r.parts.length → ((b0 ++ putN fl ++ putN (packN r.stamp) ++ putN r.parts.length ++ putP (r.parts.take i)).length ≤ 1000) := by
    intro fl hfl _ i hi
    have h1 := putN_len10 (v := fl) (by omega)
    have h2 := putN_len10 (v := r.parts.length) (by omega)
    have h3 : ∀ (l : List Int), l.length ≤ 12 → (∀ x ∈ l, 0 ≤ x ∧ x < 8) → (putP l).length ≤ 10 * l.length := by
      intro l
      induction l with
      | nil => intro _ _; simp [putP]
      | cons x l ih =>
        intro hl hx
        have h5 := ih (by simp at hl; omega) (fun y hy => hx y (List.mem_cons_of_mem _ hy))
        have h6 := hx x (List.mem_cons_self ..)
        have h7 := putN_len10 (v := x.toNat) (by omega)
        unfold putP at h5 ⊢
        rw [List.flatMap_cons, List.length_append, List.length_cons]; omega
    have h4 := h3 (r.parts.take i) (by rw [List.length_take]; omega) (fun x hx => hpm x (List.mem_of_mem_take hx))
    rw [List.length_take] at h4
    simp only [List.length_append]
    omega
  cases hy : r.yes with
  | true =>
    rw [hy, if_pos rfl] at hK
    have hlen := main 1 (by omega) hK
    simp only [List.append_assoc] at hlen hK
    simp only [A_, simprocAttr, ne_eq, (U_rec_Put _).1, k1, k2, k5, k4', hy]
    refine h1 _ b0 1 _ _ _ .l (by omega) (by omega) ?_
    simp only [A_, simprocAttr, ne_eq, (U_rec_Put _).1]
    refine h4b _ _ _ _ _ .l (by have := putN_len10 (v := 1) (by omega); simp; omega) ?_
    simp only [A_, simprocAttr, ne_eq, (U_rec_Put _).1, hlp]
    refine h1 _ _ r.parts.length _ _ _ .l (by have := putN_len10 (v := 1) (by omega); simp; omega) (by omega) ?_
    simp only [A_, simprocAttr, ne_eq, (U_rec_Put _).1, hlp]
    refine loop_rule hC (α := Nat) (fun a => r.parts.length - a) (fun a => [.undef, .undef, .undef, .list .uniq 1 (bs (b0 ++ (putN 1 ++ (putN (packN r.stamp) ++ (putN r.parts.length ++ putP (r.parts.take a)))))), .undef, .undef, .undef, .undef, .undef, .undef, .undef, .undef, .undef, .undef, .undef, .undef, .undef, .undef, .undef, .undef, .undef, .undef, .undef, .undef, .undef, .undef, .undef, .undef, .undef, .undef, .undef, .undef, .undef, .undef, .undef, .undef, .undef, .undef, .undef, .undef, .undef, .undef, .undef, .undef, .undef, .undef, .undef, .undef, .undef, .undef, .undef, .undef, .undef, .list .sh 1 (r.parts.map pI), .s (.int .i64 r.parts.length), .s (.int .i64 a), .undef, .undef, .undef, .undef, .undef, .undef, .undef, .undef]) (fun _ => S ++ [rcc r]) (fun _ => H ++ G) (fun a => a ≤ r.parts.length) 0 (by simp) (by simp only [List.take_zero, putP, List.flatMap_nil, List.append_nil]; rfl) (by rw [app_take_add]; simp only [rcc, hy]; rfl) rfl (fun a _ => by simp [AV.under, AV.under.go]) ?_
    intro i hi ih
    have hli := hlen i hi
    by_cases h16 : i < r.parts.length
    · have hlt : ((i : Int) < (r.parts.length : Int)) := by omega
      have hw : IntKind.i64.wrap ((i : Int) + 1) = (i : Int) + 1 := wrap_i64 (by omega) (by omega)
      have hx := ixl_pI h16
      have hb := hpm _ (List.getElem_mem h16)
      have e : r.parts[i] = (((r.parts[i]).toNat : Nat) : Int) := by omega
      have h1i : ∀ (a : AV) (b : List UInt8) S H (K : AV → St → Prop), BA a b → b.length ≤ 1000000000 → K (.list .uniq 1 (bs (b ++ putN (r.parts[i]).toNat))) ⟨S, H⟩ → C (.fn (c 1)) [a, .s (.int .i64 r.parts[i])] ⟨S, H⟩ K := by
        intro a b S H K ha hb2 hK
        have := h1 a b (r.parts[i]).toNat S H K ha hb2 (by omega) hK
        rwa [← e] at this
      have htk : putP (r.parts.take (i + 1)) = putP (r.parts.take i) ++ putN (r.parts[i]).toNat := by
        unfold putP; rw [List.take_succ_eq_append_getElem h16, List.flatMap_append]; simp
      simp only [A_, simprocAttr, ne_eq, (U_rec_Put _).1, hlt, hx]
      refine h1i _ _ _ _ _ .l (by omega) ?_
      simp only [A_, simprocAttr, ne_eq, (U_rec_Put _).1, hw]
      refine ih (i + 1) _ _ _ (by omega) (by omega) ?_ (by rw [app_take_add]; rfl) rfl
      rw [htk]
      simp only [List.append_assoc]
      rfl
    · have hlt : ¬ ((i : Int) < (r.parts.length : Int)) := by omega
      have : i = r.parts.length := by omega
      subst this
      rw [List.take_length]
      simp only [A_, simprocAttr, ne_eq, (U_rec_Put _).1, hlt]
      exact wk_uniq (hK G)
  | false =>
    rw [hy, if_neg (by simp)] at hK
    have hlen := main 0 (by omega) hK
    simp only [List.append_assoc] at hlen hK
    simp only [A_, simprocAttr, ne_eq, (U_rec_Put _).1, k1, k2, k5, k4', hy]
    refine h1 _ b0 0 _ _ _ .l (by omega) (by omega) ?_
    simp only [A_, simprocAttr, ne_eq, (U_rec_Put _).1]
    refine h4b _ _ _ _ _ .l (by have := putN_len10 (v := 0) (by omega); simp; omega) ?_
    simp only [A_, simprocAttr, ne_eq, (U_rec_Put _).1, hlp]
    refine h1 _ _ r.parts.length _ _ _ .l (by have := putN_len10 (v := 0) (by omega); simp; omega) (by omega) ?_
    simp only [A_, simprocAttr, ne_eq, (U_rec_Put _).1, hlp]
    refine loop_rule hC (α := Nat) (fun a => r.parts.length - a) (fun a => [.undef, .undef, .undef, .list .uniq 1 (bs (b0 ++ (putN 0 ++ (putN (packN r.stamp) ++ (putN r.parts.length ++ putP (r.parts.take a)))))), .undef, .undef, .undef, .undef, .undef, .undef, .undef, .undef, .undef, .undef, .undef, .undef, .undef, .undef, .undef, .undef, .undef, .undef, .undef, .undef, .undef, .undef, .undef, .undef, .undef, .undef, .undef, .undef, .undef, .undef, .undef, .undef, .undef, .undef, .undef, .undef, .undef, .undef, .undef, .undef, .undef, .undef, .undef, .undef, .undef, .undef, .undef, .undef, .undef, .list .sh 1 (r.parts.map pI), .s (.int .i64 r.parts.length), .s (.int .i64 a), .undef, .undef, .undef, .undef, .undef, .undef, .undef, .undef]) (fun _ => S ++ [rcc r]) (fun _ => H ++ G) (fun a => a ≤ r.parts.length) 0 (by simp) (by simp only [List.take_zero, putP, List.flatMap_nil, List.append_nil]; rfl) (by rw [app_take_add]; simp only [rcc, hy]; rfl) rfl (fun a _ => by simp [AV.under, AV.under.go]) ?_
    intro i hi ih
    have hli := hlen i hi
    by_cases h16 : i < r.parts.length
    · have hlt : ((i : Int) < (r.parts.length : Int)) := by omega
      have hw : IntKind.i64.wrap ((i : Int) + 1) = (i : Int) + 1 := wrap_i64 (by omega) (by omega)
      have hx := ixl_pI h16
      have hb := hpm _ (List.getElem_mem h16)
      have e : r.parts[i] = (((r.parts[i]).toNat : Nat) : Int) := by omega
      have h1i : ∀ (a : AV) (b : List UInt8) S H (K : AV → St → Prop), BA a b → b.length ≤ 1000000000 → K (.list .uniq 1 (bs (b ++ putN (r.parts[i]).toNat))) ⟨S, H⟩ → C (.fn (c 1)) [a, .s (.int .i64 r.parts[i])] ⟨S, H⟩ K := by
        intro a b S H K ha hb2 hK
        have := h1 a b (r.parts[i]).toNat S H K ha hb2 (by omega) hK
        rwa [← e] at this
      have htk : putP (r.parts.take (i + 1)) = putP (r.parts.take i) ++ putN (r.parts[i]).toNat := by
        unfold putP; rw [List.take_succ_eq_append_getElem h16, List.flatMap_append]; simp
      simp only [A_, simprocAttr, ne_eq, (U_rec_Put _).1, hlt, hx]
      refine h1i _ _ _ _ _ .l (by omega) ?_
      simp only [A_, simprocAttr, ne_eq, (U_rec_Put _).1, hw]
      refine ih (i + 1) _ _ _ (by omega) (by omega) ?_ (by rw [app_take_add]; rfl) rfl
      rw [htk]
      simp only [List.append_assoc]
      rfl
    · have hlt : ¬ ((i : Int) < (r.parts.length : Int)) := by omega
      have : i = r.parts.length := by omega
      subst this
      rw [List.take_length]
      simp only [A_, simprocAttr, ne_eq, (U_rec_Put _).1, hlt]
      exact wk_uniq (hK G)
end Go.AM
namespace Go.AM
open Go
set_option maxRecDepth 20000
def plainQ (r : Rec) : Bool := decide (r.snap = ⟨0, 0⟩) && decide (r.writes.length = 0)
def bareQ (r : Rec) : Bool := plainQ r && !r.yes && decide (r.parts.length = 0)
def goodQ (pl br : Bool) (r : Rec) : Bool :=
  if r.kind = 1 then goodE ⟨r.id, r.snap, r.stamp, r.writes⟩ && !r.yes && decide (r.parts.length = 0)
  else if r.kind = 2 then decide (1 ≤ r.id) && br && goodS r.stamp
  else if r.kind = 3 then decide (1 ≤ r.id) && br && decide (r.stamp = ⟨0, 0⟩)
  else if r.kind = 4 then decide (1 ≤ r.id) && pl && goodParts r.parts && goodS r.stamp && (r.yes || decide (r.stamp = ⟨0, 0⟩))
  else if r.kind = 5 then decide (r.id = 0) && br && goodS r.stamp && decide (r.stamp.n = 0)
  else false
def goodRecQ (r : Rec) : Bool := goodQ (plainQ r) (bareQ r) r
theorem zst_beq (a : Stp) : (decide (a.t = 0) && AV.beq (u8 a.n) (.s (.int .u8 0))) = decide (a = ⟨0, 0⟩) := by
  have : AV.beq (u8 a.n) (.s (.int .u8 0)) = decide (a.n = 0) := u8_inj (b := 0)
  rw [this]
  cases a; simp [Stp.mk.injEq, Bool.decide_and]
set_option maxHeartbeats 40000000 in
theorem ref14_Good_spec {C : CallW} (P : Program) {c : Nat → FuncId} (h0 : ∀ (e : Ent) S H (K : AV → St → Prop), e.writes.length ≤ 9223372036854775807 → K (.bool (goodE e)) ⟨S, H⟩ → C (.fn (c 0)) [.agg (enc e)] ⟨S, H⟩ K) (h1 : ∀ s : Stp, FnS C (c 1) [.agg (stc s)] (.bool (goodS s))) (h2 : PartsS C (c 2)) : ∀ (r : Rec) S H (K : AV → St → Prop), okR r → K (.bool (goodRecQ r)) ⟨S, H⟩ → runL C P (C_hourglassref14_Good c) [.agg (rcc r)] ⟨S, H⟩ K := by
  intro r S H K hr hK
  have h0' := h0 ⟨r.id, r.snap, r.stamp, r.writes⟩
  have h1' := h1 r.stamp
  have h2' := h2 r.parts
  unfold stc at h1'
  unfold lstN at h2'
  unfold enc at h0'
  unfold goodRecQ at hK
  have ez : decide ((r.stamp.n.toNat : Int) = 0) = decide (r.stamp.n = 0) := by simp only [u8_zero]
  have hlw : (r.writes.map wA).length = r.writes.length := List.length_map _
  have hlp : (r.parts.map pI).length = r.parts.length := List.length_map _
  by_cases p1 : r.snap = ⟨0, 0⟩
  case neg =>
    have hpl : plainQ r = false := by unfold plainQ; rw [decide_eq_false p1, Bool.false_and]
    have hbr : bareQ r = false := by unfold bareQ; rw [hpl]; rfl
    rw [hpl, hbr] at hK
    unfold goodQ at hK
    by_cases k1 : r.kind = 1
    · have k1' := eq_true k1
      rw [if_pos k1] at hK
      simp only [C_hourglassref14_Good, A_, simprocAttr, ne_eq, (U_hourglassref14_Good _).1, rcc, fillL, hlw, hlp, zst_beq, p1, k1']
      refine h0' _ _ _ hr.1 ?_
      cases e1 : goodE ⟨r.id, r.snap, r.stamp, r.writes⟩ with
      | false =>
        simp only [e1, Bool.false_and] at hK
        simp only [A_, simprocAttr, ne_eq, (U_hourglassref14_Good _).1]
        exact hK
      | true =>
        simp only [e1, Bool.true_and] at hK
        cases ey : r.yes with
        | true =>
          simp only [ey, Bool.not_true, Bool.false_and] at hK
          simp only [A_, simprocAttr, ne_eq, (U_hourglassref14_Good _).1, ey]
          exact hK
        | false =>
          simp only [ey, Bool.not_false, Bool.true_and] at hK
          by_cases ep : r.parts.length = 0
          · have ep' := eq_true (show ((r.parts.length : Int) = 0) by omega)
            rw [decide_eq_true ep] at hK
            simp only [A_, simprocAttr, ne_eq, (U_hourglassref14_Good _).1, ey, hlp, ep']
            exact hK
          · have ep' : ¬ ((r.parts.length : Int) = 0) := by omega
            rw [decide_eq_false ep] at hK
            simp only [A_, simprocAttr, ne_eq, (U_hourglassref14_Good _).1, ey, hlp, ep']
            exact hK
    rw [if_neg k1] at hK
    by_cases k2 : r.kind = 2
    · have k2' := eq_true k2
      rw [if_pos k2] at hK
      by_cases e1 : 1 ≤ r.id
      · simp only [Bool.and_false, Bool.false_and] at hK
        simp only [C_hourglassref14_Good, A_, simprocAttr, ne_eq, (U_hourglassref14_Good _).1, rcc, fillL, hlw, hlp, zst_beq, p1, k1, k2', e1]
        exact hK
      · simp only [e1, decide_false, Bool.false_and] at hK
        simp only [C_hourglassref14_Good, A_, simprocAttr, ne_eq, (U_hourglassref14_Good _).1, rcc, fillL, hlw, hlp, zst_beq, p1, k1, k2', e1]
        exact hK
    rw [if_neg k2] at hK
    by_cases k3 : r.kind = 3
    · have k3' := eq_true k3
      rw [if_pos k3] at hK
      by_cases e1 : 1 ≤ r.id
      · simp only [Bool.and_false, Bool.false_and] at hK
        simp only [C_hourglassref14_Good, A_, simprocAttr, ne_eq, (U_hourglassref14_Good _).1, rcc, fillL, hlw, hlp, zst_beq, p1, k1, k2, k3', e1]
        exact hK
      · simp only [e1, decide_false, Bool.false_and] at hK
        simp only [C_hourglassref14_Good, A_, simprocAttr, ne_eq, (U_hourglassref14_Good _).1, rcc, fillL, hlw, hlp, zst_beq, p1, k1, k2, k3', e1]
        exact hK
    rw [if_neg k3] at hK
    by_cases k4 : r.kind = 4
    · have k4' := eq_true k4
      rw [if_pos k4] at hK
      by_cases e1 : 1 ≤ r.id
      · simp only [Bool.and_false, Bool.false_and] at hK
        simp only [C_hourglassref14_Good, A_, simprocAttr, ne_eq, (U_hourglassref14_Good _).1, rcc, fillL, hlw, hlp, zst_beq, p1, k1, k2, k3, k4', e1]
        exact hK
      · simp only [e1, decide_false, Bool.false_and] at hK
        simp only [C_hourglassref14_Good, A_, simprocAttr, ne_eq, (U_hourglassref14_Good _).1, rcc, fillL, hlw, hlp, zst_beq, p1, k1, k2, k3, k4', e1]
        exact hK
    rw [if_neg k4] at hK
    by_cases k5 : r.kind = 5
    · have k5' := eq_true k5
      rw [if_pos k5] at hK
      by_cases e1 : r.id = 0
      · have e1' := eq_true e1
        simp only [Bool.and_false, Bool.false_and] at hK
        simp only [C_hourglassref14_Good, A_, simprocAttr, ne_eq, (U_hourglassref14_Good _).1, rcc, fillL, hlw, hlp, zst_beq, p1, k1, k2, k3, k4, k5', e1']
        exact hK
      · simp only [e1, decide_false, Bool.false_and] at hK
        simp only [C_hourglassref14_Good, A_, simprocAttr, ne_eq, (U_hourglassref14_Good _).1, rcc, fillL, hlw, hlp, zst_beq, p1, k1, k2, k3, k4, k5', e1]
        exact hK
    rw [if_neg k5] at hK
    simp only [C_hourglassref14_Good, A_, simprocAttr, ne_eq, (U_hourglassref14_Good _).1, rcc, fillL, hlw, hlp, zst_beq, p1, k1, k2, k3, k4, k5]
    exact hK
  have p1' := eq_true p1
  by_cases p2 : r.writes.length = 0
  case neg =>
    have p2' : ¬ ((r.writes.length : Int) = 0) := by omega
    have hpl : plainQ r = false := by unfold plainQ; rw [decide_eq_false p2, Bool.and_false]
    have hbr : bareQ r = false := by unfold bareQ; rw [hpl]; rfl
    rw [hpl, hbr] at hK
    unfold goodQ at hK
    by_cases k1 : r.kind = 1
    · have k1' := eq_true k1
      rw [if_pos k1] at hK
      simp only [C_hourglassref14_Good, A_, simprocAttr, ne_eq, (U_hourglassref14_Good _).1, rcc, fillL, hlw, hlp, zst_beq, p1', p2', k1']
      refine h0' _ _ _ hr.1 ?_
      cases e1 : goodE ⟨r.id, r.snap, r.stamp, r.writes⟩ with
      | false =>
        simp only [e1, Bool.false_and] at hK
        simp only [A_, simprocAttr, ne_eq, (U_hourglassref14_Good _).1]
        exact hK
      | true =>
        simp only [e1, Bool.true_and] at hK
        cases ey : r.yes with
        | true =>
          simp only [ey, Bool.not_true, Bool.false_and] at hK
          simp only [A_, simprocAttr, ne_eq, (U_hourglassref14_Good _).1, ey]
          exact hK
        | false =>
          simp only [ey, Bool.not_false, Bool.true_and] at hK
          by_cases ep : r.parts.length = 0
          · have ep' := eq_true (show ((r.parts.length : Int) = 0) by omega)
            rw [decide_eq_true ep] at hK
            simp only [A_, simprocAttr, ne_eq, (U_hourglassref14_Good _).1, ey, hlp, ep']
            exact hK
          · have ep' : ¬ ((r.parts.length : Int) = 0) := by omega
            rw [decide_eq_false ep] at hK
            simp only [A_, simprocAttr, ne_eq, (U_hourglassref14_Good _).1, ey, hlp, ep']
            exact hK
    rw [if_neg k1] at hK
    by_cases k2 : r.kind = 2
    · have k2' := eq_true k2
      rw [if_pos k2] at hK
      by_cases e1 : 1 ≤ r.id
      · simp only [Bool.and_false, Bool.false_and] at hK
        simp only [C_hourglassref14_Good, A_, simprocAttr, ne_eq, (U_hourglassref14_Good _).1, rcc, fillL, hlw, hlp, zst_beq, p1', p2', k1, k2', e1]
        exact hK
      · simp only [e1, decide_false, Bool.false_and] at hK
        simp only [C_hourglassref14_Good, A_, simprocAttr, ne_eq, (U_hourglassref14_Good _).1, rcc, fillL, hlw, hlp, zst_beq, p1', p2', k1, k2', e1]
        exact hK
    rw [if_neg k2] at hK
    by_cases k3 : r.kind = 3
    · have k3' := eq_true k3
      rw [if_pos k3] at hK
      by_cases e1 : 1 ≤ r.id
      · simp only [Bool.and_false, Bool.false_and] at hK
        simp only [C_hourglassref14_Good, A_, simprocAttr, ne_eq, (U_hourglassref14_Good _).1, rcc, fillL, hlw, hlp, zst_beq, p1', p2', k1, k2, k3', e1]
        exact hK
      · simp only [e1, decide_false, Bool.false_and] at hK
        simp only [C_hourglassref14_Good, A_, simprocAttr, ne_eq, (U_hourglassref14_Good _).1, rcc, fillL, hlw, hlp, zst_beq, p1', p2', k1, k2, k3', e1]
        exact hK
    rw [if_neg k3] at hK
    by_cases k4 : r.kind = 4
    · have k4' := eq_true k4
      rw [if_pos k4] at hK
      by_cases e1 : 1 ≤ r.id
      · simp only [Bool.and_false, Bool.false_and] at hK
        simp only [C_hourglassref14_Good, A_, simprocAttr, ne_eq, (U_hourglassref14_Good _).1, rcc, fillL, hlw, hlp, zst_beq, p1', p2', k1, k2, k3, k4', e1]
        exact hK
      · simp only [e1, decide_false, Bool.false_and] at hK
        simp only [C_hourglassref14_Good, A_, simprocAttr, ne_eq, (U_hourglassref14_Good _).1, rcc, fillL, hlw, hlp, zst_beq, p1', p2', k1, k2, k3, k4', e1]
        exact hK
    rw [if_neg k4] at hK
    by_cases k5 : r.kind = 5
    · have k5' := eq_true k5
      rw [if_pos k5] at hK
      by_cases e1 : r.id = 0
      · have e1' := eq_true e1
        simp only [Bool.and_false, Bool.false_and] at hK
        simp only [C_hourglassref14_Good, A_, simprocAttr, ne_eq, (U_hourglassref14_Good _).1, rcc, fillL, hlw, hlp, zst_beq, p1', p2', k1, k2, k3, k4, k5', e1']
        exact hK
      · simp only [e1, decide_false, Bool.false_and] at hK
        simp only [C_hourglassref14_Good, A_, simprocAttr, ne_eq, (U_hourglassref14_Good _).1, rcc, fillL, hlw, hlp, zst_beq, p1', p2', k1, k2, k3, k4, k5', e1]
        exact hK
    rw [if_neg k5] at hK
    simp only [C_hourglassref14_Good, A_, simprocAttr, ne_eq, (U_hourglassref14_Good _).1, rcc, fillL, hlw, hlp, zst_beq, p1', p2', k1, k2, k3, k4, k5]
    exact hK
  have p2' := eq_true (show ((r.writes.length : Int) = 0) by omega)
  have hpl : plainQ r = true := by unfold plainQ; rw [decide_eq_true p1, decide_eq_true p2]; rfl
  rw [hpl] at hK
  cases py : r.yes with
  | true =>
    have hbr : bareQ r = false := by unfold bareQ; rw [hpl, py]; rfl
    rw [hbr] at hK
    unfold goodQ at hK
    by_cases k1 : r.kind = 1
    · have k1' := eq_true k1
      rw [if_pos k1] at hK
      simp only [C_hourglassref14_Good, A_, simprocAttr, ne_eq, (U_hourglassref14_Good _).1, rcc, fillL, hlw, hlp, zst_beq, p1', p2', py, k1']
      refine h0' _ _ _ hr.1 ?_
      cases e1 : goodE ⟨r.id, r.snap, r.stamp, r.writes⟩ with
      | false =>
        simp only [e1, Bool.false_and] at hK
        simp only [A_, simprocAttr, ne_eq, (U_hourglassref14_Good _).1]
        exact hK
      | true =>
        simp only [e1, Bool.true_and] at hK
        cases ey : r.yes with
        | true =>
          simp only [ey, Bool.not_true, Bool.false_and] at hK
          simp only [A_, simprocAttr, ne_eq, (U_hourglassref14_Good _).1, ey]
          exact hK
        | false =>
          rw [py] at ey; cases ey
    rw [if_neg k1] at hK
    by_cases k2 : r.kind = 2
    · have k2' := eq_true k2
      rw [if_pos k2] at hK
      by_cases e1 : 1 ≤ r.id
      · simp only [Bool.and_false, Bool.false_and] at hK
        simp only [C_hourglassref14_Good, A_, simprocAttr, ne_eq, (U_hourglassref14_Good _).1, rcc, fillL, hlw, hlp, zst_beq, p1', p2', py, k1, k2', e1]
        exact hK
      · simp only [e1, decide_false, Bool.false_and] at hK
        simp only [C_hourglassref14_Good, A_, simprocAttr, ne_eq, (U_hourglassref14_Good _).1, rcc, fillL, hlw, hlp, zst_beq, p1', p2', py, k1, k2', e1]
        exact hK
    rw [if_neg k2] at hK
    by_cases k3 : r.kind = 3
    · have k3' := eq_true k3
      rw [if_pos k3] at hK
      by_cases e1 : 1 ≤ r.id
      · simp only [Bool.and_false, Bool.false_and] at hK
        simp only [C_hourglassref14_Good, A_, simprocAttr, ne_eq, (U_hourglassref14_Good _).1, rcc, fillL, hlw, hlp, zst_beq, p1', p2', py, k1, k2, k3', e1]
        exact hK
      · simp only [e1, decide_false, Bool.false_and] at hK
        simp only [C_hourglassref14_Good, A_, simprocAttr, ne_eq, (U_hourglassref14_Good _).1, rcc, fillL, hlw, hlp, zst_beq, p1', p2', py, k1, k2, k3', e1]
        exact hK
    rw [if_neg k3] at hK
    by_cases k4 : r.kind = 4
    · have k4' := eq_true k4
      rw [if_pos k4] at hK
      by_cases e1 : 1 ≤ r.id
      · simp only [e1, decide_true, Bool.true_and] at hK
        simp only [C_hourglassref14_Good, A_, simprocAttr, ne_eq, (U_hourglassref14_Good _).1, rcc, fillL, hlw, hlp, zst_beq, p1', p2', py, k1, k2, k3, k4', e1]
        refine h2' _ _ _ hr.2 ?_
        cases e2 : goodParts r.parts with
        | false =>
          simp only [e2, Bool.false_and] at hK
          simp only [A_, simprocAttr, ne_eq, (U_hourglassref14_Good _).1]
          exact hK
        | true =>
          simp only [e2, Bool.true_and] at hK
          simp only [A_, simprocAttr, ne_eq, (U_hourglassref14_Good _).1]
          refine h1' _ _ _ ?_
          cases e3 : goodS r.stamp with
          | false =>
            simp only [e3, Bool.false_and] at hK
            simp only [A_, simprocAttr, ne_eq, (U_hourglassref14_Good _).1]
            exact hK
          | true =>
            simp only [e3, Bool.true_and] at hK
            cases ey : r.yes with
            | true =>
              simp only [ey, Bool.true_or] at hK
              simp only [A_, simprocAttr, ne_eq, (U_hourglassref14_Good _).1, ey]
              exact hK
            | false =>
              rw [py] at ey; cases ey
      · simp only [e1, decide_false, Bool.false_and] at hK
        simp only [C_hourglassref14_Good, A_, simprocAttr, ne_eq, (U_hourglassref14_Good _).1, rcc, fillL, hlw, hlp, zst_beq, p1', p2', py, k1, k2, k3, k4', e1]
        exact hK
    rw [if_neg k4] at hK
    by_cases k5 : r.kind = 5
    · have k5' := eq_true k5
      rw [if_pos k5] at hK
      by_cases e1 : r.id = 0
      · have e1' := eq_true e1
        simp only [Bool.and_false, Bool.false_and] at hK
        simp only [C_hourglassref14_Good, A_, simprocAttr, ne_eq, (U_hourglassref14_Good _).1, rcc, fillL, hlw, hlp, zst_beq, p1', p2', py, k1, k2, k3, k4, k5', e1']
        exact hK
      · simp only [e1, decide_false, Bool.false_and] at hK
        simp only [C_hourglassref14_Good, A_, simprocAttr, ne_eq, (U_hourglassref14_Good _).1, rcc, fillL, hlw, hlp, zst_beq, p1', p2', py, k1, k2, k3, k4, k5', e1]
        exact hK
    rw [if_neg k5] at hK
    simp only [C_hourglassref14_Good, A_, simprocAttr, ne_eq, (U_hourglassref14_Good _).1, rcc, fillL, hlw, hlp, zst_beq, p1', p2', py, k1, k2, k3, k4, k5]
    exact hK
  | false =>
    by_cases p3 : r.parts.length = 0
    case neg =>
      have p3' : ¬ ((r.parts.length : Int) = 0) := by omega
      have hbr : bareQ r = false := by unfold bareQ; rw [hpl, py, decide_eq_false p3]; rfl
      rw [hbr] at hK
      unfold goodQ at hK
      by_cases k1 : r.kind = 1
      · have k1' := eq_true k1
        rw [if_pos k1] at hK
        simp only [C_hourglassref14_Good, A_, simprocAttr, ne_eq, (U_hourglassref14_Good _).1, rcc, fillL, hlw, hlp, zst_beq, p1', p2', py, p3', k1']
        refine h0' _ _ _ hr.1 ?_
        cases e1 : goodE ⟨r.id, r.snap, r.stamp, r.writes⟩ with
        | false =>
          simp only [e1, Bool.false_and] at hK
          simp only [A_, simprocAttr, ne_eq, (U_hourglassref14_Good _).1]
          exact hK
        | true =>
          simp only [e1, Bool.true_and] at hK
          cases ey : r.yes with
          | true =>
            rw [py] at ey; cases ey
          | false =>
            simp only [ey, Bool.not_false, Bool.true_and] at hK
            by_cases ep : r.parts.length = 0
            · have ep' := eq_true (show ((r.parts.length : Int) = 0) by omega)
              rw [decide_eq_true ep] at hK
              simp only [A_, simprocAttr, ne_eq, (U_hourglassref14_Good _).1, ey, hlp, ep']
              exact hK
            · have ep' : ¬ ((r.parts.length : Int) = 0) := by omega
              rw [decide_eq_false ep] at hK
              simp only [A_, simprocAttr, ne_eq, (U_hourglassref14_Good _).1, ey, hlp, ep']
              exact hK
      rw [if_neg k1] at hK
      by_cases k2 : r.kind = 2
      · have k2' := eq_true k2
        rw [if_pos k2] at hK
        by_cases e1 : 1 ≤ r.id
        · simp only [Bool.and_false, Bool.false_and] at hK
          simp only [C_hourglassref14_Good, A_, simprocAttr, ne_eq, (U_hourglassref14_Good _).1, rcc, fillL, hlw, hlp, zst_beq, p1', p2', py, p3', k1, k2', e1]
          exact hK
        · simp only [e1, decide_false, Bool.false_and] at hK
          simp only [C_hourglassref14_Good, A_, simprocAttr, ne_eq, (U_hourglassref14_Good _).1, rcc, fillL, hlw, hlp, zst_beq, p1', p2', py, p3', k1, k2', e1]
          exact hK
      rw [if_neg k2] at hK
      by_cases k3 : r.kind = 3
      · have k3' := eq_true k3
        rw [if_pos k3] at hK
        by_cases e1 : 1 ≤ r.id
        · simp only [Bool.and_false, Bool.false_and] at hK
          simp only [C_hourglassref14_Good, A_, simprocAttr, ne_eq, (U_hourglassref14_Good _).1, rcc, fillL, hlw, hlp, zst_beq, p1', p2', py, p3', k1, k2, k3', e1]
          exact hK
        · simp only [e1, decide_false, Bool.false_and] at hK
          simp only [C_hourglassref14_Good, A_, simprocAttr, ne_eq, (U_hourglassref14_Good _).1, rcc, fillL, hlw, hlp, zst_beq, p1', p2', py, p3', k1, k2, k3', e1]
          exact hK
      rw [if_neg k3] at hK
      by_cases k4 : r.kind = 4
      · have k4' := eq_true k4
        rw [if_pos k4] at hK
        by_cases e1 : 1 ≤ r.id
        · simp only [e1, decide_true, Bool.true_and] at hK
          simp only [C_hourglassref14_Good, A_, simprocAttr, ne_eq, (U_hourglassref14_Good _).1, rcc, fillL, hlw, hlp, zst_beq, p1', p2', py, p3', k1, k2, k3, k4', e1]
          refine h2' _ _ _ hr.2 ?_
          cases e2 : goodParts r.parts with
          | false =>
            simp only [e2, Bool.false_and] at hK
            simp only [A_, simprocAttr, ne_eq, (U_hourglassref14_Good _).1]
            exact hK
          | true =>
            simp only [e2, Bool.true_and] at hK
            simp only [A_, simprocAttr, ne_eq, (U_hourglassref14_Good _).1]
            refine h1' _ _ _ ?_
            cases e3 : goodS r.stamp with
            | false =>
              simp only [e3, Bool.false_and] at hK
              simp only [A_, simprocAttr, ne_eq, (U_hourglassref14_Good _).1]
              exact hK
            | true =>
              simp only [e3, Bool.true_and] at hK
              cases ey : r.yes with
              | true =>
                rw [py] at ey; cases ey
              | false =>
                simp only [ey, Bool.false_or] at hK
                simp only [A_, simprocAttr, ne_eq, (U_hourglassref14_Good _).1, ey, zst_beq]
                exact hK
        · simp only [e1, decide_false, Bool.false_and] at hK
          simp only [C_hourglassref14_Good, A_, simprocAttr, ne_eq, (U_hourglassref14_Good _).1, rcc, fillL, hlw, hlp, zst_beq, p1', p2', py, p3', k1, k2, k3, k4', e1]
          exact hK
      rw [if_neg k4] at hK
      by_cases k5 : r.kind = 5
      · have k5' := eq_true k5
        rw [if_pos k5] at hK
        by_cases e1 : r.id = 0
        · have e1' := eq_true e1
          simp only [Bool.and_false, Bool.false_and] at hK
          simp only [C_hourglassref14_Good, A_, simprocAttr, ne_eq, (U_hourglassref14_Good _).1, rcc, fillL, hlw, hlp, zst_beq, p1', p2', py, p3', k1, k2, k3, k4, k5', e1']
          exact hK
        · simp only [e1, decide_false, Bool.false_and] at hK
          simp only [C_hourglassref14_Good, A_, simprocAttr, ne_eq, (U_hourglassref14_Good _).1, rcc, fillL, hlw, hlp, zst_beq, p1', p2', py, p3', k1, k2, k3, k4, k5', e1]
          exact hK
      rw [if_neg k5] at hK
      simp only [C_hourglassref14_Good, A_, simprocAttr, ne_eq, (U_hourglassref14_Good _).1, rcc, fillL, hlw, hlp, zst_beq, p1', p2', py, p3', k1, k2, k3, k4, k5]
      exact hK
    have p3' := eq_true (show ((r.parts.length : Int) = 0) by omega)
    have hbr : bareQ r = true := by unfold bareQ; rw [hpl, py, decide_eq_true p3]; rfl
    rw [hbr] at hK
    unfold goodQ at hK
    by_cases k1 : r.kind = 1
    · have k1' := eq_true k1
      rw [if_pos k1] at hK
      simp only [C_hourglassref14_Good, A_, simprocAttr, ne_eq, (U_hourglassref14_Good _).1, rcc, fillL, hlw, hlp, zst_beq, p1', p2', py, p3', k1']
      refine h0' _ _ _ hr.1 ?_
      cases e1 : goodE ⟨r.id, r.snap, r.stamp, r.writes⟩ with
      | false =>
        simp only [e1, Bool.false_and] at hK
        simp only [A_, simprocAttr, ne_eq, (U_hourglassref14_Good _).1]
        exact hK
      | true =>
        simp only [e1, Bool.true_and] at hK
        cases ey : r.yes with
        | true =>
          rw [py] at ey; cases ey
        | false =>
          simp only [ey, Bool.not_false, Bool.true_and] at hK
          by_cases ep : r.parts.length = 0
          · have ep' := eq_true (show ((r.parts.length : Int) = 0) by omega)
            rw [decide_eq_true ep] at hK
            simp only [A_, simprocAttr, ne_eq, (U_hourglassref14_Good _).1, ey, hlp, ep']
            exact hK
          · have ep' : ¬ ((r.parts.length : Int) = 0) := by omega
            rw [decide_eq_false ep] at hK
            simp only [A_, simprocAttr, ne_eq, (U_hourglassref14_Good _).1, ey, hlp, ep']
            exact hK
    rw [if_neg k1] at hK
    by_cases k2 : r.kind = 2
    · have k2' := eq_true k2
      rw [if_pos k2] at hK
      by_cases e1 : 1 ≤ r.id
      · simp only [e1, decide_true, Bool.true_and] at hK
        simp only [C_hourglassref14_Good, A_, simprocAttr, ne_eq, (U_hourglassref14_Good _).1, rcc, fillL, hlw, hlp, zst_beq, p1', p2', py, p3', k1, k2', e1]
        refine h1' _ _ _ ?_
        simp only [A_, simprocAttr, ne_eq, (U_hourglassref14_Good _).1]
        exact hK
      · simp only [e1, decide_false, Bool.false_and] at hK
        simp only [C_hourglassref14_Good, A_, simprocAttr, ne_eq, (U_hourglassref14_Good _).1, rcc, fillL, hlw, hlp, zst_beq, p1', p2', py, p3', k1, k2', e1]
        exact hK
    rw [if_neg k2] at hK
    by_cases k3 : r.kind = 3
    · have k3' := eq_true k3
      rw [if_pos k3] at hK
      by_cases e1 : 1 ≤ r.id
      · simp only [e1, decide_true, Bool.true_and] at hK
        simp only [C_hourglassref14_Good, A_, simprocAttr, ne_eq, (U_hourglassref14_Good _).1, rcc, fillL, hlw, hlp, zst_beq, p1', p2', py, p3', k1, k2, k3', e1]
        exact hK
      · simp only [e1, decide_false, Bool.false_and] at hK
        simp only [C_hourglassref14_Good, A_, simprocAttr, ne_eq, (U_hourglassref14_Good _).1, rcc, fillL, hlw, hlp, zst_beq, p1', p2', py, p3', k1, k2, k3', e1]
        exact hK
    rw [if_neg k3] at hK
    by_cases k4 : r.kind = 4
    · have k4' := eq_true k4
      rw [if_pos k4] at hK
      by_cases e1 : 1 ≤ r.id
      · simp only [e1, decide_true, Bool.true_and] at hK
        simp only [C_hourglassref14_Good, A_, simprocAttr, ne_eq, (U_hourglassref14_Good _).1, rcc, fillL, hlw, hlp, zst_beq, p1', p2', py, p3', k1, k2, k3, k4', e1]
        refine h2' _ _ _ hr.2 ?_
        cases e2 : goodParts r.parts with
        | false =>
          simp only [e2, Bool.false_and] at hK
          simp only [A_, simprocAttr, ne_eq, (U_hourglassref14_Good _).1]
          exact hK
        | true =>
          simp only [e2, Bool.true_and] at hK
          simp only [A_, simprocAttr, ne_eq, (U_hourglassref14_Good _).1]
          refine h1' _ _ _ ?_
          cases e3 : goodS r.stamp with
          | false =>
            simp only [e3, Bool.false_and] at hK
            simp only [A_, simprocAttr, ne_eq, (U_hourglassref14_Good _).1]
            exact hK
          | true =>
            simp only [e3, Bool.true_and] at hK
            cases ey : r.yes with
            | true =>
              rw [py] at ey; cases ey
            | false =>
              simp only [ey, Bool.false_or] at hK
              simp only [A_, simprocAttr, ne_eq, (U_hourglassref14_Good _).1, ey, zst_beq]
              exact hK
      · simp only [e1, decide_false, Bool.false_and] at hK
        simp only [C_hourglassref14_Good, A_, simprocAttr, ne_eq, (U_hourglassref14_Good _).1, rcc, fillL, hlw, hlp, zst_beq, p1', p2', py, p3', k1, k2, k3, k4', e1]
        exact hK
    rw [if_neg k4] at hK
    by_cases k5 : r.kind = 5
    · have k5' := eq_true k5
      rw [if_pos k5] at hK
      by_cases e1 : r.id = 0
      · have e1' := eq_true e1
        simp only [e1, decide_true, Bool.true_and] at hK
        simp only [C_hourglassref14_Good, A_, simprocAttr, ne_eq, (U_hourglassref14_Good _).1, rcc, fillL, hlw, hlp, zst_beq, p1', p2', py, p3', k1, k2, k3, k4, k5', e1']
        refine h1' _ _ _ ?_
        cases e2 : goodS r.stamp with
        | false =>
          simp only [e2, Bool.false_and] at hK
          simp only [A_, simprocAttr, ne_eq, (U_hourglassref14_Good _).1]
          exact hK
        | true =>
          simp only [e2, Bool.true_and] at hK
          simp only [A_, simprocAttr, ne_eq, (U_hourglassref14_Good _).1, u8, ez]
          exact hK
      · simp only [e1, decide_false, Bool.false_and] at hK
        simp only [C_hourglassref14_Good, A_, simprocAttr, ne_eq, (U_hourglassref14_Good _).1, rcc, fillL, hlw, hlp, zst_beq, p1', p2', py, p3', k1, k2, k3, k4, k5', e1]
        exact hK
    rw [if_neg k5] at hK
    simp only [C_hourglassref14_Good, A_, simprocAttr, ne_eq, (U_hourglassref14_Good _).1, rcc, fillL, hlw, hlp, zst_beq, p1', p2', py, p3', k1, k2, k3, k4, k5]
    exact hK
end Go.AM
namespace Go.AM
open Go
set_option maxRecDepth 20000
theorem good_eq (r : Rec) : goodRecQ r = goodRec r := by
  obtain ⟨kind, id, snap, stamp, ws, yes, ps⟩ := r
  unfold goodRecQ goodQ goodRec plainQ bareQ plainQ onlyR
  by_cases k1 : kind = 1
  · subst k1
    cases yes <;> cases ps <;> simp
  by_cases k2 : kind = 2
  · subst k2
    by_cases h1 : snap = ⟨0, 0⟩ <;> cases yes <;> cases ps <;> cases ws <;> simp [h1]
  by_cases k3 : kind = 3
  · subst k3
    by_cases h1 : snap = ⟨0, 0⟩ <;> by_cases h2 : stamp = ⟨0, 0⟩ <;> cases yes <;> cases ps <;> cases ws <;> simp [h1, h2]
  by_cases k4 : kind = 4
  · subst k4
    by_cases h1 : snap = ⟨0, 0⟩ <;> by_cases h2 : stamp = ⟨0, 0⟩ <;> cases yes <;> cases ws <;> simp [h1, h2, Bool.and_assoc, Bool.and_comm, Bool.and_left_comm]
  by_cases k5 : kind = 5
  · subst k5
    by_cases h1 : snap = ⟨0, 0⟩ <;> cases yes <;> cases ps <;> cases ws <;> simp [h1]
  simp [k1, k2, k3, k4, k5]
end Go.AM
namespace Go.AM
open Go
set_option maxRecDepth 20000
theorem putRec_bound {r : Rec} (hr : okB r) (hpm : ∀ x ∈ r.parts, 0 ≤ x ∧ x < 8) (b0 : List UInt8) (hbl : b0.length ≤ 20) (f : List UInt8) (hf : f.length ≤ 10) : ∀ i, i ≤ r.parts.length → (b0 ++ (f ++ (putN (packN r.stamp) ++ (putN r.parts.length ++ putP (r.parts.take i))))).length ≤ 1000 := by
  intro i hi
  have hpl := hr.ps
  have hs2 := pack_len r.stamp
  have h2 := putN_len10 (v := r.parts.length) (by omega)
  have h3 : ∀ (l : List Int), l.length ≤ 12 → (∀ x ∈ l, 0 ≤ x ∧ x < 8) → (putP l).length ≤ 10 * l.length := by
    intro l
    induction l with
    | nil => intro _ _; simp [putP]
    | cons x l ih =>
      intro hl hx
      have h5 := ih (by simp at hl; omega) (fun y hy => hx y (List.mem_cons_of_mem _ hy))
      have h6 := hx x (List.mem_cons_self ..)
      have h7 := putN_len10 (v := x.toNat) (by omega)
      unfold putP at h5 ⊢
      rw [List.flatMap_cons, List.length_append, List.length_cons]; omega
  have h4 := h3 (r.parts.take i) (by rw [List.length_take]; omega) (fun x hx => hpm x (List.mem_of_mem_take hx))
  rw [List.length_take] at h4
  simp only [List.length_append]
  omega
def PutWQS (C : CallW) (f : FuncId) : Prop := ∀ (a : AV) (b : List UInt8) (l : List Wr) S H (K : AV → St → Prop), BA a b → b.length ≤ 1000000 → l.length ≤ 1000 → (∀ w ∈ l, w.val.length ≤ 100000) → K (.list .uniq 1 (bs (b ++ putWs l))) ⟨S, H⟩ → C (.fn f) [a, lstW l] ⟨S, H⟩ K
def RefPutS (C : CallW) (f : FuncId) : Prop := ∀ (r : Rec) S H (K : AV → St → Prop), okB r → K (.list .sh 1 (bs (putRec r))) ⟨S, H⟩ → C (.fn f) [.agg (rcc r)] ⟨S, H⟩ K
set_option maxHeartbeats 16000000 in
theorem ref14_Put_spec {C : CallW} (hC : LeC C C) (P : Program) {c : Nat → FuncId} (h0 : ∀ (r : Rec) S H (K : AV → St → Prop), okR r → K (.bool (goodRecQ r)) ⟨S, H⟩ → C (.fn (c 0)) [.agg (rcc r)] ⟨S, H⟩ K) (h1 : PutS C (c 1)) (h2 : ∀ v : Int, -9223372036854775808 ≤ v → v ≤ 9223372036854775807 → FnS C (c 2) [.s (.int .i64 v)] (.s (.int .u64 (zig v : Nat)))) (h4 : PutStampS C (c 3)) (h5 : PutWQS C (c 4)) (h6 : ∀ v : Bool, FnS C (c 5) [.s (.bool v)] (u8 (if v then 1 else 0))) : ∀ (r : Rec) S H (K : AV → St → Prop), okB r → K (.list .sh 1 (bs (putRec r))) ⟨S, H⟩ → runL C P (C_hourglassref14_Put c) [.agg (rcc r)] ⟨S, H⟩ (WkK K) := by
  intro r S H K hr hK
  have h0' := h0 r
  have h6t : FnS C (c 5) [.s (.bool true)] (.s (.int .u8 1)) := h6 true
  have h6f : FnS C (c 5) [.s (.bool false)] (.s (.int .u8 0)) := h6 false
  have hrc : rcc r = [.s (.int .i64 r.kind), .s (.int .i64 r.id), .s (.int .i64 r.snap.t), u8 r.snap.n, .s (.int .i64 r.stamp.t), u8 r.stamp.n, .list .sh 18 (r.writes.map wA), .s (.bool r.yes), .list .sh 1 (r.parts.map pI)] := rfl
  rw [hrc] at h0'
  have h2' := h2 r.id hr.lo hr.hi
  simp only [C_hourglassref14_Put, A_, simprocAttr, ne_eq, (U_hourglassref14_Put _).1, rcc]
  refine h0' _ _ _ hr.ok ?_
  rw [good_eq]
  unfold putRec at hK
  cases hg : goodRec r with
  | false =>
    rw [if_pos hg] at hK
    simp only [A_, simprocAttr, ne_eq, (U_hourglassref14_Put _).1]
    exact ⟨_, .inr (.nilS (by omega) .nil), hK⟩
  | true =>
  rw [if_neg (by rw [hg]; simp)] at hK
  have hk := goodRec_kind hg
  have hkn : r.kind = ((r.kind.toNat : Nat) : Int) := by omega
  have hkl : r.kind.toNat < 100 := by omega
  have hkw : IntKind.u64.wrap r.kind = ((r.kind.toNat : Nat) : Int) := by rw [wrap_u64]; omega
  have hbl := putB_len hr hkl
  simp only [A_, simprocAttr, ne_eq, (U_hourglassref14_Put _).1, convL, hkw]
  refine h1 _ [] r.kind.toNat _ _ _ .n (by simp) (by omega) ?_
  rw [List.nil_append]
  simp only [A_, simprocAttr, ne_eq, (U_hourglassref14_Put _).1]
  refine h2' _ _ _ ?_
  simp only [A_, simprocAttr, ne_eq, (U_hourglassref14_Put _).1]
  refine h1 _ (putN r.kind.toNat) (zig r.id) _ _ _ .l (by have := putN_len10 (v := r.kind.toNat) (by omega); omega) (zig_lt hr.lo hr.hi) ?_
  have hpb : putN r.kind.toNat ++ putN (zig r.id) = putB r := rfl
  rw [hpb]
  generalize putB r = b0 at hbl hK ⊢
  have hs1 := pack_len r.snap
  have hs2 := pack_len r.stamp
  have h4a := fun a b => h4 a b r.snap
  have h4b := fun a b => h4 a b r.stamp
  unfold stc at h4a h4b
  have h5' := fun a b => h5 a b r.writes
  unfold lstW at h5'
  by_cases k1 : r.kind = 1
  · rw [if_pos k1] at hK
    have k1' := eq_true k1
    simp only [A_, simprocAttr, ne_eq, (U_hourglassref14_Put _).1, k1']
    refine h4a _ b0 _ _ _ .l (by omega) ?_
    simp only [A_, simprocAttr, ne_eq, (U_hourglassref14_Put _).1]
    refine h4b _ _ _ _ _ .l (by simp; omega) ?_
    simp only [A_, simprocAttr, ne_eq, (U_hourglassref14_Put _).1]
    refine h5' _ (b0 ++ putN (packN r.snap) ++ putN (packN r.stamp)) _ _ _ (by simp only [List.append_assoc]; exact .l) (by simp; omega) (by have := hr.ws; omega) (fun w hw => by have := hr.vs w hw; omega) ?_
    simp only [A_, simprocAttr, ne_eq, (U_hourglassref14_Put _).1]
    refine wk_uniq ?_
    simpa only [List.append_assoc] using hK
  rw [if_neg k1] at hK
  by_cases k2 : r.kind = 2
  · rw [if_pos (.inl k2)] at hK
    have k2' := eq_true k2
    simp only [A_, simprocAttr, ne_eq, (U_hourglassref14_Put _).1, k1, k2']
    refine h4b _ b0 _ _ _ .l (by omega) ?_
    simp only [A_, simprocAttr, ne_eq, (U_hourglassref14_Put _).1]
    exact wk_uniq hK
  by_cases k5 : r.kind = 5
  · rw [if_pos (.inr k5)] at hK
    have k5' := eq_true k5
    simp only [A_, simprocAttr, ne_eq, (U_hourglassref14_Put _).1, k1, k2, k5']
    refine h4b _ b0 _ _ _ .l (by omega) ?_
    simp only [A_, simprocAttr, ne_eq, (U_hourglassref14_Put _).1]
    exact wk_uniq hK
  rw [if_neg (by rintro (h | h); exact k2 h; exact k5 h)] at hK
  by_cases k4 : r.kind = 4
  case neg =>
    rw [if_neg k4] at hK
    simp only [A_, simprocAttr, ne_eq, (U_hourglassref14_Put _).1, k1, k2, k5, k4]
    exact wk_uniq hK
  rw [if_pos k4] at hK
  have k4' := eq_true k4
  have hpm := goodRec_parts hg k4
  have hpl := hr.ps
  have hlp : (r.parts.map pI).length = r.parts.length := List.length_map _
  have hcl : IntKind.u64.wrap (r.parts.length : Int) = (r.parts.length : Int) := wrap_u64n (by omega)
  cases hy : r.yes with
  | true =>
    rw [hy, if_pos rfl] at hK
    have hf1 : putN 1 = [1] := putN_flag true
    have hlen := putRec_bound hr hpm b0 hbl (putN 1) (putN_len10 (by omega))
    simp only [List.append_assoc] at hlen hK
    simp only [A_, simprocAttr, ne_eq, (U_hourglassref14_Put _).1, k1, k2, k5, k4', hy, hlp, hcl, convL]
    refine ⟨h6t _ _ _ ?_, h6t _ _ _ ?_⟩
    all_goals
      have ha1 : ∀ σ : St, appendL eB false (.list .uniq 1 (bs b0)) (.list .full 1 [.s (.int .u8 1)]) σ = some (.list .uniq 1 (bs (b0 ++ [1])), σ) := fun σ => app_b1 (c := 1) (.inl rfl) (by omega)
      simp only [eB, ← hf1] at ha1
      simp only [A_, simprocAttr, ne_eq, (U_hourglassref14_Put _).1, hlp, hcl, convL, ha1]
      refine h4b _ _ _ _ _ .l (by have := putN_len10 (v := 1) (by omega); simp; omega) ?_
      simp only [A_, simprocAttr, ne_eq, (U_hourglassref14_Put _).1, hlp]
      refine h1 _ _ r.parts.length _ _ _ .l (by have := putN_len10 (v := 1) (by omega); simp; omega) (by omega) ?_
      simp only [A_, simprocAttr, ne_eq, (U_hourglassref14_Put _).1, hlp]
      refine loop_rule hC (α := Nat) (fun a => r.parts.length - a) (fun a => [.undef, .ptr (.stk S.length) 0, .undef, .list .uniq 1 (bs (b0 ++ (putN 1 ++ (putN (packN r.stamp) ++ (putN r.parts.length ++ putP (r.parts.take a)))))), .s (.int .i64 a), .undef, .undef, .undef, .undef, .undef, .undef, .undef, .undef, .undef, .undef, .undef, .undef, .undef, .undef, .undef, .undef, .undef, .undef, .undef, .undef, .undef, .undef, .undef, .undef, .undef, .undef, .undef, .undef, .undef, .undef, .undef, .undef, .undef, .undef, .undef, .undef, .undef, .undef, .undef, .undef, .undef, .undef, .undef, .undef, .undef, .undef, .undef, .undef, .undef, .undef, .undef, .undef, .undef, .undef, .undef, .undef, .undef, .undef, .undef, .undef, .undef, .undef, .undef, .undef]) (fun _ => S ++ [rcc r]) (fun _ => H) (fun a => a ≤ r.parts.length) 0 (by simp) (by simp only [List.take_zero, putP, List.flatMap_nil, List.append_nil]; rfl) (by rw [app_take_add]; simp only [rcc, hy]; rfl) rfl (fun a _ => by simp [AV.under, AV.under.go]) ?_
      intro i hi ih
      have hli := hlen i hi
      by_cases h16 : i < r.parts.length
      · have hlt : ((i : Int) < (r.parts.length : Int)) := by omega
        have hw : IntKind.i64.wrap ((i : Int) + 1) = (i : Int) + 1 := wrap_i64 (by omega) (by omega)
        have hx := ixl_pI h16
        have hb := hpm _ (List.getElem_mem h16)
        have e : IntKind.u64.wrap r.parts[i] = (((r.parts[i]).toNat : Nat) : Int) := by rw [wrap_u64]; omega
        have htk : putP (r.parts.take (i + 1)) = putP (r.parts.take i) ++ putN (r.parts[i]).toNat := by
          unfold putP; rw [List.take_succ_eq_append_getElem h16, List.flatMap_append]; simp
        simp only [A_, simprocAttr, ne_eq, (U_hourglassref14_Put _).1, rcc, hlp, hlt, hx, convL, e]
        refine h1 _ _ (r.parts[i]).toNat _ _ _ .l (by omega) (by omega) ?_
        simp only [A_, simprocAttr, ne_eq, (U_hourglassref14_Put _).1, hw]
        refine ih (i + 1) _ _ _ (by omega) (by omega) ?_ (by rw [app_take_add]; simp only [rcc]; rfl) rfl
        rw [htk]
        simp only [List.append_assoc]
        rfl
      · have hlt : ¬ ((i : Int) < (r.parts.length : Int)) := by omega
        have : i = r.parts.length := by omega
        subst this
        rw [List.take_length]
        simp only [A_, simprocAttr, ne_eq, (U_hourglassref14_Put _).1, rcc, hlp, hlt]
        exact wk_uniq hK
  | false =>
    rw [hy, if_neg (by simp)] at hK
    have hf1 : putN 0 = [0] := putN_flag false
    have hlen := putRec_bound hr hpm b0 hbl (putN 0) (putN_len10 (by omega))
    simp only [List.append_assoc] at hlen hK
    simp only [A_, simprocAttr, ne_eq, (U_hourglassref14_Put _).1, k1, k2, k5, k4', hy, hlp, hcl, convL]
    refine ⟨h6f _ _ _ ?_, h6f _ _ _ ?_⟩
    all_goals
      have ha1 : ∀ σ : St, appendL eB false (.list .uniq 1 (bs b0)) (.list .full 1 [.s (.int .u8 0)]) σ = some (.list .uniq 1 (bs (b0 ++ [0])), σ) := fun σ => app_b1 (c := 0) (.inl rfl) (by omega)
      simp only [eB, ← hf1] at ha1
      simp only [A_, simprocAttr, ne_eq, (U_hourglassref14_Put _).1, hlp, hcl, convL, ha1]
      refine h4b _ _ _ _ _ .l (by have := putN_len10 (v := 0) (by omega); simp; omega) ?_
      simp only [A_, simprocAttr, ne_eq, (U_hourglassref14_Put _).1, hlp]
      refine h1 _ _ r.parts.length _ _ _ .l (by have := putN_len10 (v := 0) (by omega); simp; omega) (by omega) ?_
      simp only [A_, simprocAttr, ne_eq, (U_hourglassref14_Put _).1, hlp]
      refine loop_rule hC (α := Nat) (fun a => r.parts.length - a) (fun a => [.undef, .ptr (.stk S.length) 0, .undef, .list .uniq 1 (bs (b0 ++ (putN 0 ++ (putN (packN r.stamp) ++ (putN r.parts.length ++ putP (r.parts.take a)))))), .s (.int .i64 a), .undef, .undef, .undef, .undef, .undef, .undef, .undef, .undef, .undef, .undef, .undef, .undef, .undef, .undef, .undef, .undef, .undef, .undef, .undef, .undef, .undef, .undef, .undef, .undef, .undef, .undef, .undef, .undef, .undef, .undef, .undef, .undef, .undef, .undef, .undef, .undef, .undef, .undef, .undef, .undef, .undef, .undef, .undef, .undef, .undef, .undef, .undef, .undef, .undef, .undef, .undef, .undef, .undef, .undef, .undef, .undef, .undef, .undef, .undef, .undef, .undef, .undef, .undef, .undef]) (fun _ => S ++ [rcc r]) (fun _ => H) (fun a => a ≤ r.parts.length) 0 (by simp) (by simp only [List.take_zero, putP, List.flatMap_nil, List.append_nil]; rfl) (by rw [app_take_add]; simp only [rcc, hy]; rfl) rfl (fun a _ => by simp [AV.under, AV.under.go]) ?_
      intro i hi ih
      have hli := hlen i hi
      by_cases h16 : i < r.parts.length
      · have hlt : ((i : Int) < (r.parts.length : Int)) := by omega
        have hw : IntKind.i64.wrap ((i : Int) + 1) = (i : Int) + 1 := wrap_i64 (by omega) (by omega)
        have hx := ixl_pI h16
        have hb := hpm _ (List.getElem_mem h16)
        have e : IntKind.u64.wrap r.parts[i] = (((r.parts[i]).toNat : Nat) : Int) := by rw [wrap_u64]; omega
        have htk : putP (r.parts.take (i + 1)) = putP (r.parts.take i) ++ putN (r.parts[i]).toNat := by
          unfold putP; rw [List.take_succ_eq_append_getElem h16, List.flatMap_append]; simp
        simp only [A_, simprocAttr, ne_eq, (U_hourglassref14_Put _).1, rcc, hlp, hlt, hx, convL, e]
        refine h1 _ _ (r.parts[i]).toNat _ _ _ .l (by omega) (by omega) ?_
        simp only [A_, simprocAttr, ne_eq, (U_hourglassref14_Put _).1, hw]
        refine ih (i + 1) _ _ _ (by omega) (by omega) ?_ (by rw [app_take_add]; simp only [rcc]; rfl) rfl
        rw [htk]
        simp only [List.append_assoc]
        rfl
      · have hlt : ¬ ((i : Int) < (r.parts.length : Int)) := by omega
        have : i = r.parts.length := by omega
        subst this
        rw [List.take_length]
        simp only [A_, simprocAttr, ne_eq, (U_hourglassref14_Put _).1, rcc, hlp, hlt]
        exact wk_uniq hK
end Go.AM
namespace Go.AM
open Go
theorem bool_eq (r : Rd) : (boolR r).1 = decide ((mostR 1 r).1 = 1) ∧ (boolR r).2 = (mostR 1 r).2 := by rw [bool_most]; exact ⟨rfl, rfl⟩
theorem mostR_n (n : Nat) : mostR n none = (0, none) := by unfold mostR numR; simp
theorem keyR_n : (keyR none).2 = none := rfl
theorem wr_alike (r : Rd) : wrR r = wrQ r ∨ ((wrR r).2 = none ∧ ((wrQ r).2 = none ∨ 200 < (wrQ r).1.val.length)) := by
  obtain ⟨h1, h2⟩ := bool_eq (keyR r).2
  unfold wrR wrQ
  rw [h1, h2]
  generalize (mostR 1 (keyR r).2).2 = q
  by_cases h : 200 < (numR q).1
  · right
    have hm : mostR 200 q = (0, none) := by unfold mostR; rw [if_pos h]
    rw [hm]
    refine ⟨rfl, ?_⟩
    dsimp only
    generalize hq : (numR q).2 = p
    cases p with
    | none => left; rfl
    | some b =>
      rw [textR_some]
      by_cases hl : b.length < (numR q).1
      · left; rw [if_pos hl]
      · right; rw [if_neg hl]; simp; omega
  · left
    have hm : mostR 200 q = numR q := by unfold mostR; rw [if_neg h]
    rw [hm]
theorem wrsR_n : ∀ (n : Nat), (wrsR n none).2 = none
  | 0 => rfl
  | n + 1 => by
    rw [wrsR]
    have : (wrR none).2 = none := by
      unfold wrR
      rw [keyR_n, mostR_n, mostR_n]
      rfl
    rw [this]; exact wrsR_n n
def outW (seen : List Key) (x : List Wr × Rd) : Option (List Wr × List UInt8) := if sgood seen x.1 = true then x.2.map fun q => (x.1, q) else none
theorem sgood_cons (seen : List Key) (w : Wr) (l : List Wr) : sgood seen (w :: l) = (sgood seen [w] && sgood (seen ++ [w.key]) l) := by
  simp only [sgood]
  split
  · rfl
  split
  · rfl
  split
  · rfl
  split
  · rfl
  rfl
theorem outW_none (seen : List Key) (l : List Wr) : outW seen (l, none) = none := by unfold outW; split <;> rfl
theorem outW_cons (seen : List Key) (w : Wr) (x : List Wr × Rd) : outW seen (w :: x.1, x.2) = if sgood seen [w] = true then (outW (seen ++ [w.key]) x).map fun p => (w :: p.1, p.2) else none := by
  unfold outW
  rw [sgood_cons]
  cases sgood seen [w] <;> cases sgood (seen ++ [w.key]) x.1 <;> cases x.2 <;> simp
theorem out_alike : ∀ (n : Nat) (seen : List Key) (r : Rd), outW seen (wrsR n r) = outW seen (wrsQ n r)
  | 0, seen, r => rfl
  | n + 1, seen, none => by
    have h : (wrsR (n + 1) none) = ((wrsR (n + 1) none).1, none) := Prod.ext rfl (wrsR_n (n + 1))
    rw [h, outW_none, wrsQ_none, outW_none]
  | n + 1, seen, some b => by
    rw [wrsR, wrsQ, outW_cons, outW_cons]
    rcases wr_alike (some b) with h | ⟨h1, h2⟩
    · rw [h, out_alike n]
    · have e1 : outW (seen ++ [(wrR (some b)).1.key]) (wrsR n (wrR (some b)).2) = none := by
        rw [h1]
        have h : (wrsR n none) = ((wrsR n none).1, none) := Prod.ext rfl (wrsR_n n)
        rw [h, outW_none]
      rw [e1]
      have l : (if sgood seen [(wrR (some b)).1] = true then Option.map (fun p : List Wr × List UInt8 => ((wrR (some b)).1 :: p.1, p.2)) none else none) = none := by split <;> rfl
      rw [l]
      rcases h2 with h2 | h2
      · rw [h2, wrsQ_none, outW_none]; split <;> rfl
      · have : sgood seen [(wrQ (some b)).1] = false := by
          simp only [sgood, h2, if_true]
          split
          · rfl
          split <;> rfl
        rw [this]; simp
theorem wrsQ_len : ∀ (n : Nat) (r : Rd), (wrsQ n r).1.length ≤ n
  | 0, r => by simp [wrsQ]
  | n + 1, none => by simp [wrsQ]
  | n + 1, some b => by rw [wrsQ, List.length_cons]; have := wrsQ_len n (wrQ (some b)).2; omega
end Go.AM
namespace Go.AM
open Go
set_option maxRecDepth 20000
def partsR (m : Nat) : Nat → Rd → List Int × Rd
  | 0, r => ([], r)
  | n + 1, r => (((mostR m r).1 : Int) :: (partsR m n (mostR m r).2).1, (partsR m n (mostR m r).2).2)
theorem partsR_len (m : Nat) : ∀ (n : Nat) (r : Rd), (partsR m n r).1.length = n
  | 0, r => rfl
  | n + 1, r => by rw [partsR, List.length_cons, partsR_len m n]
def bodyR (k : Nat) (id : Int) (r : Rd) : Rec × Rd :=
  if k = 1 then (⟨k, id, (stampR r).1, (stampR (stampR r).2).1, (writesR (stampR (stampR r).2).2).1, false, []⟩, (writesR (stampR (stampR r).2).2).2)
  else if k = 2 ∨ k = 5 then (⟨k, id, ⟨0, 0⟩, (stampR r).1, [], false, []⟩, (stampR r).2)
  else if k = 4 then (⟨k, id, ⟨0, 0⟩, (stampR (mostR 1 r).2).1, [], decide ((mostR 1 r).1 = 1), (partsR 8 (mostR 8 (stampR (mostR 1 r).2).2).1 (mostR 8 (stampR (mostR 1 r).2).2).2).1⟩, (partsR 8 (mostR 8 (stampR (mostR 1 r).2).2).1 (mostR 8 (stampR (mostR 1 r).2).2).2).2)
  else (⟨k, id, ⟨0, 0⟩, ⟨0, 0⟩, [], false, []⟩, r)
def readRec (r : Rd) : Rec × Rd := bodyR (mostR 5 r).1 (zag (numR (mostR 5 r).2).1) (numR (mostR 5 r).2).2
def getRec (b : List UInt8) : Rec × Int := if (readRec (some b)).2 = some [] ∧ goodRec (readRec (some b)).1 = true then ((readRec (some b)).1, 0) else (zRec, 3)
def tupR (x : Rec × Int) : AV := .tup [.agg (rcc x.1), .s (.int .i64 x.2)]
def GetRecS (C : CallW) (f : FuncId) : Prop := ∀ (a : AV) (b : List UInt8) S H (K : AV → St → Prop), BA a b → b.length ≤ 9223372036854775807 → (∀ G, K (tupR (getRec b)) ⟨S, H ++ G⟩) → C (.fn f) [a] ⟨S, H⟩ K
theorem rcc_wkF (r : Rec) (x z : AV) (hx : x = .list .sh 18 (r.writes.map wA) ∨ x = .s .nilS ∧ r.writes = []) (hz : z = .list .sh 1 (r.parts.map pI) ∨ z = .s .nilS ∧ r.parts = []) : WkF [.agg [.s (.int .i64 r.kind), .s (.int .i64 r.id), .s (.int .i64 r.snap.t), u8 r.snap.n, .s (.int .i64 r.stamp.t), u8 r.stamp.n, x, .s (.bool r.yes), z]] [.agg (rcc r)] := .wk (rcc_wk r x z hx hz) .nil
theorem rcc_wkT (r : Rec) (x z e : AV) (hx : x = .list .sh 18 (r.writes.map wA) ∨ x = .s .nilS ∧ r.writes = []) (hz : z = .list .sh 1 (r.parts.map pI) ∨ z = .s .nilS ∧ r.parts = []) : WkL [(AV.tup [.agg [.s (.int .i64 r.kind), .s (.int .i64 r.id), .s (.int .i64 r.snap.t), u8 r.snap.n, .s (.int .i64 r.stamp.t), u8 r.stamp.n, x, .s (.bool r.yes), z], e]).sh] [.tup [.agg (rcc r), e]] := by
  have hsh : ∀ l, (AV.tup l).sh = .tup l := fun _ => rfl
  rw [hsh]
  refine .tup (.agg (.same (.same (.same (.same (.same (.same ?_)))))) rcc_cell (.same .nil)) .nil
  rcases hx with rfl | ⟨rfl, h1⟩ <;> rcases hz with rfl | ⟨rfl, h2⟩
  · exact .same (.same (.same .nil))
  · rw [h2]; exact .same (.same (.nilS (by omega) .nil))
  · rw [h1]; exact .nilS (by omega) (.same (.same .nil))
  · rw [h1, h2]; exact .nilS (by omega) (.same (.nilS (by omega) .nil))
theorem zero_wkT (e : AV) : WkL [(AV.tup [.agg [.s (.int .i64 0), .s (.int .i64 0), .s (.int .i64 0), .s (.int .u8 0), .s (.int .i64 0), .s (.int .u8 0), .s .nilS, .s (.bool false), .s .nilS], e]).sh] [.tup [.agg (rcc zRec), e]] := rcc_wkT zRec _ _ e (.inr ⟨rfl, rfl⟩) (.inr ⟨rfl, rfl⟩)
theorem sgood_len {r : Rd} : (writesR r).1.length ≤ 16 := by unfold writesR; dsimp only; rw [wrsR_len]; exact mostR_le 16 r
def slP (l : List Int) : AV := if l = [] then .s .nilS else .list .own 1 (l.map pI)
theorem app_nilI {e : ET} {a : AV} {σ : St} (h1 : e.c = 1) (h2 : e.bytes = 8) (hu : AV.under 0 a = true) : appendL e false (.s .nilS) (.list .full 1 [a]) σ = some (.list .uniq 1 [a], σ) := by
  have h := elems_list (e := e) (fl := .full) (es := [a]) (σ := σ)
  rw [h1] at h
  simp [appendL, srcL, AV.isSlice, h, AV.under.go, hu, appItems, h1, h2]
theorem app_ownI {e : ET} {x : Int} {l : List Int} {σ : St} (h1 : e.c = 1) (h2 : e.bytes = 8) (hl : l.length ≤ 1000000) : appendL e false (.list .own 1 (l.map pI)) (.list .full 1 [.s (.int .i64 x)]) σ = some (.list .own 1 ((l ++ [x]).map pI), σ) := by
  have h := elems_list (e := e) (fl := .full) (es := [AV.s (.int .i64 x)]) (σ := σ)
  rw [h1] at h
  have hb : 2 * ((l.map pI).length + 1) * 8 ≤ 2 ^ 48 := by simp; omega
  simp [appendL, srcL, AV.isSlice, h, AV.under.go, AV.under, appItems, h1, h2]
  refine ⟨by simpa using hb, rfl⟩
set_option maxHeartbeats 40000000 in
theorem rec_Get_spec {C : CallW} (hC : LeC C C) (hW : WkC C) (P : Program) {c : Nat → FuncId} (h0 : ∀ m : Nat, m < 9223372036854775808 → RdS C (c 0) [.s (.int .i64 m)] fun r => (.s (.int .i64 ((mostR m r).1 : Nat)), (mostR m r).2)) (h1 : RdS C (c 1) [] fun r => (.s (.int .u64 ((numR r).1 : Nat)), (numR r).2)) (h2 : ∀ n : Nat, n < 18446744073709551616 → FnS C (c 2) [.s (.int .u64 n)] (.s (.int .i64 (zag n)))) (h3 : RdS C (c 3) [] fun r => (.agg (stc (stampR r).1), (stampR r).2)) (h4 : WritesS C (c 4)) (h5 : GoodRS C (c 5)) : ∀ (b : List UInt8) S H (K : AV → St → Prop), b.length ≤ 9223372036854775807 → (∀ G, K (tupR (getRec b)) ⟨S, H ++ G⟩) → runL C P (C_rec_Get c) [.list .sh 1 (bs b)] ⟨S, H⟩ (WkK K) := by
  intro b S H K hb hK
  simp only [C_rec_Get, A_, simprocAttr, ne_eq, (U_rec_Get _).1, fillL]
  refine h0 5 (by omega) (S.length + 1) (some b) _ _ _ (by rw [app_get]; rfl) (rok_some hb) ?_
  simp only [A_, simprocAttr, ne_eq, (U_rec_Get _).1, fillL]
  have hr1 : rok (mostR 5 (some b)).2 := mostR_ok (rok_some hb)
  refine h1 (S.length + 1) _ _ _ _ (by rw [app_get]; rfl) hr1 ?_
  simp only [A_, simprocAttr, ne_eq, (U_rec_Get _).1]
  refine h2 _ (numR_lt _) _ _ _ ?_
  have hr2 : rok (numR (mostR 5 (some b)).2).2 := numR_ok hr1
  have hrd : readRec (some b) = bodyR (mostR 5 (some b)).1 (zag (numR (mostR 5 (some b)).2).1) (numR (mostR 5 (some b)).2).2 := rfl
  have hk5 := mostR_le 5 (some b)
  generalize (mostR 5 (some b)).1 = k at hrd hk5 ⊢
  generalize zag (numR (mostR 5 (some b)).2).1 = id at hrd ⊢
  generalize (numR (mostR 5 (some b)).2).2 = r at hrd hr2 ⊢
  unfold bodyR at hrd
  by_cases k2 : k = 2
  · subst k2
    rw [if_neg (by omega), if_pos (.inl rfl)] at hrd
    simp only [A_, simprocAttr, ne_eq, (U_rec_Get _).1]
    refine h3 (S.length + 1) _ _ _ _ (by rw [app_get]; rfl) hr2 ?_
    simp only [A_, simprocAttr, ne_eq, (U_rec_Get _).1, storeP_stk, stc]
    have hx : readRec (some b) = (⟨(2 : Nat), id, ⟨0, 0⟩, (stampR r).1, [], false, []⟩, (stampR r).2) := hrd
    have hbad : ¬ ((stampR r).2 = some [] ∧ goodRec ⟨(2 : Nat), id, ⟨0, 0⟩, (stampR r).1, [], false, []⟩ = true) → getRec b = (zRec, 3) := fun hn => by unfold getRec; rw [hx, if_neg hn]
    have hgood : (stampR r).2 = some [] → goodRec ⟨(2 : Nat), id, ⟨0, 0⟩, (stampR r).1, [], false, []⟩ = true → getRec b = (⟨(2 : Nat), id, ⟨0, 0⟩, (stampR r).1, [], false, []⟩, 0) := fun h1 h2 => by unfold getRec; rw [hx, if_pos ⟨h1, h2⟩]
    clear hx hrd
    cases hq : (stampR r).2 with
    | none =>
      have hKf := hK []
      rw [hbad (by rintro ⟨h, _⟩; rw [hq] at h; cases h)] at hKf
      simp only [A_, simprocAttr, ne_eq, (U_rec_Get _).1, fillL, rdc]
      exact ⟨_, .inr (zero_wkT _), by simpa [tupR] using hKf⟩
    | some l =>
    cases l with
    | cons y l =>
      have hKf := hK []
      rw [hbad (by rintro ⟨h, _⟩; rw [hq] at h; cases h)] at hKf
      have hpos : ((0 : Int) < (((bs (y :: l)).length : Nat) : Int)) := by rw [bs_length]; simp <;> omega
      simp only [A_, simprocAttr, ne_eq, (U_rec_Get _).1, fillL, rdc, hpos]
      exact ⟨_, .inr (zero_wkT _), by simpa [tupR] using hKf⟩
    | nil =>
      have hpos : ¬ ((0 : Int) < (((bs []).length : Nat) : Int)) := by rw [bs_length]; simp
      simp only [A_, simprocAttr, ne_eq, (U_rec_Get _).1, fillL, rdc, hpos]
      refine hW _ _ [.agg (rcc ⟨(2 : Nat), id, ⟨0, 0⟩, (stampR r).1, [], false, []⟩)] _ _ (rcc_wkF ⟨(2 : Nat), id, ⟨0, 0⟩, (stampR r).1, [], false, []⟩ _ _ (.inr ⟨rfl, rfl⟩) (.inr ⟨rfl, rfl⟩)) ?_
      refine h5 _ _ _ _ ⟨by simp, by simp⟩ fun G2 => ?_
      cases hg : goodRec ⟨(2 : Nat), id, ⟨0, 0⟩, (stampR r).1, [], false, []⟩ with
      | false =>
        have hKf := hK ([] ++ G2)
        rw [hbad (by rintro ⟨_, h⟩; rw [hg] at h; cases h)] at hKf
        simp only [A_, simprocAttr, ne_eq, (U_rec_Get _).1, fillL]
        exact ⟨_, .inr (zero_wkT _), by simpa [tupR] using hKf⟩
      | true =>
        have hKf := hK ([] ++ G2)
        rw [hgood hq hg] at hKf
        simp only [A_, simprocAttr, ne_eq, (U_rec_Get _).1]
        exact ⟨_, .inr (rcc_wkT ⟨(2 : Nat), id, ⟨0, 0⟩, (stampR r).1, [], false, []⟩ _ _ _ (.inr ⟨rfl, rfl⟩) (.inr ⟨rfl, rfl⟩)), by simpa [tupR] using hKf⟩
  by_cases k5 : k = 5
  · subst k5
    rw [if_neg (by omega), if_pos (.inr rfl)] at hrd
    simp only [A_, simprocAttr, ne_eq, (U_rec_Get _).1]
    refine h3 (S.length + 1) _ _ _ _ (by rw [app_get]; rfl) hr2 ?_
    simp only [A_, simprocAttr, ne_eq, (U_rec_Get _).1, storeP_stk, stc]
    have hx : readRec (some b) = (⟨(5 : Nat), id, ⟨0, 0⟩, (stampR r).1, [], false, []⟩, (stampR r).2) := hrd
    have hbad : ¬ ((stampR r).2 = some [] ∧ goodRec ⟨(5 : Nat), id, ⟨0, 0⟩, (stampR r).1, [], false, []⟩ = true) → getRec b = (zRec, 3) := fun hn => by unfold getRec; rw [hx, if_neg hn]
    have hgood : (stampR r).2 = some [] → goodRec ⟨(5 : Nat), id, ⟨0, 0⟩, (stampR r).1, [], false, []⟩ = true → getRec b = (⟨(5 : Nat), id, ⟨0, 0⟩, (stampR r).1, [], false, []⟩, 0) := fun h1 h2 => by unfold getRec; rw [hx, if_pos ⟨h1, h2⟩]
    clear hx hrd
    cases hq : (stampR r).2 with
    | none =>
      have hKf := hK []
      rw [hbad (by rintro ⟨h, _⟩; rw [hq] at h; cases h)] at hKf
      simp only [A_, simprocAttr, ne_eq, (U_rec_Get _).1, fillL, rdc]
      exact ⟨_, .inr (zero_wkT _), by simpa [tupR] using hKf⟩
    | some l =>
    cases l with
    | cons y l =>
      have hKf := hK []
      rw [hbad (by rintro ⟨h, _⟩; rw [hq] at h; cases h)] at hKf
      have hpos : ((0 : Int) < (((bs (y :: l)).length : Nat) : Int)) := by rw [bs_length]; simp <;> omega
      simp only [A_, simprocAttr, ne_eq, (U_rec_Get _).1, fillL, rdc, hpos]
      exact ⟨_, .inr (zero_wkT _), by simpa [tupR] using hKf⟩
    | nil =>
      have hpos : ¬ ((0 : Int) < (((bs []).length : Nat) : Int)) := by rw [bs_length]; simp
      simp only [A_, simprocAttr, ne_eq, (U_rec_Get _).1, fillL, rdc, hpos]
      refine hW _ _ [.agg (rcc ⟨(5 : Nat), id, ⟨0, 0⟩, (stampR r).1, [], false, []⟩)] _ _ (rcc_wkF ⟨(5 : Nat), id, ⟨0, 0⟩, (stampR r).1, [], false, []⟩ _ _ (.inr ⟨rfl, rfl⟩) (.inr ⟨rfl, rfl⟩)) ?_
      refine h5 _ _ _ _ ⟨by simp, by simp⟩ fun G2 => ?_
      cases hg : goodRec ⟨(5 : Nat), id, ⟨0, 0⟩, (stampR r).1, [], false, []⟩ with
      | false =>
        have hKf := hK ([] ++ G2)
        rw [hbad (by rintro ⟨_, h⟩; rw [hg] at h; cases h)] at hKf
        simp only [A_, simprocAttr, ne_eq, (U_rec_Get _).1, fillL]
        exact ⟨_, .inr (zero_wkT _), by simpa [tupR] using hKf⟩
      | true =>
        have hKf := hK ([] ++ G2)
        rw [hgood hq hg] at hKf
        simp only [A_, simprocAttr, ne_eq, (U_rec_Get _).1]
        exact ⟨_, .inr (rcc_wkT ⟨(5 : Nat), id, ⟨0, 0⟩, (stampR r).1, [], false, []⟩ _ _ _ (.inr ⟨rfl, rfl⟩) (.inr ⟨rfl, rfl⟩)), by simpa [tupR] using hKf⟩
  by_cases k1 : k = 1
  · subst k1
    rw [if_pos rfl] at hrd
    simp only [A_, simprocAttr, ne_eq, (U_rec_Get _).1]
    refine h3 (S.length + 1) _ _ _ _ (by rw [app_get]; rfl) hr2 ?_
    simp only [A_, simprocAttr, ne_eq, (U_rec_Get _).1, storeP_stk, stc]
    have hr3 : rok (stampR r).2 := stampR_ok hr2
    refine h3 (S.length + 1) _ _ _ _ (by rw [app_get]; rfl) hr3 ?_
    simp only [A_, simprocAttr, ne_eq, (U_rec_Get _).1, storeP_stk, stc]
    have hr4 : rok (stampR (stampR r).2).2 := stampR_ok hr3
    refine h4 (S.length + 1) _ _ _ _ (by rw [app_get]; rfl) hr4 fun G => ?_
    simp only [A_, simprocAttr, ne_eq, (U_rec_Get _).1, lstW]
    have hx : readRec (some b) = (⟨(1 : Nat), id, (stampR r).1, (stampR (stampR r).2).1, (writesR (stampR (stampR r).2).2).1, false, []⟩, (writesR (stampR (stampR r).2).2).2) := hrd
    have hbad : ¬ ((writesR (stampR (stampR r).2).2).2 = some [] ∧ goodRec ⟨(1 : Nat), id, (stampR r).1, (stampR (stampR r).2).1, (writesR (stampR (stampR r).2).2).1, false, []⟩ = true) → getRec b = (zRec, 3) := fun hn => by unfold getRec; rw [hx, if_neg hn]
    have hgood : (writesR (stampR (stampR r).2).2).2 = some [] → goodRec ⟨(1 : Nat), id, (stampR r).1, (stampR (stampR r).2).1, (writesR (stampR (stampR r).2).2).1, false, []⟩ = true → getRec b = (⟨(1 : Nat), id, (stampR r).1, (stampR (stampR r).2).1, (writesR (stampR (stampR r).2).2).1, false, []⟩, 0) := fun h1 h2 => by unfold getRec; rw [hx, if_pos ⟨h1, h2⟩]
    clear hx hrd
    cases hq : (writesR (stampR (stampR r).2).2).2 with
    | none =>
      have hKf := hK G
      rw [hbad (by rintro ⟨h, _⟩; rw [hq] at h; cases h)] at hKf
      simp only [A_, simprocAttr, ne_eq, (U_rec_Get _).1, fillL, rdc]
      exact ⟨_, .inr (zero_wkT _), by simpa [tupR] using hKf⟩
    | some l =>
    cases l with
    | cons y l =>
      have hKf := hK G
      rw [hbad (by rintro ⟨h, _⟩; rw [hq] at h; cases h)] at hKf
      have hpos : ((0 : Int) < (((bs (y :: l)).length : Nat) : Int)) := by rw [bs_length]; simp <;> omega
      simp only [A_, simprocAttr, ne_eq, (U_rec_Get _).1, fillL, rdc, hpos]
      exact ⟨_, .inr (zero_wkT _), by simpa [tupR] using hKf⟩
    | nil =>
      have hpos : ¬ ((0 : Int) < (((bs []).length : Nat) : Int)) := by rw [bs_length]; simp
      simp only [A_, simprocAttr, ne_eq, (U_rec_Get _).1, fillL, rdc, hpos]
      refine hW _ _ [.agg (rcc ⟨(1 : Nat), id, (stampR r).1, (stampR (stampR r).2).1, (writesR (stampR (stampR r).2).2).1, false, []⟩)] _ _ (rcc_wkF ⟨(1 : Nat), id, (stampR r).1, (stampR (stampR r).2).1, (writesR (stampR (stampR r).2).2).1, false, []⟩ _ _ (.inl rfl) (.inr ⟨rfl, rfl⟩)) ?_
      refine h5 _ _ _ _ ⟨Nat.le_trans sgood_len (by omega), by simp⟩ fun G2 => ?_
      cases hg : goodRec ⟨(1 : Nat), id, (stampR r).1, (stampR (stampR r).2).1, (writesR (stampR (stampR r).2).2).1, false, []⟩ with
      | false =>
        have hKf := hK (G ++ G2)
        rw [hbad (by rintro ⟨_, h⟩; rw [hg] at h; cases h)] at hKf
        simp only [A_, simprocAttr, ne_eq, (U_rec_Get _).1, fillL]
        exact ⟨_, .inr (zero_wkT _), by simpa [tupR] using hKf⟩
      | true =>
        have hKf := hK (G ++ G2)
        rw [hgood hq hg] at hKf
        simp only [A_, simprocAttr, ne_eq, (U_rec_Get _).1]
        exact ⟨_, .inr (rcc_wkT ⟨(1 : Nat), id, (stampR r).1, (stampR (stampR r).2).1, (writesR (stampR (stampR r).2).2).1, false, []⟩ _ _ _ (.inl rfl) (.inr ⟨rfl, rfl⟩)), by simpa [tupR] using hKf⟩
  by_cases k4 : k = 4
  case neg =>
    rw [if_neg k1, if_neg (by omega), if_neg k4] at hrd
    have n1 : ¬ ((k : Int) = 1) := by omega
    have n2 : ¬ ((k : Int) = 2) := by omega
    have n5 : ¬ ((k : Int) = 5) := by omega
    have n4 : ¬ ((k : Int) = 4) := by omega
    simp only [A_, simprocAttr, ne_eq, (U_rec_Get _).1, n1, n2, n5, n4]
    have hx : readRec (some b) = (⟨(k : Nat), id, ⟨0, 0⟩, ⟨0, 0⟩, [], false, []⟩, r) := hrd
    have hbad : ¬ (r = some [] ∧ goodRec ⟨(k : Nat), id, ⟨0, 0⟩, ⟨0, 0⟩, [], false, []⟩ = true) → getRec b = (zRec, 3) := fun hn => by unfold getRec; rw [hx, if_neg hn]
    have hgood : r = some [] → goodRec ⟨(k : Nat), id, ⟨0, 0⟩, ⟨0, 0⟩, [], false, []⟩ = true → getRec b = (⟨(k : Nat), id, ⟨0, 0⟩, ⟨0, 0⟩, [], false, []⟩, 0) := fun h1 h2 => by unfold getRec; rw [hx, if_pos ⟨h1, h2⟩]
    clear hx hrd
    cases hq : r with
    | none =>
      have hKf := hK []
      rw [hbad (by rintro ⟨h, _⟩; rw [hq] at h; cases h)] at hKf
      simp only [A_, simprocAttr, ne_eq, (U_rec_Get _).1, fillL, rdc]
      exact ⟨_, .inr (zero_wkT _), by simpa [tupR] using hKf⟩
    | some l =>
    cases l with
    | cons y l =>
      have hKf := hK []
      rw [hbad (by rintro ⟨h, _⟩; rw [hq] at h; cases h)] at hKf
      have hpos : ((0 : Int) < (((bs (y :: l)).length : Nat) : Int)) := by rw [bs_length]; simp <;> omega
      simp only [A_, simprocAttr, ne_eq, (U_rec_Get _).1, fillL, rdc, hpos]
      exact ⟨_, .inr (zero_wkT _), by simpa [tupR] using hKf⟩
    | nil =>
      have hpos : ¬ ((0 : Int) < (((bs []).length : Nat) : Int)) := by rw [bs_length]; simp
      simp only [A_, simprocAttr, ne_eq, (U_rec_Get _).1, fillL, rdc, hpos]
      refine hW _ _ [.agg (rcc ⟨(k : Nat), id, ⟨0, 0⟩, ⟨0, 0⟩, [], false, []⟩)] _ _ (rcc_wkF ⟨(k : Nat), id, ⟨0, 0⟩, ⟨0, 0⟩, [], false, []⟩ _ _ (.inr ⟨rfl, rfl⟩) (.inr ⟨rfl, rfl⟩)) ?_
      refine h5 _ _ _ _ ⟨by simp, by simp⟩ fun G2 => ?_
      cases hg : goodRec ⟨(k : Nat), id, ⟨0, 0⟩, ⟨0, 0⟩, [], false, []⟩ with
      | false =>
        have hKf := hK ([] ++ G2)
        rw [hbad (by rintro ⟨_, h⟩; rw [hg] at h; cases h)] at hKf
        simp only [A_, simprocAttr, ne_eq, (U_rec_Get _).1, fillL]
        exact ⟨_, .inr (zero_wkT _), by simpa [tupR] using hKf⟩
      | true =>
        have hKf := hK ([] ++ G2)
        rw [hgood hq hg] at hKf
        simp only [A_, simprocAttr, ne_eq, (U_rec_Get _).1]
        exact ⟨_, .inr (rcc_wkT ⟨(k : Nat), id, ⟨0, 0⟩, ⟨0, 0⟩, [], false, []⟩ _ _ _ (.inr ⟨rfl, rfl⟩) (.inr ⟨rfl, rfl⟩)), by simpa [tupR] using hKf⟩
  · subst k4
    rw [if_neg (by omega), if_neg (by omega), if_pos rfl] at hrd
    simp only [A_, simprocAttr, ne_eq, (U_rec_Get _).1]
    refine h0 1 (by omega) (S.length + 1) _ _ _ _ (by rw [app_get]; rfl) hr2 ?_
    have hr3 : rok (mostR 1 r).2 := mostR_ok hr2
    have hy : (((mostR 1 r).1 : Int) = 1) = ((mostR 1 r).1 = 1) := propext (by omega)
    simp only [A_, simprocAttr, ne_eq, (U_rec_Get _).1, hy]
    refine h3 (S.length + 1) _ _ _ _ (by rw [app_get]; rfl) hr3 ?_
    have hr4 : rok (stampR (mostR 1 r).2).2 := stampR_ok hr3
    simp only [A_, simprocAttr, ne_eq, (U_rec_Get _).1, storeP_stk, stc]
    refine h0 8 (by omega) (S.length + 1) _ _ _ _ (by rw [app_get]; rfl) hr4 ?_
    have hr5 : rok (mostR 8 (stampR (mostR 1 r).2).2).2 := mostR_ok hr4
    simp only [A_, simprocAttr, ne_eq, (U_rec_Get _).1]
    generalize decide ((mostR 1 r).1 = 1) = yes at hrd ⊢
    generalize (stampR (mostR 1 r).2).1 = st at hrd ⊢
    have hn8 := mostR_le 8 (stampR (mostR 1 r).2).2
    generalize (mostR 8 (stampR (mostR 1 r).2).2).1 = n at hrd hn8 ⊢
    generalize (mostR 8 (stampR (mostR 1 r).2).2).2 = q0 at hrd hr5 ⊢
    clear hr2 hr3 hr4 hy
    refine loop_rule hC (α := Nat × List Int × Rd) (fun a => n - a.1) (fun a => [.undef, .undef, .ptr (.stk S.length) 0, .undef, .ptr (.stk (S.length + 1)) 0, .ptr (.stk (S.length + 2)) 0, .undef, .undef, .undef, .undef, .undef, .undef, .undef, .undef, .undef, .undef, .undef, .undef, .undef, .undef, .undef, .undef, .undef, .undef, .undef, .undef, .undef, .undef, .undef, .undef, .undef, .undef, .undef, .undef, .undef, .undef, .undef, .undef, .undef, .undef, .undef, .undef, .undef, .undef, .undef, .s (.int .i64 n), .s (.int .i64 a.1), .undef, .undef, .undef, .undef, .undef, .undef, .undef, .undef, .undef, .undef, .undef, .undef, .undef, .undef, .undef, .undef, .undef, .undef, .undef, .undef, .undef, .undef, .undef, .undef, .undef, .undef, .undef, .undef]) (fun a => S ++ [[.s (.int .i64 0), .s (.int .i64 0), .s (.int .i64 0), .s (.int .u8 0), .s (.int .i64 0), .s (.int .u8 0), .s .nilS, .s (.bool false), .s .nilS], rdc a.2.2, [.s (.int .i64 4), .s (.int .i64 id), .s (.int .i64 0), .s (.int .u8 0), .s (.int .i64 st.t), u8 st.n, .s .nilS, .s (.bool yes), slP a.2.1]]) (fun a => H) (fun a => a.1 ≤ n ∧ rok a.2.2 ∧ a.2.1.length = a.1 ∧ partsR 8 n q0 = (a.2.1 ++ (partsR 8 (n - a.1) a.2.2).1, (partsR 8 (n - a.1) a.2.2).2)) (0, [], q0) ⟨by simp, hr5, rfl, by simp⟩ rfl (by rw [app_take_add]; rfl) rfl (fun a _ => by simp [AV.under, AV.under.go]) ?_
    rintro ⟨i, acc, q⟩ ⟨hi, hq, hal, hinv⟩ ih
    dsimp only at hi hq hal hinv ih ⊢
    by_cases h16 : i < n
    · have hlt : ((i : Int) < (n : Int)) := by omega
      have hw : IntKind.i64.wrap ((i : Int) + 1) = (i : Int) + 1 := wrap_i64 (by omega) (by omega)
      have hq1 : rok (mostR 8 q).2 := mostR_ok hq
      have ih2 := ih (i + 1, acc ++ [((mostR 8 q).1 : Int)], (mostR 8 q).2)
      have hinv2 : partsR 8 n q0 = ((acc ++ [((mostR 8 q).1 : Int)]) ++ (partsR 8 (n - (i + 1)) (mostR 8 q).2).1, (partsR 8 (n - (i + 1)) (mostR 8 q).2).2) := by
        rw [hinv, show n - i = (n - (i + 1)) + 1 by omega, partsR]
        simp
      by_cases hacc : acc = []
      · subst hacc
        rw [show slP ([] ++ [((mostR 8 q).1 : Int)]) = .list .own 1 [pI ((mostR 8 q).1 : Int)] from rfl] at ih2
        simp only [A_, simprocAttr, ne_eq, (U_rec_Get _).1, hlt, show slP [] = .s .nilS from rfl]
        refine ⟨?_, ?_⟩
        · refine h0 8 (by omega) (S.length + 1) _ _ _ _ (by rw [app_get]; rfl) hq ?_
          simp only [A_, simprocAttr, ne_eq, (U_rec_Get _).1, hw, app_nilI]
          exact ih2 _ _ _ (by dsimp only; omega) ⟨by dsimp only; omega, hq1, by simp [hal], hinv2⟩ rfl (by rw [app_take_add]; rfl) rfl
        · refine h0 8 (by omega) (S.length + 1) _ _ _ _ (by rw [app_get]; rfl) hq ?_
          simp only [A_, simprocAttr, ne_eq, (U_rec_Get _).1, hw, app_nilI]
          exact ih2 _ _ _ (by dsimp only; omega) ⟨by dsimp only; omega, hq1, by simp [hal], hinv2⟩ rfl (by rw [app_take_add]; rfl) rfl
      · rw [show slP (acc ++ [((mostR 8 q).1 : Int)]) = .list .own 1 ((acc ++ [((mostR 8 q).1 : Int)]).map pI) from if_neg (by simp)] at ih2
        have hl8 : acc.length ≤ 1000000 := by omega
        simp only [A_, simprocAttr, ne_eq, (U_rec_Get _).1, hlt, show slP acc = .list .own 1 (acc.map pI) from if_neg hacc]
        refine ⟨?_, ?_⟩
        · refine h0 8 (by omega) (S.length + 1) _ _ _ _ (by rw [app_get]; rfl) hq ?_
          simp only [A_, simprocAttr, ne_eq, (U_rec_Get _).1, hw, app_ownI, hl8]
          exact ih2 _ _ _ (by dsimp only; omega) ⟨by dsimp only; omega, hq1, by simp [hal], hinv2⟩ rfl (by rw [app_take_add]; rfl) rfl
        · refine h0 8 (by omega) (S.length + 1) _ _ _ _ (by rw [app_get]; rfl) hq ?_
          simp only [A_, simprocAttr, ne_eq, (U_rec_Get _).1, hw, app_ownI, hl8]
          exact ih2 _ _ _ (by dsimp only; omega) ⟨by dsimp only; omega, hq1, by simp [hal], hinv2⟩ rfl (by rw [app_take_add]; rfl) rfl
    · have hlt : ¬ ((i : Int) < (n : Int)) := by omega
      have hal8 : acc.length ≤ 8 := by omega
      rw [show n - i = 0 by omega] at hinv
      simp only [partsR, List.append_nil] at hinv
      rw [hinv] at hrd
      dsimp only at hrd
      clear hinv ih
      generalize q = q at *
      by_cases hacc : acc = []
      · subst hacc
        simp only [A_, simprocAttr, ne_eq, (U_rec_Get _).1, hlt, show slP [] = .s .nilS from rfl]
        have hx : readRec (some b) = (⟨(4 : Nat), id, ⟨0, 0⟩, st, [], yes, []⟩, q) := hrd
        have hbad : ¬ (q = some [] ∧ goodRec ⟨(4 : Nat), id, ⟨0, 0⟩, st, [], yes, []⟩ = true) → getRec b = (zRec, 3) := fun hn => by unfold getRec; rw [hx, if_neg hn]
        have hgood : q = some [] → goodRec ⟨(4 : Nat), id, ⟨0, 0⟩, st, [], yes, []⟩ = true → getRec b = (⟨(4 : Nat), id, ⟨0, 0⟩, st, [], yes, []⟩, 0) := fun h1 h2 => by unfold getRec; rw [hx, if_pos ⟨h1, h2⟩]
        clear hx hrd
        cases hq : q with
        | none =>
          have hKf := hK []
          rw [hbad (by rintro ⟨h, _⟩; rw [hq] at h; cases h)] at hKf
          simp only [A_, simprocAttr, ne_eq, (U_rec_Get _).1, fillL, rdc]
          exact ⟨_, .inr (zero_wkT _), by simpa [tupR] using hKf⟩
        | some l =>
        cases l with
        | cons y l =>
          have hKf := hK []
          rw [hbad (by rintro ⟨h, _⟩; rw [hq] at h; cases h)] at hKf
          have hpos : ((0 : Int) < (((bs (y :: l)).length : Nat) : Int)) := by rw [bs_length]; simp <;> omega
          simp only [A_, simprocAttr, ne_eq, (U_rec_Get _).1, fillL, rdc, hpos]
          exact ⟨_, .inr (zero_wkT _), by simpa [tupR] using hKf⟩
        | nil =>
          have hpos : ¬ ((0 : Int) < (((bs []).length : Nat) : Int)) := by rw [bs_length]; simp
          simp only [A_, simprocAttr, ne_eq, (U_rec_Get _).1, fillL, rdc, hpos]
          refine hW _ _ [.agg (rcc ⟨(4 : Nat), id, ⟨0, 0⟩, st, [], yes, []⟩)] _ _ (rcc_wkF ⟨(4 : Nat), id, ⟨0, 0⟩, st, [], yes, []⟩ _ _ (.inr ⟨rfl, rfl⟩) (.inr ⟨rfl, rfl⟩)) ?_
          refine h5 _ _ _ _ ⟨by simp, by simp⟩ fun G2 => ?_
          cases hg : goodRec ⟨(4 : Nat), id, ⟨0, 0⟩, st, [], yes, []⟩ with
          | false =>
            have hKf := hK ([] ++ G2)
            rw [hbad (by rintro ⟨_, h⟩; rw [hg] at h; cases h)] at hKf
            simp only [A_, simprocAttr, ne_eq, (U_rec_Get _).1, fillL]
            exact ⟨_, .inr (zero_wkT _), by simpa [tupR] using hKf⟩
          | true =>
            have hKf := hK ([] ++ G2)
            rw [hgood hq hg] at hKf
            simp only [A_, simprocAttr, ne_eq, (U_rec_Get _).1]
            exact ⟨_, .inr (rcc_wkT ⟨(4 : Nat), id, ⟨0, 0⟩, st, [], yes, []⟩ _ _ _ (.inr ⟨rfl, rfl⟩) (.inr ⟨rfl, rfl⟩)), by simpa [tupR] using hKf⟩
      · simp only [A_, simprocAttr, ne_eq, (U_rec_Get _).1, hlt, show slP acc = .list .own 1 (acc.map pI) from if_neg hacc]
        have hx : readRec (some b) = (⟨(4 : Nat), id, ⟨0, 0⟩, st, [], yes, acc⟩, q) := hrd
        have hbad : ¬ (q = some [] ∧ goodRec ⟨(4 : Nat), id, ⟨0, 0⟩, st, [], yes, acc⟩ = true) → getRec b = (zRec, 3) := fun hn => by unfold getRec; rw [hx, if_neg hn]
        have hgood : q = some [] → goodRec ⟨(4 : Nat), id, ⟨0, 0⟩, st, [], yes, acc⟩ = true → getRec b = (⟨(4 : Nat), id, ⟨0, 0⟩, st, [], yes, acc⟩, 0) := fun h1 h2 => by unfold getRec; rw [hx, if_pos ⟨h1, h2⟩]
        clear hx hrd
        cases hq : q with
        | none =>
          have hKf := hK []
          rw [hbad (by rintro ⟨h, _⟩; rw [hq] at h; cases h)] at hKf
          simp only [A_, simprocAttr, ne_eq, (U_rec_Get _).1, fillL, rdc]
          exact ⟨_, .inr (zero_wkT _), by simpa [tupR] using hKf⟩
        | some l =>
        cases l with
        | cons y l =>
          have hKf := hK []
          rw [hbad (by rintro ⟨h, _⟩; rw [hq] at h; cases h)] at hKf
          have hpos : ((0 : Int) < (((bs (y :: l)).length : Nat) : Int)) := by rw [bs_length]; simp <;> omega
          simp only [A_, simprocAttr, ne_eq, (U_rec_Get _).1, fillL, rdc, hpos]
          exact ⟨_, .inr (zero_wkT _), by simpa [tupR] using hKf⟩
        | nil =>
          have hpos : ¬ ((0 : Int) < (((bs []).length : Nat) : Int)) := by rw [bs_length]; simp
          simp only [A_, simprocAttr, ne_eq, (U_rec_Get _).1, fillL, rdc, hpos]
          refine hW _ _ [.agg (rcc ⟨(4 : Nat), id, ⟨0, 0⟩, st, [], yes, acc⟩)] _ _ (rcc_wkF ⟨(4 : Nat), id, ⟨0, 0⟩, st, [], yes, acc⟩ _ _ (.inr ⟨rfl, rfl⟩) (.inl rfl)) ?_
          refine h5 _ _ _ _ ⟨by simp, by simp; omega⟩ fun G2 => ?_
          cases hg : goodRec ⟨(4 : Nat), id, ⟨0, 0⟩, st, [], yes, acc⟩ with
          | false =>
            have hKf := hK ([] ++ G2)
            rw [hbad (by rintro ⟨_, h⟩; rw [hg] at h; cases h)] at hKf
            simp only [A_, simprocAttr, ne_eq, (U_rec_Get _).1, fillL]
            exact ⟨_, .inr (zero_wkT _), by simpa [tupR] using hKf⟩
          | true =>
            have hKf := hK ([] ++ G2)
            rw [hgood hq hg] at hKf
            simp only [A_, simprocAttr, ne_eq, (U_rec_Get _).1]
            exact ⟨_, .inr (rcc_wkT ⟨(4 : Nat), id, ⟨0, 0⟩, st, [], yes, acc⟩ _ _ _ (.inr ⟨rfl, rfl⟩) (.inl rfl)), by simpa [tupR] using hKf⟩
end Go.AM
namespace Go.AM
open Go
set_option maxRecDepth 20000
def bodyQ (k : Nat) (id : Int) (r : Rd) : Rec × Rd :=
  if k = 1 then (⟨k, id, (stampR r).1, (stampR (stampR r).2).1, (writesQ (stampR (stampR r).2).2).1, false, []⟩, (writesQ (stampR (stampR r).2).2).2)
  else if k = 2 ∨ k = 5 then (⟨k, id, ⟨0, 0⟩, (stampR r).1, [], false, []⟩, (stampR r).2)
  else if k = 4 then (⟨k, id, ⟨0, 0⟩, (stampR (boolR r).2).1, [], (boolR r).1, (partsR 7 (mostR 8 (stampR (boolR r).2).2).1 (mostR 8 (stampR (boolR r).2).2).2).1⟩, (partsR 7 (mostR 8 (stampR (boolR r).2).2).1 (mostR 8 (stampR (boolR r).2).2).2).2)
  else (⟨k, id, ⟨0, 0⟩, ⟨0, 0⟩, [], false, []⟩, r)
def readRecQ (r : Rd) : Rec × Rd := bodyQ (mostR 5 r).1 (zag (numR (mostR 5 r).2).1) (numR (mostR 5 r).2).2
def getRecQ (b : List UInt8) : Rec × Bool := if (readRecQ (some b)).2 = some [] ∧ goodRecQ (readRecQ (some b)).1 = true then ((readRecQ (some b)).1, true) else (zRec, false)
def tupRb (x : Rec × Bool) : AV := .tup [.agg (rcc x.1), .s (.bool x.2)]
def GetRecQS (C : CallW) (f : FuncId) : Prop := ∀ (a : AV) (b : List UInt8) S H (K : AV → St → Prop), BA a b → b.length ≤ 9223372036854775807 → K (tupRb (getRecQ b)) ⟨S, H⟩ → C (.fn f) [a] ⟨S, H⟩ K
def GoodQS (C : CallW) (f : FuncId) : Prop := ∀ (r : Rec) S H (K : AV → St → Prop), okR r → K (.bool (goodRecQ r)) ⟨S, H⟩ → C (.fn f) [.agg (rcc r)] ⟨S, H⟩ K
theorem writesQ_len {r : Rd} : (writesQ r).1.length ≤ 16 := by unfold writesQ; dsimp only; have := wrsQ_len (mostR 16 r).1 (mostR 16 r).2; have := mostR_le 16 r; omega
set_option maxHeartbeats 40000000 in
theorem ref14_Get_spec {C : CallW} (hC : LeC C C) (hW : WkC C) (P : Program) {c : Nat → FuncId} (h0 : ∀ m : Nat, m < 9223372036854775808 → RfS C (c 0) [.s (.int .u64 m)] fun r => (.s (.int .i64 ((mostR m r).1 : Nat)), (mostR m r).2)) (h1 : RfS C (c 1) [] fun r => (.s (.int .u64 ((numR r).1 : Nat)), (numR r).2)) (h2 : ∀ n : Nat, n < 18446744073709551616 → FnS C (c 2) [.s (.int .u64 n)] (.s (.int .i64 (zag n)))) (h3 : RfS C (c 3) [] fun r => (.agg (stc (stampR r).1), (stampR r).2)) (h4 : WritesQS C (c 4)) (h5 : RfS C (c 5) [] fun r => (.bool (boolR r).1, (boolR r).2)) (h6 : EndS C (c 6)) (h7 : GoodQS C (c 7)) : ∀ (b : List UInt8) S H (K : AV → St → Prop), b.length ≤ 9223372036854775807 → K (tupRb (getRecQ b)) ⟨S, H⟩ → runL C P (C_hourglassref14_Get c) [.list .sh 1 (bs b)] ⟨S, H⟩ (WkK K) := by
  intro b S H K hb hK
  simp only [C_hourglassref14_Get, A_, simprocAttr, ne_eq, (U_hourglassref14_Get _).1, fillL]
  refine h0 5 (by omega) (S.length + 1) b 0 false _ _ _ (by rw [app_get]; rfl) (by omega) hb fun p1 bad1 hp1 he1 => ?_
  dsimp only at he1
  rw [rfA_f, List.drop_zero] at he1
  simp only [A_, simprocAttr, ne_eq, (U_hourglassref14_Get _).1, fillL, rfA_f, List.drop_zero]
  refine h1 (S.length + 1) b p1 bad1 _ _ _ (by rw [app_get]; rfl) hp1 hb fun p2 bad2 hp2 he2 => ?_
  dsimp only at he2
  rw [he1] at he2 ⊢
  simp only [A_, simprocAttr, ne_eq, (U_hourglassref14_Get _).1]
  refine h2 _ (numR_lt _) _ _ _ ?_
  have hrd : readRecQ (some b) = bodyQ (mostR 5 (some b)).1 (zag (numR (mostR 5 (some b)).2).1) (numR (mostR 5 (some b)).2).2 := rfl
  have hk5 := mostR_le 5 (some b)
  rw [← he2] at hrd
  generalize (mostR 5 (some b)).1 = k at hrd hk5 ⊢
  generalize zag (numR (mostR 5 (some b)).2).1 = id at hrd ⊢
  clear he1 he2
  unfold bodyQ at hrd
  by_cases k2 : k = 2
  · subst k2
    rw [if_neg (by omega), if_pos (.inl rfl)] at hrd
    simp only [A_, simprocAttr, ne_eq, (U_hourglassref14_Get _).1, fillL]
    refine h3 (S.length + 1) b p2 bad2 _ _ _ (by rw [app_get]; rfl) hp2 hb fun p3 bad3 hp3 he3 => ?_
    dsimp only at he3
    rw [← he3] at hrd
    simp only [A_, simprocAttr, ne_eq, (U_hourglassref14_Get _).1, storeP_stk, stc]
    have hx : readRecQ (some b) = (⟨(2 : Nat), id, ⟨0, 0⟩, (stampR (rfA b p2 bad2)).1, [], false, []⟩, rfA b p3 bad3) := hrd
    have hbad : ¬ (rfA b p3 bad3 = some [] ∧ goodRecQ ⟨(2 : Nat), id, ⟨0, 0⟩, (stampR (rfA b p2 bad2)).1, [], false, []⟩ = true) → getRecQ b = (zRec, false) := fun hn => by unfold getRecQ; rw [hx, if_neg hn]
    have hgood : rfA b p3 bad3 = some [] → goodRecQ ⟨(2 : Nat), id, ⟨0, 0⟩, (stampR (rfA b p2 bad2)).1, [], false, []⟩ = true → getRecQ b = (⟨(2 : Nat), id, ⟨0, 0⟩, (stampR (rfA b p2 bad2)).1, [], false, []⟩, true) := fun h1 h2 => by unfold getRecQ; rw [hx, if_pos ⟨h1, h2⟩]
    clear hx hrd
    refine h6 (S.length + 1) b p3 bad3 _ _ _ (by rw [app_get]; rfl) hp3 ?_
    by_cases hq : rfA b p3 bad3 = some []
    case neg =>
      rw [hbad (by rintro ⟨h, _⟩; exact hq h)] at hK
      rw [decide_eq_false hq]
      simp only [A_, simprocAttr, ne_eq, (U_hourglassref14_Get _).1, fillL]
      exact ⟨_, .inr (zero_wkT _), hK⟩
    rw [decide_eq_true hq]
    simp only [A_, simprocAttr, ne_eq, (U_hourglassref14_Get _).1, fillL]
    refine hW _ _ [.agg (rcc ⟨(2 : Nat), id, ⟨0, 0⟩, (stampR (rfA b p2 bad2)).1, [], false, []⟩)] _ _ (rcc_wkF ⟨(2 : Nat), id, ⟨0, 0⟩, (stampR (rfA b p2 bad2)).1, [], false, []⟩ _ _ (.inr ⟨rfl, rfl⟩) (.inr ⟨rfl, rfl⟩)) ?_
    refine h7 _ _ _ _ ⟨by simp, by simp⟩ ?_
    cases hg : goodRecQ ⟨(2 : Nat), id, ⟨0, 0⟩, (stampR (rfA b p2 bad2)).1, [], false, []⟩ with
    | false =>
      rw [hbad (by rintro ⟨_, h⟩; rw [hg] at h; cases h)] at hK
      simp only [A_, simprocAttr, ne_eq, (U_hourglassref14_Get _).1, fillL]
      exact ⟨_, .inr (zero_wkT _), hK⟩
    | true =>
      rw [hgood hq hg] at hK
      simp only [A_, simprocAttr, ne_eq, (U_hourglassref14_Get _).1]
      exact ⟨_, .inr (rcc_wkT ⟨(2 : Nat), id, ⟨0, 0⟩, (stampR (rfA b p2 bad2)).1, [], false, []⟩ _ _ _ (.inr ⟨rfl, rfl⟩) (.inr ⟨rfl, rfl⟩)), hK⟩
  by_cases k5 : k = 5
  · subst k5
    rw [if_neg (by omega), if_pos (.inr rfl)] at hrd
    simp only [A_, simprocAttr, ne_eq, (U_hourglassref14_Get _).1, fillL]
    refine h3 (S.length + 1) b p2 bad2 _ _ _ (by rw [app_get]; rfl) hp2 hb fun p3 bad3 hp3 he3 => ?_
    dsimp only at he3
    rw [← he3] at hrd
    simp only [A_, simprocAttr, ne_eq, (U_hourglassref14_Get _).1, storeP_stk, stc]
    have hx : readRecQ (some b) = (⟨(5 : Nat), id, ⟨0, 0⟩, (stampR (rfA b p2 bad2)).1, [], false, []⟩, rfA b p3 bad3) := hrd
    have hbad : ¬ (rfA b p3 bad3 = some [] ∧ goodRecQ ⟨(5 : Nat), id, ⟨0, 0⟩, (stampR (rfA b p2 bad2)).1, [], false, []⟩ = true) → getRecQ b = (zRec, false) := fun hn => by unfold getRecQ; rw [hx, if_neg hn]
    have hgood : rfA b p3 bad3 = some [] → goodRecQ ⟨(5 : Nat), id, ⟨0, 0⟩, (stampR (rfA b p2 bad2)).1, [], false, []⟩ = true → getRecQ b = (⟨(5 : Nat), id, ⟨0, 0⟩, (stampR (rfA b p2 bad2)).1, [], false, []⟩, true) := fun h1 h2 => by unfold getRecQ; rw [hx, if_pos ⟨h1, h2⟩]
    clear hx hrd
    refine h6 (S.length + 1) b p3 bad3 _ _ _ (by rw [app_get]; rfl) hp3 ?_
    by_cases hq : rfA b p3 bad3 = some []
    case neg =>
      rw [hbad (by rintro ⟨h, _⟩; exact hq h)] at hK
      rw [decide_eq_false hq]
      simp only [A_, simprocAttr, ne_eq, (U_hourglassref14_Get _).1, fillL]
      exact ⟨_, .inr (zero_wkT _), hK⟩
    rw [decide_eq_true hq]
    simp only [A_, simprocAttr, ne_eq, (U_hourglassref14_Get _).1, fillL]
    refine hW _ _ [.agg (rcc ⟨(5 : Nat), id, ⟨0, 0⟩, (stampR (rfA b p2 bad2)).1, [], false, []⟩)] _ _ (rcc_wkF ⟨(5 : Nat), id, ⟨0, 0⟩, (stampR (rfA b p2 bad2)).1, [], false, []⟩ _ _ (.inr ⟨rfl, rfl⟩) (.inr ⟨rfl, rfl⟩)) ?_
    refine h7 _ _ _ _ ⟨by simp, by simp⟩ ?_
    cases hg : goodRecQ ⟨(5 : Nat), id, ⟨0, 0⟩, (stampR (rfA b p2 bad2)).1, [], false, []⟩ with
    | false =>
      rw [hbad (by rintro ⟨_, h⟩; rw [hg] at h; cases h)] at hK
      simp only [A_, simprocAttr, ne_eq, (U_hourglassref14_Get _).1, fillL]
      exact ⟨_, .inr (zero_wkT _), hK⟩
    | true =>
      rw [hgood hq hg] at hK
      simp only [A_, simprocAttr, ne_eq, (U_hourglassref14_Get _).1]
      exact ⟨_, .inr (rcc_wkT ⟨(5 : Nat), id, ⟨0, 0⟩, (stampR (rfA b p2 bad2)).1, [], false, []⟩ _ _ _ (.inr ⟨rfl, rfl⟩) (.inr ⟨rfl, rfl⟩)), hK⟩
  by_cases k1 : k = 1
  · subst k1
    rw [if_pos rfl] at hrd
    simp only [A_, simprocAttr, ne_eq, (U_hourglassref14_Get _).1, fillL]
    refine h3 (S.length + 1) b p2 bad2 _ _ _ (by rw [app_get]; rfl) hp2 hb fun p3 bad3 hp3 he3 => ?_
    dsimp only at he3
    rw [← he3] at hrd
    simp only [A_, simprocAttr, ne_eq, (U_hourglassref14_Get _).1, storeP_stk, stc]
    refine h3 (S.length + 1) b p3 bad3 _ _ _ (by rw [app_get]; rfl) hp3 hb fun p4 bad4 hp4 he4 => ?_
    dsimp only at he4
    rw [← he4] at hrd
    simp only [A_, simprocAttr, ne_eq, (U_hourglassref14_Get _).1, storeP_stk, stc]
    refine h4 (S.length + 1) b p4 bad4 _ _ _ (by rw [app_get]; rfl) hp4 hb fun p5 bad5 hp5 he5 => ?_
    rw [← he5] at hrd
    simp only [A_, simprocAttr, ne_eq, (U_hourglassref14_Get _).1, lstW]
    have hx : readRecQ (some b) = (⟨(1 : Nat), id, (stampR (rfA b p2 bad2)).1, (stampR (rfA b p3 bad3)).1, (writesQ (rfA b p4 bad4)).1, false, []⟩, rfA b p5 bad5) := hrd
    have hbad : ¬ (rfA b p5 bad5 = some [] ∧ goodRecQ ⟨(1 : Nat), id, (stampR (rfA b p2 bad2)).1, (stampR (rfA b p3 bad3)).1, (writesQ (rfA b p4 bad4)).1, false, []⟩ = true) → getRecQ b = (zRec, false) := fun hn => by unfold getRecQ; rw [hx, if_neg hn]
    have hgood : rfA b p5 bad5 = some [] → goodRecQ ⟨(1 : Nat), id, (stampR (rfA b p2 bad2)).1, (stampR (rfA b p3 bad3)).1, (writesQ (rfA b p4 bad4)).1, false, []⟩ = true → getRecQ b = (⟨(1 : Nat), id, (stampR (rfA b p2 bad2)).1, (stampR (rfA b p3 bad3)).1, (writesQ (rfA b p4 bad4)).1, false, []⟩, true) := fun h1 h2 => by unfold getRecQ; rw [hx, if_pos ⟨h1, h2⟩]
    clear hx hrd
    refine h6 (S.length + 1) b p5 bad5 _ _ _ (by rw [app_get]; rfl) hp5 ?_
    by_cases hq : rfA b p5 bad5 = some []
    case neg =>
      rw [hbad (by rintro ⟨h, _⟩; exact hq h)] at hK
      rw [decide_eq_false hq]
      simp only [A_, simprocAttr, ne_eq, (U_hourglassref14_Get _).1, fillL]
      exact ⟨_, .inr (zero_wkT _), hK⟩
    rw [decide_eq_true hq]
    simp only [A_, simprocAttr, ne_eq, (U_hourglassref14_Get _).1, fillL]
    refine hW _ _ [.agg (rcc ⟨(1 : Nat), id, (stampR (rfA b p2 bad2)).1, (stampR (rfA b p3 bad3)).1, (writesQ (rfA b p4 bad4)).1, false, []⟩)] _ _ (rcc_wkF ⟨(1 : Nat), id, (stampR (rfA b p2 bad2)).1, (stampR (rfA b p3 bad3)).1, (writesQ (rfA b p4 bad4)).1, false, []⟩ _ _ (.inl rfl) (.inr ⟨rfl, rfl⟩)) ?_
    refine h7 _ _ _ _ ⟨Nat.le_trans writesQ_len (by omega), by simp⟩ ?_
    cases hg : goodRecQ ⟨(1 : Nat), id, (stampR (rfA b p2 bad2)).1, (stampR (rfA b p3 bad3)).1, (writesQ (rfA b p4 bad4)).1, false, []⟩ with
    | false =>
      rw [hbad (by rintro ⟨_, h⟩; rw [hg] at h; cases h)] at hK
      simp only [A_, simprocAttr, ne_eq, (U_hourglassref14_Get _).1, fillL]
      exact ⟨_, .inr (zero_wkT _), hK⟩
    | true =>
      rw [hgood hq hg] at hK
      simp only [A_, simprocAttr, ne_eq, (U_hourglassref14_Get _).1]
      exact ⟨_, .inr (rcc_wkT ⟨(1 : Nat), id, (stampR (rfA b p2 bad2)).1, (stampR (rfA b p3 bad3)).1, (writesQ (rfA b p4 bad4)).1, false, []⟩ _ _ _ (.inl rfl) (.inr ⟨rfl, rfl⟩)), hK⟩
  by_cases k4 : k = 4
  case neg =>
    rw [if_neg k1, if_neg (by omega), if_neg k4] at hrd
    have n1 : ¬ ((k : Int) = 1) := by omega
    have n2 : ¬ ((k : Int) = 2) := by omega
    have n5 : ¬ ((k : Int) = 5) := by omega
    have n4 : ¬ ((k : Int) = 4) := by omega
    simp only [A_, simprocAttr, ne_eq, (U_hourglassref14_Get _).1, fillL, n1, n2, n5, n4]
    have hx : readRecQ (some b) = (⟨(k : Nat), id, ⟨0, 0⟩, ⟨0, 0⟩, [], false, []⟩, rfA b p2 bad2) := hrd
    have hbad : ¬ (rfA b p2 bad2 = some [] ∧ goodRecQ ⟨(k : Nat), id, ⟨0, 0⟩, ⟨0, 0⟩, [], false, []⟩ = true) → getRecQ b = (zRec, false) := fun hn => by unfold getRecQ; rw [hx, if_neg hn]
    have hgood : rfA b p2 bad2 = some [] → goodRecQ ⟨(k : Nat), id, ⟨0, 0⟩, ⟨0, 0⟩, [], false, []⟩ = true → getRecQ b = (⟨(k : Nat), id, ⟨0, 0⟩, ⟨0, 0⟩, [], false, []⟩, true) := fun h1 h2 => by unfold getRecQ; rw [hx, if_pos ⟨h1, h2⟩]
    clear hx hrd
    refine h6 (S.length + 1) b p2 bad2 _ _ _ (by rw [app_get]; rfl) hp2 ?_
    by_cases hq : rfA b p2 bad2 = some []
    case neg =>
      rw [hbad (by rintro ⟨h, _⟩; exact hq h)] at hK
      rw [decide_eq_false hq]
      simp only [A_, simprocAttr, ne_eq, (U_hourglassref14_Get _).1, fillL]
      exact ⟨_, .inr (zero_wkT _), hK⟩
    rw [decide_eq_true hq]
    simp only [A_, simprocAttr, ne_eq, (U_hourglassref14_Get _).1, fillL]
    refine hW _ _ [.agg (rcc ⟨(k : Nat), id, ⟨0, 0⟩, ⟨0, 0⟩, [], false, []⟩)] _ _ (rcc_wkF ⟨(k : Nat), id, ⟨0, 0⟩, ⟨0, 0⟩, [], false, []⟩ _ _ (.inr ⟨rfl, rfl⟩) (.inr ⟨rfl, rfl⟩)) ?_
    refine h7 _ _ _ _ ⟨by simp, by simp⟩ ?_
    cases hg : goodRecQ ⟨(k : Nat), id, ⟨0, 0⟩, ⟨0, 0⟩, [], false, []⟩ with
    | false =>
      rw [hbad (by rintro ⟨_, h⟩; rw [hg] at h; cases h)] at hK
      simp only [A_, simprocAttr, ne_eq, (U_hourglassref14_Get _).1, fillL]
      exact ⟨_, .inr (zero_wkT _), hK⟩
    | true =>
      rw [hgood hq hg] at hK
      simp only [A_, simprocAttr, ne_eq, (U_hourglassref14_Get _).1]
      exact ⟨_, .inr (rcc_wkT ⟨(k : Nat), id, ⟨0, 0⟩, ⟨0, 0⟩, [], false, []⟩ _ _ _ (.inr ⟨rfl, rfl⟩) (.inr ⟨rfl, rfl⟩)), hK⟩
  · subst k4
    rw [if_neg (by omega), if_neg (by omega), if_pos rfl] at hrd
    simp only [A_, simprocAttr, ne_eq, (U_hourglassref14_Get _).1, fillL]
    refine h5 (S.length + 1) b p2 bad2 _ _ _ (by rw [app_get]; rfl) hp2 hb fun p3 bad3 hp3 he3 => ?_
    dsimp only at he3
    rw [← he3] at hrd
    simp only [A_, simprocAttr, ne_eq, (U_hourglassref14_Get _).1]
    refine h3 (S.length + 1) b p3 bad3 _ _ _ (by rw [app_get]; rfl) hp3 hb fun p4 bad4 hp4 he4 => ?_
    dsimp only at he4
    rw [← he4] at hrd
    simp only [A_, simprocAttr, ne_eq, (U_hourglassref14_Get _).1, storeP_stk, stc]
    refine h0 8 (by omega) (S.length + 1) b p4 bad4 _ _ _ (by rw [app_get]; rfl) hp4 hb fun p5 bad5 hp5 he5 => ?_
    dsimp only at he5
    rw [← he5] at hrd
    simp only [A_, simprocAttr, ne_eq, (U_hourglassref14_Get _).1]
    generalize (boolR (rfA b p2 bad2)).1 = yes at hrd ⊢
    generalize (stampR (rfA b p3 bad3)).1 = st at hrd ⊢
    have hn8 := mostR_le 8 (rfA b p4 bad4)
    generalize (mostR 8 (rfA b p4 bad4)).1 = n at hrd hn8 ⊢
    clear he3 he4 he5
    refine loop_rule hC (α := Nat × List Int × Nat × Bool) (fun a => n - a.1) (fun a => [.undef, .undef, .ptr (.stk S.length) 0, .undef, .ptr (.stk (S.length + 1)) 0, .ptr (.stk (S.length + 2)) 0, .s (.int .i64 n), .s (.int .i64 a.1), .undef, .undef, .undef, .undef, .undef, .undef, .undef, .undef, .undef, .undef, .undef, .undef, .undef, .undef, .undef, .undef, .undef, .undef, .undef, .undef, .undef, .undef, .undef, .undef, .undef, .undef, .undef, .undef, .undef, .undef, .undef, .undef, .undef, .undef, .undef, .undef, .undef, .undef, .undef, .undef, .undef, .undef, .undef, .undef, .undef, .undef, .undef, .undef, .undef, .undef, .undef, .undef, .undef, .undef, .undef, .undef, .undef, .undef, .undef, .undef]) (fun a => S ++ [[.s (.int .i64 0), .s (.int .i64 0), .s (.int .i64 0), .s (.int .u8 0), .s (.int .i64 0), .s (.int .u8 0), .s .nilS, .s (.bool false), .s .nilS], rfc b a.2.2.1 a.2.2.2, [.s (.int .i64 4), .s (.int .i64 id), .s (.int .i64 0), .s (.int .u8 0), .s (.int .i64 st.t), u8 st.n, .s .nilS, .s (.bool yes), slP a.2.1]]) (fun a => H) (fun a => a.1 ≤ n ∧ a.2.2.1 ≤ b.length ∧ a.2.1.length = a.1 ∧ partsR 7 n (rfA b p5 bad5) = (a.2.1 ++ (partsR 7 (n - a.1) (rfA b a.2.2.1 a.2.2.2)).1, (partsR 7 (n - a.1) (rfA b a.2.2.1 a.2.2.2)).2)) (0, [], p5, bad5) ⟨by simp, hp5, rfl, by simp⟩ rfl (by rw [app_take_add]; rfl) rfl (fun a _ => by simp [AV.under, AV.under.go]) ?_
    rintro ⟨i, acc, p, bad⟩ ⟨hi, hp, hal, hinv⟩ ih
    dsimp only at hi hp hal hinv ih ⊢
    by_cases h16 : i < n
    · have hlt : ((i : Int) < (n : Int)) := by omega
      have hw : IntKind.i64.wrap ((i : Int) + 1) = (i : Int) + 1 := wrap_i64 (by omega) (by omega)
      have ih2 := fun p' bad' => ih (i + 1, acc ++ [((mostR 7 (rfA b p bad)).1 : Int)], p', bad')
      dsimp only at ih2
      have hinv2 : partsR 7 n (rfA b p5 bad5) = ((acc ++ [((mostR 7 (rfA b p bad)).1 : Int)]) ++ (partsR 7 (n - (i + 1)) (mostR 7 (rfA b p bad)).2).1, (partsR 7 (n - (i + 1)) (mostR 7 (rfA b p bad)).2).2) := by
        rw [hinv, show n - i = (n - (i + 1)) + 1 by omega, partsR]
        simp
      by_cases hacc : acc = []
      · subst hacc
        rw [show slP ([] ++ [((mostR 7 (rfA b p bad)).1 : Int)]) = .list .own 1 [pI ((mostR 7 (rfA b p bad)).1 : Int)] from rfl] at ih2
        simp only [A_, simprocAttr, ne_eq, (U_hourglassref14_Get _).1, hlt, show slP [] = .s .nilS from rfl]
        refine ⟨?_, ?_⟩
        · refine h0 7 (by omega) (S.length + 1) b p bad _ _ _ (by rw [app_get]; rfl) hp hb fun p' bad' hp' he' => ?_
          dsimp only at he'
          rw [← he'] at hinv2
          simp only [A_, simprocAttr, ne_eq, (U_hourglassref14_Get _).1, hw, app_nilI]
          exact ih2 p' bad' _ _ _ (by omega) ⟨by omega, hp', by simp [hal], hinv2⟩ rfl (by rw [app_take_add]; rfl) rfl
        · refine h0 7 (by omega) (S.length + 1) b p bad _ _ _ (by rw [app_get]; rfl) hp hb fun p' bad' hp' he' => ?_
          dsimp only at he'
          rw [← he'] at hinv2
          simp only [A_, simprocAttr, ne_eq, (U_hourglassref14_Get _).1, hw, app_nilI]
          exact ih2 p' bad' _ _ _ (by omega) ⟨by omega, hp', by simp [hal], hinv2⟩ rfl (by rw [app_take_add]; rfl) rfl
      · rw [show slP (acc ++ [((mostR 7 (rfA b p bad)).1 : Int)]) = .list .own 1 ((acc ++ [((mostR 7 (rfA b p bad)).1 : Int)]).map pI) from if_neg (by simp)] at ih2
        have hl8 : acc.length ≤ 1000000 := by omega
        simp only [A_, simprocAttr, ne_eq, (U_hourglassref14_Get _).1, hlt, show slP acc = .list .own 1 (acc.map pI) from if_neg hacc]
        refine ⟨?_, ?_⟩
        · refine h0 7 (by omega) (S.length + 1) b p bad _ _ _ (by rw [app_get]; rfl) hp hb fun p' bad' hp' he' => ?_
          dsimp only at he'
          rw [← he'] at hinv2
          simp only [A_, simprocAttr, ne_eq, (U_hourglassref14_Get _).1, hw, app_ownI, hl8]
          exact ih2 p' bad' _ _ _ (by omega) ⟨by omega, hp', by simp [hal], hinv2⟩ rfl (by rw [app_take_add]; rfl) rfl
        · refine h0 7 (by omega) (S.length + 1) b p bad _ _ _ (by rw [app_get]; rfl) hp hb fun p' bad' hp' he' => ?_
          dsimp only at he'
          rw [← he'] at hinv2
          simp only [A_, simprocAttr, ne_eq, (U_hourglassref14_Get _).1, hw, app_ownI, hl8]
          exact ih2 p' bad' _ _ _ (by omega) ⟨by omega, hp', by simp [hal], hinv2⟩ rfl (by rw [app_take_add]; rfl) rfl
    · have hlt : ¬ ((i : Int) < (n : Int)) := by omega
      have hal8 : acc.length ≤ 8 := by omega
      rw [show n - i = 0 by omega] at hinv
      simp only [partsR, List.append_nil] at hinv
      rw [hinv] at hrd
      dsimp only at hrd
      clear hinv ih
      by_cases hacc : acc = []
      · subst hacc
        simp only [A_, simprocAttr, ne_eq, (U_hourglassref14_Get _).1, hlt, show slP [] = .s .nilS from rfl]
        have hx : readRecQ (some b) = (⟨(4 : Nat), id, ⟨0, 0⟩, st, [], yes, []⟩, rfA b p bad) := hrd
        have hbad : ¬ (rfA b p bad = some [] ∧ goodRecQ ⟨(4 : Nat), id, ⟨0, 0⟩, st, [], yes, []⟩ = true) → getRecQ b = (zRec, false) := fun hn => by unfold getRecQ; rw [hx, if_neg hn]
        have hgood : rfA b p bad = some [] → goodRecQ ⟨(4 : Nat), id, ⟨0, 0⟩, st, [], yes, []⟩ = true → getRecQ b = (⟨(4 : Nat), id, ⟨0, 0⟩, st, [], yes, []⟩, true) := fun h1 h2 => by unfold getRecQ; rw [hx, if_pos ⟨h1, h2⟩]
        clear hx hrd
        refine h6 (S.length + 1) b p bad _ _ _ (by rw [app_get]; rfl) hp ?_
        by_cases hq : rfA b p bad = some []
        case neg =>
          rw [hbad (by rintro ⟨h, _⟩; exact hq h)] at hK
          rw [decide_eq_false hq]
          simp only [A_, simprocAttr, ne_eq, (U_hourglassref14_Get _).1, fillL]
          exact ⟨_, .inr (zero_wkT _), hK⟩
        rw [decide_eq_true hq]
        simp only [A_, simprocAttr, ne_eq, (U_hourglassref14_Get _).1, fillL]
        refine hW _ _ [.agg (rcc ⟨(4 : Nat), id, ⟨0, 0⟩, st, [], yes, []⟩)] _ _ (rcc_wkF ⟨(4 : Nat), id, ⟨0, 0⟩, st, [], yes, []⟩ _ _ (.inr ⟨rfl, rfl⟩) (.inr ⟨rfl, rfl⟩)) ?_
        refine h7 _ _ _ _ ⟨by simp, by simp⟩ ?_
        cases hg : goodRecQ ⟨(4 : Nat), id, ⟨0, 0⟩, st, [], yes, []⟩ with
        | false =>
          rw [hbad (by rintro ⟨_, h⟩; rw [hg] at h; cases h)] at hK
          simp only [A_, simprocAttr, ne_eq, (U_hourglassref14_Get _).1, fillL]
          exact ⟨_, .inr (zero_wkT _), hK⟩
        | true =>
          rw [hgood hq hg] at hK
          simp only [A_, simprocAttr, ne_eq, (U_hourglassref14_Get _).1]
          exact ⟨_, .inr (rcc_wkT ⟨(4 : Nat), id, ⟨0, 0⟩, st, [], yes, []⟩ _ _ _ (.inr ⟨rfl, rfl⟩) (.inr ⟨rfl, rfl⟩)), hK⟩
      · simp only [A_, simprocAttr, ne_eq, (U_hourglassref14_Get _).1, hlt, show slP acc = .list .own 1 (acc.map pI) from if_neg hacc]
        have hx : readRecQ (some b) = (⟨(4 : Nat), id, ⟨0, 0⟩, st, [], yes, acc⟩, rfA b p bad) := hrd
        have hbad : ¬ (rfA b p bad = some [] ∧ goodRecQ ⟨(4 : Nat), id, ⟨0, 0⟩, st, [], yes, acc⟩ = true) → getRecQ b = (zRec, false) := fun hn => by unfold getRecQ; rw [hx, if_neg hn]
        have hgood : rfA b p bad = some [] → goodRecQ ⟨(4 : Nat), id, ⟨0, 0⟩, st, [], yes, acc⟩ = true → getRecQ b = (⟨(4 : Nat), id, ⟨0, 0⟩, st, [], yes, acc⟩, true) := fun h1 h2 => by unfold getRecQ; rw [hx, if_pos ⟨h1, h2⟩]
        clear hx hrd
        refine h6 (S.length + 1) b p bad _ _ _ (by rw [app_get]; rfl) hp ?_
        by_cases hq : rfA b p bad = some []
        case neg =>
          rw [hbad (by rintro ⟨h, _⟩; exact hq h)] at hK
          rw [decide_eq_false hq]
          simp only [A_, simprocAttr, ne_eq, (U_hourglassref14_Get _).1, fillL]
          exact ⟨_, .inr (zero_wkT _), hK⟩
        rw [decide_eq_true hq]
        simp only [A_, simprocAttr, ne_eq, (U_hourglassref14_Get _).1, fillL]
        refine hW _ _ [.agg (rcc ⟨(4 : Nat), id, ⟨0, 0⟩, st, [], yes, acc⟩)] _ _ (rcc_wkF ⟨(4 : Nat), id, ⟨0, 0⟩, st, [], yes, acc⟩ _ _ (.inr ⟨rfl, rfl⟩) (.inl rfl)) ?_
        refine h7 _ _ _ _ ⟨by simp, by simp; omega⟩ ?_
        cases hg : goodRecQ ⟨(4 : Nat), id, ⟨0, 0⟩, st, [], yes, acc⟩ with
        | false =>
          rw [hbad (by rintro ⟨_, h⟩; rw [hg] at h; cases h)] at hK
          simp only [A_, simprocAttr, ne_eq, (U_hourglassref14_Get _).1, fillL]
          exact ⟨_, .inr (zero_wkT _), hK⟩
        | true =>
          rw [hgood hq hg] at hK
          simp only [A_, simprocAttr, ne_eq, (U_hourglassref14_Get _).1]
          exact ⟨_, .inr (rcc_wkT ⟨(4 : Nat), id, ⟨0, 0⟩, st, [], yes, acc⟩ _ _ _ (.inr ⟨rfl, rfl⟩) (.inl rfl)), hK⟩
end Go.AM
namespace Go.AM
open Go
theorem outW_some {l : List Wr} {r : Rd} {p : List Wr × List UInt8} (h : outW [] (l, r) = some p) : sgood [] l = true ∧ r = some p.2 ∧ l = p.1 := by
  unfold outW at h
  dsimp only at h
  split at h
  · rename_i h1
    cases r with
    | none => cases h
    | some q => cases h; exact ⟨h1, rfl, rfl⟩
  · cases h
theorem outW_no {l : List Wr} {r : Rd} (h : outW [] (l, r) = none) : sgood [] l = false ∨ r = none := by
  unfold outW at h
  dsimp only at h
  split at h
  · right
    cases r with
    | none => rfl
    | some q => cases h
  · rename_i h1; left; simpa using h1
theorem writes_alike (r : Rd) : writesR r = writesQ r ∨ ((writesR r).2 = none ∧ (writesQ r).2 = none) := by
  have ha := out_alike (mostR 16 r).1 [] (mostR 16 r).2
  have hl : (wrsQ (mostR 16 r).1 (mostR 16 r).2).1.length ≤ 16 := Nat.le_trans (wrsQ_len _ _) (mostR_le 16 _)
  unfold writesR writesQ
  generalize wrsR (mostR 16 r).1 (mostR 16 r).2 = x at ha ⊢
  generalize wrsQ (mostR 16 r).1 (mostR 16 r).2 = y at ha hl ⊢
  obtain ⟨lx, rx⟩ := x
  obtain ⟨ly, ry⟩ := y
  have hm : mayW 0 ly = sgood [] ly := by unfold mayW; rw [decide_eq_true (Nat.zero_le _), decide_eq_true hl]; simp
  dsimp only
  rw [hm]
  cases ho : outW [] (ly, ry) with
  | none =>
    right
    rw [ho] at ha
    constructor
    · rcases outW_no ha with h | h
      · rw [h]; simp
      · rw [h]; split <;> rfl
    · rcases outW_no ho with h | h
      · rw [h]; simp
      · rw [h]; split <;> rfl
  | some p =>
    left
    rw [ho] at ha
    obtain ⟨a1, a2, a3⟩ := outW_some ha
    obtain ⟨b1, b2, b3⟩ := outW_some ho
    rw [a1, a2, a3, b1, b2, b3]
theorem partsR_none (m : Nat) : ∀ n, (partsR m n none).2 = none
  | 0 => rfl
  | n + 1 => by rw [partsR, mostR_n]; exact partsR_none m n
theorem parts_alike : ∀ (n : Nat) (r : Rd), partsR 8 n r = partsR 7 n r ∨ ((partsR 7 n r).2 = none ∧ ((8 : Int) ∈ (partsR 8 n r).1))
  | 0, r => .inl rfl
  | n + 1, r => by
    rw [partsR, partsR]
    by_cases h : (numR r).1 = 8
    · right
      have h8 : mostR 8 r = numR r := by unfold mostR; rw [if_neg (by omega)]
      have h7 : mostR 7 r = (0, none) := by unfold mostR; rw [if_pos (by omega)]
      rw [h8, h7]
      exact ⟨partsR_none 7 n, by rw [h]; simp⟩
    · have e : mostR 8 r = mostR 7 r := by
        unfold mostR
        by_cases h2 : 8 < (numR r).1
        · rw [if_pos h2, if_pos (by omega)]
        · rw [if_neg h2, if_neg (by omega)]
      rw [e]
      rcases parts_alike n (mostR 7 r).2 with h1 | ⟨h1, h2⟩
      · left; rw [h1]
      · right; exact ⟨h1, List.mem_cons_of_mem _ h2⟩
theorem body_alike (k : Nat) (id : Int) (r : Rd) : bodyR k id r = bodyQ k id r ∨ ((bodyQ k id r).2 = none ∧ ((bodyR k id r).2 = none ∨ goodRec (bodyR k id r).1 = false)) := by
  unfold bodyR bodyQ
  by_cases k1 : k = 1
  · rw [if_pos k1, if_pos k1]
    rcases writes_alike (stampR (stampR r).2).2 with h | ⟨h1, h2⟩
    · left; rw [h]
    · right; exact ⟨h2, .inl h1⟩
  rw [if_neg k1, if_neg k1]
  by_cases k2 : k = 2 ∨ k = 5
  · left; rw [if_pos k2, if_pos k2]
  rw [if_neg k2, if_neg k2]
  by_cases k4 : k = 4
  · rw [if_pos k4, if_pos k4]
    obtain ⟨e1, e2⟩ := bool_eq r
    rw [e1, e2]
    rcases parts_alike (mostR 8 (stampR (mostR 1 r).2).2).1 (mostR 8 (stampR (mostR 1 r).2).2).2 with h | ⟨h1, h2⟩
    · left; rw [h]
    · right
      refine ⟨h1, .inr ?_⟩
      have hg : goodParts (partsR 8 (mostR 8 (stampR (mostR 1 r).2).2).1 (mostR 8 (stampR (mostR 1 r).2).2).2).1 = false := by
        cases hq : goodParts (partsR 8 (mostR 8 (stampR (mostR 1 r).2).2).1 (mostR 8 (stampR (mostR 1 r).2).2).2).1 with
        | false => rfl
        | true =>
          unfold goodParts at hq
          rw [Bool.and_eq_true] at hq
          have := gparts_mem _ _ hq.1 _ h2
          omega
      unfold goodRec
      split
      · rfl
      · subst k4
        simp [hg]
  rw [if_neg k4, if_neg k4]
  exact .inl rfl
theorem getRec_Q (b : List UInt8) : getRecQ b = ((getRec b).1, decide ((getRec b).2 = 0)) := by
  unfold getRecQ getRec readRecQ readRec
  rcases body_alike (mostR 5 (some b)).1 (zag (numR (mostR 5 (some b)).2).1) (numR (mostR 5 (some b)).2).2 with h | ⟨h1, h2⟩
  · rw [← h, ← good_eq]
    split <;> rfl
  · rw [if_neg (by rw [h1]; rintro ⟨h, _⟩; cases h), if_neg (by rintro ⟨a, b⟩; rcases h2 with h2 | h2; · rw [h2] at a; cases a
                                                                · rw [h2] at b; cases b)]
    rfl
theorem getRec_err (b : List UInt8) : (getRec b).2 = 0 ∨ (getRec b).2 = 3 := by
  unfold getRec; split
  · exact .inl rfl
  · exact .inr rfl
def Loc {α : Type} (f : Rd → α × Rd) : Prop := ∀ r q, (f r).2 = some q → ∃ b, r = some b ∧ ∀ c, f (some (b ++ c)) = ((f r).1, some (q ++ c))
theorem Loc.dead {α : Type} {f : Rd → α × Rd} (h : Loc f) : (f none).2 = none := by
  cases hq : (f none).2 with
  | none => rfl
  | some q => obtain ⟨b, hb, _⟩ := h none q hq; cases hb
theorem Loc.bind {α β : Type} {f : Rd → α × Rd} {g : α → Rd → β × Rd} (hf : Loc f) (hg : ∀ a, Loc (g a)) : Loc fun r => g (f r).1 (f r).2 := by
  intro r q h
  obtain ⟨b1, hb1, hc1⟩ := hg _ _ q h
  obtain ⟨b, hb, hc⟩ := hf r b1 hb1
  refine ⟨b, hb, fun c => ?_⟩
  dsimp only
  rw [hc c, hc1 c]
theorem Loc.map {α β : Type} {f : Rd → α × Rd} (hf : Loc f) (g : α → β) : Loc fun r => (g (f r).1, (f r).2) := by
  intro r q h
  obtain ⟨b, hb, hc⟩ := hf r q h
  exact ⟨b, hb, fun c => by dsimp only; rw [hc c]⟩
end Go.AM
namespace Go.AM
open Go
theorem getG_put : ∀ (m v i acc : Nat) (c : List UInt8), v ≤ m → i ≤ 9 → v < 2 ^ (64 - 7 * i) → (0 < i → 0 < v) → getG i acc (putN v ++ c) = some (acc + v * 2 ^ (7 * i), i + (putN v).length)
  | m, v, i, acc, c, hm, hi, hv, hp => by
    by_cases h : v < 128
    · rw [putN_lt h, List.cons_append, List.nil_append, getG_cons]
      have ht : (UInt8.ofNat v).toNat = v := by simp; omega
      rw [ht, if_neg, if_pos h, if_neg]
      · rw [Nat.mod_eq_of_lt h]; rfl
      · rintro ⟨h1, h2⟩
        have := congrArg UInt8.toNat h1
        rw [ht] at this
        have := hp h2
        simp at *; omega
      · rintro ⟨rfl, h2⟩; simp at hv; omega
    · have hi8 : i ≤ 8 := by
        rcases Nat.lt_or_ge i 9 with h1 | h1
        · omega
        · have : i = 9 := by omega
          subst this; simp at hv; omega
      rw [putN_ge h, List.cons_append, getG_cons]
      have ht : (UInt8.ofNat (v % 128 + 128)).toNat = v % 128 + 128 := by simp; omega
      rw [ht, if_neg (by omega), if_neg (by omega), if_neg (by omega)]
      have hpw : 2 ^ (64 - 7 * i) = 128 * 2 ^ (64 - 7 * (i + 1)) := by
        rw [show 64 - 7 * i = 7 + (64 - 7 * (i + 1)) by omega, Nat.pow_add]
      have hq : v / 128 < 2 ^ (64 - 7 * (i + 1)) := by
        rw [hpw] at hv
        exact Nat.div_lt_of_lt_mul hv
      cases m with
      | zero => omega
      | succ m =>
        rw [getG_put m (v / 128) (i + 1) _ c (by omega) (by omega) hq (by omega)]
        have e : 2 ^ (7 * (i + 1)) = 128 * 2 ^ (7 * i) := by rw [show 7 * (i + 1) = 7 + 7 * i by omega, Nat.pow_add]
        rw [e, show (v % 128 + 128) % 128 = v % 128 by omega, List.length_cons]
        have : v = v % 128 + 128 * (v / 128) := (Nat.mod_add_div v 128).symm
        congr 2
        · generalize 2 ^ (7 * i) = p
          rw [Nat.add_assoc]
          congr 1
          conv => rhs; rw [this]
          rw [Nat.add_mul, Nat.mul_comm 128 (v / 128), Nat.mul_assoc]
        · omega
theorem getN_put {v : Nat} (h : v < 18446744073709551616) (c : List UInt8) : getN (putN v ++ c) = (v, (putN v).length) := by
  unfold getN
  rw [getG_put v v 0 0 c (Nat.le_refl _) (by omega) (by simpa using h) (by omega)]
  simp
theorem putN_pos (v : Nat) : (putN v).length ≠ 0 := by
  by_cases h : v < 128
  · rw [putN_lt h]; simp
  · rw [putN_ge h]; simp
theorem numR_put {v : Nat} (h : v < 18446744073709551616) (c : List UInt8) : numR (some (putN v ++ c)) = (v, some c) := by
  rw [numR_some, getN_put h]
  dsimp only
  rw [if_neg (putN_pos v)]
  simp
theorem mostR_put {v m : Nat} (h : v ≤ m) (hm : m < 18446744073709551616) (c : List UInt8) : mostR m (some (putN v ++ c)) = (v, some c) := by
  unfold mostR
  rw [numR_put (by omega)]
  dsimp only
  rw [if_neg (by omega)]
theorem textR_put {n : Nat} {t : List UInt8} (h : t.length = n) (c : List UInt8) : textR n (some (t ++ c)) = (t, some c) := by
  subst h
  rw [textR_some, if_neg (by simp)]
  simp
theorem padK_key (k : Key) : padK k.b = k := by
  apply Key.ext'
  show padB k.b = k.b
  unfold padB
  rw [k.h]
  simp [List.take_of_length_le (Nat.le_of_eq k.h)]
theorem keyR_put (k : Key) (c : List UInt8) : keyR (some (k.b ++ c)) = (k, some c) := by
  unfold keyR
  rw [textR_put k.h, padK_key]
theorem stampR_put {s : Stp} (h : goodS s = true) (c : List UInt8) : stampR (some (putN (packN s) ++ c)) = (s, some c) := by
  have h1 := packN_lt s
  unfold stampR
  rw [numR_put (by omega)]
  dsimp only
  rw [unpack_pack h, if_pos rfl]
theorem putW_eq (w : Wr) (c : List UInt8) : putW w ++ c = w.key.b ++ (putN (if w.gone = true then 1 else 0) ++ (putN w.val.length ++ (w.val ++ c))) := by
  unfold putW
  have : putN (if w.gone = true then 1 else 0) = [if w.gone = true then 1 else 0] := by
    cases w.gone <;> · rw [putN_lt (by simp)]; rfl
  rw [this]
  simp [List.append_assoc]
theorem wrR_put {w : Wr} (h : w.val.length ≤ 200) (c : List UInt8) : wrR (some (putW w ++ c)) = (w, some c) := by
  rw [putW_eq]
  unfold wrR
  rw [keyR_put]
  dsimp only
  rw [mostR_put (by split <;> omega) (by omega)]
  dsimp only
  rw [mostR_put h (by omega)]
  dsimp only
  rw [textR_put rfl]
  cases w with
  | mk k v g => cases g <;> rfl
theorem wrsR_put : ∀ (l : List Wr) (c : List UInt8), (∀ w ∈ l, w.val.length ≤ 200) → wrsR l.length (some (l.flatMap putW ++ c)) = (l, some c)
  | [], c, _ => rfl
  | w :: l, c, h => by
    rw [List.length_cons, wrsR, List.flatMap_cons, List.append_assoc, wrR_put (h w (List.mem_cons_self ..))]
    dsimp only
    rw [wrsR_put l c fun x hx => h x (List.mem_cons_of_mem _ hx)]
theorem sgood_vals : ∀ (l : List Wr) (seen : List Key), sgood seen l = true → ∀ w ∈ l, w.val.length ≤ 200
  | [], _, _, w, hw => by cases hw
  | x :: l, seen, h, w, hw => by
    rw [sgood] at h
    split at h
    · cases h
    split at h
    · cases h
    split at h
    · cases h
    split at h
    · cases h
    rcases List.mem_cons.1 hw with rfl | hw
    · omega
    · exact sgood_vals l _ h w hw
theorem writesR_put {l : List Wr} (h : sgood [] l = true) (hl : l.length ≤ 16) (c : List UInt8) : writesR (some (putWs l ++ c)) = (l, some c) := by
  unfold writesR putWs
  rw [List.append_assoc, mostR_put hl (by omega)]
  dsimp only
  rw [wrsR_put l c (sgood_vals l [] h)]
  dsimp only
  rw [if_pos h]
theorem partsR_put : ∀ (l : List Int) (c : List UInt8), (∀ x ∈ l, 0 ≤ x ∧ x < 8) → partsR 8 l.length (some (putP l ++ c)) = (l, some c)
  | [], c, _ => rfl
  | x :: l, c, h => by
    have hx := h x (List.mem_cons_self ..)
    show partsR 8 (l.length + 1) (some ((putN x.toNat ++ putP l) ++ c)) = _
    rw [partsR, List.append_assoc, mostR_put (by omega) (by omega)]
    dsimp only
    rw [partsR_put l c fun y hy => h y (List.mem_cons_of_mem _ hy)]
    dsimp only
    rw [show ((x.toNat : Nat) : Int) = x by omega]
theorem gparts_len : ∀ (l : List Int) (p : Int), gparts p l = true → p ≤ 7 → (l.length : Int) + p ≤ 7
  | [], p, _, hp => by simp; omega
  | x :: l, p, h, hp => by
    rw [gparts] at h
    split at h
    · cases h
    split at h
    · cases h
    split at h
    · cases h
    have := gparts_len l x h (by omega)
    simp; omega
theorem readRec_put {r : Rec} (h : goodRec r = true) (ho : okB r) : readRec (some (putRec r)) = (r, some []) := by
  have hz := zig_lt ho.lo ho.hi
  have h0 := h
  unfold goodRec at h
  split at h
  · cases h
  rename_i hn
  have hr : r = onlyR r := Classical.not_not.1 hn
  obtain ⟨kind, id, snap, stamp, ws, yes, ps⟩ := r
  unfold putRec
  rw [if_neg (by rw [h0]; simp)]
  unfold readRec
  dsimp only at *
  by_cases k1 : kind = 1
  · subst k1
    rw [if_pos rfl] at h ⊢
    unfold onlyR at hr
    simp only [if_true, Rec.mk.injEq, true_and] at hr
    obtain ⟨rfl, rfl⟩ := hr
    unfold goodE mayE at h
    simp only [Bool.and_eq_true, decide_eq_true_eq] at h
    obtain ⟨⟨⟨⟨⟨⟨a1, a2⟩, a3⟩, a4⟩, a5⟩, a6⟩, a7⟩ := h
    unfold putB
    simp only [List.append_assoc]
    rw [mostR_put (v := (1 : Int).toNat) (by decide) (by omega)]
    dsimp only
    rw [numR_put hz]
    dsimp only
    unfold bodyR
    rw [if_pos (by decide), zag_zig, stampR_put a2]
    dsimp only
    rw [stampR_put a6]
    dsimp only
    rw [← List.append_nil (putWs ws), writesR_put a5 a4]
    rfl
  rw [if_neg k1] at h
  rw [if_neg k1]
  by_cases k2 : kind = 2
  · subst k2
    rw [if_pos rfl] at h
    rw [if_pos (.inl rfl)]
    unfold onlyR at hr
    simp at hr
    obtain ⟨rfl, rfl, rfl, rfl⟩ := hr
    simp only [Bool.and_eq_true, decide_eq_true_eq] at h
    unfold putB
    simp only [List.append_assoc]
    rw [mostR_put (v := (2 : Int).toNat) (by decide) (by omega)]
    dsimp only
    rw [numR_put hz]
    dsimp only
    unfold bodyR
    rw [if_neg (by decide), if_pos (.inl (by decide)), zag_zig, ← List.append_nil (putN (packN stamp)), stampR_put h.2]
    rfl
  rw [if_neg k2] at h
  by_cases k3 : kind = 3
  · subst k3
    rw [if_neg (by omega), if_neg (by omega)]
    unfold onlyR at hr
    simp at hr
    obtain ⟨rfl, rfl, rfl, rfl, rfl⟩ := hr
    unfold putB
    rw [mostR_put (v := (3 : Int).toNat) (by decide) (by omega)]
    dsimp only
    rw [← List.append_nil (putN (zig id)), numR_put hz]
    dsimp only
    unfold bodyR
    rw [if_neg (by decide), if_neg (by decide), if_neg (by decide), zag_zig]
    rfl
  rw [if_neg k3] at h
  by_cases k4 : kind = 4
  · subst k4
    rw [if_pos rfl] at h
    rw [if_neg (by omega), if_pos rfl]
    unfold onlyR at hr
    simp at hr
    obtain ⟨rfl, _, rfl⟩ := hr
    simp only [Bool.and_eq_true, decide_eq_true_eq] at h
    obtain ⟨⟨a1, a2⟩, a3⟩ := h
    unfold goodParts at a3
    simp only [Bool.and_eq_true, decide_eq_true_eq] at a3
    have hm := gparts_mem _ _ a3.1
    have hl := gparts_len _ _ a3.1 (by omega)
    unfold putB
    simp only [List.append_assoc]
    rw [mostR_put (v := (4 : Int).toNat) (by decide) (by omega)]
    dsimp only
    rw [numR_put hz]
    dsimp only
    unfold bodyR
    rw [if_neg (by decide), if_neg (by decide), if_pos (by decide), zag_zig, mostR_put (by split <;> omega) (by omega)]
    dsimp only
    rw [stampR_put a2]
    dsimp only
    rw [mostR_put (by omega) (by omega)]
    dsimp only
    rw [← List.append_nil (putP ps), partsR_put ps [] hm]
    cases yes <;> rfl
  rw [if_neg k4] at h
  by_cases k5 : kind = 5
  · subst k5
    rw [if_pos (.inr rfl)]
    rw [if_pos rfl] at h
    unfold onlyR at hr
    simp at hr
    obtain ⟨rfl, rfl, rfl, rfl⟩ := hr
    simp only [Bool.and_eq_true, decide_eq_true_eq] at h
    unfold putB
    simp only [List.append_assoc]
    rw [mostR_put (v := (5 : Int).toNat) (by decide) (by omega)]
    dsimp only
    rw [numR_put hz]
    dsimp only
    unfold bodyR
    rw [if_neg (by decide), if_pos (.inr (by decide)), zag_zig, ← List.append_nil (putN (packN stamp)), stampR_put h.1.2]
    rfl
  rw [if_neg k5] at h
  cases h
theorem getRec_put {r : Rec} (h : goodRec r = true) (ho : okB r) : getRec (putRec r) = (r, 0) := by
  unfold getRec
  rw [readRec_put h ho, if_pos ⟨rfl, h⟩]
end Go.AM
namespace Go.AM
open Go
set_option maxRecDepth 20000
def awR : Rec := ⟨3, 1, ⟨0, 0⟩, ⟨0, 0⟩, [], false, []⟩
theorem aw_good : goodRec awR = true := by decide
theorem aw_ok : okB awR := ⟨by simp [awR], by simp [awR], by simp [awR], by simp [awR], by simp [awR]⟩
theorem aw_put : putRec awR = [3, 2] := by
  unfold putRec
  rw [if_neg (by rw [aw_good]; simp), if_neg (by simp [awR]), if_neg (by simp [awR]), if_neg (by simp [awR])]
  unfold putB
  rw [putN_lt (by simp [awR]), putN_lt (by simp [awR, zig])]
  rfl
theorem aw_get : getRec [3, 2] = (awR, 0) := by rw [← aw_put]; exact getRec_put aw_good aw_ok
def Awake14S (C : CallW) (f : FuncId) : Prop := ∀ S H (K : AV → St → Prop), (∀ G, K (.bool true) ⟨S, H ++ G⟩) → C (.fn f) [] ⟨S, H⟩ K
theorem aw_rcc : rcc awR = [.s (.int .i64 3), .s (.int .i64 1), .s (.int .i64 0), .s (.int .u8 0), .s (.int .i64 0), .s (.int .u8 0), .list .sh 18 [], .s (.bool false), .list .sh 1 []] := rfl
theorem awA : WkL [(AV.agg [.s (.int .i64 3), .s (.int .i64 1), .s (.int .i64 0), .s (.int .u8 0), .s (.int .i64 0), .s (.int .u8 0), .s .nilS, .s (.bool false), .s .nilS]).sh] [.agg (rcc awR)] := rcc_wk awR _ _ (.inr ⟨rfl, rfl⟩) (.inr ⟨rfl, rfl⟩)
set_option maxHeartbeats 8000000 in
theorem law14_awake_spec {C : CallW} (hW : WkC C) (P : Program) {c : Nat → FuncId} (h0 : GetRecS C (c 0)) (h1 : RecPutS C (c 1)) (h2 : SameS C (c 2)) (h3 : GoodRS C (c 3)) : ∀ S H (K : AV → St → Prop), (∀ G, K (.bool true) ⟨S, H ++ G⟩) → runL C P (C_hourglasslaw14_awake c) [] ⟨S, H⟩ K := by
  intro S H K hK
  simp only [C_hourglasslaw14_awake, A_, simprocAttr, ne_eq, (U_hourglasslaw14_awake _).1, fillL]
  refine h0 _ [3, 2] _ _ _ (.inl ⟨.full, rfl⟩) (by simp) fun G => ?_
  rw [aw_get]
  simp only [tupR, aw_rcc, A_, simprocAttr, ne_eq, (U_hourglasslaw14_awake _).1, fillL]
  refine hW _ _ [.agg (rcc awR)] _ _ (.wk awA .nil) ?_
  refine h1 _ _ _ _ aw_ok fun G2 => ?_
  rw [aw_put]
  simp only [A_, simprocAttr, ne_eq, (U_hourglasslaw14_awake _).1, conv_bs]
  refine hW _ _ [.agg (rcc awR), .agg (rcc awR)] _ _ (.same (.wk awA .nil)) ?_
  refine h2 _ _ _ _ _ aw_ok.ok aw_ok.ok ?_
  simp only [A_, simprocAttr, ne_eq, (U_hourglasslaw14_awake _).1]
  refine hW _ _ [.agg (rcc awR)] _ _ (.wk awA .nil) ?_
  refine h3 _ _ _ _ aw_ok.ok fun G3 => ?_
  rw [aw_good]
  simp only [A_, simprocAttr, ne_eq, (U_hourglasslaw14_awake _).1]
  simpa using hK (G ++ (G2 ++ G3))
theorem long14_false {l : List Wr} (h : long14 l = false) : l.length ≤ 20 ∧ ∀ w ∈ l, w.val.length ≤ 250 := by
  unfold long14 at h
  simp only [Bool.or_eq_false_iff, decide_eq_false_iff_not] at h
  refine ⟨by omega, fun w hw => ?_⟩
  have := List.any_eq_false.1 h.2 w hw
  simp at this
  omega
def WritesEqS (C : CallW) (f : FuncId) : Prop := ∀ (a b : List Wr) S H (K : AV → St → Prop), a.length ≤ 9223372036854775807 → b.length ≤ 9223372036854775807 → K (.bool (decide (a = b))) ⟨S, H⟩ → C (.fn f) [lstW a, lstW b] ⟨S, H⟩ K
end Go.AM
namespace Go.AM
open Go
set_option maxRecDepth 20000
def Great14S (C : CallW) (f : FuncId) : Prop := ∀ (r : Rec) S H (K : AV → St → Prop), okR r → K (.bool (great14 r)) ⟨S, H⟩ → C (.fn f) [.agg (rcc r)] ⟨S, H⟩ K
def RcdS (C : CallW) (f : FuncId) : Prop := ∀ (r : Rec) S H (K : AV → St → Prop), K (.agg (rcc r)) ⟨S, H⟩ → C (.fn f) [.agg (rcc r)] ⟨S, H⟩ K
structure inR (r : Rec) : Prop where
  ok : okR r
  lo : -9223372036854775808 ≤ r.id
  hi : r.id ≤ 9223372036854775807
theorem great_ok {r : Rec} (h : inR r) (hg : great14 r = false) : okB r := by
  unfold great14 at hg
  rw [Bool.or_eq_false_iff] at hg
  obtain ⟨h1, h2⟩ := long14_false hg.1
  have h3 : r.parts.length ≤ 12 := by have := hg.2; simp only [decide_eq_false_iff_not] at this; omega
  exact ⟨h1, h2, h3, h.lo, h.hi⟩
theorem getRec_okR {b : List UInt8} : okR (getRec b).1 := by
  unfold getRec
  split
  · rename_i h
    have hg := h.2
    unfold readRec bodyR
    split
    · exact ⟨Nat.le_trans sgood_len (by omega), by simp⟩
    split
    · exact ⟨by simp, by simp⟩
    split
    · refine ⟨by simp, ?_⟩
      dsimp only
      rw [partsR_len]
      have := mostR_le 8 (stampR (mostR 1 (numR (mostR 5 (some b)).2).2).2).2
      omega
    · exact ⟨by simp, by simp⟩
  · exact ⟨by simp [zRec], by simp [zRec]⟩
set_option maxHeartbeats 40000000 in
theorem law14_RecBytes_spec {C : CallW} (P : Program) {c : Nat → FuncId} (h0 : Awake14S C (c 0)) (h1 : Great14S C (c 1)) (h2 : GetRecS C (c 2)) (h3 : GetRecQS C (c 3)) (h4 : RecPutS C (c 4)) (h5 : RcdS C (c 5)) (h6 : RefPutS C (c 6)) (h7 : SameS C (c 7)) (h8 : SameS C (c 8)) (h9 : GoodRS C (c 9)) (h10 : GoodQS C (c 10)) : ∀ (r q : Rec) (b : List UInt8) S H (K : AV → St → Prop), inR r → inR q → b.length ≤ 9223372036854775807 → (∀ G, K (.bool true) ⟨S, H ++ G⟩) → runL C P (C_hourglasslaw14_RecBytes c) [.agg (rcc r), .agg (rcc q), .list .sh 1 (bs b)] ⟨S, H⟩ K := by
  intro r q b S H K hr hq hb hK
  have hbl := bs_length b
  have hfr : (AV.agg (rcc r)).fit = true := rfl
  have hfq : (AV.agg (rcc q)).fit = true := rfl
  have hcr : (AV.agg (rcc r)).cells = rcc r := rfl
  have hcq : (AV.agg (rcc q)).cells = rcc q := rfl
  simp only [rcc, C_hourglasslaw14_RecBytes, A_, simprocAttr, ne_eq, (U_hourglasslaw14_RecBytes _).1]
  refine h0 _ _ _ fun G => ?_
  simp only [A_, simprocAttr, ne_eq, (U_hourglasslaw14_RecBytes _).1]
  refine h1 r _ _ _ hr.ok ?_
  cases hg : great14 r with
  | true =>
    simp only [A_, simprocAttr, ne_eq, (U_hourglasslaw14_RecBytes _).1]
    exact hK _
  | false =>
  simp only [A_, simprocAttr, ne_eq, (U_hourglasslaw14_RecBytes _).1]
  refine h1 q _ _ _ hq.ok ?_
  cases hg2 : great14 q with
  | true =>
    simp only [A_, simprocAttr, ne_eq, (U_hourglasslaw14_RecBytes _).1]
    exact hK _
  | false =>
  have okr := great_ok hr hg
  have okq := great_ok hq hg2
  by_cases hb3 : 3000 < b.length
  · have hb3' : ((3000 : Int) < (b.length : Int)) := by omega
    simp only [A_, simprocAttr, ne_eq, (U_hourglasslaw14_RecBytes _).1, hbl, hb3']
    exact hK _
  have hb3' : ¬ ((3000 : Int) < (b.length : Int)) := by omega
  simp only [A_, simprocAttr, ne_eq, (U_hourglasslaw14_RecBytes _).1, hbl, hb3']
  refine h2 _ b _ _ _ .l hb fun G2 => ?_
  have hQ := getRec_Q b
  have hE := getRec_err b
  have hO := getRec_okR (b := b)
  generalize getRec b = x at hQ hE hO ⊢
  obtain ⟨x, e⟩ := x
  dsimp only at hE hO hQ
  have h4' := h4 r
  have h6' := h6 r
  have h5' := h5 r
  have h5x := h5 x
  have h5q := h5 q
  have h7x := h7 x x
  have h7' := h7 r q
  have h8' := h8 r q
  have h9' := h9 r
  have h10' := h10 r
  unfold rcc at h4' h5' h6' h5x h5q h7x h7' h8' h9' h10'
  have e1 : ∃ b1 : Bool, b1 = decide (e = 0) := ⟨_, rfl⟩
  rcases hE with rfl | rfl
  · simp only [tupR, rcc, A_, simprocAttr, ne_eq, (U_hourglasslaw14_RecBytes _).1]
    refine h3 _ b _ _ _ .l hb ?_
    rw [hQ]
    simp only [tupRb, rcc, A_, simprocAttr, ne_eq, (U_hourglasslaw14_RecBytes _).1]
    refine h4' _ _ _ okr fun G3 => ?_
    simp only [A_, simprocAttr, ne_eq, (U_hourglasslaw14_RecBytes _).1, conv_bs]
    refine h5' _ _ _ ?_
    simp only [A_, simprocAttr, ne_eq, (U_hourglasslaw14_RecBytes _).1, conv_bs]
    refine h6' _ _ _ okr ?_
    simp only [A_, simprocAttr, ne_eq, (U_hourglasslaw14_RecBytes _).1, conv_bs]
    refine h5x _ _ _ ?_
    simp only [A_, simprocAttr, ne_eq, (U_hourglasslaw14_RecBytes _).1, conv_bs]
    refine h7x _ _ _ hO hO ?_
    simp only [A_, simprocAttr, ne_eq, (U_hourglasslaw14_RecBytes _).1, conv_bs]
    refine h8' _ _ _ hr.ok hq.ok ?_
    simp only [A_, simprocAttr, ne_eq, (U_hourglasslaw14_RecBytes _).1, conv_bs]
    refine h5' _ _ _ ?_
    simp only [A_, simprocAttr, ne_eq, (U_hourglasslaw14_RecBytes _).1, conv_bs]
    refine h5q _ _ _ ?_
    simp only [A_, simprocAttr, ne_eq, (U_hourglasslaw14_RecBytes _).1, conv_bs]
    refine h7' _ _ _ hr.ok hq.ok ?_
    simp only [A_, simprocAttr, ne_eq, (U_hourglasslaw14_RecBytes _).1, conv_bs]
    refine h9' _ _ _ hr.ok fun G4 => ?_
    simp only [A_, simprocAttr, ne_eq, (U_hourglasslaw14_RecBytes _).1, conv_bs]
    refine h5' _ _ _ ?_
    simp only [A_, simprocAttr, ne_eq, (U_hourglasslaw14_RecBytes _).1, conv_bs]
    refine h10' _ _ _ hr.ok ?_
    rw [← good_eq]
    simp only [A_, simprocAttr, ne_eq, (U_hourglasslaw14_RecBytes _).1, conv_bs]
    simpa using hK (G ++ (G2 ++ (G3 ++ G4)))
  · simp only [tupR, rcc, A_, simprocAttr, ne_eq, (U_hourglasslaw14_RecBytes _).1]
    refine h3 _ b _ _ _ .l hb ?_
    rw [hQ]
    simp only [tupRb, rcc, A_, simprocAttr, ne_eq, (U_hourglasslaw14_RecBytes _).1]
    refine h4' _ _ _ okr fun G3 => ?_
    simp only [A_, simprocAttr, ne_eq, (U_hourglasslaw14_RecBytes _).1, conv_bs]
    refine h5' _ _ _ ?_
    simp only [A_, simprocAttr, ne_eq, (U_hourglasslaw14_RecBytes _).1, conv_bs]
    refine h6' _ _ _ okr ?_
    simp only [A_, simprocAttr, ne_eq, (U_hourglasslaw14_RecBytes _).1, conv_bs]
    refine h5x _ _ _ ?_
    simp only [A_, simprocAttr, ne_eq, (U_hourglasslaw14_RecBytes _).1, conv_bs]
    refine h7x _ _ _ hO hO ?_
    simp only [A_, simprocAttr, ne_eq, (U_hourglasslaw14_RecBytes _).1, conv_bs]
    refine h8' _ _ _ hr.ok hq.ok ?_
    simp only [A_, simprocAttr, ne_eq, (U_hourglasslaw14_RecBytes _).1, conv_bs]
    refine h5' _ _ _ ?_
    simp only [A_, simprocAttr, ne_eq, (U_hourglasslaw14_RecBytes _).1, conv_bs]
    refine h5q _ _ _ ?_
    simp only [A_, simprocAttr, ne_eq, (U_hourglasslaw14_RecBytes _).1, conv_bs]
    refine h7' _ _ _ hr.ok hq.ok ?_
    simp only [A_, simprocAttr, ne_eq, (U_hourglasslaw14_RecBytes _).1, conv_bs]
    refine h9' _ _ _ hr.ok fun G4 => ?_
    simp only [A_, simprocAttr, ne_eq, (U_hourglasslaw14_RecBytes _).1, conv_bs]
    refine h5' _ _ _ ?_
    simp only [A_, simprocAttr, ne_eq, (U_hourglasslaw14_RecBytes _).1, conv_bs]
    refine h10' _ _ _ hr.ok ?_
    rw [← good_eq]
    simp only [A_, simprocAttr, ne_eq, (U_hourglasslaw14_RecBytes _).1, conv_bs]
    simpa using hK (G ++ (G2 ++ (G3 ++ G4)))
end Go.AM
namespace Go.AM
open Go
set_option maxRecDepth 20000
end Go.AM
namespace Go.AM
open Go
set_option maxRecDepth 20000
structure VSt where
  best : Wr
  top : Stp
  found : Bool
end Go.AM
namespace Go.AM
open Go
set_option maxRecDepth 20000
end Go.AM
namespace Go.AM
open Go
set_option maxRecDepth 20000
end Go.AM
namespace Go.AM
open Go
end Go.AM
namespace Go.AM
open Go
set_option maxRecDepth 20000
def ofV (id snap t : Int) (s v : List UInt8) : AV := .agg [.s (.int .i64 id), .s (.int .i64 snap), u8 0, .s (.int .i64 t), u8 0, .s (.bool true), .s .nilS, .list .full 18 [.agg (wc ⟨(keyOf s).1, v, false⟩)]]
end Go.AM
namespace Go.AM
open Go
set_option maxRecDepth 20000
end Go.AM
namespace Go.AM
open Go
set_option maxRecDepth 20000
end Go.AM
namespace Go.AM
open Go
section
variable {H : Type} {enc : TypeId × Value → H} {P : Program} {w : World} {sp : Nat → Bool} {held : Bool}
theorem of_each {α β : Type} {f : β → α} : ∀ (l : List α), (∀ x ∈ l, ∃ b, x = f b) → ∃ bs : List β, l = bs.map f
  | [], _ => ⟨[], rfl⟩
  | x :: l, h => by
    obtain ⟨b, rfl⟩ := h x List.mem_cons_self
    obtain ⟨bs, rfl⟩ := of_each l fun y hy => h y (List.mem_cons_of_mem _ hy)
    exact ⟨b :: bs, rfl⟩
theorem trodAll_stays {W W' : World} (hl : laidOutB P = true) (hb : RowKit.Below W.heap.size W W') : ∀ {ts : List TypeId} {vs : List Value} {ds : List (DataW H)} {ps : List MemPlace}, (∀ t ∈ ts, P.readableRec t = true ∧ t < P.types.size) →
    DataW.TrodAll enc P W 0 (fun _ => true) true ts vs ds ps → DataW.TrodAll enc P W' 0 (fun b => decide (b < W.heap.size)) true ts vs ds ps
  | [], [], [], _, _, h => h
  | t :: ts, v :: vs, d :: ds, ps, ht, ⟨p, q, h1, h2, e⟩ => by
    obtain ⟨n, hn⟩ := h1
    exact ⟨p, q, RowKit.Below.trod hl (ht t List.mem_cons_self).1 (ht t List.mem_cons_self).2 ⟨n, hn⟩ hb (DataW.trod_lt n _ _ _ hn), trodAll_stays hl hb (fun t h => ht t (List.mem_cons_of_mem _ h)) h2, e⟩
  | [], [], _ :: _, _, _, h => h.elim
  | [], _ :: _, _, _, _, h => h.elim
  | _ :: _, [], _, _, _, h => h.elim
  | _ :: _, _ :: _, [], _, _, h => h.elim
end
end Go.AM
namespace Go.AM
open Go
section
variable {H : Type} {enc : TypeId × Value → H} {P : Program} {w : World} {sp : Nat → Bool} {held : Bool}
def contig (P : Program) : List Field → Nat → Nat → Bool
  | [], o, tot => o == tot
  | f :: l, o, tot => f.offset == o && contig P l (o + P.cellsOf f.type) tot
def plainT (P : Program) : Nat → TypeId → Bool
  | 0, _ => false
  | d + 1, t => match P.underlying t with
    | some .bool | some (.int _) | some .string => true
    | some (.slice e) => decide (0 < P.cellsOf e) && (isAgg P e || P.cellsOf e == 1) && plainT P d e
    | some (.struct fs) => contig P fs.toList 0 (P.cellsOf t) && fs.toList.all fun f => plainT P d f.type
    | some (.array m e) => P.cellsOf t == m * P.cellsOf e && plainT P d e
    | _ => false
def shp (P : Program) : Nat → TypeId → List AV → Prop
  | 0, _, _ => False
  | d + 1, t, as => match P.underlying t with
    | some .bool => ∃ b, as = [.s (.bool b)]
    | some (.int k) => ∃ i, as = [.s (.int k i)] ∧ (Lit.int k i).wf = true
    | some .string => ∃ l, as = [.s (.str l)] ∧ l.length ≤ maxLen
    | some (.slice e) => ∃ es : List AV, as = [.list .sh (P.cellsOf e) es] ∧ es.length ≤ maxLen ∧ ∀ x ∈ es, shp P d e x.cells ∧ (isAgg P e = true → x = .agg x.cells) ∧ (isAgg P e = false → x.cells = [x])
    | some (.struct fs) => fs.toList.foldr (fun f (Q : List AV → Prop) as => ∃ a b, as = a ++ b ∧ shp P d f.type a ∧ Q b) (fun as => as = []) as
    | some (.array m e) => ∃ ps : List (List AV), ps.length = m ∧ as = ps.flatten ∧ ∀ p ∈ ps, shp P d e p
    | _ => False
structure Tells (w : World) (as : List AV) (cs : List Value) : Prop where
  vl : VL G.none w as cs
  cell : ∀ c ∈ as, c.isCell = true
  low : AV.under.go 0 as = true
theorem Tells.nil : Tells w [] [] := ⟨.nil, (fun _ h => by cases h), rfl⟩
theorem Tells.app {a b : List AV} {c d : List Value} (h : Tells w a c) (h' : Tells w b d) : Tells w (a ++ b) (c ++ d) :=
  ⟨h.vl.app h'.vl, fun x hx => (List.mem_append.1 hx).elim (h.cell x) (h'.cell x), by rw [under_app', h.low, h'.low]; rfl⟩
theorem Tells.flat : ∀ {ps : List (List AV)} {qs : List (List Value)}, ps.length = qs.length → (∀ (i : Nat) (p : List AV) (q : List Value), ps[i]? = some p → qs[i]? = some q → Tells w p q) → Tells w ps.flatten qs.flatten
  | [], [], _, _ => .nil
  | [], _ :: _, h, _ => by simp at h
  | _ :: _, [], h, _ => by simp at h
  | p :: ps, q :: qs, h, hall => by
    rw [List.flatten_cons, List.flatten_cons]
    exact (hall 0 p q rfl rfl).app (Tells.flat (by simpa using h) fun i a b ha hb => hall (i + 1) a b (by simpa using ha) (by simpa using hb))
theorem Tells.sc (x : Sc) : Tells w [.s x] [x.toV] := ⟨.sc x .nil, fun c hc => by rw [List.mem_singleton.1 hc]; rfl, rfl⟩
theorem lies_flat {b c : Nat} : ∀ (qs : List (List Value)) (off : Nat), (∀ i q, qs[i]? = some q → w.cells? 0 ⟨b, off + i * c, none⟩ c = some q) → ∀ j v, qs.flatten[j]? = some v → w.cell? ⟨b, off + j, none⟩ = some v
  | [], off, _, j, v, h => by simp at h
  | q :: qs, off, hall, j, v, h => by
    have hk := hall 0 q rfl
    rw [Nat.zero_mul, Nat.add_zero] at hk
    have hs := World.cells?_some hk
    rw [List.flatten_cons] at h
    by_cases hj : j < c
    · rw [List.getElem?_append_left (by omega)] at h
      have := hs.2.2 j hj
      rw [Addr.add_lit] at this
      rw [this]; exact h
    · rw [List.getElem?_append_right (by omega), hs.2.1] at h
      have := lies_flat qs (off + c) (fun i q hi => by
        have := hall (i + 1) q (by simpa using hi)
        rw [show off + c + i * c = off + (i + 1) * c by rw [Nat.add_mul]; omega]
        exact this) (j - c) v h
      rwa [show off + c + (j - c) = off + j by omega] at this
theorem choose_list {β : Type} {n : Nat} {p : Nat → β → Prop} (h : ∀ i, i < n → ∃ b, p i b) : ∃ l : List β, l.length = n ∧ ∀ i b, l[i]? = some b → p i b := by
  induction n with
  | zero => exact ⟨[], rfl, fun i b h => by simp at h⟩
  | succ n ih =>
    obtain ⟨l, hl, hall⟩ := ih fun i hi => h i (by omega)
    obtain ⟨b, hb⟩ := h n (by omega)
    refine ⟨l ++ [b], by simp [hl], fun i c hc => ?_⟩
    by_cases hi : i < l.length
    · rw [List.getElem?_append_left hi] at hc; exact hall i c hc
    · rw [List.getElem?_append_right (by omega)] at hc
      have : i = n := by
        have := (List.getElem?_eq_some_iff.1 hc).1
        simp at this; omega
      subst this
      rw [hl, Nat.sub_self] at hc
      injection hc with hc; subst hc; exact hb
def elemA (ag : Bool) (as : List AV) : AV := match ag with
  | true => .agg as
  | false => as.getD 0 .undef
theorem elemA_cells {w : World} {ag : Bool} {as : List AV} {cs : List Value} (h : Tells w as cs) (hl : ag = true ∨ as.length = 1) : (elemA ag as).cells = as := by
  cases ag with
  | true => rfl
  | false =>
    obtain ⟨a, rfl⟩ := List.length_eq_one_iff.1 (hl.resolve_left (by simp))
    have hc := h.cell a (by simp)
    show a.cells = [a]
    cases a <;> simp [AV.isCell] at hc <;> rfl
theorem elemA_low {w : World} {ag : Bool} {as : List AV} {cs : List Value} (h : Tells w as cs) (hl : ag = true ∨ as.length = 1) : AV.under 0 (elemA ag as) = true := by
  cases ag with
  | true => exact h.low
  | false =>
    obtain ⟨a, rfl⟩ := List.length_eq_one_iff.1 (hl.resolve_left (by simp))
    have := h.low
    simpa [elemA, AV.under.go] using this
theorem trod_struct_shp {d m tot : Nat} {cs : List Value} (ih : ∀ t, plainT P d t = true → ∀ N cs x, DataW.trod enc P w 0 sp held N t cs = some x → ∃ as, shp P d t as ∧ Tells w as cs) (htot : cs.length = tot) :
    ∀ (l : List Field) (o : Nat), contig P l o tot = true → (l.all fun f => plainT P d f.type) = true → (∀ f ∈ l, ∃ x, DataW.trod enc P w 0 sp held m f.type ((cs.drop f.offset).take (P.cellsOf f.type)) = some x) →
    ∃ as, l.foldr (fun f (Q : List AV → Prop) as => ∃ a b, as = a ++ b ∧ shp P d f.type a ∧ Q b) (fun as => as = []) as ∧ Tells w as (cs.drop o)
  | [], o, hc, _, _ => by
    have : o = tot := by simpa [contig] using hc
    subst this
    rw [List.drop_of_length_le (by omega)]
    exact ⟨[], rfl, .nil⟩
  | f :: l, o, hc, hp, hall => by
    simp only [contig, Bool.and_eq_true, beq_iff_eq] at hc
    simp only [List.all_cons, Bool.and_eq_true] at hp
    obtain ⟨x, hx⟩ := hall f List.mem_cons_self
    obtain ⟨a, ha, hta⟩ := ih _ hp.1 _ _ _ hx
    obtain ⟨b, hb, htb⟩ := trod_struct_shp ih htot l _ hc.2 hp.2 fun g hg => hall g (List.mem_cons_of_mem _ hg)
    refine ⟨a ++ b, ⟨a, b, rfl, ha, hb⟩, ?_⟩
    rw [hc.1] at hta
    have : cs.drop o = (cs.drop o).take (P.cellsOf f.type) ++ cs.drop (o + P.cellsOf f.type) := by
      rw [← List.drop_drop, List.take_append_drop]
    rw [this]
    exact hta.app htb
theorem flat_parts {c : Nat} : ∀ (m : Nat) (cs : List Value), cs.length = m * c → ((List.range m).map fun i => (cs.drop (i * c)).take c).flatten = cs
  | 0, cs, h => by simp at h; subst h; rfl
  | m + 1, cs, h => by
    rw [List.range_succ_eq_map, List.map_cons, List.map_map, List.flatten_cons, Nat.zero_mul, List.drop_zero]
    have := flat_parts (c := c) m (cs.drop c) (by rw [List.length_drop, h, Nat.add_mul]; omega)
    have e : ((fun i => (cs.drop (i * c)).take c) ∘ Nat.succ) = fun i => ((cs.drop c).drop (i * c)).take c := by
      funext i
      simp only [Function.comp, List.drop_drop, Nat.succ_eq_add_one, Nat.add_mul, Nat.one_mul]
      rw [Nat.add_comm c]
    rw [e, this, List.take_append_drop]
theorem trod_shp : ∀ (d : Nat) (t : TypeId), plainT P d t = true → ∀ (N : Nat) (cs : List Value) (x : DataW H × List MemPlace), DataW.trod enc P w 0 sp held N t cs = some x → ∃ as, shp P d t as ∧ Tells w as cs
  | 0, t, h, _, _, _, _ => by simp [plainT] at h
  | d + 1, t, h, N, cs, x, hx => by
    have ih := trod_shp d
    unfold plainT at h
    unfold shp
    cases hu : P.underlying t with
    | none => rw [hu] at h; cases h
    | some D =>
      rw [hu] at h
      cases D with
      | bool =>
        obtain ⟨b, rfl, _⟩ := DataW.trod_bool hu hx
        exact ⟨_, ⟨b, rfl⟩, .sc (.bool b)⟩
      | int k =>
        obtain ⟨n, rfl, _, hw⟩ := DataW.trod_int hu hx
        exact ⟨_, ⟨n, rfl, hw⟩, .sc (.int k n)⟩
      | string =>
        obtain ⟨s, rfl, _, hl⟩ := DataW.trod_string hu hx
        refine ⟨_, ⟨s.data.toList, rfl, by simpa using hl⟩, ?_⟩
        have := Tells.sc (w := w) (.str s.data.toList)
        simpa [Sc.toV] using this
      | slice e =>
        simp only [Bool.and_eq_true, decide_eq_true_eq, Bool.or_eq_true, beq_iff_eq] at h
        obtain ⟨⟨hpos, hag⟩, hpe⟩ := h
        rcases DataW.trod_slice hu hx with ⟨rfl, _⟩ | ⟨a, len, cap, elems, rest, n, _, rfl, _, _, hle, hcap, hlen, hel, _, _⟩
        · exact ⟨_, ⟨[], rfl, Nat.zero_le _, fun _ h => by cases h⟩, ⟨.lnil hpos .nil, fun c hc => by rw [List.mem_singleton.1 hc]; rfl, rfl⟩⟩
        · have each : ∀ i, i < len → ∃ z : List Value × List AV, w.cells? 0 (a.add (i * P.cellsOf e)) (P.cellsOf e) = some z.1 ∧ shp P d e z.2 ∧ Tells w z.2 z.1 := fun i hi => by
            have h1 := hel i hi
            rw [List.getElem?_eq_getElem (by omega)] at h1
            obtain ⟨q, hq, hq2⟩ := Option.bind_eq_some_iff.1 h1
            obtain ⟨as, h2, h3⟩ := ih e hpe _ _ _ hq2
            exact ⟨(q, as), hq, h2, h3⟩
          obtain ⟨l, hl, hall⟩ := choose_list each
          have hin : ∀ z ∈ l, (∃ i, w.cells? 0 (a.add (i * P.cellsOf e)) (P.cellsOf e) = some z.1) ∧ shp P d e z.2 ∧ Tells w z.2 z.1 := fun z hz => by
            obtain ⟨i, hi⟩ := List.getElem?_of_mem hz
            exact ⟨⟨i, (hall i z hi).1⟩, (hall i z hi).2⟩
          have hone : ∀ z ∈ l, z.2.length = P.cellsOf e := fun z hz => by
            obtain ⟨⟨i, h1⟩, _, h2⟩ := hin z hz
            rw [← h2.vl.length]; exact (World.cells?_some h1).2.1
          have hag' : ∀ z ∈ l, isAgg P e = true ∨ z.2.length = 1 := fun z hz => hag.imp id fun h => by rw [hone z hz, h]
          let es : List AV := l.map fun z => elemA (isAgg P e) z.2
          have hcells : es.flatMap AV.cells = (l.map (·.2)).flatten := by
            have : ∀ (l' : List (List Value × List AV)), (∀ z ∈ l', z ∈ l) → (l'.map fun z => elemA (isAgg P e) z.2).flatMap AV.cells = (l'.map (·.2)).flatten := by
              intro l'
              induction l' with
              | nil => intro _; rfl
              | cons z l' ihl =>
                intro hs
                rw [List.map_cons, List.flatMap_cons, List.map_cons, List.flatten_cons, ihl fun y hy => hs y (List.mem_cons_of_mem _ hy)]
                have hz := hs z List.mem_cons_self
                rw [elemA_cells (hin z hz).2.2 (hag' z hz)]
            exact this l fun _ h => h
          have hspot : es = [] ∨ a.spot = none := by
            by_cases h0 : len = 0
            · left; apply List.length_eq_zero_iff.1; simp [es, hl, h0]
            · right
              obtain ⟨z, hz, _⟩ := each 0 (by omega)
              have h1 := (World.cells?_some hz).2.2 0 hpos
              have h2 : (a.add (0 * P.cellsOf e)).add 0 = a := by simp [Addr.add]
              rw [h2, List.getElem?_eq_getElem (by rw [(World.cells?_some hz).2.1]; exact hpos)] at h1
              unfold World.cell? at h1
              split at h1
              · split at h1
                · cases h1
                · rename_i h3; simpa using h3
              · cases h1
          have htell : Tells w (l.map (·.2)).flatten (l.map (·.1)).flatten := Tells.flat (by simp) fun i p q hp hq => by
            rw [List.getElem?_map] at hp hq
            cases hz : l[i]? with
            | none => rw [hz] at hp; cases hp
            | some z =>
              rw [hz] at hp hq
              injection hp with hp; injection hq with hq; subst hp; subst hq
              exact (hall i z hz).2.2
          refine ⟨_, ⟨es, rfl, by simp [es, hl]; omega, fun y hy => ?_⟩, ⟨?_, fun c hc => by rw [List.mem_singleton.1 hc]; rfl, rfl⟩⟩
          · obtain ⟨z, hz, rfl⟩ := List.mem_map.1 hy
            rw [elemA_cells (hin z hz).2.2 (hag' z hz)]
            refine ⟨(hin z hz).2.1, fun h => by rw [h]; rfl, fun h => ?_⟩
            obtain ⟨a, ha⟩ := List.length_eq_one_iff.1 ((hag' z hz).resolve_left (by rw [h]; simp))
            rw [ha, h]; rfl
          · refine .list (xs := (l.map (·.1)).flatten) (.inl rfl) (by simp [es, hl]) hle hpos hspot (fun y hy => ?_) ?_ (by rw [hcells]; exact htell.vl) (fun i v hv => ⟨?_, fun h => (show False from h)⟩) .nil
            · obtain ⟨z, hz, rfl⟩ := List.mem_map.1 hy
              rw [elemA_cells (hin z hz).2.2 (hag' z hz)]
              exact ⟨hone z hz, (hin z hz).2.2.cell⟩
            · refine under_mem.2 fun y hy => ?_
              obtain ⟨z, hz, rfl⟩ := List.mem_map.1 hy
              exact elemA_low (hin z hz).2.2 (hag' z hz)
            · rcases hspot with h0 | h0
              · have : l = [] := by simpa [es] using h0
                rw [this] at hv; simp at hv
              · obtain ⟨ab, ao, as⟩ := a
                dsimp only at h0; subst h0
                refine lies_flat (c := P.cellsOf e) _ ao (fun j q hq => ?_) i v hv
                rw [List.getElem?_map] at hq
                cases hz : l[j]? with
                | none => rw [hz] at hq; cases hq
                | some z =>
                  rw [hz] at hq
                  injection hq with hq; subst hq
                  have := (hall j z hz).1
                  rwa [Addr.add_lit] at this
      | struct fs =>
        simp only [Bool.and_eq_true] at h
        obtain ⟨xs, n, _, _, hl, hxl, hf⟩ := DataW.trod_struct hu hx
        obtain ⟨as, h1, h2⟩ := trod_struct_shp (m := n) ih hl fs.toList 0 h.1 h.2 fun f hm => by
          obtain ⟨i, hi⟩ := List.getElem?_of_mem hm
          have hi' : fs[i]? = some f := by simpa using hi
          have := hf i f hi'
          have hlt := (Array.getElem?_eq_some_iff.1 hi').1
          rw [List.getElem?_eq_getElem (by omega)] at this
          exact ⟨_, this⟩
        exact ⟨as, h1, by simpa using h2⟩
      | array m e =>
        simp only [Bool.and_eq_true, beq_iff_eq] at h
        obtain ⟨xs, n, _, _, hl, hxl, hf⟩ := DataW.trod_array hu hx
        obtain ⟨ps, hpl, hall⟩ := choose_list (n := m) (p := fun i as => shp P d e as ∧ Tells w as ((cs.drop (i * P.cellsOf e)).take (P.cellsOf e))) fun i hi => by
          have := hf i hi
          rw [List.getElem?_eq_getElem (by omega)] at this
          exact ih e h.2 _ _ _ this
        refine ⟨ps.flatten, ⟨ps, hpl, rfl, fun p hp => ?_⟩, ?_⟩
        · obtain ⟨i, hi⟩ := List.getElem?_of_mem hp
          exact (hall i p hi).1
        · rw [← flat_parts (c := P.cellsOf e) m cs (by rw [hl, h.1])]
          refine Tells.flat (by simp [hpl]) fun i p q hp hq => ?_
          have hlt : i < m := by have := (List.getElem?_eq_some_iff.1 hp).1; omega
          have : q = (cs.drop (i * P.cellsOf e)).take (P.cellsOf e) := by
            rw [List.getElem?_map, List.getElem?_range hlt] at hq
            injection hq with hq; exact hq.symm
          subst this
          exact (hall i p hp).2
      | _ => cases h
def argA (ag : Bool) (as : List AV) : AV := elemA ag as
theorem trod_arg {d : Nat} {t : TypeId} {v : Value} {D : DataW H} {ps : List MemPlace} (hp : plainT P d t = true) (hok : Value.okWide P w .any 0 t v) (h : DataW.Trod enc P w 0 sp held t v D ps) :
    ∃ as, shp P d t as ∧ V G.none w (argA (isAgg P t) as) v := by
  obtain ⟨n, hn⟩ := h
  obtain ⟨as, h1, h2⟩ := trod_shp d t hp n _ _ hn
  refine ⟨as, h1, ?_⟩
  cases hu : P.underlying t with
  | none =>
    cases d with
    | zero => simp [plainT] at hp
    | succ d => rw [plainT, hu] at hp; cases hp
  | some D =>
    have scalar : isAgg P t = false → (∀ xs, v ≠ .agg xs) → V G.none w (argA (isAgg P t) as) v := fun hf hv => by
      rw [hf]
      have e : v.cells.toList = [v] := by
        cases v <;> first | rfl | exact (hv _ rfl).elim
      rw [e] at h2
      obtain ⟨a, as', rfl, h3, h4⟩ : ∃ a as', as = a :: as' ∧ V G.none w a v ∧ VL G.none w as' [] := by
        cases as with
        | nil => have := h2.vl.length; simp at this
        | cons a as' =>
          obtain ⟨v', vs', hh, h3, h4⟩ := h2.vl.cons_left
          injection hh with hh1 hh2; subst hh1; subst hh2
          exact ⟨a, as', rfl, h3, h4⟩
      exact h3
    cases D with
    | struct fs =>
      simp only [Value.okWide, hu] at hok
      obtain ⟨cs, rfl, _, _⟩ := hok
      rw [show isAgg P t = true by simp [isAgg, hu]]
      exact .agg h2.cell (by simpa [Value.cells] using h2.vl) .nil
    | array m e =>
      simp only [Value.okWide, hu] at hok
      obtain ⟨cs, rfl, _, _⟩ := hok
      rw [show isAgg P t = true by simp [isAgg, hu]]
      exact .agg h2.cell (by simpa [Value.cells] using h2.vl) .nil
    | _ =>
      refine scalar (by simp [isAgg, hu]) fun xs hv => ?_
      subst hv
      simp [Value.okWide, Cell.okWide, Cell.ok, hu] at hok
end
end Go.AM
namespace Go.AM
open Go
section
variable {P : Program}
def parts (P : Program) (d : Nat) : List TypeId → List AV → Prop
  | [], as => as = []
  | u :: ts, as => ∃ a b, as = a ++ b ∧ shp P d u a ∧ parts P d ts b
theorem parts_of {d : Nat} : ∀ {fs : List Field} {as : List AV}, fs.foldr (fun f (Q : List AV → Prop) as => ∃ a b, as = a ++ b ∧ shp P d f.type a ∧ Q b) (fun as => as = []) as → parts P d (fs.map (·.type)) as
  | [], _, h => h
  | f :: fs, as, h => by
    obtain ⟨a, b, h1, h2, h3⟩ := h
    exact ⟨a, b, h1, h2, parts_of h3⟩
theorem shp_struct {d : Nat} {t : TypeId} {fs : Array Field} {ts : List TypeId} {as : List AV} (ht : P.underlying t = some (.struct fs)) (hts : fs.toList.map (·.type) = ts) (h : shp P (d + 1) t as) : parts P d ts as := by
  unfold shp at h
  rw [ht] at h
  subst hts
  exact parts_of h
theorem shp_int {d : Nat} {t : TypeId} {k : IntKind} {as : List AV} (ht : P.underlying t = some (.int k)) (h : shp P (d + 1) t as) : ∃ i, as = [.s (.int k i)] ∧ (Lit.int k i).wf = true := by
  unfold shp at h; rw [ht] at h; exact h
theorem shp_bool {d : Nat} {t : TypeId} {as : List AV} (ht : P.underlying t = some .bool) (h : shp P (d + 1) t as) : ∃ b, as = [.s (.bool b)] := by
  unfold shp at h; rw [ht] at h; exact h
theorem shp_str {d : Nat} {t : TypeId} {as : List AV} (ht : P.underlying t = some .string) (h : shp P (d + 1) t as) : ∃ l, as = [.s (.str l)] ∧ l.length ≤ maxLen := by
  unfold shp at h; rw [ht] at h; exact h
theorem shp_u8 {d : Nat} {t : TypeId} {as : List AV} (ht : P.underlying t = some (.int .u8)) (h : shp P (d + 1) t as) : ∃ b : UInt8, as = [u8 b] := by
  obtain ⟨i, rfl, hw⟩ := shp_int ht h
  have := bounds_u8 hw
  refine ⟨UInt8.ofNat i.toNat, ?_⟩
  have : ((UInt8.ofNat i.toNat).toNat : Int) = i := by rw [UInt8.toNat_ofNat']; omega
  show _ = [AV.s (.int .u8 _)]
  rw [this]
theorem shp_key {d : Nat} {t u : TypeId} {as : List AV} (ht : P.underlying t = some (.array 16 u)) (hu : P.underlying u = some (.int .u8)) (h : shp P (d + 2) t as) : ∃ k : Key, as = bs k.b := by
  unfold shp at h; rw [ht] at h
  obtain ⟨ps, hl, rfl, hall⟩ := h
  obtain ⟨l, rfl⟩ := of_each (f := fun b => [u8 b]) ps fun p hp => shp_u8 hu (hall p hp)
  refine ⟨⟨l, by simpa using hl⟩, ?_⟩
  show _ = l.map u8
  clear hl hall
  induction l with
  | nil => rfl
  | cons b l ih => simp only [List.map_cons, List.flatten_cons, ih]; rfl
theorem shp_wr {d : Nat} {t tk u ts tb : TypeId} {fs : Array Field} {as : List AV} (ht : P.underlying t = some (.struct fs)) (hf : fs.toList.map (·.type) = [tk, ts, tb]) (hk : P.underlying tk = some (.array 16 u)) (hu : P.underlying u = some (.int .u8)) (hs : P.underlying ts = some .string) (hb : P.underlying tb = some .bool)
    (h : shp P (d + 3) t as) : ∃ w : Wr, as = wc w := by
  obtain ⟨a, r, rfl, h1, a2, r2, rfl, h2, a3, r3, rfl, h3, rfl⟩ := shp_struct ht hf h
  obtain ⟨k, rfl⟩ := shp_key hk hu h1
  obtain ⟨l, rfl, _⟩ := shp_str hs h2
  obtain ⟨b, rfl⟩ := shp_bool hb h3
  exact ⟨⟨k, l, b⟩, rfl⟩
end
end Go.AM
namespace Go.AM
open Go
section
variable {P : Program}
theorem shp_stamp {d : Nat} {t ti tn : TypeId} {fs : Array Field} {as : List AV} (ht : P.underlying t = some (.struct fs)) (hf : fs.toList.map (·.type) = [ti, tn]) (hi : P.underlying ti = some (.int .i64)) (hn : P.underlying tn = some (.int .u8)) (h : shp P (d + 2) t as) : ∃ s : Stp, as = stc s := by
  obtain ⟨a, r, rfl, h1, a2, r2, rfl, h2, rfl⟩ := shp_struct ht hf h
  obtain ⟨i, rfl, _⟩ := shp_int hi h1
  obtain ⟨b, rfl⟩ := shp_u8 hn h2
  exact ⟨⟨i, b⟩, rfl⟩
end
end Go.AM
namespace Go.AM
open Go
variable {P : Program}
theorem wT {α : Type} {p : α → Prop} (h : ∃ x, p x) : ∃ x, p x ∧ True := h.imp fun _ e => ⟨e, trivial⟩
theorem of_eachQ {α : Type} {f : α → AV} {Q : α → Prop} : ∀ (es : List AV), (∀ x ∈ es, ∃ a, x = f a ∧ Q a) → ∃ l : List α, es = l.map f ∧ ∀ a ∈ l, Q a
  | [], _ => ⟨[], rfl, fun a h => by cases h⟩
  | x :: es, h => by
    obtain ⟨a, rfl, hq⟩ := h x (List.mem_cons_self ..)
    obtain ⟨l, rfl, hl⟩ := of_eachQ es fun y hy => h y (List.mem_cons_of_mem _ hy)
    exact ⟨a :: l, rfl, fun b hb => by rcases List.mem_cons.1 hb with rfl | hb; exact hq; exact hl b hb⟩
theorem shp_sliceQ {d : Nat} {t e : TypeId} {c : Nat} {as : List AV} {α : Type} (f : α → AV) (Q : α → Prop) (ht : P.underlying t = some (.slice e)) (hc : P.cellsOf e = c) (he : ∀ x : AV, shp P d e x.cells → (isAgg P e = true → x = .agg x.cells) → (isAgg P e = false → x.cells = [x]) → ∃ a, x = f a ∧ Q a) (h : shp P (d + 1) t as) :
    ∃ l : List α, as = [.list .sh c (l.map f)] ∧ l.length ≤ 9223372036854775807 ∧ ∀ a ∈ l, Q a := by
  subst hc
  unfold shp at h; rw [ht] at h
  obtain ⟨es, rfl, hl, hall⟩ := h
  obtain ⟨l, rfl, hq⟩ := of_eachQ (f := f) es fun x hx => he x (hall x hx).1 (hall x hx).2.1 (hall x hx).2.2
  refine ⟨l, rfl, ?_, hq⟩
  rw [List.length_map] at hl
  unfold maxLen at hl; omega
theorem shp_i64 {d : Nat} {t : TypeId} {as : List AV} (ht : P.underlying t = some (.int .i64)) (h : shp P (d + 1) t as) : ∃ i : Int, as = [.s (.int .i64 i)] ∧ -9223372036854775808 ≤ i ∧ i ≤ 9223372036854775807 := by
  obtain ⟨i, rfl, hw⟩ := shp_int ht h
  refine ⟨i, rfl, ?_⟩
  unfold Lit.wf at hw
  rw [Bool.and_eq_true] at hw
  have h1 := of_decide_eq_true hw.1
  have h2 := of_decide_eq_true hw.2
  simp [IntKind.min, IntKind.max, IntKind.signed, IntKind.bits] at h1 h2
  omega
end Go.AM
