import Derived.Test.YthbiajoionockaaSy
import Derived.Test.YthbiajoionockaaT0
namespace Go.AM
open Go
set_option maxRecDepth 20000
set_option linter.unusedSimpArgs false
def textOf (k : Key) : List UInt8 := k.b.takeWhile (· != 0)
theorem take_stop {l : List UInt8} {i : Nat} (h : i ≤ l.length) (hall : ∀ j, (hj : j < i) → l[j]'(by omega) ≠ 0) (hs : ∀ hi : i < l.length, l[i] = 0) : l.take i = l.takeWhile (· != 0) := by
  induction l generalizing i with
  | nil => simp
  | cons x l ih =>
    cases i with
    | zero =>
      have := hs (by simp)
      simp at this
      subst this; simp
    | succ i =>
      have h0 := hall 0 (by omega)
      simp at h0
      rw [List.take_succ_cons, List.takeWhile_cons]
      have hx : (x != 0) = true := by simpa using h0
      rw [hx]
      simp only [if_true]
      rw [ih (by simpa using h) (fun j hj => by have := hall (j + 1) (by omega); simpa using this) fun hi => by have := hs (by simpa using hi); simpa using this]
set_option maxHeartbeats 1000000 in
theorem key_text_spec {C : CallW} (hC : LeC C C) (P : Program) (k : Key) (S : List (List AV)) (H : List HObj) (K : AV → St → Prop) (hK : K (.str (textOf k)) ⟨S, H⟩) : runL C P C_key_text [.agg k.c] ⟨S, H⟩ K := by
  simp only [C_key_text, RUN_, u_C_key_text_k1, u_C_key_text_k2, u_C_key_text_k3, u_C_key_text_k4, FR_, Nat.reducePow, Int.reducePow, Nat.reduceAdd, Nat.reduceSub, Nat.reduceMul, Int.reduceToNat, Nat.reduceLeDiff, Nat.reduceEqDiff, Nat.reduceLT, Nat.reduceGT, Int.reduceGT, Int.reduceGE, Int.reduceLT, Int.reduceLE, Int.reduceEq, Int.reduceAdd, Int.reduceSub, Int.reduceNeg, reduceCtorEq, if_true, if_false, ite_true, ite_false, ne_eq, binL, scBin, blBin, intBin, intShift, unL, load1L, storeL, readA, readCells, writeCells, splice, mayHold, boxOf_stk, boxOf_heap, setBox_stk, setBox_heap, newBox_stk, newBox_heap, app_get0, app_get, app_set0, app_set, app_take, app_one, List.length_append, shift, partL, lenL, capL, Nat.add_assoc, AV.under, AV.under.go, finL, under_bs]
  refine loop_rule hC (α := Nat) (fun i => 16 - i) (fun i => [.undef, .ptr (.stk S.length) 0, .undef, .s (.int .i64 i), .undef, .undef, .undef, .undef, .undef, .undef, .undef, .undef, .undef, .undef, .undef, .undef, .undef]) (fun _ => S ++ [k.c]) (fun _ => H) (fun i => i ≤ 16 ∧ ∀ j, (hj : j < i) → (hj' : j < k.b.length) → k.b[j] ≠ 0) 0 ⟨by omega, fun j hj => by omega⟩ rfl (app_take_add _ _ _) rfl (fun i hi => by simp [AV.under, AV.under.go]) ?_
  rintro i ⟨hi, hall⟩ ih
  have hkl := k.h
  by_cases h16 : i < 16
  · have hb := bs_get (l := k.b) (i := i) (by omega)
    have hw : IntKind.i64.wrap ((i : Int) + 1) = ((i + 1 : Nat) : Int) := by rw [wrap_i64 (by omega) (by omega)]; rfl
    have h1 : ((i : Int) < 16) := by omega
    have h2 : (0 : Int) ≤ (i : Int) := by omega
    by_cases hz : k.b[i]'(by omega) = 0
    · have hc := conv_row (σ := ⟨S ++ [k.c], H⟩) (r := .stk S.length) (off := 0) (len := i) (cap := 16) (l := k.b) (by rw [boxOf_stk, app_get0]; rfl) (by omega)
      rw [List.drop_zero, take_stop (by omega) (fun j hj => hall j hj (by omega)) (fun _ => hz)] at hc
      simp only [RUN_, u_C_key_text_k1, u_C_key_text_k2, u_C_key_text_k3, u_C_key_text_k4, FR_, Nat.reducePow, Int.reducePow, Nat.reduceAdd, Nat.reduceSub, Nat.reduceMul, Int.reduceToNat, Nat.reduceLeDiff, Nat.reduceEqDiff, Nat.reduceLT, Nat.reduceGT, Int.reduceGT, Int.reduceGE, Int.reduceLT, Int.reduceLE, Int.reduceEq, Int.reduceAdd, Int.reduceSub, Int.reduceNeg, reduceCtorEq, if_true, if_false, ite_true, ite_false, ne_eq, binL, scBin, blBin, intBin, intShift, unL, load1L, storeL, readA, readCells, writeCells, splice, mayHold, boxOf_stk, boxOf_heap, setBox_stk, setBox_heap, newBox_stk, newBox_heap, app_get0, app_get, app_set0, app_set, app_take, app_one, List.length_append, shift, partL, lenL, capL, Nat.add_assoc, AV.under, AV.under.go, finL, indexAddrL, h1, h2, hb, Int.toNat_natCast, Nat.mul_one, u8, hz, sliceL, bound, Option.map_some, Nat.zero_le, hi, UInt8.toNat_zero, hc, Nat.sub_zero]
      exact hK
    · have hz' : ¬ (((k.b[i]'(by omega)).toNat : Int) = 0) := fun e => hz (by
        have : (k.b[i]'(by omega)).toNat = 0 := by omega
        exact UInt8.toNat_inj.1 this)
      simp only [RUN_, u_C_key_text_k1, u_C_key_text_k2, u_C_key_text_k3, u_C_key_text_k4, FR_, Nat.reducePow, Int.reducePow, Nat.reduceAdd, Nat.reduceSub, Nat.reduceMul, Int.reduceToNat, Nat.reduceLeDiff, Nat.reduceEqDiff, Nat.reduceLT, Nat.reduceGT, Int.reduceGT, Int.reduceGE, Int.reduceLT, Int.reduceLE, Int.reduceEq, Int.reduceAdd, Int.reduceSub, Int.reduceNeg, reduceCtorEq, if_true, if_false, ite_true, ite_false, ne_eq, binL, scBin, blBin, intBin, intShift, unL, load1L, storeL, readA, readCells, writeCells, splice, mayHold, boxOf_stk, boxOf_heap, setBox_stk, setBox_heap, newBox_stk, newBox_heap, app_get0, app_get, app_set0, app_set, app_take, app_one, List.length_append, shift, partL, lenL, capL, Nat.add_assoc, AV.under, AV.under.go, finL, indexAddrL, h1, h2, hb, Int.toNat_natCast, Nat.mul_one, u8, hz', hw]
      exact ih (i + 1) _ _ _ (by omega) ⟨by omega, fun j hj hj' => by
        rcases Nat.lt_or_ge j i with h | h
        · exact hall j h hj'
        · have : j = i := by omega
          subst this; exact hz⟩ rfl (app_take_add _ _ _) rfl
  · have h1 : ¬ ((i : Int) < 16) := by omega
    have h16' : i = 16 := by omega
    have h2 : (0 : Int) ≤ (i : Int) := by omega
    have hc := conv_row (σ := ⟨S ++ [k.c], H⟩) (r := .stk S.length) (off := 0) (len := i) (cap := 16) (l := k.b) (by rw [boxOf_stk, app_get0]; rfl) (by omega)
    rw [List.drop_zero, take_stop (by omega) (fun j hj => hall j hj (by omega)) (fun h => by omega)] at hc
    simp only [RUN_, u_C_key_text_k1, u_C_key_text_k2, u_C_key_text_k3, u_C_key_text_k4, FR_, Nat.reducePow, Int.reducePow, Nat.reduceAdd, Nat.reduceSub, Nat.reduceMul, Int.reduceToNat, Nat.reduceLeDiff, Nat.reduceEqDiff, Nat.reduceLT, Nat.reduceGT, Int.reduceGT, Int.reduceGE, Int.reduceLT, Int.reduceLE, Int.reduceEq, Int.reduceAdd, Int.reduceSub, Int.reduceNeg, reduceCtorEq, if_true, if_false, ite_true, ite_false, ne_eq, binL, scBin, blBin, intBin, intShift, unL, load1L, storeL, readA, readCells, writeCells, splice, mayHold, boxOf_stk, boxOf_heap, setBox_stk, setBox_heap, newBox_stk, newBox_heap, app_get0, app_get, app_set0, app_set, app_take, app_one, List.length_append, shift, partL, lenL, capL, Nat.add_assoc, AV.under, AV.under.go, finL, h1, h2, sliceL, bound, Option.map_some, Nat.zero_le, hi, hc, Nat.sub_zero, Int.toNat_natCast]
    exact hK
end Go.AM
/-! Keys: what the functions of key and of hourglassref10 answer. -/
namespace Go.AM
open Go
set_option maxRecDepth 20000
set_option linter.unusedSimpArgs false
set_option linter.unusedVariables false

def CmpB (C : CallW) (f : FuncId) : Prop := ∀ (a b : List UInt8) (S : List (List AV)) (H : List HObj) (r1 r2 : Nat) (K : AV → St → Prop), S[r1]? = some (bs a) → S[r2]? = some (bs b) → a.length = 16 → b.length = 16 →
  K (.i (Lib.compareBytes a b)) ⟨S, H⟩ → C (.fn f) [.row (.stk r1) 0 16 16, .row (.stk r2) 0 16 16] ⟨S, H⟩ K
def KCmp (C : CallW) (f : FuncId) : Prop := ∀ (a b : Key) S H K, K (.i (Lib.compareBytes a.b b.b)) ⟨S, H⟩ → C (.fn f) [.agg (bs a.b), .agg (bs b.b)] ⟨S, H⟩ K

set_option maxHeartbeats 1000000 in
theorem bytes_Compare_spec {C : CallW} (hC : LeC C C) (P : Program) {f : FuncId} (hf : CmpB C f) : ∀ (a b : List UInt8) (S : List (List AV)) (H : List HObj) (r1 r2 : Nat) (K : AV → St → Prop), S[r1]? = some (bs a) → S[r2]? = some (bs b) → a.length = 16 → b.length = 16 →
  K (.i (Lib.compareBytes a b)) ⟨S, H⟩ → runL C P (C_bytes_Compare f) [.row (.stk r1) 0 16 16, .row (.stk r2) 0 16 16] ⟨S, H⟩ K := by
  intro a b S H r1 r2 K h1 h2 ha hb hK
  simp only [C_bytes_Compare, RUN_, u_C_bytes_Compare_k1, FR_, Nat.reducePow, Int.reducePow, Nat.reduceAdd, Nat.reduceSub, Nat.reduceMul, Int.reduceToNat, Nat.reduceLeDiff, Nat.reduceEqDiff, Nat.reduceLT, Nat.reduceGT, Int.reduceGT, Int.reduceGE, Int.reduceLT, Int.reduceLE, Int.reduceEq, Int.reduceAdd, Int.reduceSub, Int.reduceNeg, reduceCtorEq, if_true, if_false, ite_true, ite_false, ne_eq, OPK_, KEY_]
  refine hf a b S H r1 r2 _ h1 h2 ha hb ?_
  simp only [RUN_, u_C_bytes_Compare_k1, FR_, Nat.reducePow, Int.reducePow, Nat.reduceAdd, Nat.reduceSub, Nat.reduceMul, Int.reduceToNat, Nat.reduceLeDiff, Nat.reduceEqDiff, Nat.reduceLT, Nat.reduceGT, Int.reduceGT, Int.reduceGE, Int.reduceLT, Int.reduceLE, Int.reduceEq, Int.reduceAdd, Int.reduceSub, Int.reduceNeg, reduceCtorEq, if_true, if_false, ite_true, ite_false, ne_eq, OPK_, KEY_, List.take_length]
  exact hK

set_option maxHeartbeats 1000000 in
theorem key_Cmp_spec {C : CallW} (hC : LeC C C) (P : Program) {f : FuncId} (hf : CmpB C f) : ∀ (a b : Key) S H K, K (.i (Lib.compareBytes a.b b.b)) ⟨S, H⟩ → runL C P (C_key_Cmp f) [.agg (bs a.b), .agg (bs b.b)] ⟨S, H⟩ K := by
  intro a b S H K hK
  simp only [C_key_Cmp, RUN_, u_C_key_Cmp_k1, FR_, Nat.reducePow, Int.reducePow, Nat.reduceAdd, Nat.reduceSub, Nat.reduceMul, Int.reduceToNat, Nat.reduceLeDiff, Nat.reduceEqDiff, Nat.reduceLT, Nat.reduceGT, Int.reduceGT, Int.reduceGE, Int.reduceLT, Int.reduceLE, Int.reduceEq, Int.reduceAdd, Int.reduceSub, Int.reduceNeg, reduceCtorEq, if_true, if_false, ite_true, ite_false, ne_eq, OPK_, KEY_]
  refine hf a.b b.b _ _ _ _ _ ?_ ?_ a.h b.h ?_
  · simp
  · simp
  simp only [RUN_, u_C_key_Cmp_k1, FR_, Nat.reducePow, Int.reducePow, Nat.reduceAdd, Nat.reduceSub, Nat.reduceMul, Int.reduceToNat, Nat.reduceLeDiff, Nat.reduceEqDiff, Nat.reduceLT, Nat.reduceGT, Int.reduceGT, Int.reduceGE, Int.reduceLT, Int.reduceLE, Int.reduceEq, Int.reduceAdd, Int.reduceSub, Int.reduceNeg, reduceCtorEq, if_true, if_false, ite_true, ite_false, ne_eq, OPK_, KEY_]
  exact hK

def IdxS (C : CallW) (f : FuncId) : Prop := ∀ (l : List UInt8) (S : List (List AV)) (H : List HObj) (K : AV → St → Prop), K (.i (Lib.indexByte l 0)) ⟨S, H⟩ → C (.fn f) [.s (.str l), .s (.int .u8 0)] ⟨S, H⟩ K

theorem strings_IndexByte_spec {C : CallW} (hC : LeC C C) (P : Program) {f : FuncId} (hf : IdxS C f) : ∀ (l : List UInt8) (S : List (List AV)) (H : List HObj) (K : AV → St → Prop), K (.i (Lib.indexByte l 0)) ⟨S, H⟩ → runL C P (C_strings_IndexByte f) [.s (.str l), .s (.int .u8 0)] ⟨S, H⟩ K := by
  intro l S H K hK
  simp only [C_strings_IndexByte, RUN_, u_C_strings_IndexByte_k1, FR_, Nat.reducePow, Int.reducePow, Nat.reduceAdd, Nat.reduceSub, Nat.reduceMul, Int.reduceToNat, Nat.reduceLeDiff, Nat.reduceEqDiff, Nat.reduceLT, Nat.reduceGT, Int.reduceGT, Int.reduceGE, Int.reduceLT, Int.reduceLE, Int.reduceEq, Int.reduceAdd, Int.reduceSub, Int.reduceNeg, reduceCtorEq, if_true, if_false, ite_true, ite_false, ne_eq, OPK_, KEY_]
  refine hf _ _ _ _ ?_
  simp only [RUN_, u_C_strings_IndexByte_k1, FR_, Nat.reducePow, Int.reducePow, Nat.reduceAdd, Nat.reduceSub, Nat.reduceMul, Int.reduceToNat, Nat.reduceLeDiff, Nat.reduceEqDiff, Nat.reduceLT, Nat.reduceGT, Int.reduceGT, Int.reduceGE, Int.reduceLT, Int.reduceLE, Int.reduceEq, Int.reduceAdd, Int.reduceSub, Int.reduceNeg, reduceCtorEq, if_true, if_false, ite_true, ite_false, ne_eq, OPK_, KEY_, List.take_length]
  exact hK
theorem stringslite_IndexByte_spec {C : CallW} (hC : LeC C C) (P : Program) {f : FuncId} (hf : IdxS C f) : ∀ (l : List UInt8) (S : List (List AV)) (H : List HObj) (K : AV → St → Prop), K (.i (Lib.indexByte l 0)) ⟨S, H⟩ → runL C P (C_internal_stringslite_IndexByte f) [.s (.str l), .s (.int .u8 0)] ⟨S, H⟩ K := by
  intro l S H K hK
  simp only [C_internal_stringslite_IndexByte, RUN_, u_C_internal_stringslite_IndexByte_k1, FR_, Nat.reducePow, Int.reducePow, Nat.reduceAdd, Nat.reduceSub, Nat.reduceMul, Int.reduceToNat, Nat.reduceLeDiff, Nat.reduceEqDiff, Nat.reduceLT, Nat.reduceGT, Int.reduceGT, Int.reduceGE, Int.reduceLT, Int.reduceLE, Int.reduceEq, Int.reduceAdd, Int.reduceSub, Int.reduceNeg, reduceCtorEq, if_true, if_false, ite_true, ite_false, ne_eq, OPK_, KEY_]
  refine hf _ _ _ _ ?_
  simp only [RUN_, u_C_internal_stringslite_IndexByte_k1, FR_, Nat.reducePow, Int.reducePow, Nat.reduceAdd, Nat.reduceSub, Nat.reduceMul, Int.reduceToNat, Nat.reduceLeDiff, Nat.reduceEqDiff, Nat.reduceLT, Nat.reduceGT, Int.reduceGT, Int.reduceGE, Int.reduceLT, Int.reduceLE, Int.reduceEq, Int.reduceAdd, Int.reduceSub, Int.reduceNeg, reduceCtorEq, if_true, if_false, ite_true, ite_false, ne_eq, OPK_, KEY_, List.take_length]
  exact hK

/-- A text as a key's bytes. -/
def padB (s : List UInt8) : List UInt8 := s.take 16 ++ List.replicate (16 - s.length) 0
def padK (s : List UInt8) : Key := ⟨padB s, by simp [padB]; omega⟩
def badT (s : List UInt8) : Prop := s = [] ∨ 16 < s.length ∨ (0 : UInt8) ∈ s
instance (s : List UInt8) : Decidable (badT s) := inferInstanceAs (Decidable (_ ∨ _))
def keyOf (s : List UInt8) : Key × Int := if badT s then (key0, 1) else (padK s, 0)

theorem idx_neg {l : List UInt8} : Lib.indexByte l 0 ≥ 0 ↔ (0 : UInt8) ∈ l := by
  induction l with
  | nil => simp [Lib.indexByte]
  | cons x l ih =>
    simp only [Lib.indexByte, beq_iff_eq, List.mem_cons]
    by_cases h : x = 0
    · simp [h]
    · rw [if_neg h]
      have hge := Lib.indexByte_ge l 0
      by_cases h1 : Lib.indexByte l 0 = -1
      · rw [if_pos h1]
        have : ¬ ((0 : UInt8) ∈ l) := fun hm => by have := ih.2 hm; omega
        simp [this]; exact fun e => h e.symm
      · rw [if_neg h1]
        have : (0 : UInt8) ∈ l := ih.1 (by omega)
        simp [this]; omega

theorem splice_zero {cs vs : List AV} (h : vs.length ≤ cs.length) : splice cs 0 vs = vs ++ cs.drop vs.length := by
  unfold splice
  split
  · cases cs with
    | nil => simp at h
    | cons c cs => simp
  · simp

theorem flat_bs (l : List UInt8) : (bs l).flatMap AV.cells = bs l := by
  induction l with
  | nil => rfl
  | cons x l ih => show [u8 x] ++ (bs l).flatMap AV.cells = _; rw [ih]; rfl

theorem copy_str {e : ET} {S l : List (List AV)} {H : List HObj} {j : Nat} {s : List UInt8} {k : Key} (he : e.c = 1) (hj : j < l.length) (hk : l.getD j [] = bs k.b) (hs : s.length ≤ 16) :
    copyL e true (.row (.stk (S.length + j)) 0 16 16) (.s (.str s)) ⟨S ++ l, H⟩ = some (.i s.length, ⟨S ++ l.set j (bs (s ++ k.b.drop s.length)), H⟩) := by
  have e1 : l[j]? = some (bs k.b) := by rw [← hk]; simp [List.getD, hj]
  have hi : elemsL e (.s (.str s)) ⟨S ++ l, H⟩ = some (bs s) := by simp [elemsL, he, bs, u8]
  unfold copyL
  simp only [srcL, AV.isStr, if_true, hi]
  rw [List.take_of_length_le (by rw [bs_length]; exact hs), flat_bs, bs_length]
  simp only [writeCells, boxOf_stk, app_get, e1, Option.bind_some, mayHold, under_bs, bs_length, k.h, Nat.zero_add, hs, decide_true, Bool.and_self, if_true, Option.map_some, setBox_stk, app_set]
  rw [splice_zero (by rw [bs_length, bs_length, k.h]; exact hs), bs_length, bs_drop]
  simp only [bs, List.map_append]

theorem pad_drop {s : List UInt8} (hs : s.length ≤ 16) : s ++ key0.b.drop s.length = padB s := by
  unfold padB key0
  rw [List.take_of_length_le hs, List.drop_replicate]

def OfK (C : CallW) (f : FuncId) : Prop := ∀ (s : List UInt8) (S : List (List AV)) (H : List HObj) (K : AV → St → Prop), K (.tup [.agg (bs (keyOf s).1.b), .i (keyOf s).2]) ⟨S, H⟩ → C (.fn f) [.s (.str s)] ⟨S, H⟩ K

set_option maxHeartbeats 1000000 in
theorem key_Of_spec {C : CallW} (hC : LeC C C) (P : Program) {f : FuncId} (hf : IdxS C f) : ∀ (s : List UInt8) (S : List (List AV)) (H : List HObj) (K : AV → St → Prop), K (.tup [.agg (bs (keyOf s).1.b), .i (keyOf s).2]) ⟨S, H⟩ → runL C P (C_key_Of f) [.s (.str s)] ⟨S, H⟩ K := by
  intro s S H K hK
  have key0l : (bs key0.b).length = 16 := rfl
  by_cases h0 : s = []
  · have e : keyOf s = (key0, 1) := if_pos (.inl h0)
    rw [e] at hK
    simp only [C_key_Of, RUN_, u_C_key_Of_k1, u_C_key_Of_k2, u_C_key_Of_k3, u_C_key_Of_k4, FR_, Nat.reducePow, Int.reducePow, Nat.reduceAdd, Nat.reduceSub, Nat.reduceMul, Int.reduceToNat, Nat.reduceLeDiff, Nat.reduceEqDiff, Nat.reduceLT, Nat.reduceGT, Int.reduceGT, Int.reduceGE, Int.reduceLT, Int.reduceLE, Int.reduceEq, Int.reduceAdd, Int.reduceSub, Int.reduceNeg, reduceCtorEq, if_true, if_false, ite_true, ite_false, ne_eq, OPK_, KEY_, h0]
    exact hK
  · have h0' : ¬ (s.length = 0) := fun e => h0 (List.length_eq_zero_iff.1 e)
    by_cases h1 : 16 < s.length
    · have e : keyOf s = (key0, 1) := if_pos (.inr (.inl h1))
      rw [e] at hK
      have h1' : (16 : Int) < (s.length : Int) := by omega
      simp only [C_key_Of, RUN_, u_C_key_Of_k1, u_C_key_Of_k2, u_C_key_Of_k3, u_C_key_Of_k4, FR_, Nat.reducePow, Int.reducePow, Nat.reduceAdd, Nat.reduceSub, Nat.reduceMul, Int.reduceToNat, Nat.reduceLeDiff, Nat.reduceEqDiff, Nat.reduceLT, Nat.reduceGT, Int.reduceGT, Int.reduceGE, Int.reduceLT, Int.reduceLE, Int.reduceEq, Int.reduceAdd, Int.reduceSub, Int.reduceNeg, reduceCtorEq, if_true, if_false, ite_true, ite_false, ne_eq, OPK_, KEY_, h0, h1']
      exact hK
    · have h1' : ¬ ((16 : Int) < (s.length : Int)) := by omega
      simp only [C_key_Of, RUN_, u_C_key_Of_k1, u_C_key_Of_k2, u_C_key_Of_k3, u_C_key_Of_k4, FR_, Nat.reducePow, Int.reducePow, Nat.reduceAdd, Nat.reduceSub, Nat.reduceMul, Int.reduceToNat, Nat.reduceLeDiff, Nat.reduceEqDiff, Nat.reduceLT, Nat.reduceGT, Int.reduceGT, Int.reduceGE, Int.reduceLT, Int.reduceLE, Int.reduceEq, Int.reduceAdd, Int.reduceSub, Int.reduceNeg, reduceCtorEq, if_true, if_false, ite_true, ite_false, ne_eq, OPK_, KEY_, h0, h1']
      refine hf _ _ _ _ ?_
      by_cases h2 : (0 : UInt8) ∈ s
      · have e : keyOf s = (key0, 1) := if_pos (.inr (.inr h2))
        rw [e] at hK
        have h2' : (0 : Int) ≤ Lib.indexByte s 0 := idx_neg.2 h2
        simp only [RUN_, u_C_key_Of_k1, u_C_key_Of_k2, u_C_key_Of_k3, u_C_key_Of_k4, FR_, Nat.reducePow, Int.reducePow, Nat.reduceAdd, Nat.reduceSub, Nat.reduceMul, Int.reduceToNat, Nat.reduceLeDiff, Nat.reduceEqDiff, Nat.reduceLT, Nat.reduceGT, Int.reduceGT, Int.reduceGE, Int.reduceLT, Int.reduceLE, Int.reduceEq, Int.reduceAdd, Int.reduceSub, Int.reduceNeg, reduceCtorEq, if_true, if_false, ite_true, ite_false, ne_eq, OPK_, KEY_, h2']
        exact hK
      · have e : keyOf s = (padK s, 0) := if_neg (by rintro (h | h | h) <;> contradiction)
        rw [e] at hK
        have h2' : ¬ ((0 : Int) ≤ Lib.indexByte s 0) := fun h => h2 (idx_neg.1 h)
        have hcp := copy_str (e := ⟨1, false, 1, .s (.int .u8 0)⟩) (S := S) (l := [bs key0.b, bs key0.b]) (H := H) (j := 1) (s := s) (k := key0) rfl (by simp) rfl (by omega)
        rw [pad_drop (by omega)] at hcp
        have hk2 : (bs (padB s)).length = 16 := by rw [bs_length]; exact (padK s).h
        simp only [RUN_, u_C_key_Of_k1, u_C_key_Of_k2, u_C_key_Of_k3, u_C_key_Of_k4, FR_, Nat.reducePow, Int.reducePow, Nat.reduceAdd, Nat.reduceSub, Nat.reduceMul, Int.reduceToNat, Nat.reduceLeDiff, Nat.reduceEqDiff, Nat.reduceLT, Nat.reduceGT, Int.reduceGT, Int.reduceGE, Int.reduceLT, Int.reduceLE, Int.reduceEq, Int.reduceAdd, Int.reduceSub, Int.reduceNeg, reduceCtorEq, if_true, if_false, ite_true, ite_false, ne_eq, OPK_, KEY_, h2', hcp, hk2]
        exact hK
end Go.AM
namespace Go.AM
open Go
set_option maxRecDepth 20000
set_option linter.unusedSimpArgs false
set_option linter.unusedVariables false

def TextS (C : CallW) (f : FuncId) : Prop := ∀ (k : Key) S H K, K (.str (textOf k)) ⟨S, H⟩ → C (.fn f) [.agg (bs k.b)] ⟨S, H⟩ K
def BoolK (g : Key → Bool) (C : CallW) (f : FuncId) : Prop := ∀ (k : Key) S H K, K (.bool (g k)) ⟨S, H⟩ → C (.fn f) [.agg (bs k.b)] ⟨S, H⟩ K

theorem text_nz (k : Key) : (0 : UInt8) ∉ textOf k := by
  intro h
  have h2 : ∀ (l : List UInt8), (0 : UInt8) ∉ l.takeWhile (· != 0) := by
    intro l
    induction l with
    | nil => simp
    | cons x l ih =>
      rw [List.takeWhile_cons]
      split
      · rename_i hx
        intro h
        rcases List.mem_cons.1 h with h | h
        · subst h; simp at hx
        · exact ih h
      · simp
  exact h2 _ h
theorem text_len (k : Key) : (textOf k).length ≤ 16 := by
  have := (List.takeWhile_sublist (fun x : UInt8 => x != 0) (l := k.b)).length_le
  rw [k.h] at this
  exact this

def goodK (k : Key) : Bool := decide (textOf k ≠ []) && decide (padK (textOf k) = k)

theorem good_of (k : Key) : goodK k = (decide ((keyOf (textOf k)).2 = 0) && decide ((keyOf (textOf k)).1 = k)) := by
  unfold goodK keyOf
  by_cases h : textOf k = []
  · rw [if_pos (.inl h)]; simp [h]
  · rw [if_neg (by
      rintro (h1 | h1 | h1)
      · exact h h1
      · have := text_len k; omega
      · exact text_nz k h1)]
    simp [h]

set_option maxHeartbeats 1000000 in
theorem key_Good_spec {C : CallW} (hC : LeC C C) (P : Program) {f1 f2 : FuncId} (h1 : TextS C f1) (h2 : OfK C f2) : ∀ (k : Key) S H K, K (.bool (goodK k)) ⟨S, H⟩ → runL C P (C_key_Good f1 f2) [.agg (bs k.b)] ⟨S, H⟩ K := by
  intro k S H K hK
  rw [good_of] at hK
  simp only [C_key_Good, RUN_, u_C_key_Good_k1, u_C_key_Good_k2, FR_, Nat.reducePow, Int.reducePow, Nat.reduceAdd, Nat.reduceSub, Nat.reduceMul, Int.reduceToNat, Nat.reduceLeDiff, Nat.reduceEqDiff, Nat.reduceLT, Nat.reduceGT, Int.reduceGT, Int.reduceGE, Int.reduceLT, Int.reduceLE, Int.reduceEq, Int.reduceAdd, Int.reduceSub, Int.reduceNeg, reduceCtorEq, if_true, if_false, ite_true, ite_false, ne_eq, OPK_, KEY_]
  refine h1 _ _ _ _ ?_
  simp only [RUN_, u_C_key_Good_k1, u_C_key_Good_k2, FR_, Nat.reducePow, Int.reducePow, Nat.reduceAdd, Nat.reduceSub, Nat.reduceMul, Int.reduceToNat, Nat.reduceLeDiff, Nat.reduceEqDiff, Nat.reduceLT, Nat.reduceGT, Int.reduceGT, Int.reduceGE, Int.reduceLT, Int.reduceLE, Int.reduceEq, Int.reduceAdd, Int.reduceSub, Int.reduceNeg, reduceCtorEq, if_true, if_false, ite_true, ite_false, ne_eq, OPK_, KEY_]
  refine h2 _ _ _ _ ?_
  by_cases he : (keyOf (textOf k)).2 = 0
  · simp only [RUN_, u_C_key_Good_k1, u_C_key_Good_k2, FR_, Nat.reducePow, Int.reducePow, Nat.reduceAdd, Nat.reduceSub, Nat.reduceMul, Int.reduceToNat, Nat.reduceLeDiff, Nat.reduceEqDiff, Nat.reduceLT, Nat.reduceGT, Int.reduceGT, Int.reduceGE, Int.reduceLT, Int.reduceLE, Int.reduceEq, Int.reduceAdd, Int.reduceSub, Int.reduceNeg, reduceCtorEq, if_true, if_false, ite_true, ite_false, ne_eq, OPK_, KEY_, he]
    rw [he] at hK
    simpa using hK
  · simp only [RUN_, u_C_key_Good_k1, u_C_key_Good_k2, FR_, Nat.reducePow, Int.reducePow, Nat.reduceAdd, Nat.reduceSub, Nat.reduceMul, Int.reduceToNat, Nat.reduceLeDiff, Nat.reduceEqDiff, Nat.reduceLT, Nat.reduceGT, Int.reduceGT, Int.reduceGE, Int.reduceLT, Int.reduceLE, Int.reduceEq, Int.reduceAdd, Int.reduceSub, Int.reduceNeg, reduceCtorEq, if_true, if_false, ite_true, ite_false, ne_eq, OPK_, KEY_, he]
    simpa [he] using hK

/-! hourglassref10 -/
def goodL : Bool → List UInt8 → Bool
  | _, [] => true
  | e, x :: l => if x = 0 then goodL true l else if e then false else goodL false l
def goodR (k : Key) : Bool := goodL false k.b && decide (k.b[0]'(by rw [k.h]; omega) ≠ 0)

theorem goodL_drop {e : Bool} {l : List UInt8} {i : Nat} (h : i < l.length) : goodL e (l.drop i) = if l[i] = 0 then goodL true (l.drop (i + 1)) else if e then false else goodL false (l.drop (i + 1)) := by
  rw [List.drop_eq_getElem_cons h]; rfl

theorem wrap_succ {i : Nat} (h : i < 4611686018427387904) : IntKind.i64.wrap ((i : Int) + 1) = ((i + 1 : Nat) : Int) := by rw [wrap_i64 (by omega) (by omega)]; rfl
theorem u8_zero {x : UInt8} : ((x.toNat : Int) = 0) ↔ x = 0 := ⟨fun h => UInt8.toNat_inj.1 (by simp; omega), fun h => by subst h; rfl⟩

set_option maxHeartbeats 1000000 in
theorem ref10_Good_spec {C : CallW} (hC : LeC C C) (P : Program) : ∀ (k : Key) S H K, K (.bool (goodR k)) ⟨S, H⟩ → runL C P C_hourglassref10_Good [.agg (bs k.b)] ⟨S, H⟩ K := by
  intro k S H K hK
  have hkl := k.h
  simp only [C_hourglassref10_Good, RUN_, u_C_hourglassref10_Good_k1, u_C_hourglassref10_Good_k2, u_C_hourglassref10_Good_k3, u_C_hourglassref10_Good_k4, u_C_hourglassref10_Good_k5, u_C_hourglassref10_Good_k6, u_C_hourglassref10_Good_k7, FR_, Nat.reducePow, Int.reducePow, Nat.reduceAdd, Nat.reduceSub, Nat.reduceMul, Int.reduceToNat, Nat.reduceLeDiff, Nat.reduceEqDiff, Nat.reduceLT, Nat.reduceGT, Int.reduceGT, Int.reduceGE, Int.reduceLT, Int.reduceLE, Int.reduceEq, Int.reduceAdd, Int.reduceSub, Int.reduceNeg, reduceCtorEq, if_true, if_false, ite_true, ite_false, ne_eq, OPK_, KEY_]
  refine loop_rule hC (α := Nat × Bool) (fun a => 16 - a.1) (fun a => [.undef, .ptr (.stk S.length) 0, .undef, .bool a.2, .s (.int .i64 a.1), .undef, .undef, .undef, .undef, .undef, .undef, .undef, .undef, .undef, .undef, .undef, .undef]) (fun _ => S ++ [bs k.b]) (fun _ => H) (fun a => a.1 ≤ 16 ∧ goodL false k.b = goodL a.2 (k.b.drop a.1)) (0, false) ⟨by simp, by simp⟩ rfl (app_take_add _ _ _) rfl (fun i hi => by simp [AV.under, AV.under.go]) ?_
  rintro ⟨i, e⟩ ⟨hi, hinv⟩ ih
  dsimp only at hi hinv ih ⊢
  by_cases h16 : i < 16
  · have hb := bs_get (l := k.b) (i := i) (by omega)
    have hw := wrap_succ (i := i) (by omega)
    have h1 : ((i : Int) < 16) := by omega
    have h2 : (0 : Int) ≤ (i : Int) := by omega
    rw [goodL_drop (by omega)] at hinv
    by_cases hz : k.b[i]'(by omega) = 0
    · simp only [RUN_, u_C_hourglassref10_Good_k1, u_C_hourglassref10_Good_k2, u_C_hourglassref10_Good_k3, u_C_hourglassref10_Good_k4, u_C_hourglassref10_Good_k5, u_C_hourglassref10_Good_k6, u_C_hourglassref10_Good_k7, FR_, Nat.reducePow, Int.reducePow, Nat.reduceAdd, Nat.reduceSub, Nat.reduceMul, Int.reduceToNat, Nat.reduceLeDiff, Nat.reduceEqDiff, Nat.reduceLT, Nat.reduceGT, Int.reduceGT, Int.reduceGE, Int.reduceLT, Int.reduceLE, Int.reduceEq, Int.reduceAdd, Int.reduceSub, Int.reduceNeg, reduceCtorEq, if_true, if_false, ite_true, ite_false, ne_eq, OPK_, KEY_, indexAddrL, h1, h2, hb, u8, hz, UInt8.toNat_zero, hw, Nat.mul_one]
      rw [if_pos hz] at hinv
      exact ih (i + 1, true) _ _ _ (by simp; omega) ⟨by simp; omega, hinv⟩ rfl (app_take_add _ _ _) rfl
    · have hz' : ¬ (((k.b[i]'(by omega)).toNat : Int) = 0) := fun e => hz (u8_zero.1 e)
      rw [if_neg hz] at hinv
      cases e with
      | true =>
        have : goodR k = false := by unfold goodR; rw [hinv]; rfl
        rw [this] at hK
        simp only [RUN_, u_C_hourglassref10_Good_k1, u_C_hourglassref10_Good_k2, u_C_hourglassref10_Good_k3, u_C_hourglassref10_Good_k4, u_C_hourglassref10_Good_k5, u_C_hourglassref10_Good_k6, u_C_hourglassref10_Good_k7, FR_, Nat.reducePow, Int.reducePow, Nat.reduceAdd, Nat.reduceSub, Nat.reduceMul, Int.reduceToNat, Nat.reduceLeDiff, Nat.reduceEqDiff, Nat.reduceLT, Nat.reduceGT, Int.reduceGT, Int.reduceGE, Int.reduceLT, Int.reduceLE, Int.reduceEq, Int.reduceAdd, Int.reduceSub, Int.reduceNeg, reduceCtorEq, if_true, if_false, ite_true, ite_false, ne_eq, OPK_, KEY_, indexAddrL, h1, h2, hb, u8, hz', hw, Nat.mul_one]
        exact hK
      | false =>
        simp only [RUN_, u_C_hourglassref10_Good_k1, u_C_hourglassref10_Good_k2, u_C_hourglassref10_Good_k3, u_C_hourglassref10_Good_k4, u_C_hourglassref10_Good_k5, u_C_hourglassref10_Good_k6, u_C_hourglassref10_Good_k7, FR_, Nat.reducePow, Int.reducePow, Nat.reduceAdd, Nat.reduceSub, Nat.reduceMul, Int.reduceToNat, Nat.reduceLeDiff, Nat.reduceEqDiff, Nat.reduceLT, Nat.reduceGT, Int.reduceGT, Int.reduceGE, Int.reduceLT, Int.reduceLE, Int.reduceEq, Int.reduceAdd, Int.reduceSub, Int.reduceNeg, reduceCtorEq, if_true, if_false, ite_true, ite_false, ne_eq, OPK_, KEY_, indexAddrL, h1, h2, hb, u8, hz', hw, Nat.mul_one]
        exact ih (i + 1, false) _ _ _ (by simp; omega) ⟨by simp; omega, by simpa using hinv⟩ rfl (app_take_add _ _ _) rfl
  · have h1 : ¬ ((i : Int) < 16) := by omega
    have hb := bs_get (l := k.b) (i := 0) (by omega)
    have hd : k.b.drop i = [] := List.drop_of_length_le (by omega)
    rw [hd] at hinv
    have hz : (((k.b[0]'(by omega)).toNat : Int) = 0) ↔ k.b[0]'(by omega) = 0 := u8_zero
    have hg : goodR k = decide (k.b[0]'(by omega) ≠ 0) := by unfold goodR; rw [hinv]; rfl
    rw [hg] at hK
    simp only [RUN_, u_C_hourglassref10_Good_k1, u_C_hourglassref10_Good_k2, u_C_hourglassref10_Good_k3, u_C_hourglassref10_Good_k4, u_C_hourglassref10_Good_k5, u_C_hourglassref10_Good_k6, u_C_hourglassref10_Good_k7, FR_, Nat.reducePow, Int.reducePow, Nat.reduceAdd, Nat.reduceSub, Nat.reduceMul, Int.reduceToNat, Nat.reduceLeDiff, Nat.reduceEqDiff, Nat.reduceLT, Nat.reduceGT, Int.reduceGT, Int.reduceGE, Int.reduceLT, Int.reduceLE, Int.reduceEq, Int.reduceAdd, Int.reduceSub, Int.reduceNeg, reduceCtorEq, if_true, if_false, ite_true, ite_false, ne_eq, OPK_, KEY_, indexAddrL, h1, hb, u8, hz, Nat.mul_one]
    simpa using hK

theorem cmp_drop {a b : List UInt8} {i : Nat} (ha : i < a.length) (hb : i < b.length) : Lib.compareBytes (a.drop i) (b.drop i) = if a[i] < b[i] then -1 else if b[i] < a[i] then 1 else Lib.compareBytes (a.drop (i + 1)) (b.drop (i + 1)) := by
  rw [List.drop_eq_getElem_cons ha, List.drop_eq_getElem_cons hb]; rfl
theorem u8_lt {x y : UInt8} : ((x.toNat : Int) < (y.toNat : Int)) ↔ x < y := by rw [UInt8.lt_iff_toNat_lt]; omega

set_option maxHeartbeats 1000000 in
theorem ref10_Cmp_spec {C : CallW} (hC : LeC C C) (P : Program) : ∀ (a b : Key) S H K, K (.i (Lib.compareBytes a.b b.b)) ⟨S, H⟩ → runL C P C_hourglassref10_Cmp [.agg (bs a.b), .agg (bs b.b)] ⟨S, H⟩ K := by
  intro a b S H K hK
  have hal := a.h
  have hbl := b.h
  simp only [C_hourglassref10_Cmp, RUN_, u_C_hourglassref10_Cmp_k1, u_C_hourglassref10_Cmp_k2, u_C_hourglassref10_Cmp_k3, u_C_hourglassref10_Cmp_k4, u_C_hourglassref10_Cmp_k5, u_C_hourglassref10_Cmp_k6, FR_, Nat.reducePow, Int.reducePow, Nat.reduceAdd, Nat.reduceSub, Nat.reduceMul, Int.reduceToNat, Nat.reduceLeDiff, Nat.reduceEqDiff, Nat.reduceLT, Nat.reduceGT, Int.reduceGT, Int.reduceGE, Int.reduceLT, Int.reduceLE, Int.reduceEq, Int.reduceAdd, Int.reduceSub, Int.reduceNeg, reduceCtorEq, if_true, if_false, ite_true, ite_false, ne_eq, OPK_, KEY_]
  refine loop_rule hC (α := Nat) (fun i => 16 - i) (fun i => [.undef, .undef, .ptr (.stk S.length) 0, .ptr (.stk (S.length + 1)) 0, .undef, .s (.int .i64 i), .undef, .undef, .undef, .undef, .undef, .undef, .undef, .undef, .undef, .undef, .undef, .undef, .undef, .undef, .undef, .undef, .undef, .undef]) (fun _ => S ++ [bs a.b, bs b.b]) (fun _ => H) (fun i => i ≤ 16 ∧ Lib.compareBytes a.b b.b = Lib.compareBytes (a.b.drop i) (b.b.drop i)) 0 ⟨by simp, by simp⟩ rfl (app_take_add _ _ _) rfl (fun i hi => by simp [AV.under, AV.under.go]) ?_
  rintro i ⟨hi, hinv⟩ ih
  by_cases h16 : i < 16
  · have hb := bs_get (l := a.b) (i := i) (by omega)
    have hb' := bs_get (l := b.b) (i := i) (by omega)
    have hw := wrap_succ (i := i) (by omega)
    have h1 : ((i : Int) < 16) := by omega
    have h2 : (0 : Int) ≤ (i : Int) := by omega
    rw [cmp_drop (by omega) (by omega)] at hinv
    by_cases hx : a.b[i]'(by omega) < b.b[i]'(by omega)
    · rw [if_pos hx] at hinv
      rw [hinv] at hK
      have hx' := u8_lt.2 hx
      simp only [RUN_, u_C_hourglassref10_Cmp_k1, u_C_hourglassref10_Cmp_k2, u_C_hourglassref10_Cmp_k3, u_C_hourglassref10_Cmp_k4, u_C_hourglassref10_Cmp_k5, u_C_hourglassref10_Cmp_k6, FR_, Nat.reducePow, Int.reducePow, Nat.reduceAdd, Nat.reduceSub, Nat.reduceMul, Int.reduceToNat, Nat.reduceLeDiff, Nat.reduceEqDiff, Nat.reduceLT, Nat.reduceGT, Int.reduceGT, Int.reduceGE, Int.reduceLT, Int.reduceLE, Int.reduceEq, Int.reduceAdd, Int.reduceSub, Int.reduceNeg, reduceCtorEq, if_true, if_false, ite_true, ite_false, ne_eq, OPK_, KEY_, indexAddrL, h1, h2, hb, hb', u8, hx', hw, Nat.mul_one]
      exact hK
    · rw [if_neg hx] at hinv
      have hx' : ¬ (((a.b[i]'(by omega)).toNat : Int) < ((b.b[i]'(by omega)).toNat : Int)) := fun h => hx (u8_lt.1 h)
      by_cases hy : b.b[i]'(by omega) < a.b[i]'(by omega)
      · rw [if_pos hy] at hinv
        rw [hinv] at hK
        have hy' := u8_lt.2 hy
        simp only [RUN_, u_C_hourglassref10_Cmp_k1, u_C_hourglassref10_Cmp_k2, u_C_hourglassref10_Cmp_k3, u_C_hourglassref10_Cmp_k4, u_C_hourglassref10_Cmp_k5, u_C_hourglassref10_Cmp_k6, FR_, Nat.reducePow, Int.reducePow, Nat.reduceAdd, Nat.reduceSub, Nat.reduceMul, Int.reduceToNat, Nat.reduceLeDiff, Nat.reduceEqDiff, Nat.reduceLT, Nat.reduceGT, Int.reduceGT, Int.reduceGE, Int.reduceLT, Int.reduceLE, Int.reduceEq, Int.reduceAdd, Int.reduceSub, Int.reduceNeg, reduceCtorEq, if_true, if_false, ite_true, ite_false, ne_eq, OPK_, KEY_, indexAddrL, h1, h2, hb, hb', u8, hx', hy', hw, Nat.mul_one]
        exact hK
      · rw [if_neg hy] at hinv
        have hy' : ¬ (((b.b[i]'(by omega)).toNat : Int) < ((a.b[i]'(by omega)).toNat : Int)) := fun h => hy (u8_lt.1 h)
        simp only [RUN_, u_C_hourglassref10_Cmp_k1, u_C_hourglassref10_Cmp_k2, u_C_hourglassref10_Cmp_k3, u_C_hourglassref10_Cmp_k4, u_C_hourglassref10_Cmp_k5, u_C_hourglassref10_Cmp_k6, FR_, Nat.reducePow, Int.reducePow, Nat.reduceAdd, Nat.reduceSub, Nat.reduceMul, Int.reduceToNat, Nat.reduceLeDiff, Nat.reduceEqDiff, Nat.reduceLT, Nat.reduceGT, Int.reduceGT, Int.reduceGE, Int.reduceLT, Int.reduceLE, Int.reduceEq, Int.reduceAdd, Int.reduceSub, Int.reduceNeg, reduceCtorEq, if_true, if_false, ite_true, ite_false, ne_eq, OPK_, KEY_, indexAddrL, h1, h2, hb, hb', u8, hx', hy', hw, Nat.mul_one]
        exact ih (i + 1) _ _ _ (by omega) ⟨by omega, hinv⟩ rfl (app_take_add _ _ _) rfl
  · have h1 : ¬ ((i : Int) < 16) := by omega
    have hd : a.b.drop i = [] := List.drop_of_length_le (by omega)
    have hd' : b.b.drop i = [] := List.drop_of_length_le (by omega)
    rw [hd, hd'] at hinv
    rw [hinv] at hK
    simp only [RUN_, u_C_hourglassref10_Cmp_k1, u_C_hourglassref10_Cmp_k2, u_C_hourglassref10_Cmp_k3, u_C_hourglassref10_Cmp_k4, u_C_hourglassref10_Cmp_k5, u_C_hourglassref10_Cmp_k6, FR_, Nat.reducePow, Int.reducePow, Nat.reduceAdd, Nat.reduceSub, Nat.reduceMul, Int.reduceToNat, Nat.reduceLeDiff, Nat.reduceEqDiff, Nat.reduceLT, Nat.reduceGT, Int.reduceGT, Int.reduceGE, Int.reduceLT, Int.reduceLE, Int.reduceEq, Int.reduceAdd, Int.reduceSub, Int.reduceNeg, reduceCtorEq, if_true, if_false, ite_true, ite_false, ne_eq, OPK_, KEY_, h1]
    exact hK
end Go.AM
namespace Go.AM
open Go
set_option maxRecDepth 20000
set_option linter.unusedSimpArgs false
set_option linter.unusedVariables false

def cmpK (a b : Key) : Int := Lib.compareBytes a.b b.b
def withinK (k a b : Key) : Bool := decide (0 ≤ cmpK k a) && (decide (b = key0) || decide (cmpK k b < 0))

set_option maxHeartbeats 1000000 in
theorem ref10_Within_spec {C : CallW} (hC : LeC C C) (P : Program) {f : FuncId} (hf : KCmp C f) : ∀ (k a b : Key) S H K, K (.bool (withinK k a b)) ⟨S, H⟩ → runL C P (C_hourglassref10_Within f) [.agg (bs k.b), .agg (bs a.b), .agg (bs b.b)] ⟨S, H⟩ K := by
  intro k a b S H K hK
  simp only [C_hourglassref10_Within, RUN_, u_C_hourglassref10_Within_k1, FR_, Nat.reducePow, Int.reducePow, Nat.reduceAdd, Nat.reduceSub, Nat.reduceMul, Int.reduceToNat, Nat.reduceLeDiff, Nat.reduceEqDiff, Nat.reduceLT, Nat.reduceGT, Int.reduceGT, Int.reduceGE, Int.reduceLT, Int.reduceLE, Int.reduceEq, Int.reduceAdd, Int.reduceSub, Int.reduceNeg, reduceCtorEq, if_true, if_false, ite_true, ite_false, ne_eq, OPK_, KEY_]
  refine hf _ _ _ _ _ ?_
  by_cases h1 : (0 : Int) ≤ Lib.compareBytes k.b a.b
  · by_cases h2 : b = key0
    · have e : withinK k a b = true := by simp [withinK, cmpK, h1, h2]
      rw [e] at hK
      simp only [RUN_, u_C_hourglassref10_Within_k1, FR_, Nat.reducePow, Int.reducePow, Nat.reduceAdd, Nat.reduceSub, Nat.reduceMul, Int.reduceToNat, Nat.reduceLeDiff, Nat.reduceEqDiff, Nat.reduceLT, Nat.reduceGT, Int.reduceGT, Int.reduceGE, Int.reduceLT, Int.reduceLE, Int.reduceEq, Int.reduceAdd, Int.reduceSub, Int.reduceNeg, reduceCtorEq, if_true, if_false, ite_true, ite_false, ne_eq, OPK_, KEY_, h1, h2]
      exact hK
    · have e : withinK k a b = decide (Lib.compareBytes k.b b.b < 0) := by unfold withinK cmpK; rw [decide_eq_true h1, decide_eq_false h2]; rfl
      rw [e] at hK
      simp only [RUN_, u_C_hourglassref10_Within_k1, FR_, Nat.reducePow, Int.reducePow, Nat.reduceAdd, Nat.reduceSub, Nat.reduceMul, Int.reduceToNat, Nat.reduceLeDiff, Nat.reduceEqDiff, Nat.reduceLT, Nat.reduceGT, Int.reduceGT, Int.reduceGE, Int.reduceLT, Int.reduceLE, Int.reduceEq, Int.reduceAdd, Int.reduceSub, Int.reduceNeg, reduceCtorEq, if_true, if_false, ite_true, ite_false, ne_eq, OPK_, KEY_, h1, h2]
      refine hf _ _ _ _ _ ?_
      simp only [RUN_, u_C_hourglassref10_Within_k1, FR_, Nat.reducePow, Int.reducePow, Nat.reduceAdd, Nat.reduceSub, Nat.reduceMul, Int.reduceToNat, Nat.reduceLeDiff, Nat.reduceEqDiff, Nat.reduceLT, Nat.reduceGT, Int.reduceGT, Int.reduceGE, Int.reduceLT, Int.reduceLE, Int.reduceEq, Int.reduceAdd, Int.reduceSub, Int.reduceNeg, reduceCtorEq, if_true, if_false, ite_true, ite_false, ne_eq, OPK_, KEY_, h1, h2]
      exact hK
  · have e : withinK k a b = false := by simp [withinK, cmpK, h1]
    rw [e] at hK
    simp only [RUN_, u_C_hourglassref10_Within_k1, FR_, Nat.reducePow, Int.reducePow, Nat.reduceAdd, Nat.reduceSub, Nat.reduceMul, Int.reduceToNat, Nat.reduceLeDiff, Nat.reduceEqDiff, Nat.reduceLT, Nat.reduceGT, Int.reduceGT, Int.reduceGE, Int.reduceLT, Int.reduceLE, Int.reduceEq, Int.reduceAdd, Int.reduceSub, Int.reduceNeg, reduceCtorEq, if_true, if_false, ite_true, ite_false, ne_eq, OPK_, KEY_, h1]
    exact hK

def lstK (l : List Key) : AV := .list .sh 16 (l.map kA)
def ListK (F : List Key → List Key) (pre : List Key → Prop) (C : CallW) (f : FuncId) : Prop := ∀ (l : List Key) S H K, pre l → K (lstK (F l)) ⟨S, H⟩ → C (.fn f) [lstK l] ⟨S, H⟩ K

/-- What Clone brings, before it is told less sharply. -/
def cloneA (l : List Key) (v : AV) : Prop := v = .list .uniq 16 (l.map kA) ∨ (l = [] ∧ (v = .nilS ∨ v = .list .full 16 []))
theorem cloneA_wk {l : List Key} {v : AV} (h : cloneA l v) : WkL [v.sh] [lstK l] := by
  rcases h with rfl | ⟨rfl, rfl | rfl⟩
  · exact .same .nil
  · exact .nilS (by omega) .nil
  · exact .full .nil

set_option maxHeartbeats 1000000 in
theorem slices_Clone_spec {C : CallW} (hC : LeC C C) (P : Program) : ∀ (l : List Key) S H (K : AV → St → Prop), l.length ≤ 1000 → (∀ v, cloneA l v → K v ⟨S, H⟩) → runL C P C_slices_Clone_Key [lstK l] ⟨S, H⟩ K := by
  intro l S H K hl hK
  have he : ∀ (e : ET) (σ : St), e.c = 16 → elemsL e (.list .sh 16 (l.map kA)) σ = some (l.map kA) := fun e σ h => by simp [elemsL, h]
  cases l with
  | nil =>
    simp only [lstK, C_slices_Clone_Key, RUN_, u_C_slices_Clone_Key_k1, u_C_slices_Clone_Key_k2, FR_, Nat.reducePow, Int.reducePow, Nat.reduceAdd, Nat.reduceSub, Nat.reduceMul, Int.reduceToNat, Nat.reduceLeDiff, Nat.reduceEqDiff, Nat.reduceLT, Nat.reduceGT, Int.reduceGT, Int.reduceGE, Int.reduceLT, Int.reduceLE, Int.reduceEq, Int.reduceAdd, Int.reduceSub, Int.reduceNeg, reduceCtorEq, if_true, if_false, ite_true, ite_false, ne_eq, OPK_, KEY_]
    rintro (_ | _)
    · simp only [RUN_, u_C_slices_Clone_Key_k1, u_C_slices_Clone_Key_k2, FR_, Nat.reducePow, Int.reducePow, Nat.reduceAdd, Nat.reduceSub, Nat.reduceMul, Int.reduceToNat, Nat.reduceLeDiff, Nat.reduceEqDiff, Nat.reduceLT, Nat.reduceGT, Int.reduceGT, Int.reduceGE, Int.reduceLT, Int.reduceLE, Int.reduceEq, Int.reduceAdd, Int.reduceSub, Int.reduceNeg, reduceCtorEq, if_true, if_false, ite_true, ite_false, ne_eq, OPK_, KEY_, bslL, appendL, srcL, appItems, elemsL, List.isEmpty_nil, Option.bind_some]
      exact hK _ (.inr ⟨rfl, .inr rfl⟩)
    · simp only [RUN_, u_C_slices_Clone_Key_k1, u_C_slices_Clone_Key_k2, FR_, Nat.reducePow, Int.reducePow, Nat.reduceAdd, Nat.reduceSub, Nat.reduceMul, Int.reduceToNat, Nat.reduceLeDiff, Nat.reduceEqDiff, Nat.reduceLT, Nat.reduceGT, Int.reduceGT, Int.reduceGE, Int.reduceLT, Int.reduceLE, Int.reduceEq, Int.reduceAdd, Int.reduceSub, Int.reduceNeg, reduceCtorEq, if_true, if_false, ite_true, ite_false, ne_eq, OPK_, KEY_]
      exact hK _ (.inr ⟨rfl, .inl rfl⟩)
  | cons k l =>
    have hlow : AV.under.go 0 (l.map kA) = true := kA_low
    simp only [List.length_cons] at hl
    have hb : (l.length + 1) * 16 ≤ 2 ^ 48 := by omega
    simp only [lstK, C_slices_Clone_Key, RUN_, u_C_slices_Clone_Key_k1, u_C_slices_Clone_Key_k2, FR_, Nat.reducePow, Int.reducePow, Nat.reduceAdd, Nat.reduceSub, Nat.reduceMul, Int.reduceToNat, Nat.reduceLeDiff, Nat.reduceEqDiff, Nat.reduceLT, Nat.reduceGT, Int.reduceGT, Int.reduceGE, Int.reduceLT, Int.reduceLE, Int.reduceEq, Int.reduceAdd, Int.reduceSub, Int.reduceNeg, reduceCtorEq, if_true, if_false, ite_true, ite_false, ne_eq, OPK_, KEY_, refEq, bslL, appendL, srcL, appItems, elemsL, List.isEmpty_nil, List.isEmpty_cons, Option.bind_some, hb, Option.map_some, and_self]
    exact hK _ (.inl rfl)

def tabA (l : List Key) : HObj := .cells [lstK l]

set_option maxHeartbeats 1000000 in
theorem Nodes_spec {C : CallW} (hC : LeC C C) (P : Program) : ∀ (l : List Key) (h : Nat) S H (K : AV → St → Prop), H[h]? = some (tabA l) → l.length < 9223372036854775807 → K (.i ((l.length + 1 : Nat) : Int)) ⟨S, H⟩ → runL C P C_route_Table_Nodes [.ptr (.heap h) 0] ⟨S, H⟩ K := by
  intro l h S H K hh hl hK
  have hw : IntKind.i64.wrap ((l.length : Int) + 1) = ((l.length + 1 : Nat) : Int) := by rw [wrap_i64 (by omega) (by omega)]; rfl
  unfold tabA lstK at hh
  simp only [C_route_Table_Nodes, RUN_, u_C_route_Table_Nodes_k1, FR_, Nat.reducePow, Int.reducePow, Nat.reduceAdd, Nat.reduceSub, Nat.reduceMul, Int.reduceToNat, Nat.reduceLeDiff, Nat.reduceEqDiff, Nat.reduceLT, Nat.reduceGT, Int.reduceGT, Int.reduceGE, Int.reduceLT, Int.reduceLE, Int.reduceEq, Int.reduceAdd, Int.reduceSub, Int.reduceNeg, reduceCtorEq, if_true, if_false, ite_true, ite_false, ne_eq, OPK_, KEY_, hh, hw]
  exact hK
end Go.AM
