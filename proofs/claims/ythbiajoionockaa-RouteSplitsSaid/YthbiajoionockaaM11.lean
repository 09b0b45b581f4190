import Derived.Test.YthbiajoionockaaM10
/-! Keys: what the functions of key and of hourglassref10 answer. -/
namespace Go.AM
open Go
set_option maxRecDepth 20000
set_option linter.unusedSimpArgs false
set_option linter.unusedVariables false

def CmpB (C : CallW) (f : FuncId) : Prop := ∀ (a b : List UInt8) (S : List (List AV)) (H : List HObj) (r1 r2 : Nat) (K : AV → St → Prop), S[r1]? = some (bs a) → S[r2]? = some (bs b) → a.length = 16 → b.length = 16 →
  K (.i (Lib.compareBytes a b)) ⟨S, H⟩ → C (.fn f) [.row (.stk r1) 0 16 16, .row (.stk r2) 0 16 16] ⟨S, H⟩ K
def KCmp (C : CallW) (f : FuncId) : Prop := ∀ (a b : Key) S H K, K (.i (Lib.compareBytes a.b b.b)) ⟨S, H⟩ → C (.fn f) [.agg (bs a.b), .agg (bs b.b)] ⟨S, H⟩ K

set_option maxHeartbeats 1000000 in
theorem bytes_Compare_spec {C : CallW} (hC : LeC C C) (P : Program) {f : FuncId} (hf : CmpB C f) : ∀ (a b : List UInt8) (S : List (List AV)) (H : List HObj) (r1 r2 : Nat) (K : AV → St → Prop), S[r1]? = some (bs a) → S[r2]? = some (bs b) → a.length = 16 → b.length = 16 →
  K (.i (Lib.compareBytes a b)) ⟨S, H⟩ → runL C P (C_bytes_Compare f) [.row (.stk r1) 0 16 16, .row (.stk r2) 0 16 16] ⟨S, H⟩ K := by
  intro a b S H r1 r2 K h1 h2 ha hb hK
  simp only [C_bytes_Compare, RUN_, u_C_bytes_Compare_k1, FR_, Nat.reducePow, Int.reducePow, Nat.reduceAdd, Nat.reduceSub, Nat.reduceMul, Int.reduceToNat, Nat.reduceLeDiff, Nat.reduceEqDiff, Nat.reduceLT, Nat.reduceGT, Int.reduceGT, Int.reduceGE, Int.reduceLT, Int.reduceLE, Int.reduceEq, Int.reduceAdd, Int.reduceSub, Int.reduceNeg, reduceCtorEq, if_true, if_false, ite_true, ite_false, ne_eq, eq_self, OPK_, KEY_]
  refine hf a b S H r1 r2 _ h1 h2 ha hb ?_
  simp only [RUN_, u_C_bytes_Compare_k1, FR_, Nat.reducePow, Int.reducePow, Nat.reduceAdd, Nat.reduceSub, Nat.reduceMul, Int.reduceToNat, Nat.reduceLeDiff, Nat.reduceEqDiff, Nat.reduceLT, Nat.reduceGT, Int.reduceGT, Int.reduceGE, Int.reduceLT, Int.reduceLE, Int.reduceEq, Int.reduceAdd, Int.reduceSub, Int.reduceNeg, reduceCtorEq, if_true, if_false, ite_true, ite_false, ne_eq, eq_self, OPK_, KEY_, List.take_length]
  exact hK

set_option maxHeartbeats 1000000 in
theorem key_Cmp_spec {C : CallW} (hC : LeC C C) (P : Program) {f : FuncId} (hf : CmpB C f) : ∀ (a b : Key) S H K, K (.i (Lib.compareBytes a.b b.b)) ⟨S, H⟩ → runL C P (C_key_Cmp f) [.agg (bs a.b), .agg (bs b.b)] ⟨S, H⟩ K := by
  intro a b S H K hK
  simp only [C_key_Cmp, RUN_, u_C_key_Cmp_k1, FR_, Nat.reducePow, Int.reducePow, Nat.reduceAdd, Nat.reduceSub, Nat.reduceMul, Int.reduceToNat, Nat.reduceLeDiff, Nat.reduceEqDiff, Nat.reduceLT, Nat.reduceGT, Int.reduceGT, Int.reduceGE, Int.reduceLT, Int.reduceLE, Int.reduceEq, Int.reduceAdd, Int.reduceSub, Int.reduceNeg, reduceCtorEq, if_true, if_false, ite_true, ite_false, ne_eq, eq_self, OPK_, KEY_]
  refine hf a.b b.b _ _ _ _ _ ?_ ?_ a.h b.h ?_
  · simp
  · simp
  simp only [RUN_, u_C_key_Cmp_k1, FR_, Nat.reducePow, Int.reducePow, Nat.reduceAdd, Nat.reduceSub, Nat.reduceMul, Int.reduceToNat, Nat.reduceLeDiff, Nat.reduceEqDiff, Nat.reduceLT, Nat.reduceGT, Int.reduceGT, Int.reduceGE, Int.reduceLT, Int.reduceLE, Int.reduceEq, Int.reduceAdd, Int.reduceSub, Int.reduceNeg, reduceCtorEq, if_true, if_false, ite_true, ite_false, ne_eq, eq_self, OPK_, KEY_]
  exact hK

def IdxS (C : CallW) (f : FuncId) : Prop := ∀ (l : List UInt8) (S : List (List AV)) (H : List HObj) (K : AV → St → Prop), K (.i (Lib.indexByte l 0)) ⟨S, H⟩ → C (.fn f) [.s (.str l), .s (.int .u8 0)] ⟨S, H⟩ K

theorem strings_IndexByte_spec {C : CallW} (hC : LeC C C) (P : Program) {f : FuncId} (hf : IdxS C f) : ∀ (l : List UInt8) (S : List (List AV)) (H : List HObj) (K : AV → St → Prop), K (.i (Lib.indexByte l 0)) ⟨S, H⟩ → runL C P (C_strings_IndexByte f) [.s (.str l), .s (.int .u8 0)] ⟨S, H⟩ K := by
  intro l S H K hK
  simp only [C_strings_IndexByte, RUN_, u_C_strings_IndexByte_k1, FR_, Nat.reducePow, Int.reducePow, Nat.reduceAdd, Nat.reduceSub, Nat.reduceMul, Int.reduceToNat, Nat.reduceLeDiff, Nat.reduceEqDiff, Nat.reduceLT, Nat.reduceGT, Int.reduceGT, Int.reduceGE, Int.reduceLT, Int.reduceLE, Int.reduceEq, Int.reduceAdd, Int.reduceSub, Int.reduceNeg, reduceCtorEq, if_true, if_false, ite_true, ite_false, ne_eq, eq_self, OPK_, KEY_]
  refine hf _ _ _ _ ?_
  simp only [RUN_, u_C_strings_IndexByte_k1, FR_, Nat.reducePow, Int.reducePow, Nat.reduceAdd, Nat.reduceSub, Nat.reduceMul, Int.reduceToNat, Nat.reduceLeDiff, Nat.reduceEqDiff, Nat.reduceLT, Nat.reduceGT, Int.reduceGT, Int.reduceGE, Int.reduceLT, Int.reduceLE, Int.reduceEq, Int.reduceAdd, Int.reduceSub, Int.reduceNeg, reduceCtorEq, if_true, if_false, ite_true, ite_false, ne_eq, eq_self, OPK_, KEY_, List.take_length]
  exact hK
theorem stringslite_IndexByte_spec {C : CallW} (hC : LeC C C) (P : Program) {f : FuncId} (hf : IdxS C f) : ∀ (l : List UInt8) (S : List (List AV)) (H : List HObj) (K : AV → St → Prop), K (.i (Lib.indexByte l 0)) ⟨S, H⟩ → runL C P (C_internal_stringslite_IndexByte f) [.s (.str l), .s (.int .u8 0)] ⟨S, H⟩ K := by
  intro l S H K hK
  simp only [C_internal_stringslite_IndexByte, RUN_, u_C_internal_stringslite_IndexByte_k1, FR_, Nat.reducePow, Int.reducePow, Nat.reduceAdd, Nat.reduceSub, Nat.reduceMul, Int.reduceToNat, Nat.reduceLeDiff, Nat.reduceEqDiff, Nat.reduceLT, Nat.reduceGT, Int.reduceGT, Int.reduceGE, Int.reduceLT, Int.reduceLE, Int.reduceEq, Int.reduceAdd, Int.reduceSub, Int.reduceNeg, reduceCtorEq, if_true, if_false, ite_true, ite_false, ne_eq, eq_self, OPK_, KEY_]
  refine hf _ _ _ _ ?_
  simp only [RUN_, u_C_internal_stringslite_IndexByte_k1, FR_, Nat.reducePow, Int.reducePow, Nat.reduceAdd, Nat.reduceSub, Nat.reduceMul, Int.reduceToNat, Nat.reduceLeDiff, Nat.reduceEqDiff, Nat.reduceLT, Nat.reduceGT, Int.reduceGT, Int.reduceGE, Int.reduceLT, Int.reduceLE, Int.reduceEq, Int.reduceAdd, Int.reduceSub, Int.reduceNeg, reduceCtorEq, if_true, if_false, ite_true, ite_false, ne_eq, eq_self, OPK_, KEY_, List.take_length]
  exact hK

/-- A text as a key's bytes. -/
def padB (s : List UInt8) : List UInt8 := s.take 16 ++ List.replicate (16 - s.length) 0
def padK (s : List UInt8) : Key := ⟨padB s, by simp [padB]; omega⟩
def badT (s : List UInt8) : Prop := s = [] ∨ 16 < s.length ∨ (0 : UInt8) ∈ s
instance (s : List UInt8) : Decidable (badT s) := inferInstanceAs (Decidable (_ ∨ _))
def keyOf (s : List UInt8) : Key × Int := if badT s then (key0, 1) else (padK s, 0)

theorem idx_neg {l : List UInt8} : Lib.indexByte l 0 ≥ 0 ↔ (0 : UInt8) ∈ l := by
  induction l with
  | nil => simp [Lib.indexByte]
  | cons x l ih =>
    simp only [Lib.indexByte, beq_iff_eq, List.mem_cons]
    by_cases h : x = 0
    · simp [h]
    · rw [if_neg h]
      have hge := Lib.indexByte_ge l 0
      by_cases h1 : Lib.indexByte l 0 = -1
      · rw [if_pos h1]
        have : ¬ ((0 : UInt8) ∈ l) := fun hm => by have := ih.2 hm; omega
        simp [this]; exact fun e => h e.symm
      · rw [if_neg h1]
        have : (0 : UInt8) ∈ l := ih.1 (by omega)
        simp [this]; omega

theorem splice_zero {cs vs : List AV} (h : vs.length ≤ cs.length) : splice cs 0 vs = vs ++ cs.drop vs.length := by
  unfold splice
  split
  · cases cs with
    | nil => simp at h
    | cons c cs => simp
  · simp

theorem flat_bs (l : List UInt8) : (bs l).flatMap AV.cells = bs l := by
  induction l with
  | nil => rfl
  | cons x l ih => show [u8 x] ++ (bs l).flatMap AV.cells = _; rw [ih]; rfl

theorem copy_str {e : ET} {S l : List (List AV)} {H : List HObj} {j : Nat} {s : List UInt8} {k : Key} (he : e.c = 1) (hj : j < l.length) (hk : l.getD j [] = bs k.b) (hs : s.length ≤ 16) :
    copyL e true (.row (.stk (S.length + j)) 0 16 16) (.s (.str s)) ⟨S ++ l, H⟩ = some (.i s.length, ⟨S ++ l.set j (bs (s ++ k.b.drop s.length)), H⟩) := by
  have e1 : l[j]? = some (bs k.b) := by rw [← hk]; simp [List.getD, hj]
  have hi : elemsL e (.s (.str s)) ⟨S ++ l, H⟩ = some (bs s) := by simp [elemsL, he, bs, u8]
  unfold copyL
  simp only [srcL, AV.isStr, if_true, hi]
  rw [List.take_of_length_le (by rw [bs_length]; exact hs), flat_bs, bs_length]
  simp only [writeCells, boxOf_stk, app_get, e1, Option.bind_some, mayHold, under_bs, bs_length, k.h, Nat.zero_add, hs, decide_true, Bool.and_self, if_true, Option.map_some, setBox_stk, app_set]
  rw [splice_zero (by rw [bs_length, bs_length, k.h]; exact hs), bs_length, bs_drop]
  simp only [bs, List.map_append]

theorem pad_drop {s : List UInt8} (hs : s.length ≤ 16) : s ++ key0.b.drop s.length = padB s := by
  unfold padB key0
  rw [List.take_of_length_le hs, List.drop_replicate]

def OfK (C : CallW) (f : FuncId) : Prop := ∀ (s : List UInt8) (S : List (List AV)) (H : List HObj) (K : AV → St → Prop), K (.tup [.agg (bs (keyOf s).1.b), .i (keyOf s).2]) ⟨S, H⟩ → C (.fn f) [.s (.str s)] ⟨S, H⟩ K

set_option maxHeartbeats 1000000 in
theorem key_Of_spec {C : CallW} (hC : LeC C C) (P : Program) {f : FuncId} (hf : IdxS C f) : ∀ (s : List UInt8) (S : List (List AV)) (H : List HObj) (K : AV → St → Prop), K (.tup [.agg (bs (keyOf s).1.b), .i (keyOf s).2]) ⟨S, H⟩ → runL C P (C_key_Of f) [.s (.str s)] ⟨S, H⟩ K := by
  intro s S H K hK
  have key0l : (bs key0.b).length = 16 := rfl
  by_cases h0 : s = []
  · have e : keyOf s = (key0, 1) := if_pos (.inl h0)
    rw [e] at hK
    simp only [C_key_Of, RUN_, u_C_key_Of_k1, u_C_key_Of_k2, u_C_key_Of_k3, u_C_key_Of_k4, FR_, Nat.reducePow, Int.reducePow, Nat.reduceAdd, Nat.reduceSub, Nat.reduceMul, Int.reduceToNat, Nat.reduceLeDiff, Nat.reduceEqDiff, Nat.reduceLT, Nat.reduceGT, Int.reduceGT, Int.reduceGE, Int.reduceLT, Int.reduceLE, Int.reduceEq, Int.reduceAdd, Int.reduceSub, Int.reduceNeg, reduceCtorEq, if_true, if_false, ite_true, ite_false, ne_eq, eq_self, OPK_, KEY_, h0]
    exact hK
  · have h0' : ¬ (s.length = 0) := fun e => h0 (List.length_eq_zero_iff.1 e)
    by_cases h1 : 16 < s.length
    · have e : keyOf s = (key0, 1) := if_pos (.inr (.inl h1))
      rw [e] at hK
      have h1' : (16 : Int) < (s.length : Int) := by omega
      simp only [C_key_Of, RUN_, u_C_key_Of_k1, u_C_key_Of_k2, u_C_key_Of_k3, u_C_key_Of_k4, FR_, Nat.reducePow, Int.reducePow, Nat.reduceAdd, Nat.reduceSub, Nat.reduceMul, Int.reduceToNat, Nat.reduceLeDiff, Nat.reduceEqDiff, Nat.reduceLT, Nat.reduceGT, Int.reduceGT, Int.reduceGE, Int.reduceLT, Int.reduceLE, Int.reduceEq, Int.reduceAdd, Int.reduceSub, Int.reduceNeg, reduceCtorEq, if_true, if_false, ite_true, ite_false, ne_eq, eq_self, OPK_, KEY_, h0, h1']
      exact hK
    · have h1' : ¬ ((16 : Int) < (s.length : Int)) := by omega
      simp only [C_key_Of, RUN_, u_C_key_Of_k1, u_C_key_Of_k2, u_C_key_Of_k3, u_C_key_Of_k4, FR_, Nat.reducePow, Int.reducePow, Nat.reduceAdd, Nat.reduceSub, Nat.reduceMul, Int.reduceToNat, Nat.reduceLeDiff, Nat.reduceEqDiff, Nat.reduceLT, Nat.reduceGT, Int.reduceGT, Int.reduceGE, Int.reduceLT, Int.reduceLE, Int.reduceEq, Int.reduceAdd, Int.reduceSub, Int.reduceNeg, reduceCtorEq, if_true, if_false, ite_true, ite_false, ne_eq, eq_self, OPK_, KEY_, h0, h1']
      refine hf _ _ _ _ ?_
      by_cases h2 : (0 : UInt8) ∈ s
      · have e : keyOf s = (key0, 1) := if_pos (.inr (.inr h2))
        rw [e] at hK
        have h2' : (0 : Int) ≤ Lib.indexByte s 0 := idx_neg.2 h2
        simp only [RUN_, u_C_key_Of_k1, u_C_key_Of_k2, u_C_key_Of_k3, u_C_key_Of_k4, FR_, Nat.reducePow, Int.reducePow, Nat.reduceAdd, Nat.reduceSub, Nat.reduceMul, Int.reduceToNat, Nat.reduceLeDiff, Nat.reduceEqDiff, Nat.reduceLT, Nat.reduceGT, Int.reduceGT, Int.reduceGE, Int.reduceLT, Int.reduceLE, Int.reduceEq, Int.reduceAdd, Int.reduceSub, Int.reduceNeg, reduceCtorEq, if_true, if_false, ite_true, ite_false, ne_eq, eq_self, OPK_, KEY_, h2']
        exact hK
      · have e : keyOf s = (padK s, 0) := if_neg (by rintro (h | h | h) <;> contradiction)
        rw [e] at hK
        have h2' : ¬ ((0 : Int) ≤ Lib.indexByte s 0) := fun h => h2 (idx_neg.1 h)
        have hcp := copy_str (e := ⟨1, false, 1, .s (.int .u8 0)⟩) (S := S) (l := [bs key0.b, bs key0.b]) (H := H) (j := 1) (s := s) (k := key0) rfl (by simp) rfl (by omega)
        rw [pad_drop (by omega)] at hcp
        have hk2 : (bs (padB s)).length = 16 := by rw [bs_length]; exact (padK s).h
        simp only [RUN_, u_C_key_Of_k1, u_C_key_Of_k2, u_C_key_Of_k3, u_C_key_Of_k4, FR_, Nat.reducePow, Int.reducePow, Nat.reduceAdd, Nat.reduceSub, Nat.reduceMul, Int.reduceToNat, Nat.reduceLeDiff, Nat.reduceEqDiff, Nat.reduceLT, Nat.reduceGT, Int.reduceGT, Int.reduceGE, Int.reduceLT, Int.reduceLE, Int.reduceEq, Int.reduceAdd, Int.reduceSub, Int.reduceNeg, reduceCtorEq, if_true, if_false, ite_true, ite_false, ne_eq, eq_self, OPK_, KEY_, h2', hcp, hk2]
        exact hK
end Go.AM
namespace Go.AM
open Go
set_option maxRecDepth 20000
set_option linter.unusedSimpArgs false
set_option linter.unusedVariables false

def TextS (C : CallW) (f : FuncId) : Prop := ∀ (k : Key) S H K, K (.str (textOf k)) ⟨S, H⟩ → C (.fn f) [.agg (bs k.b)] ⟨S, H⟩ K
def BoolK (g : Key → Bool) (C : CallW) (f : FuncId) : Prop := ∀ (k : Key) S H K, K (.bool (g k)) ⟨S, H⟩ → C (.fn f) [.agg (bs k.b)] ⟨S, H⟩ K

theorem text_nz (k : Key) : (0 : UInt8) ∉ textOf k := by
  intro h
  have h2 : ∀ (l : List UInt8), (0 : UInt8) ∉ l.takeWhile (· != 0) := by
    intro l
    induction l with
    | nil => simp
    | cons x l ih =>
      rw [List.takeWhile_cons]
      split
      · rename_i hx
        intro h
        rcases List.mem_cons.1 h with h | h
        · subst h; simp at hx
        · exact ih h
      · simp
  exact h2 _ h
theorem text_len (k : Key) : (textOf k).length ≤ 16 := by
  have := (List.takeWhile_sublist (fun x : UInt8 => x != 0) (l := k.b)).length_le
  rw [k.h] at this
  exact this

def goodK (k : Key) : Bool := decide (textOf k ≠ []) && decide (padK (textOf k) = k)

theorem good_of (k : Key) : goodK k = (decide ((keyOf (textOf k)).2 = 0) && decide ((keyOf (textOf k)).1 = k)) := by
  unfold goodK keyOf
  by_cases h : textOf k = []
  · rw [if_pos (.inl h)]; simp [h]
  · rw [if_neg (by
      rintro (h1 | h1 | h1)
      · exact h h1
      · have := text_len k; omega
      · exact text_nz k h1)]
    simp [h]

set_option maxHeartbeats 1000000 in
theorem key_Good_spec {C : CallW} (hC : LeC C C) (P : Program) {f1 f2 : FuncId} (h1 : TextS C f1) (h2 : OfK C f2) : ∀ (k : Key) S H K, K (.bool (goodK k)) ⟨S, H⟩ → runL C P (C_key_Good f1 f2) [.agg (bs k.b)] ⟨S, H⟩ K := by
  intro k S H K hK
  rw [good_of] at hK
  simp only [C_key_Good, RUN_, u_C_key_Good_k1, u_C_key_Good_k2, FR_, Nat.reducePow, Int.reducePow, Nat.reduceAdd, Nat.reduceSub, Nat.reduceMul, Int.reduceToNat, Nat.reduceLeDiff, Nat.reduceEqDiff, Nat.reduceLT, Nat.reduceGT, Int.reduceGT, Int.reduceGE, Int.reduceLT, Int.reduceLE, Int.reduceEq, Int.reduceAdd, Int.reduceSub, Int.reduceNeg, reduceCtorEq, if_true, if_false, ite_true, ite_false, ne_eq, eq_self, OPK_, KEY_]
  refine h1 _ _ _ _ ?_
  simp only [RUN_, u_C_key_Good_k1, u_C_key_Good_k2, FR_, Nat.reducePow, Int.reducePow, Nat.reduceAdd, Nat.reduceSub, Nat.reduceMul, Int.reduceToNat, Nat.reduceLeDiff, Nat.reduceEqDiff, Nat.reduceLT, Nat.reduceGT, Int.reduceGT, Int.reduceGE, Int.reduceLT, Int.reduceLE, Int.reduceEq, Int.reduceAdd, Int.reduceSub, Int.reduceNeg, reduceCtorEq, if_true, if_false, ite_true, ite_false, ne_eq, eq_self, OPK_, KEY_]
  refine h2 _ _ _ _ ?_
  by_cases he : (keyOf (textOf k)).2 = 0
  · simp only [RUN_, u_C_key_Good_k1, u_C_key_Good_k2, FR_, Nat.reducePow, Int.reducePow, Nat.reduceAdd, Nat.reduceSub, Nat.reduceMul, Int.reduceToNat, Nat.reduceLeDiff, Nat.reduceEqDiff, Nat.reduceLT, Nat.reduceGT, Int.reduceGT, Int.reduceGE, Int.reduceLT, Int.reduceLE, Int.reduceEq, Int.reduceAdd, Int.reduceSub, Int.reduceNeg, reduceCtorEq, if_true, if_false, ite_true, ite_false, ne_eq, eq_self, OPK_, KEY_, he]
    rw [he] at hK
    simpa using hK
  · simp only [RUN_, u_C_key_Good_k1, u_C_key_Good_k2, FR_, Nat.reducePow, Int.reducePow, Nat.reduceAdd, Nat.reduceSub, Nat.reduceMul, Int.reduceToNat, Nat.reduceLeDiff, Nat.reduceEqDiff, Nat.reduceLT, Nat.reduceGT, Int.reduceGT, Int.reduceGE, Int.reduceLT, Int.reduceLE, Int.reduceEq, Int.reduceAdd, Int.reduceSub, Int.reduceNeg, reduceCtorEq, if_true, if_false, ite_true, ite_false, ne_eq, eq_self, OPK_, KEY_, he]
    simpa [he] using hK

/-! hourglassref10 -/
def goodL : Bool → List UInt8 → Bool
  | _, [] => true
  | e, x :: l => if x = 0 then goodL true l else if e then false else goodL false l
def goodR (k : Key) : Bool := goodL false k.b && decide (k.b[0]'(by rw [k.h]; omega) ≠ 0)

theorem goodL_drop {e : Bool} {l : List UInt8} {i : Nat} (h : i < l.length) : goodL e (l.drop i) = if l[i] = 0 then goodL true (l.drop (i + 1)) else if e then false else goodL false (l.drop (i + 1)) := by
  rw [List.drop_eq_getElem_cons h]; rfl

theorem wrap_succ {i : Nat} (h : i < 4611686018427387904) : IntKind.i64.wrap ((i : Int) + 1) = ((i + 1 : Nat) : Int) := by rw [wrap_i64 (by omega) (by omega)]; rfl
theorem u8_zero {x : UInt8} : ((x.toNat : Int) = 0) ↔ x = 0 := ⟨fun h => UInt8.toNat_inj.1 (by simp; omega), fun h => by subst h; rfl⟩

set_option maxHeartbeats 1000000 in
theorem ref10_Good_spec {C : CallW} (hC : LeC C C) (P : Program) : ∀ (k : Key) S H K, K (.bool (goodR k)) ⟨S, H⟩ → runL C P C_hourglassref10_Good [.agg (bs k.b)] ⟨S, H⟩ K := by
  intro k S H K hK
  have hkl := k.h
  simp only [C_hourglassref10_Good, RUN_, u_C_hourglassref10_Good_k1, u_C_hourglassref10_Good_k2, u_C_hourglassref10_Good_k3, u_C_hourglassref10_Good_k4, u_C_hourglassref10_Good_k5, u_C_hourglassref10_Good_k6, u_C_hourglassref10_Good_k7, FR_, Nat.reducePow, Int.reducePow, Nat.reduceAdd, Nat.reduceSub, Nat.reduceMul, Int.reduceToNat, Nat.reduceLeDiff, Nat.reduceEqDiff, Nat.reduceLT, Nat.reduceGT, Int.reduceGT, Int.reduceGE, Int.reduceLT, Int.reduceLE, Int.reduceEq, Int.reduceAdd, Int.reduceSub, Int.reduceNeg, reduceCtorEq, if_true, if_false, ite_true, ite_false, ne_eq, eq_self, OPK_, KEY_]
  refine loop_rule hC (α := Nat × Bool) (fun a => 16 - a.1) (fun a => [.undef, .ptr (.stk S.length) 0, .undef, .bool a.2, .s (.int .i64 a.1), .undef, .undef, .undef, .undef, .undef, .undef, .undef, .undef, .undef, .undef, .undef, .undef]) (fun _ => S ++ [bs k.b]) (fun _ => H) (fun a => a.1 ≤ 16 ∧ goodL false k.b = goodL a.2 (k.b.drop a.1)) (0, false) ⟨by simp, by simp⟩ rfl (app_take_add _ _ _) rfl (fun i hi => by simp [AV.under, AV.under.go]) ?_
  rintro ⟨i, e⟩ ⟨hi, hinv⟩ ih
  dsimp only at hi hinv ih ⊢
  by_cases h16 : i < 16
  · have hb := bs_get (l := k.b) (i := i) (by omega)
    have hw := wrap_succ (i := i) (by omega)
    have h1 : ((i : Int) < 16) := by omega
    have h2 : (0 : Int) ≤ (i : Int) := by omega
    rw [goodL_drop (by omega)] at hinv
    by_cases hz : k.b[i]'(by omega) = 0
    · simp only [RUN_, u_C_hourglassref10_Good_k1, u_C_hourglassref10_Good_k2, u_C_hourglassref10_Good_k3, u_C_hourglassref10_Good_k4, u_C_hourglassref10_Good_k5, u_C_hourglassref10_Good_k6, u_C_hourglassref10_Good_k7, FR_, Nat.reducePow, Int.reducePow, Nat.reduceAdd, Nat.reduceSub, Nat.reduceMul, Int.reduceToNat, Nat.reduceLeDiff, Nat.reduceEqDiff, Nat.reduceLT, Nat.reduceGT, Int.reduceGT, Int.reduceGE, Int.reduceLT, Int.reduceLE, Int.reduceEq, Int.reduceAdd, Int.reduceSub, Int.reduceNeg, reduceCtorEq, if_true, if_false, ite_true, ite_false, ne_eq, eq_self, OPK_, KEY_, indexAddrL, h1, h2, hb, u8, hz, UInt8.toNat_zero, hw, Nat.mul_one]
      rw [if_pos hz] at hinv
      exact ih (i + 1, true) _ _ _ (by simp; omega) ⟨by simp; omega, hinv⟩ rfl (app_take_add _ _ _) rfl
    · have hz' : ¬ (((k.b[i]'(by omega)).toNat : Int) = 0) := fun e => hz (u8_zero.1 e)
      rw [if_neg hz] at hinv
      cases e with
      | true =>
        have : goodR k = false := by unfold goodR; rw [hinv]; rfl
        rw [this] at hK
        simp only [RUN_, u_C_hourglassref10_Good_k1, u_C_hourglassref10_Good_k2, u_C_hourglassref10_Good_k3, u_C_hourglassref10_Good_k4, u_C_hourglassref10_Good_k5, u_C_hourglassref10_Good_k6, u_C_hourglassref10_Good_k7, FR_, Nat.reducePow, Int.reducePow, Nat.reduceAdd, Nat.reduceSub, Nat.reduceMul, Int.reduceToNat, Nat.reduceLeDiff, Nat.reduceEqDiff, Nat.reduceLT, Nat.reduceGT, Int.reduceGT, Int.reduceGE, Int.reduceLT, Int.reduceLE, Int.reduceEq, Int.reduceAdd, Int.reduceSub, Int.reduceNeg, reduceCtorEq, if_true, if_false, ite_true, ite_false, ne_eq, eq_self, OPK_, KEY_, indexAddrL, h1, h2, hb, u8, hz', hw, Nat.mul_one]
        exact hK
      | false =>
        simp only [RUN_, u_C_hourglassref10_Good_k1, u_C_hourglassref10_Good_k2, u_C_hourglassref10_Good_k3, u_C_hourglassref10_Good_k4, u_C_hourglassref10_Good_k5, u_C_hourglassref10_Good_k6, u_C_hourglassref10_Good_k7, FR_, Nat.reducePow, Int.reducePow, Nat.reduceAdd, Nat.reduceSub, Nat.reduceMul, Int.reduceToNat, Nat.reduceLeDiff, Nat.reduceEqDiff, Nat.reduceLT, Nat.reduceGT, Int.reduceGT, Int.reduceGE, Int.reduceLT, Int.reduceLE, Int.reduceEq, Int.reduceAdd, Int.reduceSub, Int.reduceNeg, reduceCtorEq, if_true, if_false, ite_true, ite_false, ne_eq, eq_self, OPK_, KEY_, indexAddrL, h1, h2, hb, u8, hz', hw, Nat.mul_one]
        exact ih (i + 1, false) _ _ _ (by simp; omega) ⟨by simp; omega, by simpa using hinv⟩ rfl (app_take_add _ _ _) rfl
  · have h1 : ¬ ((i : Int) < 16) := by omega
    have hb := bs_get (l := k.b) (i := 0) (by omega)
    have hd : k.b.drop i = [] := List.drop_of_length_le (by omega)
    rw [hd] at hinv
    have hz : (((k.b[0]'(by omega)).toNat : Int) = 0) ↔ k.b[0]'(by omega) = 0 := u8_zero
    have hg : goodR k = decide (k.b[0]'(by omega) ≠ 0) := by unfold goodR; rw [hinv]; rfl
    rw [hg] at hK
    simp only [RUN_, u_C_hourglassref10_Good_k1, u_C_hourglassref10_Good_k2, u_C_hourglassref10_Good_k3, u_C_hourglassref10_Good_k4, u_C_hourglassref10_Good_k5, u_C_hourglassref10_Good_k6, u_C_hourglassref10_Good_k7, FR_, Nat.reducePow, Int.reducePow, Nat.reduceAdd, Nat.reduceSub, Nat.reduceMul, Int.reduceToNat, Nat.reduceLeDiff, Nat.reduceEqDiff, Nat.reduceLT, Nat.reduceGT, Int.reduceGT, Int.reduceGE, Int.reduceLT, Int.reduceLE, Int.reduceEq, Int.reduceAdd, Int.reduceSub, Int.reduceNeg, reduceCtorEq, if_true, if_false, ite_true, ite_false, ne_eq, eq_self, OPK_, KEY_, indexAddrL, h1, hb, u8, hz, Nat.mul_one]
    simpa using hK

theorem cmp_drop {a b : List UInt8} {i : Nat} (ha : i < a.length) (hb : i < b.length) : Lib.compareBytes (a.drop i) (b.drop i) = if a[i] < b[i] then -1 else if b[i] < a[i] then 1 else Lib.compareBytes (a.drop (i + 1)) (b.drop (i + 1)) := by
  rw [List.drop_eq_getElem_cons ha, List.drop_eq_getElem_cons hb]; rfl
theorem u8_lt {x y : UInt8} : ((x.toNat : Int) < (y.toNat : Int)) ↔ x < y := by rw [UInt8.lt_iff_toNat_lt]; omega

set_option maxHeartbeats 1000000 in
theorem ref10_Cmp_spec {C : CallW} (hC : LeC C C) (P : Program) : ∀ (a b : Key) S H K, K (.i (Lib.compareBytes a.b b.b)) ⟨S, H⟩ → runL C P C_hourglassref10_Cmp [.agg (bs a.b), .agg (bs b.b)] ⟨S, H⟩ K := by
  intro a b S H K hK
  have hal := a.h
  have hbl := b.h
  simp only [C_hourglassref10_Cmp, RUN_, u_C_hourglassref10_Cmp_k1, u_C_hourglassref10_Cmp_k2, u_C_hourglassref10_Cmp_k3, u_C_hourglassref10_Cmp_k4, u_C_hourglassref10_Cmp_k5, u_C_hourglassref10_Cmp_k6, FR_, Nat.reducePow, Int.reducePow, Nat.reduceAdd, Nat.reduceSub, Nat.reduceMul, Int.reduceToNat, Nat.reduceLeDiff, Nat.reduceEqDiff, Nat.reduceLT, Nat.reduceGT, Int.reduceGT, Int.reduceGE, Int.reduceLT, Int.reduceLE, Int.reduceEq, Int.reduceAdd, Int.reduceSub, Int.reduceNeg, reduceCtorEq, if_true, if_false, ite_true, ite_false, ne_eq, eq_self, OPK_, KEY_]
  refine loop_rule hC (α := Nat) (fun i => 16 - i) (fun i => [.undef, .undef, .ptr (.stk S.length) 0, .ptr (.stk (S.length + 1)) 0, .undef, .s (.int .i64 i), .undef, .undef, .undef, .undef, .undef, .undef, .undef, .undef, .undef, .undef, .undef, .undef, .undef, .undef, .undef, .undef, .undef, .undef]) (fun _ => S ++ [bs a.b, bs b.b]) (fun _ => H) (fun i => i ≤ 16 ∧ Lib.compareBytes a.b b.b = Lib.compareBytes (a.b.drop i) (b.b.drop i)) 0 ⟨by simp, by simp⟩ rfl (app_take_add _ _ _) rfl (fun i hi => by simp [AV.under, AV.under.go]) ?_
  rintro i ⟨hi, hinv⟩ ih
  by_cases h16 : i < 16
  · have hb := bs_get (l := a.b) (i := i) (by omega)
    have hb' := bs_get (l := b.b) (i := i) (by omega)
    have hw := wrap_succ (i := i) (by omega)
    have h1 : ((i : Int) < 16) := by omega
    have h2 : (0 : Int) ≤ (i : Int) := by omega
    rw [cmp_drop (by omega) (by omega)] at hinv
    by_cases hx : a.b[i]'(by omega) < b.b[i]'(by omega)
    · rw [if_pos hx] at hinv
      rw [hinv] at hK
      have hx' := u8_lt.2 hx
      simp only [RUN_, u_C_hourglassref10_Cmp_k1, u_C_hourglassref10_Cmp_k2, u_C_hourglassref10_Cmp_k3, u_C_hourglassref10_Cmp_k4, u_C_hourglassref10_Cmp_k5, u_C_hourglassref10_Cmp_k6, FR_, Nat.reducePow, Int.reducePow, Nat.reduceAdd, Nat.reduceSub, Nat.reduceMul, Int.reduceToNat, Nat.reduceLeDiff, Nat.reduceEqDiff, Nat.reduceLT, Nat.reduceGT, Int.reduceGT, Int.reduceGE, Int.reduceLT, Int.reduceLE, Int.reduceEq, Int.reduceAdd, Int.reduceSub, Int.reduceNeg, reduceCtorEq, if_true, if_false, ite_true, ite_false, ne_eq, eq_self, OPK_, KEY_, indexAddrL, h1, h2, hb, hb', u8, hx', hw, Nat.mul_one]
      exact hK
    · rw [if_neg hx] at hinv
      have hx' : ¬ (((a.b[i]'(by omega)).toNat : Int) < ((b.b[i]'(by omega)).toNat : Int)) := fun h => hx (u8_lt.1 h)
      by_cases hy : b.b[i]'(by omega) < a.b[i]'(by omega)
      · rw [if_pos hy] at hinv
        rw [hinv] at hK
        have hy' := u8_lt.2 hy
        simp only [RUN_, u_C_hourglassref10_Cmp_k1, u_C_hourglassref10_Cmp_k2, u_C_hourglassref10_Cmp_k3, u_C_hourglassref10_Cmp_k4, u_C_hourglassref10_Cmp_k5, u_C_hourglassref10_Cmp_k6, FR_, Nat.reducePow, Int.reducePow, Nat.reduceAdd, Nat.reduceSub, Nat.reduceMul, Int.reduceToNat, Nat.reduceLeDiff, Nat.reduceEqDiff, Nat.reduceLT, Nat.reduceGT, Int.reduceGT, Int.reduceGE, Int.reduceLT, Int.reduceLE, Int.reduceEq, Int.reduceAdd, Int.reduceSub, Int.reduceNeg, reduceCtorEq, if_true, if_false, ite_true, ite_false, ne_eq, eq_self, OPK_, KEY_, indexAddrL, h1, h2, hb, hb', u8, hx', hy', hw, Nat.mul_one]
        exact hK
      · rw [if_neg hy] at hinv
        have hy' : ¬ (((b.b[i]'(by omega)).toNat : Int) < ((a.b[i]'(by omega)).toNat : Int)) := fun h => hy (u8_lt.1 h)
        simp only [RUN_, u_C_hourglassref10_Cmp_k1, u_C_hourglassref10_Cmp_k2, u_C_hourglassref10_Cmp_k3, u_C_hourglassref10_Cmp_k4, u_C_hourglassref10_Cmp_k5, u_C_hourglassref10_Cmp_k6, FR_, Nat.reducePow, Int.reducePow, Nat.reduceAdd, Nat.reduceSub, Nat.reduceMul, Int.reduceToNat, Nat.reduceLeDiff, Nat.reduceEqDiff, Nat.reduceLT, Nat.reduceGT, Int.reduceGT, Int.reduceGE, Int.reduceLT, Int.reduceLE, Int.reduceEq, Int.reduceAdd, Int.reduceSub, Int.reduceNeg, reduceCtorEq, if_true, if_false, ite_true, ite_false, ne_eq, eq_self, OPK_, KEY_, indexAddrL, h1, h2, hb, hb', u8, hx', hy', hw, Nat.mul_one]
        exact ih (i + 1) _ _ _ (by omega) ⟨by omega, hinv⟩ rfl (app_take_add _ _ _) rfl
  · have h1 : ¬ ((i : Int) < 16) := by omega
    have hd : a.b.drop i = [] := List.drop_of_length_le (by omega)
    have hd' : b.b.drop i = [] := List.drop_of_length_le (by omega)
    rw [hd, hd'] at hinv
    rw [hinv] at hK
    simp only [RUN_, u_C_hourglassref10_Cmp_k1, u_C_hourglassref10_Cmp_k2, u_C_hourglassref10_Cmp_k3, u_C_hourglassref10_Cmp_k4, u_C_hourglassref10_Cmp_k5, u_C_hourglassref10_Cmp_k6, FR_, Nat.reducePow, Int.reducePow, Nat.reduceAdd, Nat.reduceSub, Nat.reduceMul, Int.reduceToNat, Nat.reduceLeDiff, Nat.reduceEqDiff, Nat.reduceLT, Nat.reduceGT, Int.reduceGT, Int.reduceGE, Int.reduceLT, Int.reduceLE, Int.reduceEq, Int.reduceAdd, Int.reduceSub, Int.reduceNeg, reduceCtorEq, if_true, if_false, ite_true, ite_false, ne_eq, eq_self, OPK_, KEY_, h1]
    exact hK
end Go.AM
namespace Go.AM
open Go
set_option maxRecDepth 20000
set_option linter.unusedSimpArgs false
set_option linter.unusedVariables false

def cmpK (a b : Key) : Int := Lib.compareBytes a.b b.b
def withinK (k a b : Key) : Bool := decide (0 ≤ cmpK k a) && (decide (b = key0) || decide (cmpK k b < 0))

set_option maxHeartbeats 1000000 in
theorem ref10_Within_spec {C : CallW} (hC : LeC C C) (P : Program) {f : FuncId} (hf : KCmp C f) : ∀ (k a b : Key) S H K, K (.bool (withinK k a b)) ⟨S, H⟩ → runL C P (C_hourglassref10_Within f) [.agg (bs k.b), .agg (bs a.b), .agg (bs b.b)] ⟨S, H⟩ K := by
  intro k a b S H K hK
  simp only [C_hourglassref10_Within, RUN_, u_C_hourglassref10_Within_k1, FR_, Nat.reducePow, Int.reducePow, Nat.reduceAdd, Nat.reduceSub, Nat.reduceMul, Int.reduceToNat, Nat.reduceLeDiff, Nat.reduceEqDiff, Nat.reduceLT, Nat.reduceGT, Int.reduceGT, Int.reduceGE, Int.reduceLT, Int.reduceLE, Int.reduceEq, Int.reduceAdd, Int.reduceSub, Int.reduceNeg, reduceCtorEq, if_true, if_false, ite_true, ite_false, ne_eq, eq_self, OPK_, KEY_]
  refine hf _ _ _ _ _ ?_
  by_cases h1 : (0 : Int) ≤ Lib.compareBytes k.b a.b
  · by_cases h2 : b = key0
    · have e : withinK k a b = true := by simp [withinK, cmpK, h1, h2]
      rw [e] at hK
      simp only [RUN_, u_C_hourglassref10_Within_k1, FR_, Nat.reducePow, Int.reducePow, Nat.reduceAdd, Nat.reduceSub, Nat.reduceMul, Int.reduceToNat, Nat.reduceLeDiff, Nat.reduceEqDiff, Nat.reduceLT, Nat.reduceGT, Int.reduceGT, Int.reduceGE, Int.reduceLT, Int.reduceLE, Int.reduceEq, Int.reduceAdd, Int.reduceSub, Int.reduceNeg, reduceCtorEq, if_true, if_false, ite_true, ite_false, ne_eq, eq_self, OPK_, KEY_, h1, h2]
      exact hK
    · have e : withinK k a b = decide (Lib.compareBytes k.b b.b < 0) := by unfold withinK cmpK; rw [decide_eq_true h1, decide_eq_false h2]; rfl
      rw [e] at hK
      simp only [RUN_, u_C_hourglassref10_Within_k1, FR_, Nat.reducePow, Int.reducePow, Nat.reduceAdd, Nat.reduceSub, Nat.reduceMul, Int.reduceToNat, Nat.reduceLeDiff, Nat.reduceEqDiff, Nat.reduceLT, Nat.reduceGT, Int.reduceGT, Int.reduceGE, Int.reduceLT, Int.reduceLE, Int.reduceEq, Int.reduceAdd, Int.reduceSub, Int.reduceNeg, reduceCtorEq, if_true, if_false, ite_true, ite_false, ne_eq, eq_self, OPK_, KEY_, h1, h2]
      refine hf _ _ _ _ _ ?_
      simp only [RUN_, u_C_hourglassref10_Within_k1, FR_, Nat.reducePow, Int.reducePow, Nat.reduceAdd, Nat.reduceSub, Nat.reduceMul, Int.reduceToNat, Nat.reduceLeDiff, Nat.reduceEqDiff, Nat.reduceLT, Nat.reduceGT, Int.reduceGT, Int.reduceGE, Int.reduceLT, Int.reduceLE, Int.reduceEq, Int.reduceAdd, Int.reduceSub, Int.reduceNeg, reduceCtorEq, if_true, if_false, ite_true, ite_false, ne_eq, eq_self, OPK_, KEY_, h1, h2]
      exact hK
  · have e : withinK k a b = false := by simp [withinK, cmpK, h1]
    rw [e] at hK
    simp only [RUN_, u_C_hourglassref10_Within_k1, FR_, Nat.reducePow, Int.reducePow, Nat.reduceAdd, Nat.reduceSub, Nat.reduceMul, Int.reduceToNat, Nat.reduceLeDiff, Nat.reduceEqDiff, Nat.reduceLT, Nat.reduceGT, Int.reduceGT, Int.reduceGE, Int.reduceLT, Int.reduceLE, Int.reduceEq, Int.reduceAdd, Int.reduceSub, Int.reduceNeg, reduceCtorEq, if_true, if_false, ite_true, ite_false, ne_eq, eq_self, OPK_, KEY_, h1]
    exact hK

def lstK (l : List Key) : AV := .list .sh 16 (l.map kA)
def ListK (F : List Key → List Key) (pre : List Key → Prop) (C : CallW) (f : FuncId) : Prop := ∀ (l : List Key) S H K, pre l → K (lstK (F l)) ⟨S, H⟩ → C (.fn f) [lstK l] ⟨S, H⟩ K

/-- What Clone brings, before it is told less sharply. -/
def cloneA (l : List Key) (v : AV) : Prop := v = .list .uniq 16 (l.map kA) ∨ (l = [] ∧ (v = .nilS ∨ v = .list .full 16 []))
theorem cloneA_wk {l : List Key} {v : AV} (h : cloneA l v) : WkL [v.sh] [lstK l] := by
  rcases h with rfl | ⟨rfl, rfl | rfl⟩
  · exact .same .nil
  · exact .nilS (by omega) .nil
  · exact .full .nil

set_option maxHeartbeats 1000000 in
theorem slices_Clone_spec {C : CallW} (hC : LeC C C) (P : Program) : ∀ (l : List Key) S H (K : AV → St → Prop), l.length ≤ 1000 → (∀ v, cloneA l v → K v ⟨S, H⟩) → runL C P C_slices_Clone_Key [lstK l] ⟨S, H⟩ K := by
  intro l S H K hl hK
  have he : ∀ (e : ET) (σ : St), e.c = 16 → elemsL e (.list .sh 16 (l.map kA)) σ = some (l.map kA) := fun e σ h => by simp [elemsL, h]
  cases l with
  | nil =>
    simp only [lstK, C_slices_Clone_Key, RUN_, u_C_slices_Clone_Key_k1, u_C_slices_Clone_Key_k2, FR_, Nat.reducePow, Int.reducePow, Nat.reduceAdd, Nat.reduceSub, Nat.reduceMul, Int.reduceToNat, Nat.reduceLeDiff, Nat.reduceEqDiff, Nat.reduceLT, Nat.reduceGT, Int.reduceGT, Int.reduceGE, Int.reduceLT, Int.reduceLE, Int.reduceEq, Int.reduceAdd, Int.reduceSub, Int.reduceNeg, reduceCtorEq, if_true, if_false, ite_true, ite_false, ne_eq, eq_self, OPK_, KEY_]
    rintro (_ | _)
    · simp only [RUN_, u_C_slices_Clone_Key_k1, u_C_slices_Clone_Key_k2, FR_, Nat.reducePow, Int.reducePow, Nat.reduceAdd, Nat.reduceSub, Nat.reduceMul, Int.reduceToNat, Nat.reduceLeDiff, Nat.reduceEqDiff, Nat.reduceLT, Nat.reduceGT, Int.reduceGT, Int.reduceGE, Int.reduceLT, Int.reduceLE, Int.reduceEq, Int.reduceAdd, Int.reduceSub, Int.reduceNeg, reduceCtorEq, if_true, if_false, ite_true, ite_false, ne_eq, eq_self, OPK_, KEY_, bslL, appendL, srcL, appItems, elemsL, List.isEmpty_nil, Option.bind_some]
      exact hK _ (.inr ⟨rfl, .inr rfl⟩)
    · simp only [RUN_, u_C_slices_Clone_Key_k1, u_C_slices_Clone_Key_k2, FR_, Nat.reducePow, Int.reducePow, Nat.reduceAdd, Nat.reduceSub, Nat.reduceMul, Int.reduceToNat, Nat.reduceLeDiff, Nat.reduceEqDiff, Nat.reduceLT, Nat.reduceGT, Int.reduceGT, Int.reduceGE, Int.reduceLT, Int.reduceLE, Int.reduceEq, Int.reduceAdd, Int.reduceSub, Int.reduceNeg, reduceCtorEq, if_true, if_false, ite_true, ite_false, ne_eq, eq_self, OPK_, KEY_]
      exact hK _ (.inr ⟨rfl, .inl rfl⟩)
  | cons k l =>
    have hlow : AV.under.go 0 (l.map kA) = true := kA_low
    simp only [List.length_cons] at hl
    have hb : (l.length + 1) * 16 ≤ 2 ^ 48 := by omega
    simp only [lstK, C_slices_Clone_Key, RUN_, u_C_slices_Clone_Key_k1, u_C_slices_Clone_Key_k2, FR_, Nat.reducePow, Int.reducePow, Nat.reduceAdd, Nat.reduceSub, Nat.reduceMul, Int.reduceToNat, Nat.reduceLeDiff, Nat.reduceEqDiff, Nat.reduceLT, Nat.reduceGT, Int.reduceGT, Int.reduceGE, Int.reduceLT, Int.reduceLE, Int.reduceEq, Int.reduceAdd, Int.reduceSub, Int.reduceNeg, reduceCtorEq, if_true, if_false, ite_true, ite_false, ne_eq, eq_self, OPK_, KEY_, refEq, bslL, appendL, srcL, appItems, elemsL, List.isEmpty_nil, List.isEmpty_cons, Option.bind_some, hb, Option.map_some, and_self]
    exact hK _ (.inl rfl)

def tabA (l : List Key) : HObj := .cells [lstK l]

set_option maxHeartbeats 1000000 in
theorem Nodes_spec {C : CallW} (hC : LeC C C) (P : Program) : ∀ (l : List Key) (h : Nat) S H (K : AV → St → Prop), H[h]? = some (tabA l) → l.length < 9223372036854775807 → K (.i ((l.length + 1 : Nat) : Int)) ⟨S, H⟩ → runL C P C_route_Table_Nodes [.ptr (.heap h) 0] ⟨S, H⟩ K := by
  intro l h S H K hh hl hK
  have hw : IntKind.i64.wrap ((l.length : Int) + 1) = ((l.length + 1 : Nat) : Int) := by rw [wrap_i64 (by omega) (by omega)]; rfl
  unfold tabA lstK at hh
  simp only [C_route_Table_Nodes, RUN_, u_C_route_Table_Nodes_k1, FR_, Nat.reducePow, Int.reducePow, Nat.reduceAdd, Nat.reduceSub, Nat.reduceMul, Int.reduceToNat, Nat.reduceLeDiff, Nat.reduceEqDiff, Nat.reduceLT, Nat.reduceGT, Int.reduceGT, Int.reduceGE, Int.reduceLT, Int.reduceLE, Int.reduceEq, Int.reduceAdd, Int.reduceSub, Int.reduceNeg, reduceCtorEq, if_true, if_false, ite_true, ite_false, ne_eq, eq_self, OPK_, KEY_, hh, hw]
  exact hK
end Go.AM
namespace Go.AM
open Go
set_option maxRecDepth 20000
set_option linter.unusedSimpArgs false
set_option linter.unusedVariables false

/-- How many points are not above a key. -/
def cntK (k : Key) : List Key → Nat
  | [] => 0
  | p :: l => (if cmpK p k ≤ 0 then 1 else 0) + cntK k l
def ofK (pts : List Key) (k : Key) : Int := if goodK k then (cntK k pts : Int) else -1

theorem cnt_drop {k : Key} {l : List Key} {i : Nat} (h : i < l.length) : cntK k (l.drop i) = (if cmpK l[i] k ≤ 0 then 1 else 0) + cntK k (l.drop (i + 1)) := by
  rw [List.drop_eq_getElem_cons h]; rfl

set_option maxHeartbeats 2000000 in
theorem Of_spec {C : CallW} (hC : LeC C C) (P : Program) {f1 f2 : FuncId} (hg : BoolK goodK C f1) (hc : KCmp C f2) : ∀ (l : List Key) (k : Key) (h : Nat) S H (K : AV → St → Prop), H[h]? = some (tabA l) → l.length < 9223372036854775807 → K (.i (ofK l k)) ⟨S, H⟩ → runL C P (C_route_Table_Of f1 f2) [.ptr (.heap h) 0, .agg (bs k.b)] ⟨S, H⟩ K := by
  intro l k h S H K hh hl hK
  unfold tabA lstK at hh
  simp only [C_route_Table_Of, RUN_, u_C_route_Table_Of_k1, u_C_route_Table_Of_k2, u_C_route_Table_Of_k3, u_C_route_Table_Of_k4, u_C_route_Table_Of_k5, u_C_route_Table_Of_k6, u_C_route_Table_Of_k7, FR_, Nat.reducePow, Int.reducePow, Nat.reduceAdd, Nat.reduceSub, Nat.reduceMul, Int.reduceToNat, Nat.reduceLeDiff, Nat.reduceEqDiff, Nat.reduceLT, Nat.reduceGT, Int.reduceGT, Int.reduceGE, Int.reduceLT, Int.reduceLE, Int.reduceEq, Int.reduceAdd, Int.reduceSub, Int.reduceNeg, reduceCtorEq, if_true, if_false, ite_true, ite_false, ne_eq, eq_self, OPK_, KEY_]
  refine hg _ _ _ _ ?_
  by_cases hgk : goodK k = true
  · simp only [RUN_, u_C_route_Table_Of_k1, u_C_route_Table_Of_k2, u_C_route_Table_Of_k3, u_C_route_Table_Of_k4, u_C_route_Table_Of_k5, u_C_route_Table_Of_k6, u_C_route_Table_Of_k7, FR_, Nat.reducePow, Int.reducePow, Nat.reduceAdd, Nat.reduceSub, Nat.reduceMul, Int.reduceToNat, Nat.reduceLeDiff, Nat.reduceEqDiff, Nat.reduceLT, Nat.reduceGT, Int.reduceGT, Int.reduceGE, Int.reduceLT, Int.reduceLE, Int.reduceEq, Int.reduceAdd, Int.reduceSub, Int.reduceNeg, reduceCtorEq, if_true, if_false, ite_true, ite_false, ne_eq, eq_self, OPK_, KEY_, hgk, hh]
    have hK : K (.i (cntK k l : Nat)) ⟨S, H⟩ := by simpa [ofK, hgk] using hK
    refine loop_rule hC (α := Nat × Nat) (fun a => l.length - a.1) (fun a => [.undef, .undef, .undef, .ptr (.stk S.length) 0, .undef, .s (.int .i64 a.2), .undef, .undef, .undef, .undef, .undef, .undef, .undef, .undef, .list .sh 16 (l.map kA), .s (.int .i64 l.length), .s (.int .i64 a.1), .undef, .undef, .undef, .undef, .undef, .undef, .undef, .undef, .undef, .undef, .undef]) (fun _ => S ++ [bs k.b]) (fun _ => H) (fun a => a.1 ≤ l.length ∧ a.2 ≤ a.1 ∧ cntK k l = a.2 + cntK k (l.drop a.1)) (0, 0) ⟨by simp, by simp, by simp⟩ rfl (by rw [app_take_add]; rfl) rfl (fun i hi => by simp [AV.under, AV.under.go]) ?_
    rintro ⟨i, n⟩ ⟨hi, hn, hinv⟩ ih
    dsimp only at hi hn hinv ih ⊢
    by_cases h16 : i < l.length
    · have h1 : ((i : Int) < (l.length : Int)) := by omega
      have hw : IntKind.i64.wrap ((i : Int) + 1) = ((i + 1 : Nat) : Int) := by rw [wrap_i64 (by omega) (by omega)]; rfl
      have hwn : IntKind.i64.wrap ((n : Int) + 1) = ((n + 1 : Nat) : Int) := by rw [wrap_i64 (by omega) (by omega)]; rfl
      rw [cnt_drop h16] at hinv
      simp only [RUN_, u_C_route_Table_Of_k1, u_C_route_Table_Of_k2, u_C_route_Table_Of_k3, u_C_route_Table_Of_k4, u_C_route_Table_Of_k5, u_C_route_Table_Of_k6, u_C_route_Table_Of_k7, FR_, Nat.reducePow, Int.reducePow, Nat.reduceAdd, Nat.reduceSub, Nat.reduceMul, Int.reduceToNat, Nat.reduceLeDiff, Nat.reduceEqDiff, Nat.reduceLT, Nat.reduceGT, Int.reduceGT, Int.reduceGE, Int.reduceLT, Int.reduceLE, Int.reduceEq, Int.reduceAdd, Int.reduceSub, Int.reduceNeg, reduceCtorEq, if_true, if_false, ite_true, ite_false, ne_eq, eq_self, OPK_, KEY_, h1, h16]
      refine hc _ _ _ _ _ ?_
      by_cases hx : Lib.compareBytes (l[i]).b k.b ≤ 0
      · rw [if_pos (show cmpK l[i] k ≤ 0 from hx)] at hinv
        simp only [RUN_, u_C_route_Table_Of_k1, u_C_route_Table_Of_k2, u_C_route_Table_Of_k3, u_C_route_Table_Of_k4, u_C_route_Table_Of_k5, u_C_route_Table_Of_k6, u_C_route_Table_Of_k7, FR_, Nat.reducePow, Int.reducePow, Nat.reduceAdd, Nat.reduceSub, Nat.reduceMul, Int.reduceToNat, Nat.reduceLeDiff, Nat.reduceEqDiff, Nat.reduceLT, Nat.reduceGT, Int.reduceGT, Int.reduceGE, Int.reduceLT, Int.reduceLE, Int.reduceEq, Int.reduceAdd, Int.reduceSub, Int.reduceNeg, reduceCtorEq, if_true, if_false, ite_true, ite_false, ne_eq, eq_self, OPK_, KEY_, hx, hw, hwn]
        exact ih (i + 1, n + 1) _ _ _ (by simp; omega) ⟨by simp; omega, by simp; omega, by simp; omega⟩ rfl (by rw [app_take_add]; rfl) rfl
      · rw [if_neg (show ¬ cmpK l[i] k ≤ 0 from hx)] at hinv
        simp only [RUN_, u_C_route_Table_Of_k1, u_C_route_Table_Of_k2, u_C_route_Table_Of_k3, u_C_route_Table_Of_k4, u_C_route_Table_Of_k5, u_C_route_Table_Of_k6, u_C_route_Table_Of_k7, FR_, Nat.reducePow, Int.reducePow, Nat.reduceAdd, Nat.reduceSub, Nat.reduceMul, Int.reduceToNat, Nat.reduceLeDiff, Nat.reduceEqDiff, Nat.reduceLT, Nat.reduceGT, Int.reduceGT, Int.reduceGE, Int.reduceLT, Int.reduceLE, Int.reduceEq, Int.reduceAdd, Int.reduceSub, Int.reduceNeg, reduceCtorEq, if_true, if_false, ite_true, ite_false, ne_eq, eq_self, OPK_, KEY_, hx, hw, hwn]
        exact ih (i + 1, n) _ _ _ (by simp; omega) ⟨by simp; omega, by simp; omega, by simp; omega⟩ rfl (by rw [app_take_add]; rfl) rfl
    · have h1 : ¬ ((i : Int) < (l.length : Int)) := by omega
      rw [List.drop_of_length_le (by omega)] at hinv
      have : cntK k l = n := hinv
      simp only [RUN_, u_C_route_Table_Of_k1, u_C_route_Table_Of_k2, u_C_route_Table_Of_k3, u_C_route_Table_Of_k4, u_C_route_Table_Of_k5, u_C_route_Table_Of_k6, u_C_route_Table_Of_k7, FR_, Nat.reducePow, Int.reducePow, Nat.reduceAdd, Nat.reduceSub, Nat.reduceMul, Int.reduceToNat, Nat.reduceLeDiff, Nat.reduceEqDiff, Nat.reduceLT, Nat.reduceGT, Int.reduceGT, Int.reduceGE, Int.reduceLT, Int.reduceLE, Int.reduceEq, Int.reduceAdd, Int.reduceSub, Int.reduceNeg, reduceCtorEq, if_true, if_false, ite_true, ite_false, ne_eq, eq_self, OPK_, KEY_, h1]
      rw [this] at hK
      exact hK
  · have hgk' : goodK k = false := by simpa using hgk
    simp only [RUN_, u_C_route_Table_Of_k1, u_C_route_Table_Of_k2, u_C_route_Table_Of_k3, u_C_route_Table_Of_k4, u_C_route_Table_Of_k5, u_C_route_Table_Of_k6, u_C_route_Table_Of_k7, FR_, Nat.reducePow, Int.reducePow, Nat.reduceAdd, Nat.reduceSub, Nat.reduceMul, Int.reduceToNat, Nat.reduceLeDiff, Nat.reduceEqDiff, Nat.reduceLT, Nat.reduceGT, Int.reduceGT, Int.reduceGE, Int.reduceLT, Int.reduceLE, Int.reduceEq, Int.reduceAdd, Int.reduceSub, Int.reduceNeg, reduceCtorEq, if_true, if_false, ite_true, ite_false, ne_eq, eq_self, OPK_, KEY_, hgk']
    simpa [ofK, hgk'] using hK

def okFrom : Option Key → List Key → Bool
  | _, [] => true
  | q, p :: l => goodK p && (match q with | none => true | some q => decide (cmpK q p < 0)) && okFrom (some p) l
def okPts (l : List Key) : Bool := okFrom none l

def prevK (l : List Key) (i : Nat) : Option Key := if i = 0 then none else l[i - 1]?
theorem ok_drop {q : Option Key} {l : List Key} {i : Nat} (h : i < l.length) : okFrom q (l.drop i) = (goodK l[i] && (match q with | none => true | some q => decide (cmpK q l[i] < 0)) && okFrom (some l[i]) (l.drop (i + 1))) := by
  rw [List.drop_eq_getElem_cons h]; rfl

def newA (l : List Key) (H : List HObj) : AV := if okPts l && decide (l.length < 8) then .tup [.ptr (.heap H.length) 0, .i 0] else .tup [.nilP, .i 1]
def newH (l : List Key) (H : List HObj) : List HObj := if okPts l && decide (l.length < 8) then H ++ [tabA l] else H

def CloneS (C : CallW) (f : FuncId) : Prop := ∀ (l : List Key) S H (K : AV → St → Prop), l.length ≤ 1000 → K (lstK l) ⟨S, H⟩ → C (.fn f) [lstK l] ⟨S, H⟩ K

set_option maxHeartbeats 4000000 in
theorem New_spec {C : CallW} (hC : LeC C C) (P : Program) {f1 f2 f3 : FuncId} (hg : BoolK goodK C f1) (hc : KCmp C f2) (hcl : CloneS C f3) : ∀ (l : List Key) S H (K : AV → St → Prop), l.length ≤ 9223372036854775807 → K (newA l H) ⟨S, newH l H⟩ → runL C P (C_route_New f1 f2 f3) [lstK l] ⟨S, H⟩ K := by
  intro l S H K hl hK
  simp only [lstK, C_route_New, RUN_, u_C_route_New_k1, u_C_route_New_k2, u_C_route_New_k3, u_C_route_New_k4, u_C_route_New_k5, u_C_route_New_k6, u_C_route_New_k7, u_C_route_New_k8, u_C_route_New_k9, FR_, Nat.reducePow, Int.reducePow, Nat.reduceAdd, Nat.reduceSub, Nat.reduceMul, Int.reduceToNat, Nat.reduceLeDiff, Nat.reduceEqDiff, Nat.reduceLT, Nat.reduceGT, Int.reduceGT, Int.reduceGE, Int.reduceLT, Int.reduceLE, Int.reduceEq, Int.reduceAdd, Int.reduceSub, Int.reduceNeg, reduceCtorEq, if_true, if_false, ite_true, ite_false, ne_eq, eq_self, OPK_, KEY_]
  have bad : okPts l = false → K (.tup [.nilP, .i 1]) ⟨S, H⟩ := fun h => by
    unfold newA newH at hK
    rw [h] at hK
    simpa using hK
  refine loop_rule hC (α := Nat) (fun a => l.length - a) (fun a => [.list .sh 16 (l.map kA), .undef, .undef, .undef, .undef, .undef, .list .sh 16 (l.map kA), .s (.int .i64 l.length), .s (.int .i64 a), .undef, .undef, .undef, .undef, .undef, .undef, .undef, .undef, .undef, .undef, .undef, .undef, .undef, .undef, .undef, .undef, .undef, .undef, .undef, .undef, .undef, .undef, .undef, .undef, .undef, .undef, .undef, .undef, .undef]) (fun _ => S) (fun _ => H) (fun i => i ≤ l.length ∧ okPts l = okFrom (prevK l i) (l.drop i)) 0 ⟨by simp, rfl⟩ rfl (by simp) rfl (fun i hi => by simp [AV.under, AV.under.go]) ?_
  rintro i ⟨hi, hinv⟩ ih
  by_cases h16 : i < l.length
  · have h1 : ((i : Int) < (l.length : Int)) := by omega
    have hw : IntKind.i64.wrap ((i : Int) + 1) = ((i + 1 : Nat) : Int) := by rw [wrap_i64 (by omega) (by omega)]; rfl
    rw [ok_drop h16] at hinv
    simp only [RUN_, u_C_route_New_k1, u_C_route_New_k2, u_C_route_New_k3, u_C_route_New_k4, u_C_route_New_k5, u_C_route_New_k6, u_C_route_New_k7, u_C_route_New_k8, u_C_route_New_k9, FR_, Nat.reducePow, Int.reducePow, Nat.reduceAdd, Nat.reduceSub, Nat.reduceMul, Int.reduceToNat, Nat.reduceLeDiff, Nat.reduceEqDiff, Nat.reduceLT, Nat.reduceGT, Int.reduceGT, Int.reduceGE, Int.reduceLT, Int.reduceLE, Int.reduceEq, Int.reduceAdd, Int.reduceSub, Int.reduceNeg, reduceCtorEq, if_true, if_false, ite_true, ite_false, ne_eq, eq_self, OPK_, KEY_, h1, h16]
    refine hg _ _ _ _ ?_
    cases hgk : goodK l[i] with
    | false =>
      rw [hgk] at hinv
      simp only [RUN_, u_C_route_New_k1, u_C_route_New_k2, u_C_route_New_k3, u_C_route_New_k4, u_C_route_New_k5, u_C_route_New_k6, u_C_route_New_k7, u_C_route_New_k8, u_C_route_New_k9, FR_, Nat.reducePow, Int.reducePow, Nat.reduceAdd, Nat.reduceSub, Nat.reduceMul, Int.reduceToNat, Nat.reduceLeDiff, Nat.reduceEqDiff, Nat.reduceLT, Nat.reduceGT, Int.reduceGT, Int.reduceGE, Int.reduceLT, Int.reduceLE, Int.reduceEq, Int.reduceAdd, Int.reduceSub, Int.reduceNeg, reduceCtorEq, if_true, if_false, ite_true, ite_false, ne_eq, eq_self, OPK_, KEY_]
      exact bad (by rw [hinv]; rfl)
    | true =>
      rw [hgk, Bool.true_and] at hinv
      by_cases h0 : i = 0
      · have h0' : ¬ ((0 : Int) < (i : Int)) := by omega
        rw [show prevK l i = none from if_pos h0, Bool.true_and] at hinv
        simp only [RUN_, u_C_route_New_k1, u_C_route_New_k2, u_C_route_New_k3, u_C_route_New_k4, u_C_route_New_k5, u_C_route_New_k6, u_C_route_New_k7, u_C_route_New_k8, u_C_route_New_k9, FR_, Nat.reducePow, Int.reducePow, Nat.reduceAdd, Nat.reduceSub, Nat.reduceMul, Int.reduceToNat, Nat.reduceLeDiff, Nat.reduceEqDiff, Nat.reduceLT, Nat.reduceGT, Int.reduceGT, Int.reduceGE, Int.reduceLT, Int.reduceLE, Int.reduceEq, Int.reduceAdd, Int.reduceSub, Int.reduceNeg, reduceCtorEq, if_true, if_false, ite_true, ite_false, ne_eq, eq_self, OPK_, KEY_, h0', hw]
        refine ih (i + 1) _ _ _ (by omega) ⟨by omega, ?_⟩ rfl (by rw [app_take]) rfl
        rw [hinv]; simp [prevK, h16]
      · have h0' : ((0 : Int) < (i : Int)) := by omega
        have hwp : IntKind.i64.wrap ((i : Int) - 1) = ((i - 1 : Nat) : Int) := by rw [wrap_i64 (by omega) (by omega)]; omega
        have h17 : i - 1 < l.length := by omega
        rw [show prevK l i = some l[i - 1] from (if_neg h0).trans (List.getElem?_eq_getElem h17)] at hinv
        dsimp only at hinv
        simp only [RUN_, u_C_route_New_k1, u_C_route_New_k2, u_C_route_New_k3, u_C_route_New_k4, u_C_route_New_k5, u_C_route_New_k6, u_C_route_New_k7, u_C_route_New_k8, u_C_route_New_k9, FR_, Nat.reducePow, Int.reducePow, Nat.reduceAdd, Nat.reduceSub, Nat.reduceMul, Int.reduceToNat, Nat.reduceLeDiff, Nat.reduceEqDiff, Nat.reduceLT, Nat.reduceGT, Int.reduceGT, Int.reduceGE, Int.reduceLT, Int.reduceLE, Int.reduceEq, Int.reduceAdd, Int.reduceSub, Int.reduceNeg, reduceCtorEq, if_true, if_false, ite_true, ite_false, ne_eq, eq_self, OPK_, KEY_, h0', hw, hwp, h17]
        refine hc _ _ _ _ _ ?_
        by_cases hx : (0 : Int) ≤ Lib.compareBytes (l[i - 1]).b (l[i]).b
        · simp only [RUN_, u_C_route_New_k1, u_C_route_New_k2, u_C_route_New_k3, u_C_route_New_k4, u_C_route_New_k5, u_C_route_New_k6, u_C_route_New_k7, u_C_route_New_k8, u_C_route_New_k9, FR_, Nat.reducePow, Int.reducePow, Nat.reduceAdd, Nat.reduceSub, Nat.reduceMul, Int.reduceToNat, Nat.reduceLeDiff, Nat.reduceEqDiff, Nat.reduceLT, Nat.reduceGT, Int.reduceGT, Int.reduceGE, Int.reduceLT, Int.reduceLE, Int.reduceEq, Int.reduceAdd, Int.reduceSub, Int.reduceNeg, reduceCtorEq, if_true, if_false, ite_true, ite_false, ne_eq, eq_self, OPK_, KEY_, hx]
          refine bad ?_
          rw [hinv, decide_eq_false (by unfold cmpK; omega)]; rfl
        · simp only [RUN_, u_C_route_New_k1, u_C_route_New_k2, u_C_route_New_k3, u_C_route_New_k4, u_C_route_New_k5, u_C_route_New_k6, u_C_route_New_k7, u_C_route_New_k8, u_C_route_New_k9, FR_, Nat.reducePow, Int.reducePow, Nat.reduceAdd, Nat.reduceSub, Nat.reduceMul, Int.reduceToNat, Nat.reduceLeDiff, Nat.reduceEqDiff, Nat.reduceLT, Nat.reduceGT, Int.reduceGT, Int.reduceGE, Int.reduceLT, Int.reduceLE, Int.reduceEq, Int.reduceAdd, Int.reduceSub, Int.reduceNeg, reduceCtorEq, if_true, if_false, ite_true, ite_false, ne_eq, eq_self, OPK_, KEY_, hx, hw]
          refine ih (i + 1) _ _ _ (by omega) ⟨by omega, ?_⟩ rfl (by rw [app_take]) rfl
          rw [hinv, decide_eq_true (show cmpK l[i - 1] l[i] < 0 by unfold cmpK; omega)]; simp [prevK, h16]
  · have h1 : ¬ ((i : Int) < (l.length : Int)) := by omega
    rw [List.drop_of_length_le (by omega)] at hinv
    have hok : okPts l = true := hinv
    by_cases h8 : l.length < 8
    · have h8' : ¬ ((8 : Int) ≤ (l.length : Int)) := by omega
      simp only [RUN_, u_C_route_New_k1, u_C_route_New_k2, u_C_route_New_k3, u_C_route_New_k4, u_C_route_New_k5, u_C_route_New_k6, u_C_route_New_k7, u_C_route_New_k8, u_C_route_New_k9, FR_, Nat.reducePow, Int.reducePow, Nat.reduceAdd, Nat.reduceSub, Nat.reduceMul, Int.reduceToNat, Nat.reduceLeDiff, Nat.reduceEqDiff, Nat.reduceLT, Nat.reduceGT, Int.reduceGT, Int.reduceGE, Int.reduceLT, Int.reduceLE, Int.reduceEq, Int.reduceAdd, Int.reduceSub, Int.reduceNeg, reduceCtorEq, if_true, if_false, ite_true, ite_false, ne_eq, eq_self, OPK_, KEY_, h1, h8']
      refine hcl l _ _ _ (by omega) ?_
      unfold newA newH at hK
      rw [hok, decide_eq_true h8] at hK
      simp only [RUN_, u_C_route_New_k1, u_C_route_New_k2, u_C_route_New_k3, u_C_route_New_k4, u_C_route_New_k5, u_C_route_New_k6, u_C_route_New_k7, u_C_route_New_k8, u_C_route_New_k9, FR_, Nat.reducePow, Int.reducePow, Nat.reduceAdd, Nat.reduceSub, Nat.reduceMul, Int.reduceToNat, Nat.reduceLeDiff, Nat.reduceEqDiff, Nat.reduceLT, Nat.reduceGT, Int.reduceGT, Int.reduceGE, Int.reduceLT, Int.reduceLE, Int.reduceEq, Int.reduceAdd, Int.reduceSub, Int.reduceNeg, reduceCtorEq, if_true, if_false, ite_true, ite_false, ne_eq, eq_self, OPK_, KEY_, lstK, fillL]
      exact hK
    · have h8' : ((8 : Int) ≤ (l.length : Int)) := by omega
      simp only [RUN_, u_C_route_New_k1, u_C_route_New_k2, u_C_route_New_k3, u_C_route_New_k4, u_C_route_New_k5, u_C_route_New_k6, u_C_route_New_k7, u_C_route_New_k8, u_C_route_New_k9, FR_, Nat.reducePow, Int.reducePow, Nat.reduceAdd, Nat.reduceSub, Nat.reduceMul, Int.reduceToNat, Nat.reduceLeDiff, Nat.reduceEqDiff, Nat.reduceLT, Nat.reduceGT, Int.reduceGT, Int.reduceGE, Int.reduceLT, Int.reduceLE, Int.reduceEq, Int.reduceAdd, Int.reduceSub, Int.reduceNeg, reduceCtorEq, if_true, if_false, ite_true, ite_false, ne_eq, eq_self, OPK_, KEY_, h1, h8']
      unfold newA newH at hK
      rw [decide_eq_false h8] at hK
      simpa using hK
end Go.AM
namespace Go.AM
open Go
set_option maxRecDepth 20000
set_option linter.unusedSimpArgs false
set_option linter.unusedVariables false

theorem pad_set {s : List UInt8} {i : Nat} (h : i < s.length) (hs : s.length ≤ 16) : (bs (padB (s.take i))).set i (u8 s[i]) = bs (padB (s.take (i + 1))) := by
  have e : ∀ (t : List UInt8), t.length ≤ 16 → padB t = t ++ List.replicate (16 - t.length) 0 := fun t ht => by unfold padB; rw [List.take_of_length_le ht]
  rw [e _ (by simp; omega), e _ (by simp; omega)]
  have h1 : (s.take i).length = i := by simp; omega
  have h2 : (s.take (i + 1)).length = i + 1 := by simp; omega
  rw [h1, h2, show 16 - i = (16 - (i + 1)) + 1 by omega, List.replicate_succ]
  simp only [bs, List.map_append, List.map_cons]
  rw [List.set_append_right _ _ (by rw [List.length_map, h1]; exact Nat.le_refl _)]
  simp only [List.length_map, h1, Nat.sub_self, List.set_cons_zero]
  rw [List.take_succ_eq_append_getElem h]
  simp only [List.map_append, List.map_cons, List.map_nil, List.append_assoc, List.cons_append, List.nil_append]

def OfR (C : CallW) (f : FuncId) : Prop := ∀ (s : List UInt8) (S : List (List AV)) (H : List HObj) (K : AV → St → Prop), K (.tup [.agg (bs (keyOf s).1.b), .bool (decide ((keyOf s).2 = 0))]) ⟨S, H⟩ → C (.fn f) [.s (.str s)] ⟨S, H⟩ K

set_option maxHeartbeats 2000000 in
theorem ref10_Of_spec {C : CallW} (hC : LeC C C) (P : Program) : ∀ (s : List UInt8) (S : List (List AV)) (H : List HObj) (K : AV → St → Prop), K (.tup [.agg (bs (keyOf s).1.b), .bool (decide ((keyOf s).2 = 0))]) ⟨S, H⟩ → runL C P C_hourglassref10_Of [.s (.str s)] ⟨S, H⟩ K := by
  intro s S H K hK
  have key0l : (bs key0.b).length = 16 := rfl
  have bad : badT s → K (.tup [.agg (bs key0.b), .bool false]) ⟨S, H⟩ := fun h => by
    rw [show keyOf s = (key0, 1) from if_pos h] at hK; exact hK
  by_cases h0 : s.length < 1
  · have h0' : ((s.length : Int) < 1) := by omega
    simp only [C_hourglassref10_Of, RUN_, u_C_hourglassref10_Of_k1, u_C_hourglassref10_Of_k2, u_C_hourglassref10_Of_k3, u_C_hourglassref10_Of_k4, u_C_hourglassref10_Of_k5, u_C_hourglassref10_Of_k6, u_C_hourglassref10_Of_k7, u_C_hourglassref10_Of_k8, u_C_hourglassref10_Of_k9, u_C_hourglassref10_Of_k10, FR_, Nat.reducePow, Int.reducePow, Nat.reduceAdd, Nat.reduceSub, Nat.reduceMul, Int.reduceToNat, Nat.reduceLeDiff, Nat.reduceEqDiff, Nat.reduceLT, Nat.reduceGT, Int.reduceGT, Int.reduceGE, Int.reduceLT, Int.reduceLE, Int.reduceEq, Int.reduceAdd, Int.reduceSub, Int.reduceNeg, reduceCtorEq, if_true, if_false, ite_true, ite_false, ne_eq, eq_self, OPK_, KEY_, h0']
    exact bad (.inl (List.length_eq_zero_iff.1 (by omega)))
  · have h0' : ¬ ((s.length : Int) < 1) := by omega
    by_cases h1 : 16 < s.length
    · have h1' : (16 : Int) < (s.length : Int) := by omega
      simp only [C_hourglassref10_Of, RUN_, u_C_hourglassref10_Of_k1, u_C_hourglassref10_Of_k2, u_C_hourglassref10_Of_k3, u_C_hourglassref10_Of_k4, u_C_hourglassref10_Of_k5, u_C_hourglassref10_Of_k6, u_C_hourglassref10_Of_k7, u_C_hourglassref10_Of_k8, u_C_hourglassref10_Of_k9, u_C_hourglassref10_Of_k10, FR_, Nat.reducePow, Int.reducePow, Nat.reduceAdd, Nat.reduceSub, Nat.reduceMul, Int.reduceToNat, Nat.reduceLeDiff, Nat.reduceEqDiff, Nat.reduceLT, Nat.reduceGT, Int.reduceGT, Int.reduceGE, Int.reduceLT, Int.reduceLE, Int.reduceEq, Int.reduceAdd, Int.reduceSub, Int.reduceNeg, reduceCtorEq, if_true, if_false, ite_true, ite_false, ne_eq, eq_self, OPK_, KEY_, h0', h1']
      exact bad (.inr (.inl h1))
    · have h1' : ¬ ((16 : Int) < (s.length : Int)) := by omega
      simp only [C_hourglassref10_Of, RUN_, u_C_hourglassref10_Of_k1, u_C_hourglassref10_Of_k2, u_C_hourglassref10_Of_k3, u_C_hourglassref10_Of_k4, u_C_hourglassref10_Of_k5, u_C_hourglassref10_Of_k6, u_C_hourglassref10_Of_k7, u_C_hourglassref10_Of_k8, u_C_hourglassref10_Of_k9, u_C_hourglassref10_Of_k10, FR_, Nat.reducePow, Int.reducePow, Nat.reduceAdd, Nat.reduceSub, Nat.reduceMul, Int.reduceToNat, Nat.reduceLeDiff, Nat.reduceEqDiff, Nat.reduceLT, Nat.reduceGT, Int.reduceGT, Int.reduceGE, Int.reduceLT, Int.reduceLE, Int.reduceEq, Int.reduceAdd, Int.reduceSub, Int.reduceNeg, reduceCtorEq, if_true, if_false, ite_true, ite_false, ne_eq, eq_self, OPK_, KEY_, h0', h1']
      refine loop_rule hC (α := Nat) (fun a => s.length - a) (fun a => [.s (.str s), .undef, .ptr (.stk S.length) 0, .undef, .ptr (.stk (S.length + 1)) 0, .s (.int .i64 a), .undef, .undef, .undef, .undef, .undef, .undef, .undef, .undef, .undef, .undef, .undef, .undef, .undef, .undef, .undef, .undef, .undef, .undef, .undef, .undef, .undef, .undef, .undef, .undef, .undef, .undef, .undef]) (fun a => S ++ [bs key0.b, bs (padB (s.take a))]) (fun _ => H) (fun i => i ≤ s.length ∧ ∀ j, (hj : j < i) → (hj' : j < s.length) → s[j] ≠ 0) 0 ⟨by simp, fun j hj => by omega⟩ rfl (by rw [app_take_add]; rfl) rfl (fun i hi => by simp [AV.under, AV.under.go]) ?_
      rintro i ⟨hi, hall⟩ ih
      have hpl : ∀ t, (bs (padB t)).length = 16 := fun t => by rw [bs_length]; exact (padK t).h
      by_cases h16 : i < s.length
      · have hlt : ((i : Int) < (s.length : Int)) := by omega
        have h16' : ((i : Int) < 16) := by omega
        have hge : (0 : Int) ≤ (i : Int) := by omega
        have hw := wrap_succ (i := i) (by omega)
        have hg : s.getD i 0 = s[i] := by simp [List.getD, h16]
        by_cases hz : s[i] = 0
        · simp only [RUN_, u_C_hourglassref10_Of_k1, u_C_hourglassref10_Of_k2, u_C_hourglassref10_Of_k3, u_C_hourglassref10_Of_k4, u_C_hourglassref10_Of_k5, u_C_hourglassref10_Of_k6, u_C_hourglassref10_Of_k7, u_C_hourglassref10_Of_k8, u_C_hourglassref10_Of_k9, u_C_hourglassref10_Of_k10, FR_, Nat.reducePow, Int.reducePow, Nat.reduceAdd, Nat.reduceSub, Nat.reduceMul, Int.reduceToNat, Nat.reduceLeDiff, Nat.reduceEqDiff, Nat.reduceLT, Nat.reduceGT, Int.reduceGT, Int.reduceGE, Int.reduceLT, Int.reduceLE, Int.reduceEq, Int.reduceAdd, Int.reduceSub, Int.reduceNeg, reduceCtorEq, if_true, if_false, ite_true, ite_false, ne_eq, eq_self, OPK_, KEY_, hlt, hge, hg, hz, UInt8.toNat_zero, hpl]
          exact bad (.inr (.inr (hz ▸ List.getElem_mem h16)))
        · have hz' : ¬ (((s[i]).toNat : Int) = 0) := fun e => hz (u8_zero.1 e)
          have hps := pad_set h16 (by omega)
          have hi16 : i < 16 := by omega
          unfold u8 at hps
          simp only [RUN_, u_C_hourglassref10_Of_k1, u_C_hourglassref10_Of_k2, u_C_hourglassref10_Of_k3, u_C_hourglassref10_Of_k4, u_C_hourglassref10_Of_k5, u_C_hourglassref10_Of_k6, u_C_hourglassref10_Of_k7, u_C_hourglassref10_Of_k8, u_C_hourglassref10_Of_k9, u_C_hourglassref10_Of_k10, FR_, Nat.reducePow, Int.reducePow, Nat.reduceAdd, Nat.reduceSub, Nat.reduceMul, Int.reduceToNat, Nat.reduceLeDiff, Nat.reduceEqDiff, Nat.reduceLT, Nat.reduceGT, Int.reduceGT, Int.reduceGE, Int.reduceLT, Int.reduceLE, Int.reduceEq, Int.reduceAdd, Int.reduceSub, Int.reduceNeg, reduceCtorEq, if_true, if_false, ite_true, ite_false, ne_eq, eq_self, OPK_, KEY_, hlt, hge, hg, hz', hpl, indexAddrL, h16', hw, Nat.mul_one, hi16, hps]
          exact ih (i + 1) _ _ _ (by omega) ⟨by omega, fun j hj hj' => by
            rcases Nat.lt_or_ge j i with h | h
            · exact hall j h hj'
            · have : j = i := by omega
              subst this; exact hz⟩ rfl (app_take_add _ _ _) rfl
      · have hlt : ¬ ((i : Int) < (s.length : Int)) := by omega
        have hnb : ¬ badT s := by
          rintro (h | h | h)
          · rw [h] at h0; exact h0 (by simp)
          · exact h1 h
          · obtain ⟨j, hj, e⟩ := List.getElem_of_mem h
            exact hall j (by omega) hj e
        have hp : padB (s.take i) = padB s := by rw [List.take_of_length_le (by omega)]
        rw [show keyOf s = (padK s, 0) from if_neg hnb] at hK
        have e2 : (bs (padB s)).take 16 = bs (padB s) := List.take_of_length_le (by rw [hpl]; omega)
        simp only [RUN_, u_C_hourglassref10_Of_k1, u_C_hourglassref10_Of_k2, u_C_hourglassref10_Of_k3, u_C_hourglassref10_Of_k4, u_C_hourglassref10_Of_k5, u_C_hourglassref10_Of_k6, u_C_hourglassref10_Of_k7, u_C_hourglassref10_Of_k8, u_C_hourglassref10_Of_k9, u_C_hourglassref10_Of_k10, FR_, Nat.reducePow, Int.reducePow, Nat.reduceAdd, Nat.reduceSub, Nat.reduceMul, Int.reduceToNat, Nat.reduceLeDiff, Nat.reduceEqDiff, Nat.reduceLT, Nat.reduceGT, Int.reduceGT, Int.reduceGE, Int.reduceLT, Int.reduceLE, Int.reduceEq, Int.reduceAdd, Int.reduceSub, Int.reduceNeg, reduceCtorEq, if_true, if_false, ite_true, ite_false, ne_eq, eq_self, OPK_, KEY_, hlt, hp, hpl, e2]
        exact hK

def kS (C : CallW) (f : FuncId) : Prop := ∀ (s : List UInt8) (S : List (List AV)) (H : List HObj) (K : AV → St → Prop), K (.agg (bs (keyOf s).1.b)) ⟨S, H⟩ → C (.fn f) [.s (.str s)] ⟨S, H⟩ K

set_option maxHeartbeats 1000000 in
theorem law_k_spec {C : CallW} (hC : LeC C C) (P : Program) {f : FuncId} (hf : OfR C f) : ∀ (s : List UInt8) (S : List (List AV)) (H : List HObj) (K : AV → St → Prop), K (.agg (bs (keyOf s).1.b)) ⟨S, H⟩ → runL C P (C_hourglasslaw17_k f) [.s (.str s)] ⟨S, H⟩ K := by
  intro s S H K hK
  simp only [C_hourglasslaw17_k, RUN_, u_C_hourglasslaw17_k_k1, FR_, Nat.reducePow, Int.reducePow, Nat.reduceAdd, Nat.reduceSub, Nat.reduceMul, Int.reduceToNat, Nat.reduceLeDiff, Nat.reduceEqDiff, Nat.reduceLT, Nat.reduceGT, Int.reduceGT, Int.reduceGE, Int.reduceLT, Int.reduceLE, Int.reduceEq, Int.reduceAdd, Int.reduceSub, Int.reduceNeg, reduceCtorEq, if_true, if_false, ite_true, ite_false, ne_eq, eq_self, OPK_, KEY_]
  refine hf _ _ _ _ ?_
  simp only [RUN_, u_C_hourglasslaw17_k_k1, FR_, Nat.reducePow, Int.reducePow, Nat.reduceAdd, Nat.reduceSub, Nat.reduceMul, Int.reduceToNat, Nat.reduceLeDiff, Nat.reduceEqDiff, Nat.reduceLT, Nat.reduceGT, Int.reduceGT, Int.reduceGE, Int.reduceLT, Int.reduceLE, Int.reduceEq, Int.reduceAdd, Int.reduceSub, Int.reduceNeg, reduceCtorEq, if_true, if_false, ite_true, ite_false, ne_eq, eq_self, OPK_, KEY_]
  exact hK
end Go.AM
namespace Go.AM
open Go
set_option maxRecDepth 20000
set_option linter.unusedSimpArgs false
set_option linter.unusedVariables false

def longW (l : List Wr) : Bool := decide (20 < l.length) || l.any fun w => decide (250 < w.val.length)

set_option maxHeartbeats 1000000 in
theorem long_spec {C : CallW} (hC : LeC C C) (P : Program) : ∀ (l : List Wr) S H (K : AV → St → Prop), l.length ≤ 9223372036854775807 → K (.bool (longW l)) ⟨S, H⟩ → runL C P C_hourglasslaw17_long [lstW l] ⟨S, H⟩ K := by
  intro l S H K hl hK
  by_cases h20 : 20 < l.length
  · have h20' : (20 : Int) < (l.length : Int) := by omega
    simp only [lstW, C_hourglasslaw17_long, RUN_, u_C_hourglasslaw17_long_k1, u_C_hourglasslaw17_long_k2, u_C_hourglasslaw17_long_k3, u_C_hourglasslaw17_long_k4, u_C_hourglasslaw17_long_k5, u_C_hourglasslaw17_long_k6, FR_, Nat.reducePow, Int.reducePow, Nat.reduceAdd, Nat.reduceSub, Nat.reduceMul, Int.reduceToNat, Nat.reduceLeDiff, Nat.reduceEqDiff, Nat.reduceLT, Nat.reduceGT, Int.reduceGT, Int.reduceGE, Int.reduceLT, Int.reduceLE, Int.reduceEq, Int.reduceAdd, Int.reduceSub, Int.reduceNeg, reduceCtorEq, if_true, if_false, ite_true, ite_false, ne_eq, eq_self, OPK_, KEY_, h20']
    rw [show longW l = true by simp [longW, h20]] at hK
    exact hK
  · have h20' : ¬ ((20 : Int) < (l.length : Int)) := by omega
    simp only [lstW, C_hourglasslaw17_long, RUN_, u_C_hourglasslaw17_long_k1, u_C_hourglasslaw17_long_k2, u_C_hourglasslaw17_long_k3, u_C_hourglasslaw17_long_k4, u_C_hourglasslaw17_long_k5, u_C_hourglasslaw17_long_k6, FR_, Nat.reducePow, Int.reducePow, Nat.reduceAdd, Nat.reduceSub, Nat.reduceMul, Int.reduceToNat, Nat.reduceLeDiff, Nat.reduceEqDiff, Nat.reduceLT, Nat.reduceGT, Int.reduceGT, Int.reduceGE, Int.reduceLT, Int.reduceLE, Int.reduceEq, Int.reduceAdd, Int.reduceSub, Int.reduceNeg, reduceCtorEq, if_true, if_false, ite_true, ite_false, ne_eq, eq_self, OPK_, KEY_, h20']
    rw [show longW l = l.any fun w => decide (250 < w.val.length) by simp [longW, h20]] at hK
    refine loop_rule hC (α := Nat) (fun a => l.length - a) (fun a => [.list .sh 18 (l.map wA), .undef, .undef, .s (.int .i64 a), .undef, .undef, .undef, .undef, .undef, .undef, .undef, .undef, .undef, .undef, .undef, .undef, .undef, .undef, .undef, .undef]) (fun _ => S) (fun _ => H) (fun i => i ≤ l.length ∧ (l.any fun w => decide (250 < w.val.length)) = (l.drop i).any fun w => decide (250 < w.val.length)) 0 ⟨by simp, rfl⟩ rfl (by simp) rfl (fun i hi => by simp [AV.under, AV.under.go]) ?_
    rintro i ⟨hi, hinv⟩ ih
    by_cases h16 : i < l.length
    · have hlt : ((i : Int) < (l.length : Int)) := by omega
      have hw := wrap_succ (i := i) (by omega)
      rw [List.drop_eq_getElem_cons h16, List.any_cons] at hinv
      by_cases hv : 250 < (l[i]).val.length
      · have hv' : (250 : Int) < ((l[i]).val.length : Int) := by omega
        simp only [RUN_, u_C_hourglasslaw17_long_k1, u_C_hourglasslaw17_long_k2, u_C_hourglasslaw17_long_k3, u_C_hourglasslaw17_long_k4, u_C_hourglasslaw17_long_k5, u_C_hourglasslaw17_long_k6, FR_, Nat.reducePow, Int.reducePow, Nat.reduceAdd, Nat.reduceSub, Nat.reduceMul, Int.reduceToNat, Nat.reduceLeDiff, Nat.reduceEqDiff, Nat.reduceLT, Nat.reduceGT, Int.reduceGT, Int.reduceGE, Int.reduceLT, Int.reduceLE, Int.reduceEq, Int.reduceAdd, Int.reduceSub, Int.reduceNeg, reduceCtorEq, if_true, if_false, ite_true, ite_false, ne_eq, eq_self, OPK_, KEY_, WR_, hlt, h16, hv']
        rw [hinv, decide_eq_true hv, Bool.true_or] at hK
        exact hK
      · have hv' : ¬ ((250 : Int) < ((l[i]).val.length : Int)) := by omega
        rw [decide_eq_false hv, Bool.false_or] at hinv
        simp only [RUN_, u_C_hourglasslaw17_long_k1, u_C_hourglasslaw17_long_k2, u_C_hourglasslaw17_long_k3, u_C_hourglasslaw17_long_k4, u_C_hourglasslaw17_long_k5, u_C_hourglasslaw17_long_k6, FR_, Nat.reducePow, Int.reducePow, Nat.reduceAdd, Nat.reduceSub, Nat.reduceMul, Int.reduceToNat, Nat.reduceLeDiff, Nat.reduceEqDiff, Nat.reduceLT, Nat.reduceGT, Int.reduceGT, Int.reduceGE, Int.reduceLT, Int.reduceLE, Int.reduceEq, Int.reduceAdd, Int.reduceSub, Int.reduceNeg, reduceCtorEq, if_true, if_false, ite_true, ite_false, ne_eq, eq_self, OPK_, KEY_, WR_, hlt, h16, hv', hw]
        exact ih (i + 1) _ _ _ (by omega) ⟨by omega, hinv⟩ rfl (by simp) rfl
    · have hlt : ¬ ((i : Int) < (l.length : Int)) := by omega
      rw [List.drop_of_length_le (by omega)] at hinv
      rw [hinv] at hK
      simp only [RUN_, u_C_hourglasslaw17_long_k1, u_C_hourglasslaw17_long_k2, u_C_hourglasslaw17_long_k3, u_C_hourglasslaw17_long_k4, u_C_hourglasslaw17_long_k5, u_C_hourglasslaw17_long_k6, FR_, Nat.reducePow, Int.reducePow, Nat.reduceAdd, Nat.reduceSub, Nat.reduceMul, Int.reduceToNat, Nat.reduceLeDiff, Nat.reduceEqDiff, Nat.reduceLT, Nat.reduceGT, Int.reduceGT, Int.reduceGE, Int.reduceLT, Int.reduceLE, Int.reduceEq, Int.reduceAdd, Int.reduceSub, Int.reduceNeg, reduceCtorEq, if_true, if_false, ite_true, ite_false, ne_eq, eq_self, OPK_, KEY_, hlt]
      exact hK

def NewS (C : CallW) (f : FuncId) : Prop := ∀ (l : List Key) S H (K : AV → St → Prop), l.length ≤ 9223372036854775807 → K (newA l H) ⟨S, newH l H⟩ → C (.fn f) [lstK l] ⟨S, H⟩ K
def TOfS (C : CallW) (f : FuncId) : Prop := ∀ (l : List Key) (k : Key) (h : Nat) S H (K : AV → St → Prop), H[h]? = some (tabA l) → l.length < 9223372036854775807 → K (.i (ofK l k)) ⟨S, H⟩ → C (.fn f) [.ptr (.heap h) 0, .agg (bs k.b)] ⟨S, H⟩ K
def TNodesS (C : CallW) (f : FuncId) : Prop := ∀ (l : List Key) (h : Nat) S H (K : AV → St → Prop), H[h]? = some (tabA l) → l.length < 9223372036854775807 → K (.i ((l.length + 1 : Nat) : Int)) ⟨S, H⟩ → C (.fn f) [.ptr (.heap h) 0] ⟨S, H⟩ K

theorem app_getH (H : List HObj) (o : HObj) : (H ++ [o])[H.length]? = some o := by simp

set_option maxHeartbeats 1000000 in
theorem awake_spec {C : CallW} (hC : LeC C C) (hW : WkC C) (P : Program) {f1 f2 f3 f4 : FuncId} (h1 : kS C f1) (h2 : NewS C f2) (h3 : TOfS C f3) (h4 : TNodesS C f4) : ∀ S H (K : AV → St → Prop), (∀ o, K (.bool true) ⟨S, H ++ [o]⟩) → runL C P (C_hourglasslaw17_awake f1 f2 f3 f4) [] ⟨S, H⟩ K := by
  intro S H K hK
  have e0 : keyOf [109] = (padK [109], 0) := by decide
  have e1 : keyOf [97] = (padK [97], 0) := by decide
  have ek : okPts [padK [109]] = true := by decide
  have eN : newA [padK [109]] H = .tup [.ptr (.heap H.length) 0, .i 0] := by unfold newA; rw [ek]; rfl
  have eH : newH [padK [109]] H = H ++ [tabA [padK [109]]] := by unfold newH; rw [ek]; rfl
  have eo1 : ofK [padK [109]] (padK [97]) = 0 := by decide
  have eo2 : ofK [padK [109]] (padK [109]) = 1 := by decide
  simp only [C_hourglasslaw17_awake, RUN_, u_C_hourglasslaw17_awake_k1, u_C_hourglasslaw17_awake_k2, FR_, Nat.reducePow, Int.reducePow, Nat.reduceAdd, Nat.reduceSub, Nat.reduceMul, Int.reduceToNat, Nat.reduceLeDiff, Nat.reduceEqDiff, Nat.reduceLT, Nat.reduceGT, Int.reduceGT, Int.reduceGE, Int.reduceLT, Int.reduceLE, Int.reduceEq, Int.reduceAdd, Int.reduceSub, Int.reduceNeg, reduceCtorEq, if_true, if_false, ite_true, ite_false, ne_eq, eq_self, OPK_, KEY_]
  refine h1 _ _ _ _ ?_
  simp only [RUN_, u_C_hourglasslaw17_awake_k1, u_C_hourglasslaw17_awake_k2, FR_, Nat.reducePow, Int.reducePow, Nat.reduceAdd, Nat.reduceSub, Nat.reduceMul, Int.reduceToNat, Nat.reduceLeDiff, Nat.reduceEqDiff, Nat.reduceLT, Nat.reduceGT, Int.reduceGT, Int.reduceGE, Int.reduceLT, Int.reduceLE, Int.reduceEq, Int.reduceAdd, Int.reduceSub, Int.reduceNeg, reduceCtorEq, if_true, if_false, ite_true, ite_false, ne_eq, eq_self, OPK_, KEY_, bslL, fillE, e0, List.isEmpty_cons, List.isEmpty_nil]
  refine hW _ _ [lstK [padK [109]]] _ _ (.full .nil) ?_
  refine h2 _ _ _ _ (by simp) ?_
  rw [eN, eH]
  simp only [RUN_, u_C_hourglasslaw17_awake_k1, u_C_hourglasslaw17_awake_k2, FR_, Nat.reducePow, Int.reducePow, Nat.reduceAdd, Nat.reduceSub, Nat.reduceMul, Int.reduceToNat, Nat.reduceLeDiff, Nat.reduceEqDiff, Nat.reduceLT, Nat.reduceGT, Int.reduceGT, Int.reduceGE, Int.reduceLT, Int.reduceLE, Int.reduceEq, Int.reduceAdd, Int.reduceSub, Int.reduceNeg, reduceCtorEq, if_true, if_false, ite_true, ite_false, ne_eq, eq_self, OPK_, KEY_, refEq]
  refine h1 _ _ _ _ ?_
  simp only [RUN_, u_C_hourglasslaw17_awake_k1, u_C_hourglasslaw17_awake_k2, FR_, Nat.reducePow, Int.reducePow, Nat.reduceAdd, Nat.reduceSub, Nat.reduceMul, Int.reduceToNat, Nat.reduceLeDiff, Nat.reduceEqDiff, Nat.reduceLT, Nat.reduceGT, Int.reduceGT, Int.reduceGE, Int.reduceLT, Int.reduceLE, Int.reduceEq, Int.reduceAdd, Int.reduceSub, Int.reduceNeg, reduceCtorEq, if_true, if_false, ite_true, ite_false, ne_eq, eq_self, OPK_, KEY_, e1]
  refine h3 [padK [109]] _ _ _ _ _ (app_getH _ _) (by simp) ?_
  simp only [RUN_, u_C_hourglasslaw17_awake_k1, u_C_hourglasslaw17_awake_k2, FR_, Nat.reducePow, Int.reducePow, Nat.reduceAdd, Nat.reduceSub, Nat.reduceMul, Int.reduceToNat, Nat.reduceLeDiff, Nat.reduceEqDiff, Nat.reduceLT, Nat.reduceGT, Int.reduceGT, Int.reduceGE, Int.reduceLT, Int.reduceLE, Int.reduceEq, Int.reduceAdd, Int.reduceSub, Int.reduceNeg, reduceCtorEq, if_true, if_false, ite_true, ite_false, ne_eq, eq_self, OPK_, KEY_, eo1]
  refine h1 _ _ _ _ ?_
  simp only [RUN_, u_C_hourglasslaw17_awake_k1, u_C_hourglasslaw17_awake_k2, FR_, Nat.reducePow, Int.reducePow, Nat.reduceAdd, Nat.reduceSub, Nat.reduceMul, Int.reduceToNat, Nat.reduceLeDiff, Nat.reduceEqDiff, Nat.reduceLT, Nat.reduceGT, Int.reduceGT, Int.reduceGE, Int.reduceLT, Int.reduceLE, Int.reduceEq, Int.reduceAdd, Int.reduceSub, Int.reduceNeg, reduceCtorEq, if_true, if_false, ite_true, ite_false, ne_eq, eq_self, OPK_, KEY_, e0]
  refine h3 [padK [109]] _ _ _ _ _ (app_getH _ _) (by simp) ?_
  simp only [RUN_, u_C_hourglasslaw17_awake_k1, u_C_hourglasslaw17_awake_k2, FR_, Nat.reducePow, Int.reducePow, Nat.reduceAdd, Nat.reduceSub, Nat.reduceMul, Int.reduceToNat, Nat.reduceLeDiff, Nat.reduceEqDiff, Nat.reduceLT, Nat.reduceGT, Int.reduceGT, Int.reduceGE, Int.reduceLT, Int.reduceLE, Int.reduceEq, Int.reduceAdd, Int.reduceSub, Int.reduceNeg, reduceCtorEq, if_true, if_false, ite_true, ite_false, ne_eq, eq_self, OPK_, KEY_, eo2]
  refine h4 [padK [109]] _ _ _ _ (app_getH _ _) (by simp) ?_
  simp only [RUN_, u_C_hourglasslaw17_awake_k1, u_C_hourglasslaw17_awake_k2, FR_, Nat.reducePow, Int.reducePow, Nat.reduceAdd, Nat.reduceSub, Nat.reduceMul, Int.reduceToNat, Nat.reduceLeDiff, Nat.reduceEqDiff, Nat.reduceLT, Nat.reduceGT, Int.reduceGT, Int.reduceGE, Int.reduceLT, Int.reduceLE, Int.reduceEq, Int.reduceAdd, Int.reduceSub, Int.reduceNeg, reduceCtorEq, if_true, if_false, ite_true, ite_false, ne_eq, eq_self, OPK_, KEY_]
  exact hK _
end Go.AM
namespace Go.AM
open Go
set_option maxRecDepth 20000
set_option linter.unusedSimpArgs false
set_option linter.unusedVariables false

def lstI (l : List Nat) : AV := .list .sh 1 (l.map fun (n : Nat) => AV.i n)
theorem slI_wk (l : List Nat) : WkL [(slI l).sh] [lstI l] := by
  unfold slI
  split
  · rename_i h; subst h; exact .nilS (by omega) .nil
  · exact .same .nil
theorem under_slI {n : Nat} {l : List Nat} : AV.under n (slI l) = true := by
  unfold slI; split <;> rfl
theorem app_slI {e : ET} {l : List Nat} {n : Nat} {σ : St} (h1 : e.c = 1) (h2 : e.bytes = 8) (hl : l.length ≤ 1000000) : appendL e false (slI l) (.list .full 1 [.i n]) σ = some (slI (l ++ [n]), σ) := by
  have he : elemsL e (.list .full 1 [.i n]) σ = some [.i n] := by simp [elemsL, h1]
  unfold appendL
  simp only [srcL, AV.isSlice, if_true, he, Option.bind_some, AV.under, AV.under.go, Bool.and_self]
  unfold slI
  by_cases h : l = []
  · subst h
    simp [appItems, h1, h2]
  · rw [if_neg h]
    have : 2 * (l.length + 1) * 8 ≤ 2 ^ 48 := by omega
    simp only [appItems, h1, ne_eq, not_true_eq_false, if_false, List.isEmpty_cons, Bool.false_eq_true, h2, List.length_map, List.length_cons, List.length_nil, Nat.zero_add, this, if_true]
    simp

def aboveK (l : List Key) (a : Key) (i : Nat) : Bool := match l[i]? with
  | some p => decide (0 < cmpK p a)
  | none => true
def belowK (l : List Key) (b : Key) (i : Nat) : Bool := decide (i = 0) || decide (b = key0) || (match l[i - 1]? with
  | some p => decide (cmpK p b < 0)
  | none => true)
def covUp (l : List Key) (a b : Key) (n : Nat) : List Nat := (List.range n).filter fun i => aboveK l a i && belowK l b i
def coverK (l : List Key) (a b : Key) : List Nat := if b ≠ key0 ∧ cmpK b a ≤ 0 then [] else covUp l a b (l.length + 1)
theorem cov_len {l : List Key} {a b : Key} {n : Nat} : (covUp l a b n).length ≤ n := by
  have := List.length_filter_le (fun i => aboveK l a i && belowK l b i) (List.range n)
  simpa [covUp] using this
theorem cov_succ {l : List Key} {a b : Key} {n : Nat} : covUp l a b (n + 1) = covUp l a b n ++ (if aboveK l a n && belowK l b n then [n] else []) := by
  unfold covUp
  rw [List.range_succ, List.filter_append]
  congr 1
  rw [List.filter_cons, List.filter_nil]

set_option maxHeartbeats 8000000 in
theorem Cover_spec {C : CallW} (hC : LeC C C) (P : Program) {f1 f2 : FuncId} (hc : KCmp C f1) (hn : TNodesS C f2) : ∀ (l : List Key) (a b : Key) (h : Nat) S H (K : AV → St → Prop), H[h]? = some (tabA l) → l.length ≤ 1000 → K (slI (coverK l a b)) ⟨S, H⟩ → runL C P (C_route_Table_Cover f1 f2) [.ptr (.heap h) 0, .agg (bs a.b), .agg (bs b.b)] ⟨S, H⟩ K := by
  intro l a b h S H K hh hl hK
  have hh' := hh
  unfold tabA lstK at hh'
  by_cases hb : b = key0
  · subst hb
    have hcv : coverK l a key0 = covUp l a key0 (l.length + 1) := if_neg fun h => h.1 rfl
    simp only [C_route_Table_Cover, RUN_, u_C_route_Table_Cover_k1, u_C_route_Table_Cover_k2, u_C_route_Table_Cover_k3, u_C_route_Table_Cover_k4, u_C_route_Table_Cover_k5, u_C_route_Table_Cover_k6, u_C_route_Table_Cover_k7, u_C_route_Table_Cover_k8, u_C_route_Table_Cover_k9, u_C_route_Table_Cover_k10, FR_, Nat.reducePow, Int.reducePow, Nat.reduceAdd, Nat.reduceSub, Nat.reduceMul, Int.reduceToNat, Nat.reduceLeDiff, Nat.reduceEqDiff, Nat.reduceLT, Nat.reduceGT, Int.reduceGT, Int.reduceGE, Int.reduceLT, Int.reduceLE, Int.reduceEq, Int.reduceAdd, Int.reduceSub, Int.reduceNeg, reduceCtorEq, if_true, if_false, ite_true, ite_false, ne_eq, eq_self, OPK_, KEY_]
    refine hn l _ _ _ _ hh (by omega) ?_
    simp only [RUN_, u_C_route_Table_Cover_k1, u_C_route_Table_Cover_k2, u_C_route_Table_Cover_k3, u_C_route_Table_Cover_k4, u_C_route_Table_Cover_k5, u_C_route_Table_Cover_k6, u_C_route_Table_Cover_k7, u_C_route_Table_Cover_k8, u_C_route_Table_Cover_k9, u_C_route_Table_Cover_k10, FR_, Nat.reducePow, Int.reducePow, Nat.reduceAdd, Nat.reduceSub, Nat.reduceMul, Int.reduceToNat, Nat.reduceLeDiff, Nat.reduceEqDiff, Nat.reduceLT, Nat.reduceGT, Int.reduceGT, Int.reduceGE, Int.reduceLT, Int.reduceLE, Int.reduceEq, Int.reduceAdd, Int.reduceSub, Int.reduceNeg, reduceCtorEq, if_true, if_false, ite_true, ite_false, ne_eq, eq_self, OPK_, KEY_]
    refine loop_rule hC (α := Nat) (fun i => l.length + 1 - i) (fun i => [.ptr (.heap h) 0, .undef, .undef, .undef, .ptr (.stk S.length) 0, .ptr (.stk (S.length + 1)) 0, .undef, .s (.bool true), slI (covUp l a key0 i), .undef, .undef, .undef, .undef, .undef, .undef, .undef, .undef, .undef, .undef, .undef, .undef, .undef, .undef, .undef, .i ((l.length + 1 : Nat) : Int), .s (.int .i64 i), .undef, .undef, .undef, .undef, .undef, .undef, .undef, .undef, .undef, .undef, .undef, .undef, .undef, .undef, .undef, .undef, .undef, .undef, .undef, .undef, .undef, .undef, .undef, .undef, .undef, .undef, .undef, .undef, .undef, .undef, .undef, .undef, .undef, .undef, .undef, .undef, .undef, .undef, .undef, .undef, .undef, .undef, .undef, .undef, .undef, .undef, .undef, .undef, .undef]) (fun _ => S ++ [bs a.b, bs key0.b]) (fun _ => H) (fun i => i ≤ l.length + 1) 0 (by simp) rfl (by rw [app_take_add]; rfl) rfl (fun i hi => by simp [AV.under, AV.under.go, under_slI]) ?_
    intro i hi ih
    by_cases h16 : i < l.length + 1
    · have hlt : ((i : Int) < ((l.length + 1 : Nat) : Int)) := by omega
      have hge : (0 : Int) ≤ (i : Int) := by omega
      have hw := wrap_succ (i := i) (by omega)
      have hcl := cov_len (l := l) (a := a) (b := key0) (n := i)
      have happ : ∀ (e : ET) (σ : St), e.c = 1 → e.bytes = 8 → appendL e false (slI (covUp l a key0 i)) (.list .full 1 [.i i]) σ = some (slI (covUp l a key0 i ++ [i]), σ) := fun e σ h1 h2 => app_slI h1 h2 (by omega)
      have habove : aboveK l a i = (if hx : i < l.length then decide (0 < Lib.compareBytes (l[i]).b a.b) else true) := by
        unfold aboveK
        by_cases hx : i < l.length
        · simp [hx, cmpK] <;> rfl
        · simp [hx]
      have hbelow : belowK l key0 i = (if hx : 0 < i then true || decide (Lib.compareBytes (l[i - 1]'(by omega)).b key0.b < 0) else true) := by
        unfold belowK
        by_cases hx : 0 < i
        · have h17 : i - 1 < l.length := by omega
          have hne : ¬ i = 0 := by omega
          simp [hx, hne, cmpK, h17] <;> rfl
        · have : i = 0 := by omega
          simp [hx, this]
      have hs := cov_succ (l := l) (a := a) (b := key0) (n := i)
      by_cases hil : i < l.length
      · have hil' : ¬ ((i : Int) = (l.length : Int)) := by omega
        simp only [RUN_, u_C_route_Table_Cover_k1, u_C_route_Table_Cover_k2, u_C_route_Table_Cover_k3, u_C_route_Table_Cover_k4, u_C_route_Table_Cover_k5, u_C_route_Table_Cover_k6, u_C_route_Table_Cover_k7, u_C_route_Table_Cover_k8, u_C_route_Table_Cover_k9, u_C_route_Table_Cover_k10, FR_, Nat.reducePow, Int.reducePow, Nat.reduceAdd, Nat.reduceSub, Nat.reduceMul, Int.reduceToNat, Nat.reduceLeDiff, Nat.reduceEqDiff, Nat.reduceLT, Nat.reduceGT, Int.reduceGT, Int.reduceGE, Int.reduceLT, Int.reduceLE, Int.reduceEq, Int.reduceAdd, Int.reduceSub, Int.reduceNeg, reduceCtorEq, if_true, if_false, ite_true, ite_false, ne_eq, eq_self, OPK_, KEY_, hlt, hh', hil', hil]
        refine hc _ _ _ _ _ ?_
        by_cases hx : 0 < Lib.compareBytes (l[i]).b a.b
        · simp only [RUN_, u_C_route_Table_Cover_k1, u_C_route_Table_Cover_k2, u_C_route_Table_Cover_k3, u_C_route_Table_Cover_k4, u_C_route_Table_Cover_k5, u_C_route_Table_Cover_k6, u_C_route_Table_Cover_k7, u_C_route_Table_Cover_k8, u_C_route_Table_Cover_k9, u_C_route_Table_Cover_k10, FR_, Nat.reducePow, Int.reducePow, Nat.reduceAdd, Nat.reduceSub, Nat.reduceMul, Int.reduceToNat, Nat.reduceLeDiff, Nat.reduceEqDiff, Nat.reduceLT, Nat.reduceGT, Int.reduceGT, Int.reduceGE, Int.reduceLT, Int.reduceLE, Int.reduceEq, Int.reduceAdd, Int.reduceSub, Int.reduceNeg, reduceCtorEq, if_true, if_false, ite_true, ite_false, ne_eq, eq_self, OPK_, KEY_, hx]
          by_cases h0 : i = 0
          · have h0' : (((i : Int) = 0) = True) := eq_true (by omega)
            have h00 : ¬ (0 < i) := by omega
            simp only [RUN_, u_C_route_Table_Cover_k1, u_C_route_Table_Cover_k2, u_C_route_Table_Cover_k3, u_C_route_Table_Cover_k4, u_C_route_Table_Cover_k5, u_C_route_Table_Cover_k6, u_C_route_Table_Cover_k7, u_C_route_Table_Cover_k8, u_C_route_Table_Cover_k9, u_C_route_Table_Cover_k10, FR_, Nat.reducePow, Int.reducePow, Nat.reduceAdd, Nat.reduceSub, Nat.reduceMul, Int.reduceToNat, Nat.reduceLeDiff, Nat.reduceEqDiff, Nat.reduceLT, Nat.reduceGT, Int.reduceGT, Int.reduceGE, Int.reduceLT, Int.reduceLE, Int.reduceEq, Int.reduceAdd, Int.reduceSub, Int.reduceNeg, reduceCtorEq, if_true, if_false, ite_true, ite_false, ne_eq, eq_self, OPK_, KEY_, h0']
            have hs1 : covUp l a key0 (i + 1) = covUp l a key0 i ++ [i] := by rw [hs, habove, hbelow]; simp [hil, hx, h00]
            have ih1 := ih (i + 1)
            rw [hs1] at ih1
            try simp only [RUN_, u_C_route_Table_Cover_k1, u_C_route_Table_Cover_k2, u_C_route_Table_Cover_k3, u_C_route_Table_Cover_k4, u_C_route_Table_Cover_k5, u_C_route_Table_Cover_k6, u_C_route_Table_Cover_k7, u_C_route_Table_Cover_k8, u_C_route_Table_Cover_k9, u_C_route_Table_Cover_k10, FR_, Nat.reducePow, Int.reducePow, Nat.reduceAdd, Nat.reduceSub, Nat.reduceMul, Int.reduceToNat, Nat.reduceLeDiff, Nat.reduceEqDiff, Nat.reduceLT, Nat.reduceGT, Int.reduceGT, Int.reduceGE, Int.reduceLT, Int.reduceLE, Int.reduceEq, Int.reduceAdd, Int.reduceSub, Int.reduceNeg, reduceCtorEq, if_true, if_false, ite_true, ite_false, ne_eq, eq_self, OPK_, KEY_, happ, hw]
            exact ih1 _ _ _ (by omega) (by omega) rfl (app_take_add _ _ _) rfl
          · have h0' : ¬ ((i : Int) = 0) := by omega
            have h00 : 0 < i := by omega
            simp only [RUN_, u_C_route_Table_Cover_k1, u_C_route_Table_Cover_k2, u_C_route_Table_Cover_k3, u_C_route_Table_Cover_k4, u_C_route_Table_Cover_k5, u_C_route_Table_Cover_k6, u_C_route_Table_Cover_k7, u_C_route_Table_Cover_k8, u_C_route_Table_Cover_k9, u_C_route_Table_Cover_k10, FR_, Nat.reducePow, Int.reducePow, Nat.reduceAdd, Nat.reduceSub, Nat.reduceMul, Int.reduceToNat, Nat.reduceLeDiff, Nat.reduceEqDiff, Nat.reduceLT, Nat.reduceGT, Int.reduceGT, Int.reduceGE, Int.reduceLT, Int.reduceLE, Int.reduceEq, Int.reduceAdd, Int.reduceSub, Int.reduceNeg, reduceCtorEq, if_true, if_false, ite_true, ite_false, ne_eq, eq_self, OPK_, KEY_, h0']
            have hs1 : covUp l a key0 (i + 1) = covUp l a key0 i ++ [i] := by rw [hs, habove, hbelow]; simp [hil, hx, h00]
            have ih1 := ih (i + 1)
            rw [hs1] at ih1
            try simp only [RUN_, u_C_route_Table_Cover_k1, u_C_route_Table_Cover_k2, u_C_route_Table_Cover_k3, u_C_route_Table_Cover_k4, u_C_route_Table_Cover_k5, u_C_route_Table_Cover_k6, u_C_route_Table_Cover_k7, u_C_route_Table_Cover_k8, u_C_route_Table_Cover_k9, u_C_route_Table_Cover_k10, FR_, Nat.reducePow, Int.reducePow, Nat.reduceAdd, Nat.reduceSub, Nat.reduceMul, Int.reduceToNat, Nat.reduceLeDiff, Nat.reduceEqDiff, Nat.reduceLT, Nat.reduceGT, Int.reduceGT, Int.reduceGE, Int.reduceLT, Int.reduceLE, Int.reduceEq, Int.reduceAdd, Int.reduceSub, Int.reduceNeg, reduceCtorEq, if_true, if_false, ite_true, ite_false, ne_eq, eq_self, OPK_, KEY_, happ, hw]
            exact ih1 _ _ _ (by omega) (by omega) rfl (app_take_add _ _ _) rfl
        · simp only [RUN_, u_C_route_Table_Cover_k1, u_C_route_Table_Cover_k2, u_C_route_Table_Cover_k3, u_C_route_Table_Cover_k4, u_C_route_Table_Cover_k5, u_C_route_Table_Cover_k6, u_C_route_Table_Cover_k7, u_C_route_Table_Cover_k8, u_C_route_Table_Cover_k9, u_C_route_Table_Cover_k10, FR_, Nat.reducePow, Int.reducePow, Nat.reduceAdd, Nat.reduceSub, Nat.reduceMul, Int.reduceToNat, Nat.reduceLeDiff, Nat.reduceEqDiff, Nat.reduceLT, Nat.reduceGT, Int.reduceGT, Int.reduceGE, Int.reduceLT, Int.reduceLE, Int.reduceEq, Int.reduceAdd, Int.reduceSub, Int.reduceNeg, reduceCtorEq, if_true, if_false, ite_true, ite_false, ne_eq, eq_self, OPK_, KEY_, hx]
          by_cases h0 : i = 0
          · have h0' : (((i : Int) = 0) = True) := eq_true (by omega)
            have h00 : ¬ (0 < i) := by omega
            simp only [RUN_, u_C_route_Table_Cover_k1, u_C_route_Table_Cover_k2, u_C_route_Table_Cover_k3, u_C_route_Table_Cover_k4, u_C_route_Table_Cover_k5, u_C_route_Table_Cover_k6, u_C_route_Table_Cover_k7, u_C_route_Table_Cover_k8, u_C_route_Table_Cover_k9, u_C_route_Table_Cover_k10, FR_, Nat.reducePow, Int.reducePow, Nat.reduceAdd, Nat.reduceSub, Nat.reduceMul, Int.reduceToNat, Nat.reduceLeDiff, Nat.reduceEqDiff, Nat.reduceLT, Nat.reduceGT, Int.reduceGT, Int.reduceGE, Int.reduceLT, Int.reduceLE, Int.reduceEq, Int.reduceAdd, Int.reduceSub, Int.reduceNeg, reduceCtorEq, if_true, if_false, ite_true, ite_false, ne_eq, eq_self, OPK_, KEY_, h0']
            have hs1 : covUp l a key0 (i + 1) = covUp l a key0 i := by rw [hs, habove, hbelow]; simp [hil, hx, h00]
            have ih1 := ih (i + 1)
            rw [hs1] at ih1
            try simp only [RUN_, u_C_route_Table_Cover_k1, u_C_route_Table_Cover_k2, u_C_route_Table_Cover_k3, u_C_route_Table_Cover_k4, u_C_route_Table_Cover_k5, u_C_route_Table_Cover_k6, u_C_route_Table_Cover_k7, u_C_route_Table_Cover_k8, u_C_route_Table_Cover_k9, u_C_route_Table_Cover_k10, FR_, Nat.reducePow, Int.reducePow, Nat.reduceAdd, Nat.reduceSub, Nat.reduceMul, Int.reduceToNat, Nat.reduceLeDiff, Nat.reduceEqDiff, Nat.reduceLT, Nat.reduceGT, Int.reduceGT, Int.reduceGE, Int.reduceLT, Int.reduceLE, Int.reduceEq, Int.reduceAdd, Int.reduceSub, Int.reduceNeg, reduceCtorEq, if_true, if_false, ite_true, ite_false, ne_eq, eq_self, OPK_, KEY_, happ, hw]
            exact ih1 _ _ _ (by omega) (by omega) rfl (app_take_add _ _ _) rfl
          · have h0' : ¬ ((i : Int) = 0) := by omega
            have h00 : 0 < i := by omega
            simp only [RUN_, u_C_route_Table_Cover_k1, u_C_route_Table_Cover_k2, u_C_route_Table_Cover_k3, u_C_route_Table_Cover_k4, u_C_route_Table_Cover_k5, u_C_route_Table_Cover_k6, u_C_route_Table_Cover_k7, u_C_route_Table_Cover_k8, u_C_route_Table_Cover_k9, u_C_route_Table_Cover_k10, FR_, Nat.reducePow, Int.reducePow, Nat.reduceAdd, Nat.reduceSub, Nat.reduceMul, Int.reduceToNat, Nat.reduceLeDiff, Nat.reduceEqDiff, Nat.reduceLT, Nat.reduceGT, Int.reduceGT, Int.reduceGE, Int.reduceLT, Int.reduceLE, Int.reduceEq, Int.reduceAdd, Int.reduceSub, Int.reduceNeg, reduceCtorEq, if_true, if_false, ite_true, ite_false, ne_eq, eq_self, OPK_, KEY_, h0']
            have hs1 : covUp l a key0 (i + 1) = covUp l a key0 i := by rw [hs, habove, hbelow]; simp [hil, hx, h00]
            have ih1 := ih (i + 1)
            rw [hs1] at ih1
            try simp only [RUN_, u_C_route_Table_Cover_k1, u_C_route_Table_Cover_k2, u_C_route_Table_Cover_k3, u_C_route_Table_Cover_k4, u_C_route_Table_Cover_k5, u_C_route_Table_Cover_k6, u_C_route_Table_Cover_k7, u_C_route_Table_Cover_k8, u_C_route_Table_Cover_k9, u_C_route_Table_Cover_k10, FR_, Nat.reducePow, Int.reducePow, Nat.reduceAdd, Nat.reduceSub, Nat.reduceMul, Int.reduceToNat, Nat.reduceLeDiff, Nat.reduceEqDiff, Nat.reduceLT, Nat.reduceGT, Int.reduceGT, Int.reduceGE, Int.reduceLT, Int.reduceLE, Int.reduceEq, Int.reduceAdd, Int.reduceSub, Int.reduceNeg, reduceCtorEq, if_true, if_false, ite_true, ite_false, ne_eq, eq_self, OPK_, KEY_, happ, hw]
            exact ih1 _ _ _ (by omega) (by omega) rfl (app_take_add _ _ _) rfl
      · have hil' : (((i : Int) = (l.length : Int)) = True) := eq_true (by omega)
        simp only [RUN_, u_C_route_Table_Cover_k1, u_C_route_Table_Cover_k2, u_C_route_Table_Cover_k3, u_C_route_Table_Cover_k4, u_C_route_Table_Cover_k5, u_C_route_Table_Cover_k6, u_C_route_Table_Cover_k7, u_C_route_Table_Cover_k8, u_C_route_Table_Cover_k9, u_C_route_Table_Cover_k10, FR_, Nat.reducePow, Int.reducePow, Nat.reduceAdd, Nat.reduceSub, Nat.reduceMul, Int.reduceToNat, Nat.reduceLeDiff, Nat.reduceEqDiff, Nat.reduceLT, Nat.reduceGT, Int.reduceGT, Int.reduceGE, Int.reduceLT, Int.reduceLE, Int.reduceEq, Int.reduceAdd, Int.reduceSub, Int.reduceNeg, reduceCtorEq, if_true, if_false, ite_true, ite_false, ne_eq, eq_self, OPK_, KEY_, hlt, hh', hil']
        by_cases h0 : i = 0
        · have h0' : (((i : Int) = 0) = True) := eq_true (by omega)
          have h00 : ¬ (0 < i) := by omega
          simp only [RUN_, u_C_route_Table_Cover_k1, u_C_route_Table_Cover_k2, u_C_route_Table_Cover_k3, u_C_route_Table_Cover_k4, u_C_route_Table_Cover_k5, u_C_route_Table_Cover_k6, u_C_route_Table_Cover_k7, u_C_route_Table_Cover_k8, u_C_route_Table_Cover_k9, u_C_route_Table_Cover_k10, FR_, Nat.reducePow, Int.reducePow, Nat.reduceAdd, Nat.reduceSub, Nat.reduceMul, Int.reduceToNat, Nat.reduceLeDiff, Nat.reduceEqDiff, Nat.reduceLT, Nat.reduceGT, Int.reduceGT, Int.reduceGE, Int.reduceLT, Int.reduceLE, Int.reduceEq, Int.reduceAdd, Int.reduceSub, Int.reduceNeg, reduceCtorEq, if_true, if_false, ite_true, ite_false, ne_eq, eq_self, OPK_, KEY_, h0']
          have hs1 : covUp l a key0 (i + 1) = covUp l a key0 i ++ [i] := by rw [hs, habove, hbelow]; simp [hil, h00]
          have ih1 := ih (i + 1)
          rw [hs1] at ih1
          try simp only [RUN_, u_C_route_Table_Cover_k1, u_C_route_Table_Cover_k2, u_C_route_Table_Cover_k3, u_C_route_Table_Cover_k4, u_C_route_Table_Cover_k5, u_C_route_Table_Cover_k6, u_C_route_Table_Cover_k7, u_C_route_Table_Cover_k8, u_C_route_Table_Cover_k9, u_C_route_Table_Cover_k10, FR_, Nat.reducePow, Int.reducePow, Nat.reduceAdd, Nat.reduceSub, Nat.reduceMul, Int.reduceToNat, Nat.reduceLeDiff, Nat.reduceEqDiff, Nat.reduceLT, Nat.reduceGT, Int.reduceGT, Int.reduceGE, Int.reduceLT, Int.reduceLE, Int.reduceEq, Int.reduceAdd, Int.reduceSub, Int.reduceNeg, reduceCtorEq, if_true, if_false, ite_true, ite_false, ne_eq, eq_self, OPK_, KEY_, happ, hw]
          exact ih1 _ _ _ (by omega) (by omega) rfl (app_take_add _ _ _) rfl
        · have h0' : ¬ ((i : Int) = 0) := by omega
          have h00 : 0 < i := by omega
          simp only [RUN_, u_C_route_Table_Cover_k1, u_C_route_Table_Cover_k2, u_C_route_Table_Cover_k3, u_C_route_Table_Cover_k4, u_C_route_Table_Cover_k5, u_C_route_Table_Cover_k6, u_C_route_Table_Cover_k7, u_C_route_Table_Cover_k8, u_C_route_Table_Cover_k9, u_C_route_Table_Cover_k10, FR_, Nat.reducePow, Int.reducePow, Nat.reduceAdd, Nat.reduceSub, Nat.reduceMul, Int.reduceToNat, Nat.reduceLeDiff, Nat.reduceEqDiff, Nat.reduceLT, Nat.reduceGT, Int.reduceGT, Int.reduceGE, Int.reduceLT, Int.reduceLE, Int.reduceEq, Int.reduceAdd, Int.reduceSub, Int.reduceNeg, reduceCtorEq, if_true, if_false, ite_true, ite_false, ne_eq, eq_self, OPK_, KEY_, h0']
          have hs1 : covUp l a key0 (i + 1) = covUp l a key0 i ++ [i] := by rw [hs, habove, hbelow]; simp [hil, h00]
          have ih1 := ih (i + 1)
          rw [hs1] at ih1
          try simp only [RUN_, u_C_route_Table_Cover_k1, u_C_route_Table_Cover_k2, u_C_route_Table_Cover_k3, u_C_route_Table_Cover_k4, u_C_route_Table_Cover_k5, u_C_route_Table_Cover_k6, u_C_route_Table_Cover_k7, u_C_route_Table_Cover_k8, u_C_route_Table_Cover_k9, u_C_route_Table_Cover_k10, FR_, Nat.reducePow, Int.reducePow, Nat.reduceAdd, Nat.reduceSub, Nat.reduceMul, Int.reduceToNat, Nat.reduceLeDiff, Nat.reduceEqDiff, Nat.reduceLT, Nat.reduceGT, Int.reduceGT, Int.reduceGE, Int.reduceLT, Int.reduceLE, Int.reduceEq, Int.reduceAdd, Int.reduceSub, Int.reduceNeg, reduceCtorEq, if_true, if_false, ite_true, ite_false, ne_eq, eq_self, OPK_, KEY_, happ, hw]
          exact ih1 _ _ _ (by omega) (by omega) rfl (app_take_add _ _ _) rfl
    · have hlt : ¬ ((i : Int) < ((l.length + 1 : Nat) : Int)) := by omega
      have hi' : i = l.length + 1 := by omega
      subst hi'
      rw [hcv] at hK
      simp only [RUN_, u_C_route_Table_Cover_k1, u_C_route_Table_Cover_k2, u_C_route_Table_Cover_k3, u_C_route_Table_Cover_k4, u_C_route_Table_Cover_k5, u_C_route_Table_Cover_k6, u_C_route_Table_Cover_k7, u_C_route_Table_Cover_k8, u_C_route_Table_Cover_k9, u_C_route_Table_Cover_k10, FR_, Nat.reducePow, Int.reducePow, Nat.reduceAdd, Nat.reduceSub, Nat.reduceMul, Int.reduceToNat, Nat.reduceLeDiff, Nat.reduceEqDiff, Nat.reduceLT, Nat.reduceGT, Int.reduceGT, Int.reduceGE, Int.reduceLT, Int.reduceLE, Int.reduceEq, Int.reduceAdd, Int.reduceSub, Int.reduceNeg, reduceCtorEq, if_true, if_false, ite_true, ite_false, ne_eq, eq_self, OPK_, KEY_, hlt, under_slI]
      exact hK
  · simp only [C_route_Table_Cover, RUN_, u_C_route_Table_Cover_k1, u_C_route_Table_Cover_k2, u_C_route_Table_Cover_k3, u_C_route_Table_Cover_k4, u_C_route_Table_Cover_k5, u_C_route_Table_Cover_k6, u_C_route_Table_Cover_k7, u_C_route_Table_Cover_k8, u_C_route_Table_Cover_k9, u_C_route_Table_Cover_k10, FR_, Nat.reducePow, Int.reducePow, Nat.reduceAdd, Nat.reduceSub, Nat.reduceMul, Int.reduceToNat, Nat.reduceLeDiff, Nat.reduceEqDiff, Nat.reduceLT, Nat.reduceGT, Int.reduceGT, Int.reduceGE, Int.reduceLT, Int.reduceLE, Int.reduceEq, Int.reduceAdd, Int.reduceSub, Int.reduceNeg, reduceCtorEq, if_true, if_false, ite_true, ite_false, ne_eq, eq_self, OPK_, KEY_, hb]
    refine hc _ _ _ _ _ ?_
    by_cases hba : Lib.compareBytes b.b a.b ≤ 0
    · have hcv : coverK l a b = [] := if_pos ⟨hb, hba⟩
      rw [hcv] at hK
      simp only [RUN_, u_C_route_Table_Cover_k1, u_C_route_Table_Cover_k2, u_C_route_Table_Cover_k3, u_C_route_Table_Cover_k4, u_C_route_Table_Cover_k5, u_C_route_Table_Cover_k6, u_C_route_Table_Cover_k7, u_C_route_Table_Cover_k8, u_C_route_Table_Cover_k9, u_C_route_Table_Cover_k10, FR_, Nat.reducePow, Int.reducePow, Nat.reduceAdd, Nat.reduceSub, Nat.reduceMul, Int.reduceToNat, Nat.reduceLeDiff, Nat.reduceEqDiff, Nat.reduceLT, Nat.reduceGT, Int.reduceGT, Int.reduceGE, Int.reduceLT, Int.reduceLE, Int.reduceEq, Int.reduceAdd, Int.reduceSub, Int.reduceNeg, reduceCtorEq, if_true, if_false, ite_true, ite_false, ne_eq, eq_self, OPK_, KEY_, hba]
      exact hK
    · have hcv : coverK l a b = covUp l a b (l.length + 1) := if_neg fun h => hba h.2
      simp only [RUN_, u_C_route_Table_Cover_k1, u_C_route_Table_Cover_k2, u_C_route_Table_Cover_k3, u_C_route_Table_Cover_k4, u_C_route_Table_Cover_k5, u_C_route_Table_Cover_k6, u_C_route_Table_Cover_k7, u_C_route_Table_Cover_k8, u_C_route_Table_Cover_k9, u_C_route_Table_Cover_k10, FR_, Nat.reducePow, Int.reducePow, Nat.reduceAdd, Nat.reduceSub, Nat.reduceMul, Int.reduceToNat, Nat.reduceLeDiff, Nat.reduceEqDiff, Nat.reduceLT, Nat.reduceGT, Int.reduceGT, Int.reduceGE, Int.reduceLT, Int.reduceLE, Int.reduceEq, Int.reduceAdd, Int.reduceSub, Int.reduceNeg, reduceCtorEq, if_true, if_false, ite_true, ite_false, ne_eq, eq_self, OPK_, KEY_, hba]
      refine hn l _ _ _ _ hh (by omega) ?_
      simp only [RUN_, u_C_route_Table_Cover_k1, u_C_route_Table_Cover_k2, u_C_route_Table_Cover_k3, u_C_route_Table_Cover_k4, u_C_route_Table_Cover_k5, u_C_route_Table_Cover_k6, u_C_route_Table_Cover_k7, u_C_route_Table_Cover_k8, u_C_route_Table_Cover_k9, u_C_route_Table_Cover_k10, FR_, Nat.reducePow, Int.reducePow, Nat.reduceAdd, Nat.reduceSub, Nat.reduceMul, Int.reduceToNat, Nat.reduceLeDiff, Nat.reduceEqDiff, Nat.reduceLT, Nat.reduceGT, Int.reduceGT, Int.reduceGE, Int.reduceLT, Int.reduceLE, Int.reduceEq, Int.reduceAdd, Int.reduceSub, Int.reduceNeg, reduceCtorEq, if_true, if_false, ite_true, ite_false, ne_eq, eq_self, OPK_, KEY_]
      refine loop_rule hC (α := Nat) (fun i => l.length + 1 - i) (fun i => [.ptr (.heap h) 0, .undef, .undef, .undef, .ptr (.stk S.length) 0, .ptr (.stk (S.length + 1)) 0, .undef, .s (.bool false), slI (covUp l a b i), .undef, .undef, .undef, .undef, .undef, .undef, .undef, .undef, .undef, .undef, .undef, .undef, .undef, .undef, .undef, .i ((l.length + 1 : Nat) : Int), .s (.int .i64 i), .undef, .undef, .undef, .undef, .undef, .undef, .undef, .undef, .undef, .undef, .undef, .undef, .undef, .undef, .undef, .undef, .undef, .undef, .undef, .undef, .undef, .undef, .undef, .undef, .undef, .undef, .undef, .undef, .undef, .undef, .undef, .undef, .undef, .undef, .undef, .undef, .undef, .undef, .undef, .undef, .undef, .undef, .undef, .undef, .undef, .undef, .undef, .undef, .undef]) (fun _ => S ++ [bs a.b, bs b.b]) (fun _ => H) (fun i => i ≤ l.length + 1) 0 (by simp) rfl (by rw [app_take_add]; rfl) rfl (fun i hi => by simp [AV.under, AV.under.go, under_slI]) ?_
      intro i hi ih
      by_cases h16 : i < l.length + 1
      · have hlt : ((i : Int) < ((l.length + 1 : Nat) : Int)) := by omega
        have hge : (0 : Int) ≤ (i : Int) := by omega
        have hw := wrap_succ (i := i) (by omega)
        have hcl := cov_len (l := l) (a := a) (b := b) (n := i)
        have happ : ∀ (e : ET) (σ : St), e.c = 1 → e.bytes = 8 → appendL e false (slI (covUp l a b i)) (.list .full 1 [.i i]) σ = some (slI (covUp l a b i ++ [i]), σ) := fun e σ h1 h2 => app_slI h1 h2 (by omega)
        have habove : aboveK l a i = (if hx : i < l.length then decide (0 < Lib.compareBytes (l[i]).b a.b) else true) := by
          unfold aboveK
          by_cases hx : i < l.length
          · simp [hx, cmpK] <;> rfl
          · simp [hx]
        have hbelow : belowK l b i = (if hx : 0 < i then false || decide (Lib.compareBytes (l[i - 1]'(by omega)).b b.b < 0) else true) := by
          unfold belowK
          by_cases hx : 0 < i
          · have h17 : i - 1 < l.length := by omega
            have hne : ¬ i = 0 := by omega
            simp [hx, hne, cmpK, h17, hb] <;> rfl
          · have : i = 0 := by omega
            simp [hx, this]
        have hs := cov_succ (l := l) (a := a) (b := b) (n := i)
        by_cases hil : i < l.length
        · have hil' : ¬ ((i : Int) = (l.length : Int)) := by omega
          simp only [RUN_, u_C_route_Table_Cover_k1, u_C_route_Table_Cover_k2, u_C_route_Table_Cover_k3, u_C_route_Table_Cover_k4, u_C_route_Table_Cover_k5, u_C_route_Table_Cover_k6, u_C_route_Table_Cover_k7, u_C_route_Table_Cover_k8, u_C_route_Table_Cover_k9, u_C_route_Table_Cover_k10, FR_, Nat.reducePow, Int.reducePow, Nat.reduceAdd, Nat.reduceSub, Nat.reduceMul, Int.reduceToNat, Nat.reduceLeDiff, Nat.reduceEqDiff, Nat.reduceLT, Nat.reduceGT, Int.reduceGT, Int.reduceGE, Int.reduceLT, Int.reduceLE, Int.reduceEq, Int.reduceAdd, Int.reduceSub, Int.reduceNeg, reduceCtorEq, if_true, if_false, ite_true, ite_false, ne_eq, eq_self, OPK_, KEY_, hlt, hh', hil', hil]
          refine hc _ _ _ _ _ ?_
          by_cases hx : 0 < Lib.compareBytes (l[i]).b a.b
          · simp only [RUN_, u_C_route_Table_Cover_k1, u_C_route_Table_Cover_k2, u_C_route_Table_Cover_k3, u_C_route_Table_Cover_k4, u_C_route_Table_Cover_k5, u_C_route_Table_Cover_k6, u_C_route_Table_Cover_k7, u_C_route_Table_Cover_k8, u_C_route_Table_Cover_k9, u_C_route_Table_Cover_k10, FR_, Nat.reducePow, Int.reducePow, Nat.reduceAdd, Nat.reduceSub, Nat.reduceMul, Int.reduceToNat, Nat.reduceLeDiff, Nat.reduceEqDiff, Nat.reduceLT, Nat.reduceGT, Int.reduceGT, Int.reduceGE, Int.reduceLT, Int.reduceLE, Int.reduceEq, Int.reduceAdd, Int.reduceSub, Int.reduceNeg, reduceCtorEq, if_true, if_false, ite_true, ite_false, ne_eq, eq_self, OPK_, KEY_, hx]
            by_cases h0 : i = 0
            · have h0' : (((i : Int) = 0) = True) := eq_true (by omega)
              have h00 : ¬ (0 < i) := by omega
              simp only [RUN_, u_C_route_Table_Cover_k1, u_C_route_Table_Cover_k2, u_C_route_Table_Cover_k3, u_C_route_Table_Cover_k4, u_C_route_Table_Cover_k5, u_C_route_Table_Cover_k6, u_C_route_Table_Cover_k7, u_C_route_Table_Cover_k8, u_C_route_Table_Cover_k9, u_C_route_Table_Cover_k10, FR_, Nat.reducePow, Int.reducePow, Nat.reduceAdd, Nat.reduceSub, Nat.reduceMul, Int.reduceToNat, Nat.reduceLeDiff, Nat.reduceEqDiff, Nat.reduceLT, Nat.reduceGT, Int.reduceGT, Int.reduceGE, Int.reduceLT, Int.reduceLE, Int.reduceEq, Int.reduceAdd, Int.reduceSub, Int.reduceNeg, reduceCtorEq, if_true, if_false, ite_true, ite_false, ne_eq, eq_self, OPK_, KEY_, h0']
              have hs1 : covUp l a b (i + 1) = covUp l a b i ++ [i] := by rw [hs, habove, hbelow]; simp [hil, hx, h00]
              have ih1 := ih (i + 1)
              rw [hs1] at ih1
              try simp only [RUN_, u_C_route_Table_Cover_k1, u_C_route_Table_Cover_k2, u_C_route_Table_Cover_k3, u_C_route_Table_Cover_k4, u_C_route_Table_Cover_k5, u_C_route_Table_Cover_k6, u_C_route_Table_Cover_k7, u_C_route_Table_Cover_k8, u_C_route_Table_Cover_k9, u_C_route_Table_Cover_k10, FR_, Nat.reducePow, Int.reducePow, Nat.reduceAdd, Nat.reduceSub, Nat.reduceMul, Int.reduceToNat, Nat.reduceLeDiff, Nat.reduceEqDiff, Nat.reduceLT, Nat.reduceGT, Int.reduceGT, Int.reduceGE, Int.reduceLT, Int.reduceLE, Int.reduceEq, Int.reduceAdd, Int.reduceSub, Int.reduceNeg, reduceCtorEq, if_true, if_false, ite_true, ite_false, ne_eq, eq_self, OPK_, KEY_, happ, hw]
              exact ih1 _ _ _ (by omega) (by omega) rfl (app_take_add _ _ _) rfl
            · have h0' : ¬ ((i : Int) = 0) := by omega
              have h00 : 0 < i := by omega
              have h17 : i - 1 < l.length := by omega
              have hwp : IntKind.i64.wrap ((i : Int) - 1) = ((i - 1 : Nat) : Int) := by rw [wrap_i64 (by omega) (by omega)]; omega
              simp only [RUN_, u_C_route_Table_Cover_k1, u_C_route_Table_Cover_k2, u_C_route_Table_Cover_k3, u_C_route_Table_Cover_k4, u_C_route_Table_Cover_k5, u_C_route_Table_Cover_k6, u_C_route_Table_Cover_k7, u_C_route_Table_Cover_k8, u_C_route_Table_Cover_k9, u_C_route_Table_Cover_k10, FR_, Nat.reducePow, Int.reducePow, Nat.reduceAdd, Nat.reduceSub, Nat.reduceMul, Int.reduceToNat, Nat.reduceLeDiff, Nat.reduceEqDiff, Nat.reduceLT, Nat.reduceGT, Int.reduceGT, Int.reduceGE, Int.reduceLT, Int.reduceLE, Int.reduceEq, Int.reduceAdd, Int.reduceSub, Int.reduceNeg, reduceCtorEq, if_true, if_false, ite_true, ite_false, ne_eq, eq_self, OPK_, KEY_, h0', hh', h17, hwp]
              refine hc _ _ _ _ _ ?_
              by_cases hy : Lib.compareBytes (l[i - 1]).b b.b < 0
              · simp only [RUN_, u_C_route_Table_Cover_k1, u_C_route_Table_Cover_k2, u_C_route_Table_Cover_k3, u_C_route_Table_Cover_k4, u_C_route_Table_Cover_k5, u_C_route_Table_Cover_k6, u_C_route_Table_Cover_k7, u_C_route_Table_Cover_k8, u_C_route_Table_Cover_k9, u_C_route_Table_Cover_k10, FR_, Nat.reducePow, Int.reducePow, Nat.reduceAdd, Nat.reduceSub, Nat.reduceMul, Int.reduceToNat, Nat.reduceLeDiff, Nat.reduceEqDiff, Nat.reduceLT, Nat.reduceGT, Int.reduceGT, Int.reduceGE, Int.reduceLT, Int.reduceLE, Int.reduceEq, Int.reduceAdd, Int.reduceSub, Int.reduceNeg, reduceCtorEq, if_true, if_false, ite_true, ite_false, ne_eq, eq_self, OPK_, KEY_, hy]
                have hs1 : covUp l a b (i + 1) = covUp l a b i ++ [i] := by rw [hs, habove, hbelow]; simp [hil, hx, h00, hy]
                have ih1 := ih (i + 1)
                rw [hs1] at ih1
                try simp only [RUN_, u_C_route_Table_Cover_k1, u_C_route_Table_Cover_k2, u_C_route_Table_Cover_k3, u_C_route_Table_Cover_k4, u_C_route_Table_Cover_k5, u_C_route_Table_Cover_k6, u_C_route_Table_Cover_k7, u_C_route_Table_Cover_k8, u_C_route_Table_Cover_k9, u_C_route_Table_Cover_k10, FR_, Nat.reducePow, Int.reducePow, Nat.reduceAdd, Nat.reduceSub, Nat.reduceMul, Int.reduceToNat, Nat.reduceLeDiff, Nat.reduceEqDiff, Nat.reduceLT, Nat.reduceGT, Int.reduceGT, Int.reduceGE, Int.reduceLT, Int.reduceLE, Int.reduceEq, Int.reduceAdd, Int.reduceSub, Int.reduceNeg, reduceCtorEq, if_true, if_false, ite_true, ite_false, ne_eq, eq_self, OPK_, KEY_, happ, hw]
                exact ih1 _ _ _ (by omega) (by omega) rfl (app_take_add _ _ _) rfl
              · simp only [RUN_, u_C_route_Table_Cover_k1, u_C_route_Table_Cover_k2, u_C_route_Table_Cover_k3, u_C_route_Table_Cover_k4, u_C_route_Table_Cover_k5, u_C_route_Table_Cover_k6, u_C_route_Table_Cover_k7, u_C_route_Table_Cover_k8, u_C_route_Table_Cover_k9, u_C_route_Table_Cover_k10, FR_, Nat.reducePow, Int.reducePow, Nat.reduceAdd, Nat.reduceSub, Nat.reduceMul, Int.reduceToNat, Nat.reduceLeDiff, Nat.reduceEqDiff, Nat.reduceLT, Nat.reduceGT, Int.reduceGT, Int.reduceGE, Int.reduceLT, Int.reduceLE, Int.reduceEq, Int.reduceAdd, Int.reduceSub, Int.reduceNeg, reduceCtorEq, if_true, if_false, ite_true, ite_false, ne_eq, eq_self, OPK_, KEY_, hy]
                have hs1 : covUp l a b (i + 1) = covUp l a b i := by rw [hs, habove, hbelow]; simp [hil, hx, h00, hy]
                have ih1 := ih (i + 1)
                rw [hs1] at ih1
                try simp only [RUN_, u_C_route_Table_Cover_k1, u_C_route_Table_Cover_k2, u_C_route_Table_Cover_k3, u_C_route_Table_Cover_k4, u_C_route_Table_Cover_k5, u_C_route_Table_Cover_k6, u_C_route_Table_Cover_k7, u_C_route_Table_Cover_k8, u_C_route_Table_Cover_k9, u_C_route_Table_Cover_k10, FR_, Nat.reducePow, Int.reducePow, Nat.reduceAdd, Nat.reduceSub, Nat.reduceMul, Int.reduceToNat, Nat.reduceLeDiff, Nat.reduceEqDiff, Nat.reduceLT, Nat.reduceGT, Int.reduceGT, Int.reduceGE, Int.reduceLT, Int.reduceLE, Int.reduceEq, Int.reduceAdd, Int.reduceSub, Int.reduceNeg, reduceCtorEq, if_true, if_false, ite_true, ite_false, ne_eq, eq_self, OPK_, KEY_, happ, hw]
                exact ih1 _ _ _ (by omega) (by omega) rfl (app_take_add _ _ _) rfl
          · simp only [RUN_, u_C_route_Table_Cover_k1, u_C_route_Table_Cover_k2, u_C_route_Table_Cover_k3, u_C_route_Table_Cover_k4, u_C_route_Table_Cover_k5, u_C_route_Table_Cover_k6, u_C_route_Table_Cover_k7, u_C_route_Table_Cover_k8, u_C_route_Table_Cover_k9, u_C_route_Table_Cover_k10, FR_, Nat.reducePow, Int.reducePow, Nat.reduceAdd, Nat.reduceSub, Nat.reduceMul, Int.reduceToNat, Nat.reduceLeDiff, Nat.reduceEqDiff, Nat.reduceLT, Nat.reduceGT, Int.reduceGT, Int.reduceGE, Int.reduceLT, Int.reduceLE, Int.reduceEq, Int.reduceAdd, Int.reduceSub, Int.reduceNeg, reduceCtorEq, if_true, if_false, ite_true, ite_false, ne_eq, eq_self, OPK_, KEY_, hx]
            by_cases h0 : i = 0
            · have h0' : (((i : Int) = 0) = True) := eq_true (by omega)
              have h00 : ¬ (0 < i) := by omega
              simp only [RUN_, u_C_route_Table_Cover_k1, u_C_route_Table_Cover_k2, u_C_route_Table_Cover_k3, u_C_route_Table_Cover_k4, u_C_route_Table_Cover_k5, u_C_route_Table_Cover_k6, u_C_route_Table_Cover_k7, u_C_route_Table_Cover_k8, u_C_route_Table_Cover_k9, u_C_route_Table_Cover_k10, FR_, Nat.reducePow, Int.reducePow, Nat.reduceAdd, Nat.reduceSub, Nat.reduceMul, Int.reduceToNat, Nat.reduceLeDiff, Nat.reduceEqDiff, Nat.reduceLT, Nat.reduceGT, Int.reduceGT, Int.reduceGE, Int.reduceLT, Int.reduceLE, Int.reduceEq, Int.reduceAdd, Int.reduceSub, Int.reduceNeg, reduceCtorEq, if_true, if_false, ite_true, ite_false, ne_eq, eq_self, OPK_, KEY_, h0']
              have hs1 : covUp l a b (i + 1) = covUp l a b i := by rw [hs, habove, hbelow]; simp [hil, hx, h00]
              have ih1 := ih (i + 1)
              rw [hs1] at ih1
              try simp only [RUN_, u_C_route_Table_Cover_k1, u_C_route_Table_Cover_k2, u_C_route_Table_Cover_k3, u_C_route_Table_Cover_k4, u_C_route_Table_Cover_k5, u_C_route_Table_Cover_k6, u_C_route_Table_Cover_k7, u_C_route_Table_Cover_k8, u_C_route_Table_Cover_k9, u_C_route_Table_Cover_k10, FR_, Nat.reducePow, Int.reducePow, Nat.reduceAdd, Nat.reduceSub, Nat.reduceMul, Int.reduceToNat, Nat.reduceLeDiff, Nat.reduceEqDiff, Nat.reduceLT, Nat.reduceGT, Int.reduceGT, Int.reduceGE, Int.reduceLT, Int.reduceLE, Int.reduceEq, Int.reduceAdd, Int.reduceSub, Int.reduceNeg, reduceCtorEq, if_true, if_false, ite_true, ite_false, ne_eq, eq_self, OPK_, KEY_, happ, hw]
              exact ih1 _ _ _ (by omega) (by omega) rfl (app_take_add _ _ _) rfl
            · have h0' : ¬ ((i : Int) = 0) := by omega
              have h00 : 0 < i := by omega
              have h17 : i - 1 < l.length := by omega
              have hwp : IntKind.i64.wrap ((i : Int) - 1) = ((i - 1 : Nat) : Int) := by rw [wrap_i64 (by omega) (by omega)]; omega
              simp only [RUN_, u_C_route_Table_Cover_k1, u_C_route_Table_Cover_k2, u_C_route_Table_Cover_k3, u_C_route_Table_Cover_k4, u_C_route_Table_Cover_k5, u_C_route_Table_Cover_k6, u_C_route_Table_Cover_k7, u_C_route_Table_Cover_k8, u_C_route_Table_Cover_k9, u_C_route_Table_Cover_k10, FR_, Nat.reducePow, Int.reducePow, Nat.reduceAdd, Nat.reduceSub, Nat.reduceMul, Int.reduceToNat, Nat.reduceLeDiff, Nat.reduceEqDiff, Nat.reduceLT, Nat.reduceGT, Int.reduceGT, Int.reduceGE, Int.reduceLT, Int.reduceLE, Int.reduceEq, Int.reduceAdd, Int.reduceSub, Int.reduceNeg, reduceCtorEq, if_true, if_false, ite_true, ite_false, ne_eq, eq_self, OPK_, KEY_, h0', hh', h17, hwp]
              refine hc _ _ _ _ _ ?_
              by_cases hy : Lib.compareBytes (l[i - 1]).b b.b < 0
              · simp only [RUN_, u_C_route_Table_Cover_k1, u_C_route_Table_Cover_k2, u_C_route_Table_Cover_k3, u_C_route_Table_Cover_k4, u_C_route_Table_Cover_k5, u_C_route_Table_Cover_k6, u_C_route_Table_Cover_k7, u_C_route_Table_Cover_k8, u_C_route_Table_Cover_k9, u_C_route_Table_Cover_k10, FR_, Nat.reducePow, Int.reducePow, Nat.reduceAdd, Nat.reduceSub, Nat.reduceMul, Int.reduceToNat, Nat.reduceLeDiff, Nat.reduceEqDiff, Nat.reduceLT, Nat.reduceGT, Int.reduceGT, Int.reduceGE, Int.reduceLT, Int.reduceLE, Int.reduceEq, Int.reduceAdd, Int.reduceSub, Int.reduceNeg, reduceCtorEq, if_true, if_false, ite_true, ite_false, ne_eq, eq_self, OPK_, KEY_, hy]
                have hs1 : covUp l a b (i + 1) = covUp l a b i := by rw [hs, habove, hbelow]; simp [hil, hx, h00, hy]
                have ih1 := ih (i + 1)
                rw [hs1] at ih1
                try simp only [RUN_, u_C_route_Table_Cover_k1, u_C_route_Table_Cover_k2, u_C_route_Table_Cover_k3, u_C_route_Table_Cover_k4, u_C_route_Table_Cover_k5, u_C_route_Table_Cover_k6, u_C_route_Table_Cover_k7, u_C_route_Table_Cover_k8, u_C_route_Table_Cover_k9, u_C_route_Table_Cover_k10, FR_, Nat.reducePow, Int.reducePow, Nat.reduceAdd, Nat.reduceSub, Nat.reduceMul, Int.reduceToNat, Nat.reduceLeDiff, Nat.reduceEqDiff, Nat.reduceLT, Nat.reduceGT, Int.reduceGT, Int.reduceGE, Int.reduceLT, Int.reduceLE, Int.reduceEq, Int.reduceAdd, Int.reduceSub, Int.reduceNeg, reduceCtorEq, if_true, if_false, ite_true, ite_false, ne_eq, eq_self, OPK_, KEY_, happ, hw]
                exact ih1 _ _ _ (by omega) (by omega) rfl (app_take_add _ _ _) rfl
              · simp only [RUN_, u_C_route_Table_Cover_k1, u_C_route_Table_Cover_k2, u_C_route_Table_Cover_k3, u_C_route_Table_Cover_k4, u_C_route_Table_Cover_k5, u_C_route_Table_Cover_k6, u_C_route_Table_Cover_k7, u_C_route_Table_Cover_k8, u_C_route_Table_Cover_k9, u_C_route_Table_Cover_k10, FR_, Nat.reducePow, Int.reducePow, Nat.reduceAdd, Nat.reduceSub, Nat.reduceMul, Int.reduceToNat, Nat.reduceLeDiff, Nat.reduceEqDiff, Nat.reduceLT, Nat.reduceGT, Int.reduceGT, Int.reduceGE, Int.reduceLT, Int.reduceLE, Int.reduceEq, Int.reduceAdd, Int.reduceSub, Int.reduceNeg, reduceCtorEq, if_true, if_false, ite_true, ite_false, ne_eq, eq_self, OPK_, KEY_, hy]
                have hs1 : covUp l a b (i + 1) = covUp l a b i := by rw [hs, habove, hbelow]; simp [hil, hx, h00, hy]
                have ih1 := ih (i + 1)
                rw [hs1] at ih1
                try simp only [RUN_, u_C_route_Table_Cover_k1, u_C_route_Table_Cover_k2, u_C_route_Table_Cover_k3, u_C_route_Table_Cover_k4, u_C_route_Table_Cover_k5, u_C_route_Table_Cover_k6, u_C_route_Table_Cover_k7, u_C_route_Table_Cover_k8, u_C_route_Table_Cover_k9, u_C_route_Table_Cover_k10, FR_, Nat.reducePow, Int.reducePow, Nat.reduceAdd, Nat.reduceSub, Nat.reduceMul, Int.reduceToNat, Nat.reduceLeDiff, Nat.reduceEqDiff, Nat.reduceLT, Nat.reduceGT, Int.reduceGT, Int.reduceGE, Int.reduceLT, Int.reduceLE, Int.reduceEq, Int.reduceAdd, Int.reduceSub, Int.reduceNeg, reduceCtorEq, if_true, if_false, ite_true, ite_false, ne_eq, eq_self, OPK_, KEY_, happ, hw]
                exact ih1 _ _ _ (by omega) (by omega) rfl (app_take_add _ _ _) rfl
        · have hil' : (((i : Int) = (l.length : Int)) = True) := eq_true (by omega)
          simp only [RUN_, u_C_route_Table_Cover_k1, u_C_route_Table_Cover_k2, u_C_route_Table_Cover_k3, u_C_route_Table_Cover_k4, u_C_route_Table_Cover_k5, u_C_route_Table_Cover_k6, u_C_route_Table_Cover_k7, u_C_route_Table_Cover_k8, u_C_route_Table_Cover_k9, u_C_route_Table_Cover_k10, FR_, Nat.reducePow, Int.reducePow, Nat.reduceAdd, Nat.reduceSub, Nat.reduceMul, Int.reduceToNat, Nat.reduceLeDiff, Nat.reduceEqDiff, Nat.reduceLT, Nat.reduceGT, Int.reduceGT, Int.reduceGE, Int.reduceLT, Int.reduceLE, Int.reduceEq, Int.reduceAdd, Int.reduceSub, Int.reduceNeg, reduceCtorEq, if_true, if_false, ite_true, ite_false, ne_eq, eq_self, OPK_, KEY_, hlt, hh', hil']
          by_cases h0 : i = 0
          · have h0' : (((i : Int) = 0) = True) := eq_true (by omega)
            have h00 : ¬ (0 < i) := by omega
            simp only [RUN_, u_C_route_Table_Cover_k1, u_C_route_Table_Cover_k2, u_C_route_Table_Cover_k3, u_C_route_Table_Cover_k4, u_C_route_Table_Cover_k5, u_C_route_Table_Cover_k6, u_C_route_Table_Cover_k7, u_C_route_Table_Cover_k8, u_C_route_Table_Cover_k9, u_C_route_Table_Cover_k10, FR_, Nat.reducePow, Int.reducePow, Nat.reduceAdd, Nat.reduceSub, Nat.reduceMul, Int.reduceToNat, Nat.reduceLeDiff, Nat.reduceEqDiff, Nat.reduceLT, Nat.reduceGT, Int.reduceGT, Int.reduceGE, Int.reduceLT, Int.reduceLE, Int.reduceEq, Int.reduceAdd, Int.reduceSub, Int.reduceNeg, reduceCtorEq, if_true, if_false, ite_true, ite_false, ne_eq, eq_self, OPK_, KEY_, h0']
            have hs1 : covUp l a b (i + 1) = covUp l a b i ++ [i] := by rw [hs, habove, hbelow]; simp [hil, h00]
            have ih1 := ih (i + 1)
            rw [hs1] at ih1
            try simp only [RUN_, u_C_route_Table_Cover_k1, u_C_route_Table_Cover_k2, u_C_route_Table_Cover_k3, u_C_route_Table_Cover_k4, u_C_route_Table_Cover_k5, u_C_route_Table_Cover_k6, u_C_route_Table_Cover_k7, u_C_route_Table_Cover_k8, u_C_route_Table_Cover_k9, u_C_route_Table_Cover_k10, FR_, Nat.reducePow, Int.reducePow, Nat.reduceAdd, Nat.reduceSub, Nat.reduceMul, Int.reduceToNat, Nat.reduceLeDiff, Nat.reduceEqDiff, Nat.reduceLT, Nat.reduceGT, Int.reduceGT, Int.reduceGE, Int.reduceLT, Int.reduceLE, Int.reduceEq, Int.reduceAdd, Int.reduceSub, Int.reduceNeg, reduceCtorEq, if_true, if_false, ite_true, ite_false, ne_eq, eq_self, OPK_, KEY_, happ, hw]
            exact ih1 _ _ _ (by omega) (by omega) rfl (app_take_add _ _ _) rfl
          · have h0' : ¬ ((i : Int) = 0) := by omega
            have h00 : 0 < i := by omega
            have h17 : i - 1 < l.length := by omega
            have hwp : IntKind.i64.wrap ((i : Int) - 1) = ((i - 1 : Nat) : Int) := by rw [wrap_i64 (by omega) (by omega)]; omega
            simp only [RUN_, u_C_route_Table_Cover_k1, u_C_route_Table_Cover_k2, u_C_route_Table_Cover_k3, u_C_route_Table_Cover_k4, u_C_route_Table_Cover_k5, u_C_route_Table_Cover_k6, u_C_route_Table_Cover_k7, u_C_route_Table_Cover_k8, u_C_route_Table_Cover_k9, u_C_route_Table_Cover_k10, FR_, Nat.reducePow, Int.reducePow, Nat.reduceAdd, Nat.reduceSub, Nat.reduceMul, Int.reduceToNat, Nat.reduceLeDiff, Nat.reduceEqDiff, Nat.reduceLT, Nat.reduceGT, Int.reduceGT, Int.reduceGE, Int.reduceLT, Int.reduceLE, Int.reduceEq, Int.reduceAdd, Int.reduceSub, Int.reduceNeg, reduceCtorEq, if_true, if_false, ite_true, ite_false, ne_eq, eq_self, OPK_, KEY_, h0', hh', h17, hwp]
            refine hc _ _ _ _ _ ?_
            by_cases hy : Lib.compareBytes (l[i - 1]).b b.b < 0
            · simp only [RUN_, u_C_route_Table_Cover_k1, u_C_route_Table_Cover_k2, u_C_route_Table_Cover_k3, u_C_route_Table_Cover_k4, u_C_route_Table_Cover_k5, u_C_route_Table_Cover_k6, u_C_route_Table_Cover_k7, u_C_route_Table_Cover_k8, u_C_route_Table_Cover_k9, u_C_route_Table_Cover_k10, FR_, Nat.reducePow, Int.reducePow, Nat.reduceAdd, Nat.reduceSub, Nat.reduceMul, Int.reduceToNat, Nat.reduceLeDiff, Nat.reduceEqDiff, Nat.reduceLT, Nat.reduceGT, Int.reduceGT, Int.reduceGE, Int.reduceLT, Int.reduceLE, Int.reduceEq, Int.reduceAdd, Int.reduceSub, Int.reduceNeg, reduceCtorEq, if_true, if_false, ite_true, ite_false, ne_eq, eq_self, OPK_, KEY_, hy]
              have hs1 : covUp l a b (i + 1) = covUp l a b i ++ [i] := by rw [hs, habove, hbelow]; simp [hil, h00, hy]
              have ih1 := ih (i + 1)
              rw [hs1] at ih1
              try simp only [RUN_, u_C_route_Table_Cover_k1, u_C_route_Table_Cover_k2, u_C_route_Table_Cover_k3, u_C_route_Table_Cover_k4, u_C_route_Table_Cover_k5, u_C_route_Table_Cover_k6, u_C_route_Table_Cover_k7, u_C_route_Table_Cover_k8, u_C_route_Table_Cover_k9, u_C_route_Table_Cover_k10, FR_, Nat.reducePow, Int.reducePow, Nat.reduceAdd, Nat.reduceSub, Nat.reduceMul, Int.reduceToNat, Nat.reduceLeDiff, Nat.reduceEqDiff, Nat.reduceLT, Nat.reduceGT, Int.reduceGT, Int.reduceGE, Int.reduceLT, Int.reduceLE, Int.reduceEq, Int.reduceAdd, Int.reduceSub, Int.reduceNeg, reduceCtorEq, if_true, if_false, ite_true, ite_false, ne_eq, eq_self, OPK_, KEY_, happ, hw]
              exact ih1 _ _ _ (by omega) (by omega) rfl (app_take_add _ _ _) rfl
            · simp only [RUN_, u_C_route_Table_Cover_k1, u_C_route_Table_Cover_k2, u_C_route_Table_Cover_k3, u_C_route_Table_Cover_k4, u_C_route_Table_Cover_k5, u_C_route_Table_Cover_k6, u_C_route_Table_Cover_k7, u_C_route_Table_Cover_k8, u_C_route_Table_Cover_k9, u_C_route_Table_Cover_k10, FR_, Nat.reducePow, Int.reducePow, Nat.reduceAdd, Nat.reduceSub, Nat.reduceMul, Int.reduceToNat, Nat.reduceLeDiff, Nat.reduceEqDiff, Nat.reduceLT, Nat.reduceGT, Int.reduceGT, Int.reduceGE, Int.reduceLT, Int.reduceLE, Int.reduceEq, Int.reduceAdd, Int.reduceSub, Int.reduceNeg, reduceCtorEq, if_true, if_false, ite_true, ite_false, ne_eq, eq_self, OPK_, KEY_, hy]
              have hs1 : covUp l a b (i + 1) = covUp l a b i := by rw [hs, habove, hbelow]; simp [hil, h00, hy]
              have ih1 := ih (i + 1)
              rw [hs1] at ih1
              try simp only [RUN_, u_C_route_Table_Cover_k1, u_C_route_Table_Cover_k2, u_C_route_Table_Cover_k3, u_C_route_Table_Cover_k4, u_C_route_Table_Cover_k5, u_C_route_Table_Cover_k6, u_C_route_Table_Cover_k7, u_C_route_Table_Cover_k8, u_C_route_Table_Cover_k9, u_C_route_Table_Cover_k10, FR_, Nat.reducePow, Int.reducePow, Nat.reduceAdd, Nat.reduceSub, Nat.reduceMul, Int.reduceToNat, Nat.reduceLeDiff, Nat.reduceEqDiff, Nat.reduceLT, Nat.reduceGT, Int.reduceGT, Int.reduceGE, Int.reduceLT, Int.reduceLE, Int.reduceEq, Int.reduceAdd, Int.reduceSub, Int.reduceNeg, reduceCtorEq, if_true, if_false, ite_true, ite_false, ne_eq, eq_self, OPK_, KEY_, happ, hw]
              exact ih1 _ _ _ (by omega) (by omega) rfl (app_take_add _ _ _) rfl
      · have hlt : ¬ ((i : Int) < ((l.length + 1 : Nat) : Int)) := by omega
        have hi' : i = l.length + 1 := by omega
        subst hi'
        rw [hcv] at hK
        simp only [RUN_, u_C_route_Table_Cover_k1, u_C_route_Table_Cover_k2, u_C_route_Table_Cover_k3, u_C_route_Table_Cover_k4, u_C_route_Table_Cover_k5, u_C_route_Table_Cover_k6, u_C_route_Table_Cover_k7, u_C_route_Table_Cover_k8, u_C_route_Table_Cover_k9, u_C_route_Table_Cover_k10, FR_, Nat.reducePow, Int.reducePow, Nat.reduceAdd, Nat.reduceSub, Nat.reduceMul, Int.reduceToNat, Nat.reduceLeDiff, Nat.reduceEqDiff, Nat.reduceLT, Nat.reduceGT, Int.reduceGT, Int.reduceGE, Int.reduceLT, Int.reduceLE, Int.reduceEq, Int.reduceAdd, Int.reduceSub, Int.reduceNeg, reduceCtorEq, if_true, if_false, ite_true, ite_false, ne_eq, eq_self, OPK_, KEY_, hlt, under_slI]
        exact hK
end Go.AM
namespace Go.AM
open Go
set_option maxRecDepth 20000
set_option linter.unusedSimpArgs false
set_option linter.unusedVariables false

def CoverS (C : CallW) (f : FuncId) : Prop := ∀ (l : List Key) (a b : Key) (h : Nat) S H (K : AV → St → Prop), H[h]? = some (tabA l) → l.length ≤ 1000 → K (lstI (coverK l a b)) ⟨S, H⟩ → C (.fn f) [.ptr (.heap h) 0, .agg (bs a.b), .agg (bs b.b)] ⟨S, H⟩ K
def WithinS (C : CallW) (f : FuncId) : Prop := ∀ (k a b : Key) S H K, K (.bool (withinK k a b)) ⟨S, H⟩ → C (.fn f) [.agg (bs k.b), .agg (bs a.b), .agg (bs b.b)] ⟨S, H⟩ K
def AwS (C : CallW) (f : FuncId) : Prop := ∀ S H (K : AV → St → Prop), (∀ o, K (.bool true) ⟨S, H ++ [o]⟩) → C (.fn f) [] ⟨S, H⟩ K

theorem ixl_i {l : List Nat} {i c : Nat} {k : IntKind} (h : i < l.length) (hc : c ≠ 0) : indexAddrL (.sl c) (.list .sh c (l.map fun (n : Nat) => AV.i n)) (.s (.int k (i : Int))) = some (.rop [.i (l[i] : Nat)]) := ixl_map h hc

def Steps (c : List Nat) : Prop := ∀ i, 0 < i → (h : i < c.length) → c[i] = c[i - 1] + 1

theorem mem_take_succ {x i : Nat} {c : List Nat} (h : i < c.length) : x ∈ c.take (i + 1) ↔ x ∈ c.take i ∨ c[i] = x := by
  rw [List.take_succ_eq_append_getElem h, List.mem_append, List.mem_singleton]
  exact or_congr Iff.rfl eq_comm

theorem coverK_len {l : List Key} {a b : Key} (h : l.length ≤ 100) : (coverK l a b).length ≤ 1000 := by
  unfold coverK
  split
  · simp
  · have := cov_len (l := l) (a := a) (b := b) (n := l.length + 1); omega

structure WholeP (pts : List Key) (a b fr to : Key) : Prop where
  good : ∀ k, goodR k = true → goodK k = true
  lt : cntK a pts ≤ pts.length
  mono : cmpK a b ≤ 0 → cntK a pts ≤ cntK b pts
  cons : Steps (coverK pts fr to)
  small : ∀ x ∈ coverK pts fr to, x ≤ pts.length
  mem : withinK a fr to = true → cntK a pts ∈ coverK pts fr to

set_option maxHeartbeats 8000000 in
theorem RouteWhole_spec {C : CallW} (hC : LeC C C) (P : Program) {f1 f2 f3 f4 f5 f6 f7 f8 : FuncId} (h1 : AwS C f1) (h2 : NewS C f2) (h3 : BoolK goodR C f3) (h4 : TOfS C f4) (h5 : TNodesS C f5) (h6 : KCmp C f6) (h7 : CoverS C f7) (h8 : WithinS C f8) :
    ∀ (pts : List Key) (a b fr to : Key) S H (K : AV → St → Prop), pts.length ≤ 9223372036854775807 → (okPts pts = true → WholeP pts a b fr to) → (∀ H', K (.bool true) ⟨S, H'⟩) → runL C P (C_hourglasslaw17_RouteWhole f1 f2 f3 f4 f5 f6 f7 f8) [lstK pts, .agg (bs a.b), .agg (bs b.b), .agg (bs fr.b), .agg (bs to.b)] ⟨S, H⟩ K := by
  intro pts a b fr to S H K hl hP hK
  simp only [lstK, C_hourglasslaw17_RouteWhole, RUN_, u_C_hourglasslaw17_RouteWhole_k1, u_C_hourglasslaw17_RouteWhole_k2, u_C_hourglasslaw17_RouteWhole_k3, u_C_hourglasslaw17_RouteWhole_k4, u_C_hourglasslaw17_RouteWhole_k5, u_C_hourglasslaw17_RouteWhole_k6, u_C_hourglasslaw17_RouteWhole_k7, u_C_hourglasslaw17_RouteWhole_k8, u_C_hourglasslaw17_RouteWhole_k9, u_C_hourglasslaw17_RouteWhole_k10, u_C_hourglasslaw17_RouteWhole_k11, u_C_hourglasslaw17_RouteWhole_k12, u_C_hourglasslaw17_RouteWhole_k13, u_C_hourglasslaw17_RouteWhole_k14, FR_, Nat.reducePow, Int.reducePow, Nat.reduceAdd, Nat.reduceSub, Nat.reduceMul, Int.reduceToNat, Nat.reduceLeDiff, Nat.reduceEqDiff, Nat.reduceLT, Nat.reduceGT, Int.reduceGT, Int.reduceGE, Int.reduceLT, Int.reduceLE, Int.reduceEq, Int.reduceAdd, Int.reduceSub, Int.reduceNeg, reduceCtorEq, if_true, if_false, ite_true, ite_false, ne_eq, eq_self, OPK_, KEY_]
  refine h1 _ _ _ fun o => ?_
  simp only [RUN_, u_C_hourglasslaw17_RouteWhole_k1, u_C_hourglasslaw17_RouteWhole_k2, u_C_hourglasslaw17_RouteWhole_k3, u_C_hourglasslaw17_RouteWhole_k4, u_C_hourglasslaw17_RouteWhole_k5, u_C_hourglasslaw17_RouteWhole_k6, u_C_hourglasslaw17_RouteWhole_k7, u_C_hourglasslaw17_RouteWhole_k8, u_C_hourglasslaw17_RouteWhole_k9, u_C_hourglasslaw17_RouteWhole_k10, u_C_hourglasslaw17_RouteWhole_k11, u_C_hourglasslaw17_RouteWhole_k12, u_C_hourglasslaw17_RouteWhole_k13, u_C_hourglasslaw17_RouteWhole_k14, FR_, Nat.reducePow, Int.reducePow, Nat.reduceAdd, Nat.reduceSub, Nat.reduceMul, Int.reduceToNat, Nat.reduceLeDiff, Nat.reduceEqDiff, Nat.reduceLT, Nat.reduceGT, Int.reduceGT, Int.reduceGE, Int.reduceLT, Int.reduceLE, Int.reduceEq, Int.reduceAdd, Int.reduceSub, Int.reduceNeg, reduceCtorEq, if_true, if_false, ite_true, ite_false, ne_eq, eq_self, OPK_, KEY_]
  refine h2 pts _ _ _ hl ?_
  unfold newA newH
  by_cases hok : okPts pts = true
  case neg =>
    rw [show (okPts pts && decide (pts.length < 8)) = false by simp [hok]]
    simp only [RUN_, u_C_hourglasslaw17_RouteWhole_k1, u_C_hourglasslaw17_RouteWhole_k2, u_C_hourglasslaw17_RouteWhole_k3, u_C_hourglasslaw17_RouteWhole_k4, u_C_hourglasslaw17_RouteWhole_k5, u_C_hourglasslaw17_RouteWhole_k6, u_C_hourglasslaw17_RouteWhole_k7, u_C_hourglasslaw17_RouteWhole_k8, u_C_hourglasslaw17_RouteWhole_k9, u_C_hourglasslaw17_RouteWhole_k10, u_C_hourglasslaw17_RouteWhole_k11, u_C_hourglasslaw17_RouteWhole_k12, u_C_hourglasslaw17_RouteWhole_k13, u_C_hourglasslaw17_RouteWhole_k14, FR_, Nat.reducePow, Int.reducePow, Nat.reduceAdd, Nat.reduceSub, Nat.reduceMul, Int.reduceToNat, Nat.reduceLeDiff, Nat.reduceEqDiff, Nat.reduceLT, Nat.reduceGT, Int.reduceGT, Int.reduceGE, Int.reduceLT, Int.reduceLE, Int.reduceEq, Int.reduceAdd, Int.reduceSub, Int.reduceNeg, reduceCtorEq, if_true, if_false, ite_true, ite_false, ne_eq, eq_self, OPK_, KEY_]
    exact hK _
  by_cases h8l : pts.length < 8
  case neg =>
    rw [show (okPts pts && decide (pts.length < 8)) = false by simp [h8l]]
    simp only [RUN_, u_C_hourglasslaw17_RouteWhole_k1, u_C_hourglasslaw17_RouteWhole_k2, u_C_hourglasslaw17_RouteWhole_k3, u_C_hourglasslaw17_RouteWhole_k4, u_C_hourglasslaw17_RouteWhole_k5, u_C_hourglasslaw17_RouteWhole_k6, u_C_hourglasslaw17_RouteWhole_k7, u_C_hourglasslaw17_RouteWhole_k8, u_C_hourglasslaw17_RouteWhole_k9, u_C_hourglasslaw17_RouteWhole_k10, u_C_hourglasslaw17_RouteWhole_k11, u_C_hourglasslaw17_RouteWhole_k12, u_C_hourglasslaw17_RouteWhole_k13, u_C_hourglasslaw17_RouteWhole_k14, FR_, Nat.reducePow, Int.reducePow, Nat.reduceAdd, Nat.reduceSub, Nat.reduceMul, Int.reduceToNat, Nat.reduceLeDiff, Nat.reduceEqDiff, Nat.reduceLT, Nat.reduceGT, Int.reduceGT, Int.reduceGE, Int.reduceLT, Int.reduceLE, Int.reduceEq, Int.reduceAdd, Int.reduceSub, Int.reduceNeg, reduceCtorEq, if_true, if_false, ite_true, ite_false, ne_eq, eq_self, OPK_, KEY_]
    exact hK _
  rw [show (okPts pts && decide (pts.length < 8)) = true by simp [hok, h8l]]
  have Q := hP hok
  have hl7 : ¬ ((7 : Int) < (pts.length : Int)) := by omega
  simp only [RUN_, u_C_hourglasslaw17_RouteWhole_k1, u_C_hourglasslaw17_RouteWhole_k2, u_C_hourglasslaw17_RouteWhole_k3, u_C_hourglasslaw17_RouteWhole_k4, u_C_hourglasslaw17_RouteWhole_k5, u_C_hourglasslaw17_RouteWhole_k6, u_C_hourglasslaw17_RouteWhole_k7, u_C_hourglasslaw17_RouteWhole_k8, u_C_hourglasslaw17_RouteWhole_k9, u_C_hourglasslaw17_RouteWhole_k10, u_C_hourglasslaw17_RouteWhole_k11, u_C_hourglasslaw17_RouteWhole_k12, u_C_hourglasslaw17_RouteWhole_k13, u_C_hourglasslaw17_RouteWhole_k14, FR_, Nat.reducePow, Int.reducePow, Nat.reduceAdd, Nat.reduceSub, Nat.reduceMul, Int.reduceToNat, Nat.reduceLeDiff, Nat.reduceEqDiff, Nat.reduceLT, Nat.reduceGT, Int.reduceGT, Int.reduceGE, Int.reduceLT, Int.reduceLE, Int.reduceEq, Int.reduceAdd, Int.reduceSub, Int.reduceNeg, reduceCtorEq, if_true, if_false, ite_true, ite_false, ne_eq, eq_self, OPK_, KEY_, hl7]
  have hh : (H ++ [o, tabA pts])[H.length + 1]? = some (tabA pts) := by rw [app_get]; rfl
  refine h3 _ _ _ _ ?_
  cases hga : goodR a with
  | false =>
    simp only [RUN_, u_C_hourglasslaw17_RouteWhole_k1, u_C_hourglasslaw17_RouteWhole_k2, u_C_hourglasslaw17_RouteWhole_k3, u_C_hourglasslaw17_RouteWhole_k4, u_C_hourglasslaw17_RouteWhole_k5, u_C_hourglasslaw17_RouteWhole_k6, u_C_hourglasslaw17_RouteWhole_k7, u_C_hourglasslaw17_RouteWhole_k8, u_C_hourglasslaw17_RouteWhole_k9, u_C_hourglasslaw17_RouteWhole_k10, u_C_hourglasslaw17_RouteWhole_k11, u_C_hourglasslaw17_RouteWhole_k12, u_C_hourglasslaw17_RouteWhole_k13, u_C_hourglasslaw17_RouteWhole_k14, FR_, Nat.reducePow, Int.reducePow, Nat.reduceAdd, Nat.reduceSub, Nat.reduceMul, Int.reduceToNat, Nat.reduceLeDiff, Nat.reduceEqDiff, Nat.reduceLT, Nat.reduceGT, Int.reduceGT, Int.reduceGE, Int.reduceLT, Int.reduceLE, Int.reduceEq, Int.reduceAdd, Int.reduceSub, Int.reduceNeg, reduceCtorEq, if_true, if_false, ite_true, ite_false, ne_eq, eq_self, OPK_, KEY_]
    exact hK _
  | true =>
    simp only [RUN_, u_C_hourglasslaw17_RouteWhole_k1, u_C_hourglasslaw17_RouteWhole_k2, u_C_hourglasslaw17_RouteWhole_k3, u_C_hourglasslaw17_RouteWhole_k4, u_C_hourglasslaw17_RouteWhole_k5, u_C_hourglasslaw17_RouteWhole_k6, u_C_hourglasslaw17_RouteWhole_k7, u_C_hourglasslaw17_RouteWhole_k8, u_C_hourglasslaw17_RouteWhole_k9, u_C_hourglasslaw17_RouteWhole_k10, u_C_hourglasslaw17_RouteWhole_k11, u_C_hourglasslaw17_RouteWhole_k12, u_C_hourglasslaw17_RouteWhole_k13, u_C_hourglasslaw17_RouteWhole_k14, FR_, Nat.reducePow, Int.reducePow, Nat.reduceAdd, Nat.reduceSub, Nat.reduceMul, Int.reduceToNat, Nat.reduceLeDiff, Nat.reduceEqDiff, Nat.reduceLT, Nat.reduceGT, Int.reduceGT, Int.reduceGE, Int.reduceLT, Int.reduceLE, Int.reduceEq, Int.reduceAdd, Int.reduceSub, Int.reduceNeg, reduceCtorEq, if_true, if_false, ite_true, ite_false, ne_eq, eq_self, OPK_, KEY_]
    refine h3 _ _ _ _ ?_
    cases hgb : goodR b with
    | false =>
      simp only [RUN_, u_C_hourglasslaw17_RouteWhole_k1, u_C_hourglasslaw17_RouteWhole_k2, u_C_hourglasslaw17_RouteWhole_k3, u_C_hourglasslaw17_RouteWhole_k4, u_C_hourglasslaw17_RouteWhole_k5, u_C_hourglasslaw17_RouteWhole_k6, u_C_hourglasslaw17_RouteWhole_k7, u_C_hourglasslaw17_RouteWhole_k8, u_C_hourglasslaw17_RouteWhole_k9, u_C_hourglasslaw17_RouteWhole_k10, u_C_hourglasslaw17_RouteWhole_k11, u_C_hourglasslaw17_RouteWhole_k12, u_C_hourglasslaw17_RouteWhole_k13, u_C_hourglasslaw17_RouteWhole_k14, FR_, Nat.reducePow, Int.reducePow, Nat.reduceAdd, Nat.reduceSub, Nat.reduceMul, Int.reduceToNat, Nat.reduceLeDiff, Nat.reduceEqDiff, Nat.reduceLT, Nat.reduceGT, Int.reduceGT, Int.reduceGE, Int.reduceLT, Int.reduceLE, Int.reduceEq, Int.reduceAdd, Int.reduceSub, Int.reduceNeg, reduceCtorEq, if_true, if_false, ite_true, ite_false, ne_eq, eq_self, OPK_, KEY_]
      exact hK _
    | true =>
      simp only [RUN_, u_C_hourglasslaw17_RouteWhole_k1, u_C_hourglasslaw17_RouteWhole_k2, u_C_hourglasslaw17_RouteWhole_k3, u_C_hourglasslaw17_RouteWhole_k4, u_C_hourglasslaw17_RouteWhole_k5, u_C_hourglasslaw17_RouteWhole_k6, u_C_hourglasslaw17_RouteWhole_k7, u_C_hourglasslaw17_RouteWhole_k8, u_C_hourglasslaw17_RouteWhole_k9, u_C_hourglasslaw17_RouteWhole_k10, u_C_hourglasslaw17_RouteWhole_k11, u_C_hourglasslaw17_RouteWhole_k12, u_C_hourglasslaw17_RouteWhole_k13, u_C_hourglasslaw17_RouteWhole_k14, FR_, Nat.reducePow, Int.reducePow, Nat.reduceAdd, Nat.reduceSub, Nat.reduceMul, Int.reduceToNat, Nat.reduceLeDiff, Nat.reduceEqDiff, Nat.reduceLT, Nat.reduceGT, Int.reduceGT, Int.reduceGE, Int.reduceLT, Int.reduceLE, Int.reduceEq, Int.reduceAdd, Int.reduceSub, Int.reduceNeg, reduceCtorEq, if_true, if_false, ite_true, ite_false, ne_eq, eq_self, OPK_, KEY_]
      have hoa : ofK pts a = ((cntK a pts : Nat) : Int) := if_pos (Q.good _ hga)
      have hob : ofK pts b = ((cntK b pts : Nat) : Int) := if_pos (Q.good _ hgb)
      have hx0 : ¬ (((cntK a pts : Nat) : Int) < 0) := by omega
      have hxn : ¬ (((pts.length + 1 : Nat) : Int) ≤ ((cntK a pts : Nat) : Int)) := by have := Q.lt; omega
      refine h4 pts a _ _ _ _ hh (by omega) ?_
      rw [bakT_eq]
      refine mvK_chk ?_
      simp only [RUN_, u_C_hourglasslaw17_RouteWhole_k1, u_C_hourglasslaw17_RouteWhole_k2, u_C_hourglasslaw17_RouteWhole_k3, u_C_hourglasslaw17_RouteWhole_k4, u_C_hourglasslaw17_RouteWhole_k5, u_C_hourglasslaw17_RouteWhole_k6, u_C_hourglasslaw17_RouteWhole_k7, u_C_hourglasslaw17_RouteWhole_k8, u_C_hourglasslaw17_RouteWhole_k9, u_C_hourglasslaw17_RouteWhole_k10, u_C_hourglasslaw17_RouteWhole_k11, u_C_hourglasslaw17_RouteWhole_k12, u_C_hourglasslaw17_RouteWhole_k13, u_C_hourglasslaw17_RouteWhole_k14, FR_, Nat.reducePow, Int.reducePow, Nat.reduceAdd, Nat.reduceSub, Nat.reduceMul, Int.reduceToNat, Nat.reduceLeDiff, Nat.reduceEqDiff, Nat.reduceLT, Nat.reduceGT, Int.reduceGT, Int.reduceGE, Int.reduceLT, Int.reduceLE, Int.reduceEq, Int.reduceAdd, Int.reduceSub, Int.reduceNeg, reduceCtorEq, if_true, if_false, ite_true, ite_false, ne_eq, eq_self, OPK_, KEY_, CHK_, Nat.reduceBEq, hoa]
      refine h4 pts b _ _ _ _ hh (by omega) ?_
      rw [bakT_eq]
      refine mvK_chk ?_
      simp only [RUN_, u_C_hourglasslaw17_RouteWhole_k1, u_C_hourglasslaw17_RouteWhole_k2, u_C_hourglasslaw17_RouteWhole_k3, u_C_hourglasslaw17_RouteWhole_k4, u_C_hourglasslaw17_RouteWhole_k5, u_C_hourglasslaw17_RouteWhole_k6, u_C_hourglasslaw17_RouteWhole_k7, u_C_hourglasslaw17_RouteWhole_k8, u_C_hourglasslaw17_RouteWhole_k9, u_C_hourglasslaw17_RouteWhole_k10, u_C_hourglasslaw17_RouteWhole_k11, u_C_hourglasslaw17_RouteWhole_k12, u_C_hourglasslaw17_RouteWhole_k13, u_C_hourglasslaw17_RouteWhole_k14, FR_, Nat.reducePow, Int.reducePow, Nat.reduceAdd, Nat.reduceSub, Nat.reduceMul, Int.reduceToNat, Nat.reduceLeDiff, Nat.reduceEqDiff, Nat.reduceLT, Nat.reduceGT, Int.reduceGT, Int.reduceGE, Int.reduceLT, Int.reduceLE, Int.reduceEq, Int.reduceAdd, Int.reduceSub, Int.reduceNeg, reduceCtorEq, if_true, if_false, ite_true, ite_false, ne_eq, eq_self, OPK_, KEY_, CHK_, Nat.reduceBEq, hob, hx0]
      refine h5 pts _ _ _ _ hh (by omega) ?_
      simp only [RUN_, u_C_hourglasslaw17_RouteWhole_k1, u_C_hourglasslaw17_RouteWhole_k2, u_C_hourglasslaw17_RouteWhole_k3, u_C_hourglasslaw17_RouteWhole_k4, u_C_hourglasslaw17_RouteWhole_k5, u_C_hourglasslaw17_RouteWhole_k6, u_C_hourglasslaw17_RouteWhole_k7, u_C_hourglasslaw17_RouteWhole_k8, u_C_hourglasslaw17_RouteWhole_k9, u_C_hourglasslaw17_RouteWhole_k10, u_C_hourglasslaw17_RouteWhole_k11, u_C_hourglasslaw17_RouteWhole_k12, u_C_hourglasslaw17_RouteWhole_k13, u_C_hourglasslaw17_RouteWhole_k14, FR_, Nat.reducePow, Int.reducePow, Nat.reduceAdd, Nat.reduceSub, Nat.reduceMul, Int.reduceToNat, Nat.reduceLeDiff, Nat.reduceEqDiff, Nat.reduceLT, Nat.reduceGT, Int.reduceGT, Int.reduceGE, Int.reduceLT, Int.reduceLE, Int.reduceEq, Int.reduceAdd, Int.reduceSub, Int.reduceNeg, reduceCtorEq, if_true, if_false, ite_true, ite_false, ne_eq, eq_self, OPK_, KEY_, hxn]
      refine h6 _ _ _ _ _ ?_
      by_cases hab : Lib.compareBytes a.b b.b ≤ 0
      · have hm : ¬ (((cntK b pts : Nat) : Int) < ((cntK a pts : Nat) : Int)) := by have := Q.mono hab; omega
        simp only [RUN_, u_C_hourglasslaw17_RouteWhole_k1, u_C_hourglasslaw17_RouteWhole_k2, u_C_hourglasslaw17_RouteWhole_k3, u_C_hourglasslaw17_RouteWhole_k4, u_C_hourglasslaw17_RouteWhole_k5, u_C_hourglasslaw17_RouteWhole_k6, u_C_hourglasslaw17_RouteWhole_k7, u_C_hourglasslaw17_RouteWhole_k8, u_C_hourglasslaw17_RouteWhole_k9, u_C_hourglasslaw17_RouteWhole_k10, u_C_hourglasslaw17_RouteWhole_k11, u_C_hourglasslaw17_RouteWhole_k12, u_C_hourglasslaw17_RouteWhole_k13, u_C_hourglasslaw17_RouteWhole_k14, FR_, Nat.reducePow, Int.reducePow, Nat.reduceAdd, Nat.reduceSub, Nat.reduceMul, Int.reduceToNat, Nat.reduceLeDiff, Nat.reduceEqDiff, Nat.reduceLT, Nat.reduceGT, Int.reduceGT, Int.reduceGE, Int.reduceLT, Int.reduceLE, Int.reduceEq, Int.reduceAdd, Int.reduceSub, Int.reduceNeg, reduceCtorEq, if_true, if_false, ite_true, ite_false, ne_eq, eq_self, OPK_, KEY_, hab, hm]
        refine h7 pts fr to _ _ _ _ hh (by omega) ?_
        simp only [lstI, RUN_, u_C_hourglasslaw17_RouteWhole_k1, u_C_hourglasslaw17_RouteWhole_k2, u_C_hourglasslaw17_RouteWhole_k3, u_C_hourglasslaw17_RouteWhole_k4, u_C_hourglasslaw17_RouteWhole_k5, u_C_hourglasslaw17_RouteWhole_k6, u_C_hourglasslaw17_RouteWhole_k7, u_C_hourglasslaw17_RouteWhole_k8, u_C_hourglasslaw17_RouteWhole_k9, u_C_hourglasslaw17_RouteWhole_k10, u_C_hourglasslaw17_RouteWhole_k11, u_C_hourglasslaw17_RouteWhole_k12, u_C_hourglasslaw17_RouteWhole_k13, u_C_hourglasslaw17_RouteWhole_k14, FR_, Nat.reducePow, Int.reducePow, Nat.reduceAdd, Nat.reduceSub, Nat.reduceMul, Int.reduceToNat, Nat.reduceLeDiff, Nat.reduceEqDiff, Nat.reduceLT, Nat.reduceGT, Int.reduceGT, Int.reduceGE, Int.reduceLT, Int.reduceLE, Int.reduceEq, Int.reduceAdd, Int.reduceSub, Int.reduceNeg, reduceCtorEq, if_true, if_false, ite_true, ite_false, ne_eq, eq_self, OPK_, KEY_]
        generalize hc : coverK pts fr to = c at Q
        have hcons := Q.cons
        have hmem := Q.mem
        have hsmall := Q.small
        rw [hc] at hcons hmem hsmall
        refine loop_rule hC (α := Nat) (fun i => c.length - i) (fun i => [.undef, .undef, .undef, .undef, .undef, .undef, .ptr (.stk S.length) 0, .undef, .ptr (.stk (S.length + 2)) 0, .ptr (.stk (S.length + 3)) 0, .undef, .undef, .undef, .i ((cntK a pts : Nat) : Int), .undef, .list .sh 1 (c.map fun (n : Nat) => AV.i n), .bool (decide (cntK a pts ∈ c.take i)), .s (.int .i64 i), .undef, .undef, .undef, .undef, .undef, .undef, .undef, .undef, .undef, .undef, .undef, .undef, .undef, .undef, .undef, .undef, .undef, .undef, .undef, .undef, .undef, .undef, .undef, .undef, .undef, .undef, .undef, .undef, .undef, .undef, .undef, .undef, .undef, .undef, .undef, .undef, .undef, .undef, .undef, .undef, .undef, .undef, .undef, .undef, .undef, .undef, .undef, .undef, .undef, .undef, .undef, .undef, .undef, .undef, .undef, .undef, .undef, .undef, .undef, .undef, .undef, .undef, .undef, .undef, .undef, .undef, .undef, .undef, .undef, .undef, .undef, .undef, .undef, .undef, .undef, .undef, .undef, .undef, .undef, .undef, .undef, .undef, .undef, .undef, .undef, .undef, .undef, .undef, .undef, .undef, .undef]) (fun _ => S ++ [bs a.b, bs b.b, bs fr.b, bs to.b]) (fun _ => H ++ [o, tabA pts]) (fun i => i ≤ c.length) 0 (by simp) (by simp [keep]) (by rw [app_take_add]; rfl) rfl (fun i hi => by simp [AV.under, AV.under.go]) ?_
        intro i hi ih
        by_cases h16 : i < c.length
        · have hlt : ((i : Int) < (c.length : Int)) := by omega
          have hclen : c.length ≤ 1000 := by rw [← hc]; exact coverK_len (by omega)
          have hw := wrap_succ (i := i) (by omega)
          by_cases hin : cntK a pts ∈ c.take i
          · by_cases heq : c[i] = cntK a pts
            · have heq' : ((((c[i] : Nat) : Int) = ((cntK a pts : Nat) : Int)) = True) := eq_true (by rw [heq])
              by_cases h0 : i = 0
              · have h0' : ¬ ((0 : Int) < (i : Int)) := by omega
                simp only [RUN_, u_C_hourglasslaw17_RouteWhole_k1, u_C_hourglasslaw17_RouteWhole_k2, u_C_hourglasslaw17_RouteWhole_k3, u_C_hourglasslaw17_RouteWhole_k4, u_C_hourglasslaw17_RouteWhole_k5, u_C_hourglasslaw17_RouteWhole_k6, u_C_hourglasslaw17_RouteWhole_k7, u_C_hourglasslaw17_RouteWhole_k8, u_C_hourglasslaw17_RouteWhole_k9, u_C_hourglasslaw17_RouteWhole_k10, u_C_hourglasslaw17_RouteWhole_k11, u_C_hourglasslaw17_RouteWhole_k12, u_C_hourglasslaw17_RouteWhole_k13, u_C_hourglasslaw17_RouteWhole_k14, FR_, Nat.reducePow, Int.reducePow, Nat.reduceAdd, Nat.reduceSub, Nat.reduceMul, Int.reduceToNat, Nat.reduceLeDiff, Nat.reduceEqDiff, Nat.reduceLT, Nat.reduceGT, Int.reduceGT, Int.reduceGE, Int.reduceLT, Int.reduceLE, Int.reduceEq, Int.reduceAdd, Int.reduceSub, Int.reduceNeg, reduceCtorEq, if_true, if_false, ite_true, ite_false, ne_eq, eq_self, OPK_, KEY_, WR_, hlt, h16, hin, heq', h0', hw, ixl_i]
                have hs1 : decide (cntK a pts ∈ c.take (i + 1)) = true := decide_eq_true ((mem_take_succ h16).2 (.inl hin))
                have ih1 := ih (i + 1)
                rw [hs1] at ih1
                exact ih1 _ _ _ (by omega) (by omega) rfl (app_take_add _ _ _) rfl
              · have h0' : ((0 : Int) < (i : Int)) := by omega
                have h17 : i - 1 < c.length := by omega
                have hwp : IntKind.i64.wrap ((i : Int) - 1) = ((i - 1 : Nat) : Int) := by rw [wrap_i64 (by omega) (by omega)]; omega
                have hsm := hsmall (c[i - 1]) (List.getElem_mem h17)
                have hwc : IntKind.i64.wrap (((c[i - 1] : Nat) : Int) + 1) = ((c[i - 1] + 1 : Nat) : Int) := wrap_succ (by omega)
                have hst : ((((c[i] : Nat) : Int) = ((c[i - 1] + 1 : Nat) : Int)) = True) := eq_true (by rw [hcons i (by omega) h16])
                simp only [RUN_, u_C_hourglasslaw17_RouteWhole_k1, u_C_hourglasslaw17_RouteWhole_k2, u_C_hourglasslaw17_RouteWhole_k3, u_C_hourglasslaw17_RouteWhole_k4, u_C_hourglasslaw17_RouteWhole_k5, u_C_hourglasslaw17_RouteWhole_k6, u_C_hourglasslaw17_RouteWhole_k7, u_C_hourglasslaw17_RouteWhole_k8, u_C_hourglasslaw17_RouteWhole_k9, u_C_hourglasslaw17_RouteWhole_k10, u_C_hourglasslaw17_RouteWhole_k11, u_C_hourglasslaw17_RouteWhole_k12, u_C_hourglasslaw17_RouteWhole_k13, u_C_hourglasslaw17_RouteWhole_k14, FR_, Nat.reducePow, Int.reducePow, Nat.reduceAdd, Nat.reduceSub, Nat.reduceMul, Int.reduceToNat, Nat.reduceLeDiff, Nat.reduceEqDiff, Nat.reduceLT, Nat.reduceGT, Int.reduceGT, Int.reduceGE, Int.reduceLT, Int.reduceLE, Int.reduceEq, Int.reduceAdd, Int.reduceSub, Int.reduceNeg, reduceCtorEq, if_true, if_false, ite_true, ite_false, ne_eq, eq_self, OPK_, KEY_, WR_, hlt, h16, hin, heq', h0', hw, ixl_i, h17, hwp, hwc, hst]
                have hs1 : decide (cntK a pts ∈ c.take (i + 1)) = true := decide_eq_true ((mem_take_succ h16).2 (.inl hin))
                have ih1 := ih (i + 1)
                rw [hs1] at ih1
                exact ih1 _ _ _ (by omega) (by omega) rfl (app_take_add _ _ _) rfl
            · have heq' : ¬ (((c[i] : Nat) : Int) = ((cntK a pts : Nat) : Int)) := by omega
              by_cases h0 : i = 0
              · have h0' : ¬ ((0 : Int) < (i : Int)) := by omega
                simp only [RUN_, u_C_hourglasslaw17_RouteWhole_k1, u_C_hourglasslaw17_RouteWhole_k2, u_C_hourglasslaw17_RouteWhole_k3, u_C_hourglasslaw17_RouteWhole_k4, u_C_hourglasslaw17_RouteWhole_k5, u_C_hourglasslaw17_RouteWhole_k6, u_C_hourglasslaw17_RouteWhole_k7, u_C_hourglasslaw17_RouteWhole_k8, u_C_hourglasslaw17_RouteWhole_k9, u_C_hourglasslaw17_RouteWhole_k10, u_C_hourglasslaw17_RouteWhole_k11, u_C_hourglasslaw17_RouteWhole_k12, u_C_hourglasslaw17_RouteWhole_k13, u_C_hourglasslaw17_RouteWhole_k14, FR_, Nat.reducePow, Int.reducePow, Nat.reduceAdd, Nat.reduceSub, Nat.reduceMul, Int.reduceToNat, Nat.reduceLeDiff, Nat.reduceEqDiff, Nat.reduceLT, Nat.reduceGT, Int.reduceGT, Int.reduceGE, Int.reduceLT, Int.reduceLE, Int.reduceEq, Int.reduceAdd, Int.reduceSub, Int.reduceNeg, reduceCtorEq, if_true, if_false, ite_true, ite_false, ne_eq, eq_self, OPK_, KEY_, WR_, hlt, h16, hin, heq', h0', hw, ixl_i]
                have hs1 : decide (cntK a pts ∈ c.take (i + 1)) = true := decide_eq_true ((mem_take_succ h16).2 (.inl hin))
                have ih1 := ih (i + 1)
                rw [hs1] at ih1
                exact ih1 _ _ _ (by omega) (by omega) rfl (app_take_add _ _ _) rfl
              · have h0' : ((0 : Int) < (i : Int)) := by omega
                have h17 : i - 1 < c.length := by omega
                have hwp : IntKind.i64.wrap ((i : Int) - 1) = ((i - 1 : Nat) : Int) := by rw [wrap_i64 (by omega) (by omega)]; omega
                have hsm := hsmall (c[i - 1]) (List.getElem_mem h17)
                have hwc : IntKind.i64.wrap (((c[i - 1] : Nat) : Int) + 1) = ((c[i - 1] + 1 : Nat) : Int) := wrap_succ (by omega)
                have hst : ((((c[i] : Nat) : Int) = ((c[i - 1] + 1 : Nat) : Int)) = True) := eq_true (by rw [hcons i (by omega) h16])
                simp only [RUN_, u_C_hourglasslaw17_RouteWhole_k1, u_C_hourglasslaw17_RouteWhole_k2, u_C_hourglasslaw17_RouteWhole_k3, u_C_hourglasslaw17_RouteWhole_k4, u_C_hourglasslaw17_RouteWhole_k5, u_C_hourglasslaw17_RouteWhole_k6, u_C_hourglasslaw17_RouteWhole_k7, u_C_hourglasslaw17_RouteWhole_k8, u_C_hourglasslaw17_RouteWhole_k9, u_C_hourglasslaw17_RouteWhole_k10, u_C_hourglasslaw17_RouteWhole_k11, u_C_hourglasslaw17_RouteWhole_k12, u_C_hourglasslaw17_RouteWhole_k13, u_C_hourglasslaw17_RouteWhole_k14, FR_, Nat.reducePow, Int.reducePow, Nat.reduceAdd, Nat.reduceSub, Nat.reduceMul, Int.reduceToNat, Nat.reduceLeDiff, Nat.reduceEqDiff, Nat.reduceLT, Nat.reduceGT, Int.reduceGT, Int.reduceGE, Int.reduceLT, Int.reduceLE, Int.reduceEq, Int.reduceAdd, Int.reduceSub, Int.reduceNeg, reduceCtorEq, if_true, if_false, ite_true, ite_false, ne_eq, eq_self, OPK_, KEY_, WR_, hlt, h16, hin, heq', h0', hw, ixl_i, h17, hwp, hwc, hst]
                have hs1 : decide (cntK a pts ∈ c.take (i + 1)) = true := decide_eq_true ((mem_take_succ h16).2 (.inl hin))
                have ih1 := ih (i + 1)
                rw [hs1] at ih1
                exact ih1 _ _ _ (by omega) (by omega) rfl (app_take_add _ _ _) rfl
          · by_cases heq : c[i] = cntK a pts
            · have heq' : ((((c[i] : Nat) : Int) = ((cntK a pts : Nat) : Int)) = True) := eq_true (by rw [heq])
              by_cases h0 : i = 0
              · have h0' : ¬ ((0 : Int) < (i : Int)) := by omega
                simp only [RUN_, u_C_hourglasslaw17_RouteWhole_k1, u_C_hourglasslaw17_RouteWhole_k2, u_C_hourglasslaw17_RouteWhole_k3, u_C_hourglasslaw17_RouteWhole_k4, u_C_hourglasslaw17_RouteWhole_k5, u_C_hourglasslaw17_RouteWhole_k6, u_C_hourglasslaw17_RouteWhole_k7, u_C_hourglasslaw17_RouteWhole_k8, u_C_hourglasslaw17_RouteWhole_k9, u_C_hourglasslaw17_RouteWhole_k10, u_C_hourglasslaw17_RouteWhole_k11, u_C_hourglasslaw17_RouteWhole_k12, u_C_hourglasslaw17_RouteWhole_k13, u_C_hourglasslaw17_RouteWhole_k14, FR_, Nat.reducePow, Int.reducePow, Nat.reduceAdd, Nat.reduceSub, Nat.reduceMul, Int.reduceToNat, Nat.reduceLeDiff, Nat.reduceEqDiff, Nat.reduceLT, Nat.reduceGT, Int.reduceGT, Int.reduceGE, Int.reduceLT, Int.reduceLE, Int.reduceEq, Int.reduceAdd, Int.reduceSub, Int.reduceNeg, reduceCtorEq, if_true, if_false, ite_true, ite_false, ne_eq, eq_self, OPK_, KEY_, WR_, hlt, h16, hin, heq', h0', hw, ixl_i]
                have hs1 : decide (cntK a pts ∈ c.take (i + 1)) = true := decide_eq_true ((mem_take_succ h16).2 (.inr heq))
                have ih1 := ih (i + 1)
                rw [hs1] at ih1
                exact ih1 _ _ _ (by omega) (by omega) rfl (app_take_add _ _ _) rfl
              · have h0' : ((0 : Int) < (i : Int)) := by omega
                have h17 : i - 1 < c.length := by omega
                have hwp : IntKind.i64.wrap ((i : Int) - 1) = ((i - 1 : Nat) : Int) := by rw [wrap_i64 (by omega) (by omega)]; omega
                have hsm := hsmall (c[i - 1]) (List.getElem_mem h17)
                have hwc : IntKind.i64.wrap (((c[i - 1] : Nat) : Int) + 1) = ((c[i - 1] + 1 : Nat) : Int) := wrap_succ (by omega)
                have hst : ((((c[i] : Nat) : Int) = ((c[i - 1] + 1 : Nat) : Int)) = True) := eq_true (by rw [hcons i (by omega) h16])
                simp only [RUN_, u_C_hourglasslaw17_RouteWhole_k1, u_C_hourglasslaw17_RouteWhole_k2, u_C_hourglasslaw17_RouteWhole_k3, u_C_hourglasslaw17_RouteWhole_k4, u_C_hourglasslaw17_RouteWhole_k5, u_C_hourglasslaw17_RouteWhole_k6, u_C_hourglasslaw17_RouteWhole_k7, u_C_hourglasslaw17_RouteWhole_k8, u_C_hourglasslaw17_RouteWhole_k9, u_C_hourglasslaw17_RouteWhole_k10, u_C_hourglasslaw17_RouteWhole_k11, u_C_hourglasslaw17_RouteWhole_k12, u_C_hourglasslaw17_RouteWhole_k13, u_C_hourglasslaw17_RouteWhole_k14, FR_, Nat.reducePow, Int.reducePow, Nat.reduceAdd, Nat.reduceSub, Nat.reduceMul, Int.reduceToNat, Nat.reduceLeDiff, Nat.reduceEqDiff, Nat.reduceLT, Nat.reduceGT, Int.reduceGT, Int.reduceGE, Int.reduceLT, Int.reduceLE, Int.reduceEq, Int.reduceAdd, Int.reduceSub, Int.reduceNeg, reduceCtorEq, if_true, if_false, ite_true, ite_false, ne_eq, eq_self, OPK_, KEY_, WR_, hlt, h16, hin, heq', h0', hw, ixl_i, h17, hwp, hwc, hst]
                have hs1 : decide (cntK a pts ∈ c.take (i + 1)) = true := decide_eq_true ((mem_take_succ h16).2 (.inr heq))
                have ih1 := ih (i + 1)
                rw [hs1] at ih1
                exact ih1 _ _ _ (by omega) (by omega) rfl (app_take_add _ _ _) rfl
            · have heq' : ¬ (((c[i] : Nat) : Int) = ((cntK a pts : Nat) : Int)) := by omega
              by_cases h0 : i = 0
              · have h0' : ¬ ((0 : Int) < (i : Int)) := by omega
                simp only [RUN_, u_C_hourglasslaw17_RouteWhole_k1, u_C_hourglasslaw17_RouteWhole_k2, u_C_hourglasslaw17_RouteWhole_k3, u_C_hourglasslaw17_RouteWhole_k4, u_C_hourglasslaw17_RouteWhole_k5, u_C_hourglasslaw17_RouteWhole_k6, u_C_hourglasslaw17_RouteWhole_k7, u_C_hourglasslaw17_RouteWhole_k8, u_C_hourglasslaw17_RouteWhole_k9, u_C_hourglasslaw17_RouteWhole_k10, u_C_hourglasslaw17_RouteWhole_k11, u_C_hourglasslaw17_RouteWhole_k12, u_C_hourglasslaw17_RouteWhole_k13, u_C_hourglasslaw17_RouteWhole_k14, FR_, Nat.reducePow, Int.reducePow, Nat.reduceAdd, Nat.reduceSub, Nat.reduceMul, Int.reduceToNat, Nat.reduceLeDiff, Nat.reduceEqDiff, Nat.reduceLT, Nat.reduceGT, Int.reduceGT, Int.reduceGE, Int.reduceLT, Int.reduceLE, Int.reduceEq, Int.reduceAdd, Int.reduceSub, Int.reduceNeg, reduceCtorEq, if_true, if_false, ite_true, ite_false, ne_eq, eq_self, OPK_, KEY_, WR_, hlt, h16, hin, heq', h0', hw, ixl_i]
                have hs1 : decide (cntK a pts ∈ c.take (i + 1)) = false := decide_eq_false fun h => ((mem_take_succ h16).1 h).elim hin heq
                have ih1 := ih (i + 1)
                rw [hs1] at ih1
                exact ih1 _ _ _ (by omega) (by omega) rfl (app_take_add _ _ _) rfl
              · have h0' : ((0 : Int) < (i : Int)) := by omega
                have h17 : i - 1 < c.length := by omega
                have hwp : IntKind.i64.wrap ((i : Int) - 1) = ((i - 1 : Nat) : Int) := by rw [wrap_i64 (by omega) (by omega)]; omega
                have hsm := hsmall (c[i - 1]) (List.getElem_mem h17)
                have hwc : IntKind.i64.wrap (((c[i - 1] : Nat) : Int) + 1) = ((c[i - 1] + 1 : Nat) : Int) := wrap_succ (by omega)
                have hst : ((((c[i] : Nat) : Int) = ((c[i - 1] + 1 : Nat) : Int)) = True) := eq_true (by rw [hcons i (by omega) h16])
                simp only [RUN_, u_C_hourglasslaw17_RouteWhole_k1, u_C_hourglasslaw17_RouteWhole_k2, u_C_hourglasslaw17_RouteWhole_k3, u_C_hourglasslaw17_RouteWhole_k4, u_C_hourglasslaw17_RouteWhole_k5, u_C_hourglasslaw17_RouteWhole_k6, u_C_hourglasslaw17_RouteWhole_k7, u_C_hourglasslaw17_RouteWhole_k8, u_C_hourglasslaw17_RouteWhole_k9, u_C_hourglasslaw17_RouteWhole_k10, u_C_hourglasslaw17_RouteWhole_k11, u_C_hourglasslaw17_RouteWhole_k12, u_C_hourglasslaw17_RouteWhole_k13, u_C_hourglasslaw17_RouteWhole_k14, FR_, Nat.reducePow, Int.reducePow, Nat.reduceAdd, Nat.reduceSub, Nat.reduceMul, Int.reduceToNat, Nat.reduceLeDiff, Nat.reduceEqDiff, Nat.reduceLT, Nat.reduceGT, Int.reduceGT, Int.reduceGE, Int.reduceLT, Int.reduceLE, Int.reduceEq, Int.reduceAdd, Int.reduceSub, Int.reduceNeg, reduceCtorEq, if_true, if_false, ite_true, ite_false, ne_eq, eq_self, OPK_, KEY_, WR_, hlt, h16, hin, heq', h0', hw, ixl_i, h17, hwp, hwc, hst]
                have hs1 : decide (cntK a pts ∈ c.take (i + 1)) = false := decide_eq_false fun h => ((mem_take_succ h16).1 h).elim hin heq
                have ih1 := ih (i + 1)
                rw [hs1] at ih1
                exact ih1 _ _ _ (by omega) (by omega) rfl (app_take_add _ _ _) rfl
        · have hlt : ¬ ((i : Int) < (c.length : Int)) := by omega
          by_cases hin : cntK a pts ∈ c.take i
          · simp only [RUN_, u_C_hourglasslaw17_RouteWhole_k1, u_C_hourglasslaw17_RouteWhole_k2, u_C_hourglasslaw17_RouteWhole_k3, u_C_hourglasslaw17_RouteWhole_k4, u_C_hourglasslaw17_RouteWhole_k5, u_C_hourglasslaw17_RouteWhole_k6, u_C_hourglasslaw17_RouteWhole_k7, u_C_hourglasslaw17_RouteWhole_k8, u_C_hourglasslaw17_RouteWhole_k9, u_C_hourglasslaw17_RouteWhole_k10, u_C_hourglasslaw17_RouteWhole_k11, u_C_hourglasslaw17_RouteWhole_k12, u_C_hourglasslaw17_RouteWhole_k13, u_C_hourglasslaw17_RouteWhole_k14, FR_, Nat.reducePow, Int.reducePow, Nat.reduceAdd, Nat.reduceSub, Nat.reduceMul, Int.reduceToNat, Nat.reduceLeDiff, Nat.reduceEqDiff, Nat.reduceLT, Nat.reduceGT, Int.reduceGT, Int.reduceGE, Int.reduceLT, Int.reduceLE, Int.reduceEq, Int.reduceAdd, Int.reduceSub, Int.reduceNeg, reduceCtorEq, if_true, if_false, ite_true, ite_false, ne_eq, eq_self, OPK_, KEY_, WR_, hlt, hin]
            exact hK _
          · simp only [RUN_, u_C_hourglasslaw17_RouteWhole_k1, u_C_hourglasslaw17_RouteWhole_k2, u_C_hourglasslaw17_RouteWhole_k3, u_C_hourglasslaw17_RouteWhole_k4, u_C_hourglasslaw17_RouteWhole_k5, u_C_hourglasslaw17_RouteWhole_k6, u_C_hourglasslaw17_RouteWhole_k7, u_C_hourglasslaw17_RouteWhole_k8, u_C_hourglasslaw17_RouteWhole_k9, u_C_hourglasslaw17_RouteWhole_k10, u_C_hourglasslaw17_RouteWhole_k11, u_C_hourglasslaw17_RouteWhole_k12, u_C_hourglasslaw17_RouteWhole_k13, u_C_hourglasslaw17_RouteWhole_k14, FR_, Nat.reducePow, Int.reducePow, Nat.reduceAdd, Nat.reduceSub, Nat.reduceMul, Int.reduceToNat, Nat.reduceLeDiff, Nat.reduceEqDiff, Nat.reduceLT, Nat.reduceGT, Int.reduceGT, Int.reduceGE, Int.reduceLT, Int.reduceLE, Int.reduceEq, Int.reduceAdd, Int.reduceSub, Int.reduceNeg, reduceCtorEq, if_true, if_false, ite_true, ite_false, ne_eq, eq_self, OPK_, KEY_, WR_, hlt, hin]
            refine h8 _ _ _ _ _ _ ?_
            have hwi : withinK a fr to = false := by
              cases hq : withinK a fr to with
              | false => rfl
              | true => exact (hin (by rw [List.take_of_length_le (by omega)]; exact hmem hq)).elim
            simp only [RUN_, u_C_hourglasslaw17_RouteWhole_k1, u_C_hourglasslaw17_RouteWhole_k2, u_C_hourglasslaw17_RouteWhole_k3, u_C_hourglasslaw17_RouteWhole_k4, u_C_hourglasslaw17_RouteWhole_k5, u_C_hourglasslaw17_RouteWhole_k6, u_C_hourglasslaw17_RouteWhole_k7, u_C_hourglasslaw17_RouteWhole_k8, u_C_hourglasslaw17_RouteWhole_k9, u_C_hourglasslaw17_RouteWhole_k10, u_C_hourglasslaw17_RouteWhole_k11, u_C_hourglasslaw17_RouteWhole_k12, u_C_hourglasslaw17_RouteWhole_k13, u_C_hourglasslaw17_RouteWhole_k14, FR_, Nat.reducePow, Int.reducePow, Nat.reduceAdd, Nat.reduceSub, Nat.reduceMul, Int.reduceToNat, Nat.reduceLeDiff, Nat.reduceEqDiff, Nat.reduceLT, Nat.reduceGT, Int.reduceGT, Int.reduceGE, Int.reduceLT, Int.reduceLE, Int.reduceEq, Int.reduceAdd, Int.reduceSub, Int.reduceNeg, reduceCtorEq, if_true, if_false, ite_true, ite_false, ne_eq, eq_self, OPK_, KEY_, WR_, hwi]
            exact hK _
      · simp only [RUN_, u_C_hourglasslaw17_RouteWhole_k1, u_C_hourglasslaw17_RouteWhole_k2, u_C_hourglasslaw17_RouteWhole_k3, u_C_hourglasslaw17_RouteWhole_k4, u_C_hourglasslaw17_RouteWhole_k5, u_C_hourglasslaw17_RouteWhole_k6, u_C_hourglasslaw17_RouteWhole_k7, u_C_hourglasslaw17_RouteWhole_k8, u_C_hourglasslaw17_RouteWhole_k9, u_C_hourglasslaw17_RouteWhole_k10, u_C_hourglasslaw17_RouteWhole_k11, u_C_hourglasslaw17_RouteWhole_k12, u_C_hourglasslaw17_RouteWhole_k13, u_C_hourglasslaw17_RouteWhole_k14, FR_, Nat.reducePow, Int.reducePow, Nat.reduceAdd, Nat.reduceSub, Nat.reduceMul, Int.reduceToNat, Nat.reduceLeDiff, Nat.reduceEqDiff, Nat.reduceLT, Nat.reduceGT, Int.reduceGT, Int.reduceGE, Int.reduceLT, Int.reduceLE, Int.reduceEq, Int.reduceAdd, Int.reduceSub, Int.reduceNeg, reduceCtorEq, if_true, if_false, ite_true, ite_false, ne_eq, eq_self, OPK_, KEY_, hab]
        refine h7 pts fr to _ _ _ _ hh (by omega) ?_
        simp only [lstI, RUN_, u_C_hourglasslaw17_RouteWhole_k1, u_C_hourglasslaw17_RouteWhole_k2, u_C_hourglasslaw17_RouteWhole_k3, u_C_hourglasslaw17_RouteWhole_k4, u_C_hourglasslaw17_RouteWhole_k5, u_C_hourglasslaw17_RouteWhole_k6, u_C_hourglasslaw17_RouteWhole_k7, u_C_hourglasslaw17_RouteWhole_k8, u_C_hourglasslaw17_RouteWhole_k9, u_C_hourglasslaw17_RouteWhole_k10, u_C_hourglasslaw17_RouteWhole_k11, u_C_hourglasslaw17_RouteWhole_k12, u_C_hourglasslaw17_RouteWhole_k13, u_C_hourglasslaw17_RouteWhole_k14, FR_, Nat.reducePow, Int.reducePow, Nat.reduceAdd, Nat.reduceSub, Nat.reduceMul, Int.reduceToNat, Nat.reduceLeDiff, Nat.reduceEqDiff, Nat.reduceLT, Nat.reduceGT, Int.reduceGT, Int.reduceGE, Int.reduceLT, Int.reduceLE, Int.reduceEq, Int.reduceAdd, Int.reduceSub, Int.reduceNeg, reduceCtorEq, if_true, if_false, ite_true, ite_false, ne_eq, eq_self, OPK_, KEY_]
        generalize hc : coverK pts fr to = c at Q
        have hcons := Q.cons
        have hmem := Q.mem
        have hsmall := Q.small
        rw [hc] at hcons hmem hsmall
        refine loop_rule hC (α := Nat) (fun i => c.length - i) (fun i => [.undef, .undef, .undef, .undef, .undef, .undef, .ptr (.stk S.length) 0, .undef, .ptr (.stk (S.length + 2)) 0, .ptr (.stk (S.length + 3)) 0, .undef, .undef, .undef, .i ((cntK a pts : Nat) : Int), .undef, .list .sh 1 (c.map fun (n : Nat) => AV.i n), .bool (decide (cntK a pts ∈ c.take i)), .s (.int .i64 i), .undef, .undef, .undef, .undef, .undef, .undef, .undef, .undef, .undef, .undef, .undef, .undef, .undef, .undef, .undef, .undef, .undef, .undef, .undef, .undef, .undef, .undef, .undef, .undef, .undef, .undef, .undef, .undef, .undef, .undef, .undef, .undef, .undef, .undef, .undef, .undef, .undef, .undef, .undef, .undef, .undef, .undef, .undef, .undef, .undef, .undef, .undef, .undef, .undef, .undef, .undef, .undef, .undef, .undef, .undef, .undef, .undef, .undef, .undef, .undef, .undef, .undef, .undef, .undef, .undef, .undef, .undef, .undef, .undef, .undef, .undef, .undef, .undef, .undef, .undef, .undef, .undef, .undef, .undef, .undef, .undef, .undef, .undef, .undef, .undef, .undef, .undef, .undef, .undef, .undef, .undef]) (fun _ => S ++ [bs a.b, bs b.b, bs fr.b, bs to.b]) (fun _ => H ++ [o, tabA pts]) (fun i => i ≤ c.length) 0 (by simp) (by simp [keep]) (by rw [app_take_add]; rfl) rfl (fun i hi => by simp [AV.under, AV.under.go]) ?_
        intro i hi ih
        by_cases h16 : i < c.length
        · have hlt : ((i : Int) < (c.length : Int)) := by omega
          have hclen : c.length ≤ 1000 := by rw [← hc]; exact coverK_len (by omega)
          have hw := wrap_succ (i := i) (by omega)
          by_cases hin : cntK a pts ∈ c.take i
          · by_cases heq : c[i] = cntK a pts
            · have heq' : ((((c[i] : Nat) : Int) = ((cntK a pts : Nat) : Int)) = True) := eq_true (by rw [heq])
              by_cases h0 : i = 0
              · have h0' : ¬ ((0 : Int) < (i : Int)) := by omega
                simp only [RUN_, u_C_hourglasslaw17_RouteWhole_k1, u_C_hourglasslaw17_RouteWhole_k2, u_C_hourglasslaw17_RouteWhole_k3, u_C_hourglasslaw17_RouteWhole_k4, u_C_hourglasslaw17_RouteWhole_k5, u_C_hourglasslaw17_RouteWhole_k6, u_C_hourglasslaw17_RouteWhole_k7, u_C_hourglasslaw17_RouteWhole_k8, u_C_hourglasslaw17_RouteWhole_k9, u_C_hourglasslaw17_RouteWhole_k10, u_C_hourglasslaw17_RouteWhole_k11, u_C_hourglasslaw17_RouteWhole_k12, u_C_hourglasslaw17_RouteWhole_k13, u_C_hourglasslaw17_RouteWhole_k14, FR_, Nat.reducePow, Int.reducePow, Nat.reduceAdd, Nat.reduceSub, Nat.reduceMul, Int.reduceToNat, Nat.reduceLeDiff, Nat.reduceEqDiff, Nat.reduceLT, Nat.reduceGT, Int.reduceGT, Int.reduceGE, Int.reduceLT, Int.reduceLE, Int.reduceEq, Int.reduceAdd, Int.reduceSub, Int.reduceNeg, reduceCtorEq, if_true, if_false, ite_true, ite_false, ne_eq, eq_self, OPK_, KEY_, WR_, hlt, h16, hin, heq', h0', hw, ixl_i]
                have hs1 : decide (cntK a pts ∈ c.take (i + 1)) = true := decide_eq_true ((mem_take_succ h16).2 (.inl hin))
                have ih1 := ih (i + 1)
                rw [hs1] at ih1
                exact ih1 _ _ _ (by omega) (by omega) rfl (app_take_add _ _ _) rfl
              · have h0' : ((0 : Int) < (i : Int)) := by omega
                have h17 : i - 1 < c.length := by omega
                have hwp : IntKind.i64.wrap ((i : Int) - 1) = ((i - 1 : Nat) : Int) := by rw [wrap_i64 (by omega) (by omega)]; omega
                have hsm := hsmall (c[i - 1]) (List.getElem_mem h17)
                have hwc : IntKind.i64.wrap (((c[i - 1] : Nat) : Int) + 1) = ((c[i - 1] + 1 : Nat) : Int) := wrap_succ (by omega)
                have hst : ((((c[i] : Nat) : Int) = ((c[i - 1] + 1 : Nat) : Int)) = True) := eq_true (by rw [hcons i (by omega) h16])
                simp only [RUN_, u_C_hourglasslaw17_RouteWhole_k1, u_C_hourglasslaw17_RouteWhole_k2, u_C_hourglasslaw17_RouteWhole_k3, u_C_hourglasslaw17_RouteWhole_k4, u_C_hourglasslaw17_RouteWhole_k5, u_C_hourglasslaw17_RouteWhole_k6, u_C_hourglasslaw17_RouteWhole_k7, u_C_hourglasslaw17_RouteWhole_k8, u_C_hourglasslaw17_RouteWhole_k9, u_C_hourglasslaw17_RouteWhole_k10, u_C_hourglasslaw17_RouteWhole_k11, u_C_hourglasslaw17_RouteWhole_k12, u_C_hourglasslaw17_RouteWhole_k13, u_C_hourglasslaw17_RouteWhole_k14, FR_, Nat.reducePow, Int.reducePow, Nat.reduceAdd, Nat.reduceSub, Nat.reduceMul, Int.reduceToNat, Nat.reduceLeDiff, Nat.reduceEqDiff, Nat.reduceLT, Nat.reduceGT, Int.reduceGT, Int.reduceGE, Int.reduceLT, Int.reduceLE, Int.reduceEq, Int.reduceAdd, Int.reduceSub, Int.reduceNeg, reduceCtorEq, if_true, if_false, ite_true, ite_false, ne_eq, eq_self, OPK_, KEY_, WR_, hlt, h16, hin, heq', h0', hw, ixl_i, h17, hwp, hwc, hst]
                have hs1 : decide (cntK a pts ∈ c.take (i + 1)) = true := decide_eq_true ((mem_take_succ h16).2 (.inl hin))
                have ih1 := ih (i + 1)
                rw [hs1] at ih1
                exact ih1 _ _ _ (by omega) (by omega) rfl (app_take_add _ _ _) rfl
            · have heq' : ¬ (((c[i] : Nat) : Int) = ((cntK a pts : Nat) : Int)) := by omega
              by_cases h0 : i = 0
              · have h0' : ¬ ((0 : Int) < (i : Int)) := by omega
                simp only [RUN_, u_C_hourglasslaw17_RouteWhole_k1, u_C_hourglasslaw17_RouteWhole_k2, u_C_hourglasslaw17_RouteWhole_k3, u_C_hourglasslaw17_RouteWhole_k4, u_C_hourglasslaw17_RouteWhole_k5, u_C_hourglasslaw17_RouteWhole_k6, u_C_hourglasslaw17_RouteWhole_k7, u_C_hourglasslaw17_RouteWhole_k8, u_C_hourglasslaw17_RouteWhole_k9, u_C_hourglasslaw17_RouteWhole_k10, u_C_hourglasslaw17_RouteWhole_k11, u_C_hourglasslaw17_RouteWhole_k12, u_C_hourglasslaw17_RouteWhole_k13, u_C_hourglasslaw17_RouteWhole_k14, FR_, Nat.reducePow, Int.reducePow, Nat.reduceAdd, Nat.reduceSub, Nat.reduceMul, Int.reduceToNat, Nat.reduceLeDiff, Nat.reduceEqDiff, Nat.reduceLT, Nat.reduceGT, Int.reduceGT, Int.reduceGE, Int.reduceLT, Int.reduceLE, Int.reduceEq, Int.reduceAdd, Int.reduceSub, Int.reduceNeg, reduceCtorEq, if_true, if_false, ite_true, ite_false, ne_eq, eq_self, OPK_, KEY_, WR_, hlt, h16, hin, heq', h0', hw, ixl_i]
                have hs1 : decide (cntK a pts ∈ c.take (i + 1)) = true := decide_eq_true ((mem_take_succ h16).2 (.inl hin))
                have ih1 := ih (i + 1)
                rw [hs1] at ih1
                exact ih1 _ _ _ (by omega) (by omega) rfl (app_take_add _ _ _) rfl
              · have h0' : ((0 : Int) < (i : Int)) := by omega
                have h17 : i - 1 < c.length := by omega
                have hwp : IntKind.i64.wrap ((i : Int) - 1) = ((i - 1 : Nat) : Int) := by rw [wrap_i64 (by omega) (by omega)]; omega
                have hsm := hsmall (c[i - 1]) (List.getElem_mem h17)
                have hwc : IntKind.i64.wrap (((c[i - 1] : Nat) : Int) + 1) = ((c[i - 1] + 1 : Nat) : Int) := wrap_succ (by omega)
                have hst : ((((c[i] : Nat) : Int) = ((c[i - 1] + 1 : Nat) : Int)) = True) := eq_true (by rw [hcons i (by omega) h16])
                simp only [RUN_, u_C_hourglasslaw17_RouteWhole_k1, u_C_hourglasslaw17_RouteWhole_k2, u_C_hourglasslaw17_RouteWhole_k3, u_C_hourglasslaw17_RouteWhole_k4, u_C_hourglasslaw17_RouteWhole_k5, u_C_hourglasslaw17_RouteWhole_k6, u_C_hourglasslaw17_RouteWhole_k7, u_C_hourglasslaw17_RouteWhole_k8, u_C_hourglasslaw17_RouteWhole_k9, u_C_hourglasslaw17_RouteWhole_k10, u_C_hourglasslaw17_RouteWhole_k11, u_C_hourglasslaw17_RouteWhole_k12, u_C_hourglasslaw17_RouteWhole_k13, u_C_hourglasslaw17_RouteWhole_k14, FR_, Nat.reducePow, Int.reducePow, Nat.reduceAdd, Nat.reduceSub, Nat.reduceMul, Int.reduceToNat, Nat.reduceLeDiff, Nat.reduceEqDiff, Nat.reduceLT, Nat.reduceGT, Int.reduceGT, Int.reduceGE, Int.reduceLT, Int.reduceLE, Int.reduceEq, Int.reduceAdd, Int.reduceSub, Int.reduceNeg, reduceCtorEq, if_true, if_false, ite_true, ite_false, ne_eq, eq_self, OPK_, KEY_, WR_, hlt, h16, hin, heq', h0', hw, ixl_i, h17, hwp, hwc, hst]
                have hs1 : decide (cntK a pts ∈ c.take (i + 1)) = true := decide_eq_true ((mem_take_succ h16).2 (.inl hin))
                have ih1 := ih (i + 1)
                rw [hs1] at ih1
                exact ih1 _ _ _ (by omega) (by omega) rfl (app_take_add _ _ _) rfl
          · by_cases heq : c[i] = cntK a pts
            · have heq' : ((((c[i] : Nat) : Int) = ((cntK a pts : Nat) : Int)) = True) := eq_true (by rw [heq])
              by_cases h0 : i = 0
              · have h0' : ¬ ((0 : Int) < (i : Int)) := by omega
                simp only [RUN_, u_C_hourglasslaw17_RouteWhole_k1, u_C_hourglasslaw17_RouteWhole_k2, u_C_hourglasslaw17_RouteWhole_k3, u_C_hourglasslaw17_RouteWhole_k4, u_C_hourglasslaw17_RouteWhole_k5, u_C_hourglasslaw17_RouteWhole_k6, u_C_hourglasslaw17_RouteWhole_k7, u_C_hourglasslaw17_RouteWhole_k8, u_C_hourglasslaw17_RouteWhole_k9, u_C_hourglasslaw17_RouteWhole_k10, u_C_hourglasslaw17_RouteWhole_k11, u_C_hourglasslaw17_RouteWhole_k12, u_C_hourglasslaw17_RouteWhole_k13, u_C_hourglasslaw17_RouteWhole_k14, FR_, Nat.reducePow, Int.reducePow, Nat.reduceAdd, Nat.reduceSub, Nat.reduceMul, Int.reduceToNat, Nat.reduceLeDiff, Nat.reduceEqDiff, Nat.reduceLT, Nat.reduceGT, Int.reduceGT, Int.reduceGE, Int.reduceLT, Int.reduceLE, Int.reduceEq, Int.reduceAdd, Int.reduceSub, Int.reduceNeg, reduceCtorEq, if_true, if_false, ite_true, ite_false, ne_eq, eq_self, OPK_, KEY_, WR_, hlt, h16, hin, heq', h0', hw, ixl_i]
                have hs1 : decide (cntK a pts ∈ c.take (i + 1)) = true := decide_eq_true ((mem_take_succ h16).2 (.inr heq))
                have ih1 := ih (i + 1)
                rw [hs1] at ih1
                exact ih1 _ _ _ (by omega) (by omega) rfl (app_take_add _ _ _) rfl
              · have h0' : ((0 : Int) < (i : Int)) := by omega
                have h17 : i - 1 < c.length := by omega
                have hwp : IntKind.i64.wrap ((i : Int) - 1) = ((i - 1 : Nat) : Int) := by rw [wrap_i64 (by omega) (by omega)]; omega
                have hsm := hsmall (c[i - 1]) (List.getElem_mem h17)
                have hwc : IntKind.i64.wrap (((c[i - 1] : Nat) : Int) + 1) = ((c[i - 1] + 1 : Nat) : Int) := wrap_succ (by omega)
                have hst : ((((c[i] : Nat) : Int) = ((c[i - 1] + 1 : Nat) : Int)) = True) := eq_true (by rw [hcons i (by omega) h16])
                simp only [RUN_, u_C_hourglasslaw17_RouteWhole_k1, u_C_hourglasslaw17_RouteWhole_k2, u_C_hourglasslaw17_RouteWhole_k3, u_C_hourglasslaw17_RouteWhole_k4, u_C_hourglasslaw17_RouteWhole_k5, u_C_hourglasslaw17_RouteWhole_k6, u_C_hourglasslaw17_RouteWhole_k7, u_C_hourglasslaw17_RouteWhole_k8, u_C_hourglasslaw17_RouteWhole_k9, u_C_hourglasslaw17_RouteWhole_k10, u_C_hourglasslaw17_RouteWhole_k11, u_C_hourglasslaw17_RouteWhole_k12, u_C_hourglasslaw17_RouteWhole_k13, u_C_hourglasslaw17_RouteWhole_k14, FR_, Nat.reducePow, Int.reducePow, Nat.reduceAdd, Nat.reduceSub, Nat.reduceMul, Int.reduceToNat, Nat.reduceLeDiff, Nat.reduceEqDiff, Nat.reduceLT, Nat.reduceGT, Int.reduceGT, Int.reduceGE, Int.reduceLT, Int.reduceLE, Int.reduceEq, Int.reduceAdd, Int.reduceSub, Int.reduceNeg, reduceCtorEq, if_true, if_false, ite_true, ite_false, ne_eq, eq_self, OPK_, KEY_, WR_, hlt, h16, hin, heq', h0', hw, ixl_i, h17, hwp, hwc, hst]
                have hs1 : decide (cntK a pts ∈ c.take (i + 1)) = true := decide_eq_true ((mem_take_succ h16).2 (.inr heq))
                have ih1 := ih (i + 1)
                rw [hs1] at ih1
                exact ih1 _ _ _ (by omega) (by omega) rfl (app_take_add _ _ _) rfl
            · have heq' : ¬ (((c[i] : Nat) : Int) = ((cntK a pts : Nat) : Int)) := by omega
              by_cases h0 : i = 0
              · have h0' : ¬ ((0 : Int) < (i : Int)) := by omega
                simp only [RUN_, u_C_hourglasslaw17_RouteWhole_k1, u_C_hourglasslaw17_RouteWhole_k2, u_C_hourglasslaw17_RouteWhole_k3, u_C_hourglasslaw17_RouteWhole_k4, u_C_hourglasslaw17_RouteWhole_k5, u_C_hourglasslaw17_RouteWhole_k6, u_C_hourglasslaw17_RouteWhole_k7, u_C_hourglasslaw17_RouteWhole_k8, u_C_hourglasslaw17_RouteWhole_k9, u_C_hourglasslaw17_RouteWhole_k10, u_C_hourglasslaw17_RouteWhole_k11, u_C_hourglasslaw17_RouteWhole_k12, u_C_hourglasslaw17_RouteWhole_k13, u_C_hourglasslaw17_RouteWhole_k14, FR_, Nat.reducePow, Int.reducePow, Nat.reduceAdd, Nat.reduceSub, Nat.reduceMul, Int.reduceToNat, Nat.reduceLeDiff, Nat.reduceEqDiff, Nat.reduceLT, Nat.reduceGT, Int.reduceGT, Int.reduceGE, Int.reduceLT, Int.reduceLE, Int.reduceEq, Int.reduceAdd, Int.reduceSub, Int.reduceNeg, reduceCtorEq, if_true, if_false, ite_true, ite_false, ne_eq, eq_self, OPK_, KEY_, WR_, hlt, h16, hin, heq', h0', hw, ixl_i]
                have hs1 : decide (cntK a pts ∈ c.take (i + 1)) = false := decide_eq_false fun h => ((mem_take_succ h16).1 h).elim hin heq
                have ih1 := ih (i + 1)
                rw [hs1] at ih1
                exact ih1 _ _ _ (by omega) (by omega) rfl (app_take_add _ _ _) rfl
              · have h0' : ((0 : Int) < (i : Int)) := by omega
                have h17 : i - 1 < c.length := by omega
                have hwp : IntKind.i64.wrap ((i : Int) - 1) = ((i - 1 : Nat) : Int) := by rw [wrap_i64 (by omega) (by omega)]; omega
                have hsm := hsmall (c[i - 1]) (List.getElem_mem h17)
                have hwc : IntKind.i64.wrap (((c[i - 1] : Nat) : Int) + 1) = ((c[i - 1] + 1 : Nat) : Int) := wrap_succ (by omega)
                have hst : ((((c[i] : Nat) : Int) = ((c[i - 1] + 1 : Nat) : Int)) = True) := eq_true (by rw [hcons i (by omega) h16])
                simp only [RUN_, u_C_hourglasslaw17_RouteWhole_k1, u_C_hourglasslaw17_RouteWhole_k2, u_C_hourglasslaw17_RouteWhole_k3, u_C_hourglasslaw17_RouteWhole_k4, u_C_hourglasslaw17_RouteWhole_k5, u_C_hourglasslaw17_RouteWhole_k6, u_C_hourglasslaw17_RouteWhole_k7, u_C_hourglasslaw17_RouteWhole_k8, u_C_hourglasslaw17_RouteWhole_k9, u_C_hourglasslaw17_RouteWhole_k10, u_C_hourglasslaw17_RouteWhole_k11, u_C_hourglasslaw17_RouteWhole_k12, u_C_hourglasslaw17_RouteWhole_k13, u_C_hourglasslaw17_RouteWhole_k14, FR_, Nat.reducePow, Int.reducePow, Nat.reduceAdd, Nat.reduceSub, Nat.reduceMul, Int.reduceToNat, Nat.reduceLeDiff, Nat.reduceEqDiff, Nat.reduceLT, Nat.reduceGT, Int.reduceGT, Int.reduceGE, Int.reduceLT, Int.reduceLE, Int.reduceEq, Int.reduceAdd, Int.reduceSub, Int.reduceNeg, reduceCtorEq, if_true, if_false, ite_true, ite_false, ne_eq, eq_self, OPK_, KEY_, WR_, hlt, h16, hin, heq', h0', hw, ixl_i, h17, hwp, hwc, hst]
                have hs1 : decide (cntK a pts ∈ c.take (i + 1)) = false := decide_eq_false fun h => ((mem_take_succ h16).1 h).elim hin heq
                have ih1 := ih (i + 1)
                rw [hs1] at ih1
                exact ih1 _ _ _ (by omega) (by omega) rfl (app_take_add _ _ _) rfl
        · have hlt : ¬ ((i : Int) < (c.length : Int)) := by omega
          by_cases hin : cntK a pts ∈ c.take i
          · simp only [RUN_, u_C_hourglasslaw17_RouteWhole_k1, u_C_hourglasslaw17_RouteWhole_k2, u_C_hourglasslaw17_RouteWhole_k3, u_C_hourglasslaw17_RouteWhole_k4, u_C_hourglasslaw17_RouteWhole_k5, u_C_hourglasslaw17_RouteWhole_k6, u_C_hourglasslaw17_RouteWhole_k7, u_C_hourglasslaw17_RouteWhole_k8, u_C_hourglasslaw17_RouteWhole_k9, u_C_hourglasslaw17_RouteWhole_k10, u_C_hourglasslaw17_RouteWhole_k11, u_C_hourglasslaw17_RouteWhole_k12, u_C_hourglasslaw17_RouteWhole_k13, u_C_hourglasslaw17_RouteWhole_k14, FR_, Nat.reducePow, Int.reducePow, Nat.reduceAdd, Nat.reduceSub, Nat.reduceMul, Int.reduceToNat, Nat.reduceLeDiff, Nat.reduceEqDiff, Nat.reduceLT, Nat.reduceGT, Int.reduceGT, Int.reduceGE, Int.reduceLT, Int.reduceLE, Int.reduceEq, Int.reduceAdd, Int.reduceSub, Int.reduceNeg, reduceCtorEq, if_true, if_false, ite_true, ite_false, ne_eq, eq_self, OPK_, KEY_, WR_, hlt, hin]
            exact hK _
          · simp only [RUN_, u_C_hourglasslaw17_RouteWhole_k1, u_C_hourglasslaw17_RouteWhole_k2, u_C_hourglasslaw17_RouteWhole_k3, u_C_hourglasslaw17_RouteWhole_k4, u_C_hourglasslaw17_RouteWhole_k5, u_C_hourglasslaw17_RouteWhole_k6, u_C_hourglasslaw17_RouteWhole_k7, u_C_hourglasslaw17_RouteWhole_k8, u_C_hourglasslaw17_RouteWhole_k9, u_C_hourglasslaw17_RouteWhole_k10, u_C_hourglasslaw17_RouteWhole_k11, u_C_hourglasslaw17_RouteWhole_k12, u_C_hourglasslaw17_RouteWhole_k13, u_C_hourglasslaw17_RouteWhole_k14, FR_, Nat.reducePow, Int.reducePow, Nat.reduceAdd, Nat.reduceSub, Nat.reduceMul, Int.reduceToNat, Nat.reduceLeDiff, Nat.reduceEqDiff, Nat.reduceLT, Nat.reduceGT, Int.reduceGT, Int.reduceGE, Int.reduceLT, Int.reduceLE, Int.reduceEq, Int.reduceAdd, Int.reduceSub, Int.reduceNeg, reduceCtorEq, if_true, if_false, ite_true, ite_false, ne_eq, eq_self, OPK_, KEY_, WR_, hlt, hin]
            refine h8 _ _ _ _ _ _ ?_
            have hwi : withinK a fr to = false := by
              cases hq : withinK a fr to with
              | false => rfl
              | true => exact (hin (by rw [List.take_of_length_le (by omega)]; exact hmem hq)).elim
            simp only [RUN_, u_C_hourglasslaw17_RouteWhole_k1, u_C_hourglasslaw17_RouteWhole_k2, u_C_hourglasslaw17_RouteWhole_k3, u_C_hourglasslaw17_RouteWhole_k4, u_C_hourglasslaw17_RouteWhole_k5, u_C_hourglasslaw17_RouteWhole_k6, u_C_hourglasslaw17_RouteWhole_k7, u_C_hourglasslaw17_RouteWhole_k8, u_C_hourglasslaw17_RouteWhole_k9, u_C_hourglasslaw17_RouteWhole_k10, u_C_hourglasslaw17_RouteWhole_k11, u_C_hourglasslaw17_RouteWhole_k12, u_C_hourglasslaw17_RouteWhole_k13, u_C_hourglasslaw17_RouteWhole_k14, FR_, Nat.reducePow, Int.reducePow, Nat.reduceAdd, Nat.reduceSub, Nat.reduceMul, Int.reduceToNat, Nat.reduceLeDiff, Nat.reduceEqDiff, Nat.reduceLT, Nat.reduceGT, Int.reduceGT, Int.reduceGE, Int.reduceLT, Int.reduceLE, Int.reduceEq, Int.reduceAdd, Int.reduceSub, Int.reduceNeg, reduceCtorEq, if_true, if_false, ite_true, ite_false, ne_eq, eq_self, OPK_, KEY_, WR_, hwi]
            exact hK _
end Go.AM
/-! The plain law of RouteWhole. -/
namespace Go.AM
open Go
set_option linter.unusedVariables false

theorem cb_flip : ∀ (x y : List UInt8), Lib.compareBytes y x = - Lib.compareBytes x y
  | [], [] => rfl
  | [], _ :: _ => rfl
  | _ :: _, [] => rfl
  | a :: x, b :: y => by
    simp only [Lib.compareBytes]
    by_cases h1 : a < b
    · have h2 : ¬ b < a := fun h => absurd (UInt8.lt_trans h1 h) (UInt8.lt_irrefl _)
      simp [h1, h2]
    · by_cases h2 : b < a
      · simp [h1, h2]
      · simp only [h1, h2, if_false]; exact cb_flip x y

theorem cb_trans : ∀ (x y z : List UInt8), Lib.compareBytes x y ≤ 0 → Lib.compareBytes y z ≤ 0 → Lib.compareBytes x z ≤ 0 ∧ (Lib.compareBytes x y < 0 ∨ Lib.compareBytes y z < 0 → Lib.compareBytes x z < 0)
  | [], [], [], _, _ => by simp [Lib.compareBytes]
  | [], [], _ :: _, _, _ => by simp [Lib.compareBytes]
  | [], _ :: _, [], _, h => by simp [Lib.compareBytes] at h
  | [], _ :: _, _ :: _, _, _ => by simp [Lib.compareBytes]
  | _ :: _, [], _, h, _ => by simp [Lib.compareBytes] at h
  | _ :: _, _ :: _, [], _, h => by simp [Lib.compareBytes] at h
  | a :: x, b :: y, c :: z, h1, h2 => by
    simp only [Lib.compareBytes] at h1 h2 ⊢
    rcases Nat.lt_trichotomy a.toNat b.toNat with hab | hab | hab
    · have e1 : a < b := UInt8.lt_iff_toNat_lt.2 hab
      rcases Nat.lt_trichotomy b.toNat c.toNat with hbc | hbc | hbc
      · have : a < c := UInt8.lt_iff_toNat_lt.2 (by omega)
        simp [this]
      · have : a < c := UInt8.lt_iff_toNat_lt.2 (by omega)
        simp [this]
      · have e2 : c < b := UInt8.lt_iff_toNat_lt.2 hbc
        have e3 : ¬ b < c := fun h => by have := UInt8.lt_iff_toNat_lt.1 h; omega
        simp [e2, e3] at h2
    · have e1 : a = b := UInt8.toNat_inj.1 hab
      subst e1
      have e0 : ¬ a < a := UInt8.lt_irrefl a
      simp only [e0, if_false] at h1 ⊢
      rcases Nat.lt_trichotomy a.toNat c.toNat with hbc | hbc | hbc
      · have : a < c := UInt8.lt_iff_toNat_lt.2 hbc
        simp [this]
      · have e2 : a = c := UInt8.toNat_inj.1 hbc
        subst e2
        simp only [e0, if_false] at h2 ⊢
        exact cb_trans x y z h1 h2
      · have e2 : c < a := UInt8.lt_iff_toNat_lt.2 hbc
        have e3 : ¬ a < c := fun h => by have := UInt8.lt_iff_toNat_lt.1 h; omega
        simp [e2, e3] at h2
    · have e1 : b < a := UInt8.lt_iff_toNat_lt.2 hab
      have e3 : ¬ a < b := fun h => by have := UInt8.lt_iff_toNat_lt.1 h; omega
      simp [e1, e3] at h1

theorem cmp_flip (a b : Key) : cmpK b a = - cmpK a b := cb_flip _ _
theorem cmp_le {a b c : Key} (h1 : cmpK a b ≤ 0) (h2 : cmpK b c ≤ 0) : cmpK a c ≤ 0 := (cb_trans _ _ _ h1 h2).1
theorem cmp_lt {a b c : Key} (h1 : cmpK a b < 0) (h2 : cmpK b c ≤ 0) : cmpK a c < 0 := (cb_trans _ _ _ (by unfold cmpK at h1; omega) h2).2 (.inl h1)
theorem cmp_lt' {a b c : Key} (h1 : cmpK a b ≤ 0) (h2 : cmpK b c < 0) : cmpK a c < 0 := (cb_trans _ _ _ h1 (by unfold cmpK at h2; omega)).2 (.inr h2)

theorem ok_pair : ∀ {q : Option Key} {l : List Key}, okFrom q l = true → l.Pairwise (fun a b => cmpK a b < 0) ∧ ∀ p, q = some p → ∀ x ∈ l, cmpK p x < 0
  | _, [], _ => ⟨.nil, fun _ _ _ h => by cases h⟩
  | q, x :: l, h => by
    simp only [okFrom, Bool.and_eq_true] at h
    obtain ⟨⟨h1, h2⟩, h3⟩ := h
    obtain ⟨k1, k2⟩ := ok_pair h3
    have k2 := k2 x rfl
    refine ⟨List.pairwise_cons.2 ⟨k2, k1⟩, fun p hp y hy => ?_⟩
    subst hp
    have h2 : cmpK p x < 0 := by simpa using h2
    rcases List.mem_cons.1 hy with rfl | hy
    · exact h2
    · exact cmp_lt h2 (by have := k2 y hy; omega)

theorem cnt_le (k : Key) : ∀ (l : List Key), cntK k l ≤ l.length
  | [] => Nat.le_refl _
  | p :: l => by
    have := cnt_le k l
    simp only [cntK, List.length_cons]
    split <;> omega
theorem cnt_mono {a b : Key} (h : cmpK a b ≤ 0) : ∀ (l : List Key), cntK a l ≤ cntK b l
  | [] => Nat.le_refl _
  | p :: l => by
    have := cnt_mono h l
    simp only [cntK]
    by_cases h1 : cmpK p a ≤ 0
    · rw [if_pos h1, if_pos (cmp_le h1 h)]; omega
    · rw [if_neg h1]; split <;> omega
theorem cnt_zero {k : Key} : ∀ {l : List Key}, (∀ x ∈ l, 0 < cmpK x k) → cntK k l = 0
  | [], _ => rfl
  | p :: l, h => by
    have h1 := h p List.mem_cons_self
    simp only [cntK]
    rw [if_neg (by omega), cnt_zero fun x hx => h x (List.mem_cons_of_mem _ hx)]
theorem cnt_iff {k : Key} : ∀ {l : List Key} {i : Nat}, l.Pairwise (fun a b => cmpK a b < 0) → (hi : i < l.length) → (cmpK l[i] k ≤ 0 ↔ i < cntK k l)
  | [], _, _, hi => by simp at hi
  | p :: l, i, hp, hi => by
    obtain ⟨h1, h2⟩ := List.pairwise_cons.1 hp
    simp only [cntK]
    by_cases hpk : cmpK p k ≤ 0
    · rw [if_pos hpk]
      cases i with
      | zero => simp [hpk]; omega
      | succ i =>
        have := cnt_iff (k := k) (i := i) h2 (by simpa using hi)
        simp only [List.getElem_cons_succ]
        rw [this]; omega
    · rw [if_neg hpk]
      have hz : cntK k l = 0 := cnt_zero fun x hx => by
        have := h1 x hx
        rcases (by omega : 0 < cmpK x k ∨ cmpK x k ≤ 0) with h | h
        · exact h
        · exact absurd (cmp_le (by omega : cmpK p x ≤ 0) h) hpk
      rw [hz]
      cases i with
      | zero => simp [hpk]
      | succ i =>
        have := cnt_iff (k := k) (i := i) h2 (by simpa using hi)
        simp only [List.getElem_cons_succ]
        rw [this, hz]; omega

theorem convex_range {p : Nat → Bool} {N : Nat} (hc : ∀ i j k, i < j → j < k → k < N → p i = true → p k = true → p j = true) : ∀ n, n ≤ N → (List.range n).filter p = [] ∨ ∃ s k, 0 < k ∧ (List.range n).filter p = List.range' s k ∧ p s = true ∧ (s + k = n ∨ s + k < n ∧ p (s + k) = false)
  | 0, _ => .inl rfl
  | n + 1, hn => by
    have e : (List.range (n + 1)).filter p = (List.range n).filter p ++ (if p n = true then [n] else []) := by
      rw [List.range_succ, List.filter_append, List.filter_cons, List.filter_nil]
    rw [e]
    rcases convex_range hc n (by omega) with h | ⟨s, k, hk, h, hs, h2⟩
    · rw [h]
      by_cases hp : p n = true
      · rw [if_pos hp]
        exact .inr ⟨n, 1, by omega, rfl, hp, .inl rfl⟩
      · rw [if_neg hp]; exact .inl rfl
    · rw [h]
      right
      by_cases hp : p n = true
      · rw [if_pos hp]
        rcases h2 with h2 | ⟨h2, h3⟩
        · subst h2
          refine ⟨s, k + 1, by omega, ?_, hs, .inl rfl⟩
          rw [List.range'_concat]; simp
        · rw [hc s (s + k) n (by omega) h2 (by omega) hs hp] at h3; cases h3
      · rw [if_neg hp, List.append_nil]
        refine ⟨s, k, hk, rfl, hs, ?_⟩
        rcases h2 with h2 | ⟨h2, h3⟩
        · right; refine ⟨by omega, ?_⟩; rw [h2]; simpa using hp
        · right; exact ⟨by omega, h3⟩

theorem steps_range' (s k : Nat) : Steps (List.range' s k) := by
  intro i hi h
  simp only [List.getElem_range']
  omega

theorem goodL_true : ∀ {l : List UInt8}, goodL true l = true → l = List.replicate l.length 0
  | [], _ => rfl
  | x :: l, h => by
    simp only [goodL] at h
    by_cases hx : x = 0
    · rw [if_pos hx] at h
      subst hx
      rw [List.length_cons, List.replicate_succ, ← goodL_true h]
    · rw [if_neg hx] at h; simp at h
theorem goodL_split : ∀ {l : List UInt8}, goodL false l = true → ∃ m, l = l.takeWhile (· != 0) ++ List.replicate m 0
  | [], _ => ⟨0, rfl⟩
  | x :: l, h => by
    simp only [goodL] at h
    by_cases hx : x = 0
    · rw [if_pos hx] at h
      subst hx
      refine ⟨l.length + 1, ?_⟩
      rw [List.replicate_succ, ← goodL_true h]; simp
    · rw [if_neg hx] at h
      obtain ⟨m, hm⟩ := goodL_split (l := l) (by simpa using h)
      refine ⟨m, ?_⟩
      rw [List.takeWhile_cons]
      have : (x != 0) = true := by simpa using hx
      rw [this]
      simp only [if_true, List.cons_append]
      rw [← hm]

theorem good_R {k : Key} (h : goodR k = true) : goodK k = true := by
  unfold goodR at h
  rw [Bool.and_eq_true] at h
  obtain ⟨h1, h2⟩ := h
  have h2 : k.b[0]'(by rw [k.h]; omega) ≠ 0 := by simpa using h2
  obtain ⟨m, hm⟩ := goodL_split h1
  have hne : textOf k ≠ [] := by
    unfold textOf
    intro e
    rw [e, List.nil_append] at hm
    apply h2
    have : ∀ (l : List UInt8) (hl : 0 < l.length), l = List.replicate m 0 → l[0] = 0 := by
      intro l hl e; subst e; simp
    exact this _ _ hm
  have hpad : padK (textOf k) = k := by
    apply Key.ext'
    show padB (textOf k) = k.b
    have hl := text_len k
    unfold padB
    rw [List.take_of_length_le hl]
    have hlen : (textOf k).length + m = 16 := by
      have := congrArg List.length hm
      rw [k.h, List.length_append, List.length_replicate] at this
      exact this.symm
    rw [show 16 - (textOf k).length = m by omega]
    exact hm.symm
  unfold goodK
  simp [hne, hpad]

theorem wholeP (pts : List Key) (a b fr to : Key) (hok : okPts pts = true) : WholeP pts a b fr to := by
  obtain ⟨hs, _⟩ := ok_pair hok
  have hab : ∀ i, i < pts.length + 1 → (aboveK pts fr i = true ↔ cntK fr pts ≤ i) := by
    intro i hi
    unfold aboveK
    by_cases h : i < pts.length
    · have := cnt_iff (k := fr) hs h
      simp only [h, List.getElem?_eq_getElem, decide_eq_true_eq]
      omega
    · have := cnt_le fr pts
      rw [List.getElem?_eq_none (by omega)]
      simp only [true_iff]; omega
  have hbe : ∀ i j, i < j → j < pts.length + 1 → belowK pts to j = true → belowK pts to i = true := by
    intro i j hij hj
    unfold belowK
    by_cases h0 : i = 0
    · simp [h0]
    · by_cases ho : to = key0
      · simp [ho]
      · have h1 : i - 1 < pts.length := by omega
        have h2 : j - 1 < pts.length := by omega
        have h3 : ¬ j = 0 := by omega
        simp only [h0, h3, ho, decide_false, Bool.false_or, h1, h2, List.getElem?_eq_getElem, decide_eq_true_eq]
        intro h
        have := List.pairwise_iff_getElem.1 hs (i - 1) (j - 1) h1 h2 (by omega)
        exact cmp_lt this (by omega)
  have hcv := convex_range (p := fun i => aboveK pts fr i && belowK pts to i) (N := pts.length + 1) (fun i j k hij hjk hk h1 h2 => by
    rw [Bool.and_eq_true] at h1 h2 ⊢
    refine ⟨(hab j (by omega)).2 ?_, hbe j k hjk hk h2.2⟩
    have := (hab i (by omega)).1 h1.1
    omega) (pts.length + 1) (Nat.le_refl _)
  refine ⟨fun k h => good_R h, cnt_le _ _, fun h => cnt_mono h _, ?_, ?_, ?_⟩
  · unfold coverK
    split
    · intro i _ h; simp at h
    · unfold covUp
      rcases hcv with h | ⟨s, k, _, h, _⟩
      · rw [h]; intro i _ h; simp at h
      · rw [h]; exact steps_range' s k
  · intro x hx
    unfold coverK at hx
    split at hx
    · cases hx
    · unfold covUp at hx
      have := (List.mem_filter.1 hx).1
      have := List.mem_range.1 this
      omega
  · intro hw
    unfold withinK at hw
    simp only [Bool.and_eq_true, Bool.or_eq_true, decide_eq_true_eq] at hw
    obtain ⟨h1, h2⟩ := hw
    have hfa : cmpK fr a ≤ 0 := by rw [cmp_flip a fr]; omega
    unfold coverK
    rw [if_neg]
    · unfold covUp
      refine List.mem_filter.2 ⟨List.mem_range.2 (by have := cnt_le a pts; omega), ?_⟩
      rw [Bool.and_eq_true]
      refine ⟨(hab _ (by have := cnt_le a pts; omega)).2 (cnt_mono hfa _), ?_⟩
      unfold belowK
      by_cases h0 : cntK a pts = 0
      · simp [h0]
      · rcases h2 with h2 | h2
        · simp [h2]
        · have hl := cnt_le a pts
          have h3 : cntK a pts - 1 < pts.length := by omega
          have h4 := (cnt_iff (k := a) hs h3).2 (by omega)
          simp only [h3, List.getElem?_eq_getElem, Bool.or_eq_true, decide_eq_true_eq]
          exact .inr (cmp_lt' h4 h2)
    · rintro ⟨h3, h4⟩
      rcases h2 with h2 | h2
      · exact h3 h2
      · have := cmp_lt h2 h4
        omega
end Go.AM
/-! Functions, lowered. -/
namespace Go.AM
open Go
set_option linter.unusedVariables false
set_option maxRecDepth 20000
-- route_Table_Split: 0=route_Table_Nodes 1=route_Table_Of
def route_Table_Split_k1 (c : Nat → FuncId) : LCode := (.tree (.rd ⟨some 24, none, .mv false (.t 5)⟩ 0 true (.rd ⟨some 25, none, .mv false (.t 8)⟩ 1 true (.rd ⟨some 26, none, .mv false (.t 5)⟩ 2 false (.rd ⟨some 27, none, .mv false (.t 8)⟩ 3 false (.rd ⟨some 28, none, .ixa (.sl 1) (.t 26) (.t 27)⟩ 4 false (.rd ⟨some 30, none, .loadA 18 (.t 7)⟩ 6 true (.rd ⟨some 31, none, .bsl ⟨18, true, 40, (.agg (zk ++ [(.s (.str [])), (.s (.bool false))]))⟩ 1 [(0, (.t 30))]⟩ 7 true (.mv ⟨some 29, none, .load1 true (.t 28)⟩ [2, 3, 4] (.mv ⟨some 32, none, .app ⟨18, true, 40, (.agg (zk ++ [(.s (.str [])), (.s (.bool false))]))⟩ false (.t 29) (.t 31)⟩ [2, 3, 4, 5, 6, 7] (.rd ⟨some 33, none, .ixa (.sl 1) (.t 24) (.t 25)⟩ 9 false (.mv ⟨none, none, .store 1 (.t 33) (.t 32)⟩ [0, 1, 2, 3, 4, 5, 6, 7, 8, 9] .done .stop)) .stop) .stop)))))))))
def route_Table_Split_k2 (c : Nat → FuncId) : LCode := (.seq (.sq [⟨some 22, none, .mv false (.t 8)⟩, ⟨some 23, none, .bin .geq .sc (.t 22) (.c (.int .i64 0))⟩]) (.cond (.t 23) (route_Table_Split_k1 c) .skip))
def route_Table_Split_k3 (c : Nat → FuncId) : LCode := (.seq (.sq [⟨some 18, none, .mv false (.t 0)⟩, ⟨some 19, none, .shift 0 (.t 7)⟩, ⟨some 20, none, .loadA 16 (.t 19)⟩, ⟨some 21, none, .call (.f (c 1)) [(.t 18), (.t 20)]⟩, ⟨some 8, none, .mv true (.t 21)⟩]) (route_Table_Split_k2 c))
def route_Table_Split_k4 (c : Nat → FuncId) : LCode := (.seq (.block 1 (.seq (.sq [⟨some 16, none, .ixa (.sl 18) (.t 12) (.t 14)⟩, ⟨some 17, none, .loadA 18 (.t 16)⟩, ⟨some 7, none, .alloc false (zk ++ [(.s (.str [])), (.s (.bool false))])⟩, ⟨none, none, .store 18 (.t 7) (.t 17)⟩]) (route_Table_Split_k3 c))) (.sq [⟨some 34, none, .bin .add .sc (.t 14) (.c (.int .i64 1))⟩, ⟨some 14, none, .mv false (.t 34)⟩]))
def route_Table_Split_k5 (c : Nat → FuncId) : LCode := (.seq (.sq [⟨some 15, none, .bin .lss .sc (.t 14) (.t 13)⟩]) (.seq (.cond (.t 15) .skip (.exit 0)) (route_Table_Split_k4 c)))
def route_Table_Split_k6 (c : Nat → FuncId) : LCode := (.block 0 (.loop [true, false, false, false, false, true, false, false, false, false, false, false, true, true, true, false, false, false, false, false, false, false, false, false, false, false, false, false, false, false, false, false, false, false, false, false] (route_Table_Split_k5 c)))
def route_Table_Split_k7 (c : Nat → FuncId) : LCode := (.seq (.seq (.sq [⟨some 12, none, .mv false (.t 1)⟩, ⟨some 13, none, .len .sl (.t 12)⟩, ⟨some 14, none, .mv false (.c (.int .i64 0))⟩]) (route_Table_Split_k6 c)) (.seq (.sq [⟨some 35, none, .mv true (.t 5)⟩, ⟨some 4, none, .mv true (.t 35)⟩]) .ret))
def route_Table_Split_k8 (c : Nat → FuncId) : LCode := (.seq (.sq [⟨some 9, none, .mv false (.t 0)⟩, ⟨some 10, none, .call (.f (c 0)) [(.t 9)]⟩, ⟨some 11, none, .mksl false true ⟨1, false, 24, (.s .nilS)⟩ (.t 10) (.t 10)⟩, ⟨some 5, none, .mv true (.t 11)⟩]) (route_Table_Split_k7 c))
theorem U_route_Table_Split (c : Nat → FuncId) : (((type_of% (@unfC _ _ (route_Table_Split_k1.eq_1 c)) ∧ type_of% (@unfC _ _ (route_Table_Split_k2.eq_1 c))) ∧ (type_of% (@unfC _ _ (route_Table_Split_k3.eq_1 c)) ∧ type_of% (@unfC _ _ (route_Table_Split_k4.eq_1 c)))) ∧ ((type_of% (@unfC _ _ (route_Table_Split_k5.eq_1 c)) ∧ type_of% (@unfC _ _ (route_Table_Split_k6.eq_1 c))) ∧ (type_of% (@unfC _ _ (route_Table_Split_k7.eq_1 c)) ∧ type_of% (@unfC _ _ (route_Table_Split_k8.eq_1 c))))) := ⟨⟨⟨@unfC _ _ (route_Table_Split_k1.eq_1 c), @unfC _ _ (route_Table_Split_k2.eq_1 c)⟩, ⟨@unfC _ _ (route_Table_Split_k3.eq_1 c), @unfC _ _ (route_Table_Split_k4.eq_1 c)⟩⟩, ⟨⟨@unfC _ _ (route_Table_Split_k5.eq_1 c), @unfC _ _ (route_Table_Split_k6.eq_1 c)⟩, ⟨@unfC _ _ (route_Table_Split_k7.eq_1 c), @unfC _ _ (route_Table_Split_k8.eq_1 c)⟩⟩⟩
def C_route_Table_Split (c : Nat → FuncId) : LFn := ⟨36, [.t 4], (.seq (.sq [⟨some 4, none, .mv true (.c .nilS)⟩]) (route_Table_Split_k8 c))⟩

-- hourglasslaw17_RouteSplits: 0=hourglasslaw17_awake 1=hourglasslaw17_long 2=route_New 3=route_Table_Split 4=route_Table_Of 5=hourglassref10_Good
def hourglasslaw17_RouteSplits_k1 (c : Nat → FuncId) : LCode := (.seq (.seq (.sq [⟨some 49, none, .mv false (.t 1)⟩, ⟨some 50, none, .mv false (.t 9)⟩, ⟨some 51, none, .ixa (.sl 18) (.t 49) (.t 50)⟩, ⟨some 52, none, .shift 0 (.t 51)⟩, ⟨some 53, none, .loadA 16 (.t 52)⟩, ⟨some 54, none, .call (.f (c 5)) [(.t 53)]⟩]) (.cond (.t 54) (.seq (.sq [⟨some 4, none, .mv true (.c (.bool false))⟩]) .ret) .skip)) (.exit 1))
def hourglasslaw17_RouteSplits_k2 (c : Nat → FuncId) : LCode := (.sq [⟨some 88, none, .mv false (.t 8)⟩, ⟨some 89, none, .mv false (.t 10)⟩, ⟨some 90, none, .ixa (.sl 1) (.t 88) (.t 89)⟩, ⟨some 91, none, .load1 false (.t 90)⟩, ⟨some 92, none, .bin .add .sc (.t 91) (.c (.int .i64 1))⟩, ⟨some 93, none, .ixa (.sl 1) (.t 88) (.t 89)⟩, ⟨none, none, .store 1 (.t 93) (.t 92)⟩])
def hourglasslaw17_RouteSplits_k3 (c : Nat → FuncId) : LCode := (.seq (.seq (.tree (.rd ⟨some 55, none, .mv false (.t 10)⟩ 0 false (.rd ⟨some 56, none, .mv false (.t 7)⟩ 1 false (.rd ⟨some 57, none, .len .sl (.t 56)⟩ 2 false (.rd ⟨some 58, none, .bin .geq .sc (.t 55) (.t 57)⟩ 3 false (.rd ⟨some 59, none, .mv false (.t 58)⟩ 4 false (.rd ⟨some 60, some (59, false), .mv false (.t 8)⟩ 5 false (.rd ⟨some 61, some (59, false), .mv false (.t 10)⟩ 6 false (.rd ⟨some 62, some (59, false), .ixa (.sl 1) (.t 60) (.t 61)⟩ 7 false (.rd ⟨some 63, some (59, false), .load1 false (.t 62)⟩ 8 false (.rd ⟨some 64, some (59, false), .mv false (.t 7)⟩ 9 false (.rd ⟨some 65, some (59, false), .mv false (.t 10)⟩ 10 false (.rd ⟨some 66, some (59, false), .ixa (.sl 1) (.t 64) (.t 65)⟩ 11 false (.rd ⟨some 67, some (59, false), .load1 false (.t 66)⟩ 12 false (.rd ⟨some 68, some (59, false), .len .sl (.t 67)⟩ 13 false (.rd ⟨some 69, some (59, false), .bin .geq .sc (.t 63) (.t 68)⟩ 14 false (.rd ⟨some 70, none, .pick (.t 59) (.c (.bool true)) (.t 69)⟩ 15 false (.rd ⟨some 71, none, .mv false (.t 70)⟩ 16 false (.rd ⟨some 72, some (71, false), .mv false (.t 7)⟩ 17 false (.rd ⟨some 73, some (71, false), .mv false (.t 10)⟩ 18 false (.rd ⟨some 74, some (71, false), .ixa (.sl 1) (.t 72) (.t 73)⟩ 19 false (.rd ⟨some 75, some (71, false), .load1 false (.t 74)⟩ 20 false (.rd ⟨some 76, some (71, false), .mv false (.t 8)⟩ 21 false (.rd ⟨some 77, some (71, false), .mv false (.t 10)⟩ 22 false (.rd ⟨some 78, some (71, false), .ixa (.sl 1) (.t 76) (.t 77)⟩ 23 false (.rd ⟨some 79, some (71, false), .load1 false (.t 78)⟩ 24 false (.rd ⟨some 80, some (71, false), .ixa (.sl 18) (.t 75) (.t 79)⟩ 25 false (.rd ⟨some 81, some (71, false), .loadA 18 (.t 80)⟩ 26 false (.rd ⟨some 82, some (71, false), .mv false (.t 1)⟩ 27 false (.rd ⟨some 83, some (71, false), .mv false (.t 9)⟩ 28 false (.rd ⟨some 84, some (71, false), .ixa (.sl 18) (.t 82) (.t 83)⟩ 29 false (.rd ⟨some 85, some (71, false), .loadA 18 (.t 84)⟩ 30 false (.rd ⟨some 86, some (71, false), .bin .neq (.leaf (lk ++ [.str, .bool])) (.t 81) (.t 85)⟩ 31 false (.rd ⟨some 87, none, .pick (.t 71) (.c (.bool true)) (.t 86)⟩ 32 false .done)))))))))))))))))))))))))))))))))) (.cond (.t 87) (.seq (.sq [⟨some 4, none, .mv true (.c (.bool false))⟩]) .ret) .skip)) (hourglasslaw17_RouteSplits_k2 c))
def hourglasslaw17_RouteSplits_k4 (c : Nat → FuncId) : LCode := (.seq (.seq (.sq [⟨some 47, none, .mv false (.t 10)⟩, ⟨some 48, none, .bin .lss .sc (.t 47) (.c (.int .i64 0))⟩]) (.cond (.t 48) (hourglasslaw17_RouteSplits_k1 c) .skip)) (hourglasslaw17_RouteSplits_k3 c))
def hourglasslaw17_RouteSplits_k5 (c : Nat → FuncId) : LCode := (.sq [⟨some 38, none, .mv false (.t 9)⟩, ⟨some 39, none, .bin .add .sc (.t 38) (.c (.int .i64 1))⟩, ⟨some 9, none, .mv true (.t 39)⟩])
def hourglasslaw17_RouteSplits_k6 (c : Nat → FuncId) : LCode := (.seq (.block 1 (.seq (.sq [⟨some 40, none, .mv false (.t 5)⟩, ⟨some 41, none, .mv false (.t 1)⟩, ⟨some 42, none, .mv false (.t 9)⟩, ⟨some 43, none, .ixa (.sl 18) (.t 41) (.t 42)⟩, ⟨some 44, none, .shift 0 (.t 43)⟩, ⟨some 45, none, .loadA 16 (.t 44)⟩, ⟨some 46, none, .call (.f (c 4)) [(.t 40), (.t 45)]⟩, ⟨some 10, none, .mv true (.t 46)⟩]) (hourglasslaw17_RouteSplits_k4 c))) (hourglasslaw17_RouteSplits_k5 c))
def hourglasslaw17_RouteSplits_k7 (c : Nat → FuncId) : LCode := (.seq (.seq (.sq [⟨some 34, none, .mv false (.t 9)⟩, ⟨some 35, none, .mv false (.t 1)⟩, ⟨some 36, none, .len .sl (.t 35)⟩, ⟨some 37, none, .bin .lss .sc (.t 34) (.t 36)⟩]) (.cond (.t 37) .skip (.exit 0))) (hourglasslaw17_RouteSplits_k6 c))
def hourglasslaw17_RouteSplits_k8 (c : Nat → FuncId) : LCode := (.block 0 (.loop [false, true, false, false, false, true, false, true, true, true, false, false, false, false, false, false, false, false, false, false, false, false, false, false, false, false, false, false, false, false, false, false, false, false, false, false, false, false, false, false, false, false, false, false, false, false, false, false, false, false, false, false, false, false, false, false, false, false, false, false, false, false, false, false, false, false, false, false, false, false, false, false, false, false, false, false, false, false, false, false, false, false, false, false, false, false, false, false, false, false, false, false, false, false, false, false, false, false, false, false, false, false, false, false, false, false, false, false, false, false] (hourglasslaw17_RouteSplits_k7 c)))
def hourglasslaw17_RouteSplits_k9 (c : Nat → FuncId) : LCode := (.sq [⟨some 98, none, .mv false (.t 11)⟩, ⟨some 99, none, .bin .add .sc (.t 98) (.c (.int .i64 1))⟩, ⟨some 11, none, .mv true (.t 99)⟩])
def hourglasslaw17_RouteSplits_k10 (c : Nat → FuncId) : LCode := (.seq (.block 3 (.seq (.tree (.rd ⟨some 100, none, .mv false (.t 8)⟩ 0 false (.rd ⟨some 101, none, .mv false (.t 11)⟩ 1 false (.rd ⟨some 102, none, .ixa (.sl 1) (.t 100) (.t 101)⟩ 2 false (.rd ⟨some 103, none, .load1 false (.t 102)⟩ 3 false (.rd ⟨some 104, none, .mv false (.t 7)⟩ 4 false (.rd ⟨some 105, none, .mv false (.t 11)⟩ 5 false (.rd ⟨some 106, none, .ixa (.sl 1) (.t 104) (.t 105)⟩ 6 false (.rd ⟨some 107, none, .load1 false (.t 106)⟩ 7 false (.rd ⟨some 108, none, .len .sl (.t 107)⟩ 8 false (.rd ⟨some 109, none, .bin .neq .sc (.t 103) (.t 108)⟩ 9 false .done))))))))))) (.cond (.t 109) (.seq (.sq [⟨some 4, none, .mv true (.c (.bool false))⟩]) .ret) .skip))) (hourglasslaw17_RouteSplits_k9 c))
def hourglasslaw17_RouteSplits_k11 (c : Nat → FuncId) : LCode := (.seq (.seq (.sq [⟨some 94, none, .mv false (.t 11)⟩, ⟨some 95, none, .mv false (.t 7)⟩, ⟨some 96, none, .len .sl (.t 95)⟩, ⟨some 97, none, .bin .lss .sc (.t 94) (.t 96)⟩]) (.cond (.t 97) .skip (.exit 2))) (hourglasslaw17_RouteSplits_k10 c))
def hourglasslaw17_RouteSplits_k12 (c : Nat → FuncId) : LCode := (.block 2 (.loop [false, false, false, false, false, false, false, true, true, false, false, true, false, false, false, false, false, false, false, false, false, false, false, false, false, false, false, false, false, false, false, false, false, false, false, false, false, false, false, false, false, false, false, false, false, false, false, false, false, false, false, false, false, false, false, false, false, false, false, false, false, false, false, false, false, false, false, false, false, false, false, false, false, false, false, false, false, false, false, false, false, false, false, false, false, false, false, false, false, false, false, false, false, false, false, false, false, false, false, false, false, false, false, false, false, false, false, false, false, false] (hourglasslaw17_RouteSplits_k11 c)))
def hourglasslaw17_RouteSplits_k13 (c : Nat → FuncId) : LCode := (.seq (.seq (.sq [⟨some 11, none, .mv true (.c (.int .i64 0))⟩]) (hourglasslaw17_RouteSplits_k12 c)) (.seq (.sq [⟨some 4, none, .mv true (.c (.bool true))⟩]) .ret))
def hourglasslaw17_RouteSplits_k14 (c : Nat → FuncId) : LCode := (.seq (.seq (.sq [⟨some 9, none, .mv true (.c (.int .i64 0))⟩]) (hourglasslaw17_RouteSplits_k8 c)) (hourglasslaw17_RouteSplits_k13 c))
def hourglasslaw17_RouteSplits_k15 (c : Nat → FuncId) : LCode := (.seq (.sq [⟨some 31, none, .mv false (.t 7)⟩, ⟨some 32, none, .len .sl (.t 31)⟩, ⟨some 33, none, .mksl false false ⟨1, false, 8, (.s (.int .i64 0))⟩ (.t 32) (.t 32)⟩, ⟨some 8, none, .mv true (.t 33)⟩]) (hourglasslaw17_RouteSplits_k14 c))
def hourglasslaw17_RouteSplits_k16 (c : Nat → FuncId) : LCode := (.seq (.sq [⟨some 28, none, .mv false (.t 5)⟩, ⟨some 29, none, .mv false (.t 1)⟩, ⟨some 30, none, .call (.f (c 3)) [(.t 28), (.t 29)]⟩, ⟨some 7, none, .mv true (.t 30)⟩]) (hourglasslaw17_RouteSplits_k15 c))
def hourglasslaw17_RouteSplits_k17 (c : Nat → FuncId) : LCode := (.seq (.seq (.sq [⟨some 26, none, .mv false (.t 6)⟩, ⟨some 27, none, .bin .neq .sc (.t 26) (.c (.int .i64 0))⟩]) (.cond (.t 27) (.seq (.sq [⟨some 4, none, .mv true (.c (.bool true))⟩]) .ret) .skip)) (hourglasslaw17_RouteSplits_k16 c))
def hourglasslaw17_RouteSplits_k18 (c : Nat → FuncId) : LCode := (.seq (.sq [⟨some 22, none, .mv true (.t 0)⟩, ⟨some 23, none, .call (.f (c 2)) [(.t 22)]⟩, ⟨some 21, none, .mv false (.t 23)⟩, ⟨some 24, none, .ext (.t 21) 0⟩, ⟨some 25, none, .ext (.t 21) 1⟩, ⟨some 5, none, .mv true (.t 24)⟩, ⟨some 6, none, .mv true (.t 25)⟩]) (hourglasslaw17_RouteSplits_k17 c))
def hourglasslaw17_RouteSplits_k19 (c : Nat → FuncId) : LCode := (.seq (.seq (.sq [⟨some 14, none, .mv false (.t 0)⟩, ⟨some 15, none, .len .sl (.t 14)⟩, ⟨some 16, none, .bin .gtr .sc (.t 15) (.c (.int .i64 7))⟩, ⟨some 17, none, .mv false (.t 16)⟩, ⟨some 18, some (17, false), .mv false (.t 1)⟩, ⟨some 19, some (17, false), .call (.f (c 1)) [(.t 18)]⟩, ⟨some 20, none, .pick (.t 17) (.c (.bool true)) (.t 19)⟩]) (.cond (.t 20) (.seq (.sq [⟨some 4, none, .mv true (.c (.bool true))⟩]) .ret) .skip)) (hourglasslaw17_RouteSplits_k18 c))
def hourglasslaw17_RouteSplits_k20 (c : Nat → FuncId) : LCode := (.seq (.seq (.sq [⟨some 12, none, .call (.f (c 0)) []⟩, ⟨some 13, none, .un .not (.t 12)⟩]) (.cond (.t 13) (.seq (.sq [⟨some 4, none, .mv true (.c (.bool false))⟩]) .ret) .skip)) (hourglasslaw17_RouteSplits_k19 c))
theorem U_hourglasslaw17_RouteSplits (c : Nat → FuncId) : ((((type_of% (@unfC _ _ (hourglasslaw17_RouteSplits_k1.eq_1 c)) ∧ type_of% (@unfC _ _ (hourglasslaw17_RouteSplits_k2.eq_1 c))) ∧ (type_of% (@unfC _ _ (hourglasslaw17_RouteSplits_k3.eq_1 c)) ∧ (type_of% (@unfC _ _ (hourglasslaw17_RouteSplits_k4.eq_1 c)) ∧ type_of% (@unfC _ _ (hourglasslaw17_RouteSplits_k5.eq_1 c))))) ∧ ((type_of% (@unfC _ _ (hourglasslaw17_RouteSplits_k6.eq_1 c)) ∧ type_of% (@unfC _ _ (hourglasslaw17_RouteSplits_k7.eq_1 c))) ∧ (type_of% (@unfC _ _ (hourglasslaw17_RouteSplits_k8.eq_1 c)) ∧ (type_of% (@unfC _ _ (hourglasslaw17_RouteSplits_k9.eq_1 c)) ∧ type_of% (@unfC _ _ (hourglasslaw17_RouteSplits_k10.eq_1 c)))))) ∧ (((type_of% (@unfC _ _ (hourglasslaw17_RouteSplits_k11.eq_1 c)) ∧ type_of% (@unfC _ _ (hourglasslaw17_RouteSplits_k12.eq_1 c))) ∧ (type_of% (@unfC _ _ (hourglasslaw17_RouteSplits_k13.eq_1 c)) ∧ (type_of% (@unfC _ _ (hourglasslaw17_RouteSplits_k14.eq_1 c)) ∧ type_of% (@unfC _ _ (hourglasslaw17_RouteSplits_k15.eq_1 c))))) ∧ ((type_of% (@unfC _ _ (hourglasslaw17_RouteSplits_k16.eq_1 c)) ∧ type_of% (@unfC _ _ (hourglasslaw17_RouteSplits_k17.eq_1 c))) ∧ (type_of% (@unfC _ _ (hourglasslaw17_RouteSplits_k18.eq_1 c)) ∧ (type_of% (@unfC _ _ (hourglasslaw17_RouteSplits_k19.eq_1 c)) ∧ type_of% (@unfC _ _ (hourglasslaw17_RouteSplits_k20.eq_1 c))))))) := ⟨⟨⟨⟨@unfC _ _ (hourglasslaw17_RouteSplits_k1.eq_1 c), @unfC _ _ (hourglasslaw17_RouteSplits_k2.eq_1 c)⟩, ⟨@unfC _ _ (hourglasslaw17_RouteSplits_k3.eq_1 c), ⟨@unfC _ _ (hourglasslaw17_RouteSplits_k4.eq_1 c), @unfC _ _ (hourglasslaw17_RouteSplits_k5.eq_1 c)⟩⟩⟩, ⟨⟨@unfC _ _ (hourglasslaw17_RouteSplits_k6.eq_1 c), @unfC _ _ (hourglasslaw17_RouteSplits_k7.eq_1 c)⟩, ⟨@unfC _ _ (hourglasslaw17_RouteSplits_k8.eq_1 c), ⟨@unfC _ _ (hourglasslaw17_RouteSplits_k9.eq_1 c), @unfC _ _ (hourglasslaw17_RouteSplits_k10.eq_1 c)⟩⟩⟩⟩, ⟨⟨⟨@unfC _ _ (hourglasslaw17_RouteSplits_k11.eq_1 c), @unfC _ _ (hourglasslaw17_RouteSplits_k12.eq_1 c)⟩, ⟨@unfC _ _ (hourglasslaw17_RouteSplits_k13.eq_1 c), ⟨@unfC _ _ (hourglasslaw17_RouteSplits_k14.eq_1 c), @unfC _ _ (hourglasslaw17_RouteSplits_k15.eq_1 c)⟩⟩⟩, ⟨⟨@unfC _ _ (hourglasslaw17_RouteSplits_k16.eq_1 c), @unfC _ _ (hourglasslaw17_RouteSplits_k17.eq_1 c)⟩, ⟨@unfC _ _ (hourglasslaw17_RouteSplits_k18.eq_1 c), ⟨@unfC _ _ (hourglasslaw17_RouteSplits_k19.eq_1 c), @unfC _ _ (hourglasslaw17_RouteSplits_k20.eq_1 c)⟩⟩⟩⟩⟩
def C_hourglasslaw17_RouteSplits (c : Nat → FuncId) : LFn := ⟨110, [.t 4], (.seq (.sq [⟨some 4, none, .mv true (.c (.bool false))⟩]) (hourglasslaw17_RouteSplits_k20 c))⟩

end Go.AM
/-! Lists of writes that lie in cells of the heap. -/
namespace Go.AM
open Go
set_option linter.unusedVariables false

def slO (ws : List Wr) : AV := if ws = [] then .s .nilS else .list .own 18 (ws.map wA)
theorem slO_nil : slO [] = .s .nilS := rfl
theorem slO_own {ws : List Wr} (h : ws ≠ []) : slO ws = .list .own 18 (ws.map wA) := if_neg h
theorem slO_under {n : Nat} {ws : List Wr} : AV.under n (slO ws) = true := by unfold slO; split <;> rfl

theorem load1_take {S : List (List AV)} {H : List HObj} {cs : List AV} {n : Nat} {v : AV} (h : cs[n]? = some v) : load1L true (.ptr (.heap H.length) n) ⟨S, H ++ [.cells cs]⟩ = some (v, ⟨S, H ++ [.cells (cs.set n v.sh)]⟩) := by
  have e : boxOf ⟨S, H ++ [.cells cs]⟩ (.heap H.length) = some cs := by simp [boxOf]
  simp only [load1L, e, Option.bind_some, h, setBox, splice]
  simp
theorem storeO_heap {S : List (List AV)} {H : List HObj} {cs : List AV} {n sz : Nat} {es : List AV} (h : n < cs.length) : storeL 1 (.ptr (.heap H.length) n) (.list .own sz es) ⟨S, H ++ [.cells cs]⟩ = some ⟨S, H ++ [.cells (cs.set n (.list .own sz es))]⟩ := by
  have e : boxOf ⟨S, H ++ [.cells cs]⟩ (.heap H.length) = some cs := by simp [boxOf]
  have h1 : n + 1 ≤ cs.length := h
  simp only [storeL, AV.cells, AV.fit, writeCells, e, Option.bind_some, mayHold, AV.under.go, AV.under, List.length_cons, List.length_nil, Nat.zero_add, h1, setBox, splice]
  simp
theorem app_nilW {e : ET} {w : Wr} {σ : St} (h1 : e.c = 18) (h2 : e.bytes = 40) : appendL e false (.s .nilS) (.list .full 18 [.agg (wc w)]) σ = some (.list .uniq 18 [.agg (wc w)], σ) := by
  show appendL e false (.s .nilS) (.list .full 18 [wA w]) σ = some (.list .uniq 18 [wA w], σ)
  have he : elemsL e (.list .full 18 [wA w]) σ = some [wA w] := by simp [elemsL, h1]
  have hu : AV.under.go 0 [wA w] = true := by simp [AV.under.go, wA_under]
  simp [appendL, srcL, AV.isSlice, he, hu, appItems, h1, h2]
theorem app_ownW {e : ET} {w : Wr} {ws : List Wr} {σ : St} (h1 : e.c = 18) (h2 : e.bytes = 40) (hl : ws.length ≤ 1000000) : appendL e false (.list .own 18 (ws.map wA)) (.list .full 18 [.agg (wc w)]) σ = some (.list .own 18 ((ws ++ [w]).map wA), σ) := by
  show appendL e false (.list .own 18 (ws.map wA)) (.list .full 18 [wA w]) σ = some (.list .own 18 ((ws ++ [w]).map wA), σ)
  have he : elemsL e (.list .full 18 [wA w]) σ = some [wA w] := by simp [elemsL, h1]
  have hu : AV.under.go 0 [wA w] = true := by simp [AV.under.go, wA_under]
  have : 2 * (ws.length + 1) * 40 ≤ 2 ^ 48 := by omega
  simp [appendL, srcL, AV.isSlice, he, hu, appItems, h1, h2]
  omega
end Go.AM
namespace Go.AM
open Go
set_option maxRecDepth 20000
set_option linter.unusedSimpArgs false
set_option linter.unusedVariables false

/-- A node's writes. -/
def partW (pts : List Key) (l : List Wr) (j : Nat) : List Wr := l.filter fun w => decide (ofK pts w.key = (j : Int))
def splitC (pts : List Key) (l : List Wr) : List AV := (List.range (pts.length + 1)).map fun j => slO (partW pts l j)
theorem cnt_le' (k : Key) : ∀ (l : List Key), cntK k l ≤ l.length
  | [] => Nat.le_refl _
  | p :: l => by have := cnt_le' k l; simp only [cntK, List.length_cons]; split <;> omega
theorem splitC_len {pts : List Key} {l : List Wr} : (splitC pts l).length = pts.length + 1 := by simp [splitC]
theorem splitC_nil {pts : List Key} : splitC pts [] = List.replicate (pts.length + 1) (.s .nilS) := by
  apply List.ext_getElem
  · simp [splitC]
  · intro i h1 h2
    simp [splitC, partW, slO]
theorem splitC_get {pts : List Key} {l : List Wr} {j : Nat} (h : j < pts.length + 1) : (splitC pts l)[j]? = some (slO (partW pts l j)) := by simp [splitC, h]
theorem part_snoc {pts : List Key} {l : List Wr} {w : Wr} {j : Nat} : partW pts (l ++ [w]) j = partW pts l j ++ (if ofK pts w.key = (j : Int) then [w] else []) := by
  unfold partW
  rw [List.filter_append, List.filter_cons, List.filter_nil]
  congr 1
  by_cases h : ofK pts w.key = (j : Int) <;> simp [h]
theorem splitC_snoc {pts : List Key} {l : List Wr} {w : Wr} {n : Nat} (h : ofK pts w.key = (n : Int)) (hn : n < pts.length + 1) : (splitC pts l).set n (slO (partW pts l n ++ [w])) = splitC pts (l ++ [w]) := by
  apply List.ext_getElem
  · simp [splitC]
  · intro i h1 h2
    simp only [splitC, List.length_set, List.length_map, List.length_range] at h1
    rw [List.getElem_set]
    simp only [splitC, List.getElem_map, List.getElem_range, part_snoc]
    split
    · rename_i e; subst e; rw [if_pos h]
    · rename_i e
      rw [if_neg (by rw [h]; omega), List.append_nil]
theorem splitC_skip {pts : List Key} {l : List Wr} {w : Wr} (h : ofK pts w.key < 0) : splitC pts (l ++ [w]) = splitC pts l := by
  apply List.ext_getElem
  · simp [splitC]
  · intro i h1 h2
    simp only [splitC, List.getElem_map, List.getElem_range, part_snoc]
    rw [if_neg (by omega), List.append_nil]
end Go.AM
/-! More of what operations yield. -/
namespace Go.AM
open Go
set_option linter.unusedVariables false
theorem lenL_row {σ : St} {r : Ref} {off len cap : Nat} : lenL .sl (.row r off len cap) σ = some len := rfl
theorem lenL_nilS {σ : St} : lenL .sl (.s .nilS) σ = some 0 := rfl
theorem ixr_n {r : Ref} {off len cap i c : Nat} {k : IntKind} (h : i < len) (hc : c ≠ 0) : indexAddrL (.sl c) (.row r off len cap) (.s (.int k (i : Int))) = some (.ptr r (off + i * c)) := by
  have h1 : (0 : Int) ≤ i := by omega
  have h2 : (i : Int) < len := by omega
  simp [indexAddrL, h1, h2, hc]
end Go.AM
/-! The equations of a run, bundled. -/
namespace Go.AM
open Go
set_option linter.unusedVariables false
theorem K4_ :
  (type_of% @Go.AM.lenL_row ∧ (type_of% @Go.AM.lenL_nilS ∧ type_of% @Go.AM.ixr_n)) :=
  ⟨@Go.AM.lenL_row, ⟨@Go.AM.lenL_nilS, @Go.AM.ixr_n⟩⟩
end Go.AM
namespace Go.AM
open Go
set_option maxRecDepth 20000
set_option linter.unusedSimpArgs false
set_option linter.unusedVariables false

def SplitS (C : CallW) (f : FuncId) : Prop := ∀ (pts : List Key) (l : List Wr) (h : Nat) S H (K : AV → St → Prop), H[h]? = some (tabA pts) → pts.length ≤ 1000 → l.length ≤ 1000 → K (.row (.heap H.length) 0 (pts.length + 1) (pts.length + 1)) ⟨S, H ++ [.cells (splitC pts l)]⟩ → C (.fn f) [.ptr (.heap h) 0, lstW l] ⟨S, H⟩ K

theorem nilS_flat : ∀ (n : Nat), (List.replicate n [AV.s .nilS]).flatten = List.replicate n (.s .nilS)
  | 0 => rfl
  | n + 1 => by rw [List.replicate_succ, List.flatten_cons, nilS_flat n]; rfl
theorem nilS_low : ∀ (n : Nat), AV.under.go 0 (List.replicate n (.s .nilS)) = true
  | 0 => rfl
  | n + 1 => by rw [List.replicate_succ, AV.under.go, nilS_low n]; rfl
theorem wk_len (w : Wr) : (wc w).length = 18 := wc_length w

set_option maxHeartbeats 4000000 in
theorem Split_spec {C : CallW} (hC : LeC C C) (P : Program) {c : Nat → FuncId} (hn : TNodesS C (c 0)) (ho : TOfS C (c 1)) : ∀ (pts : List Key) (l : List Wr) (h : Nat) S H (K : AV → St → Prop), H[h]? = some (tabA pts) → pts.length ≤ 1000 → l.length ≤ 1000 →
    K (.row (.heap H.length) 0 (pts.length + 1) (pts.length + 1)) ⟨S, H ++ [.cells (splitC pts l)]⟩ → runL C P (C_route_Table_Split c) [.ptr (.heap h) 0, lstW l] ⟨S, H⟩ K := by
  intro pts l h S H K hh hp hl hK
  have hn' := hn pts
  have ho' := ho pts
  have hhl : h < H.length := (List.getElem?_eq_some_iff.1 hh).1
  simp only [lstW, C_route_Table_Split, RUN_, U_route_Table_Split, FR_, Nat.reducePow, Int.reducePow, Nat.reduceAdd, Nat.reduceSub, Nat.reduceMul, Int.reduceToNat, Nat.reduceLeDiff, Nat.reduceEqDiff, Nat.reduceLT, Nat.reduceGT, Int.reduceGT, Int.reduceGE, Int.reduceLT, Int.reduceLE, Int.reduceEq, Int.reduceAdd, Int.reduceSub, Int.reduceNeg, reduceCtorEq, if_true, if_false, ite_true, ite_false, ne_eq, eq_self, OPK_, KEY_]
  refine hn' _ _ _ _ hh (by omega) ?_
  have hmk : mkslL false true ⟨1, false, 24, .s .nilS⟩ (.s (.int .i64 ((pts.length + 1 : Nat) : Int))) (.s (.int .i64 ((pts.length + 1 : Nat) : Int))) ⟨S, H⟩ = some (.row (.heap H.length) 0 (pts.length + 1) (pts.length + 1), ⟨S, H ++ [.cells (splitC pts [])]⟩) := by
    unfold mkslL
    dsimp only
    rw [if_pos (by omega)]
    simp only [Int.toNat_natCast, AV.cells, nilS_flat, newBox_heap (nilS_low _), Option.map_some, splitC_nil]
  simp only [RUN_, U_route_Table_Split, FR_, Nat.reducePow, Int.reducePow, Nat.reduceAdd, Nat.reduceSub, Nat.reduceMul, Int.reduceToNat, Nat.reduceLeDiff, Nat.reduceEqDiff, Nat.reduceLT, Nat.reduceGT, Int.reduceGT, Int.reduceGE, Int.reduceLT, Int.reduceLE, Int.reduceEq, Int.reduceAdd, Int.reduceSub, Int.reduceNeg, reduceCtorEq, if_true, if_false, ite_true, ite_false, ne_eq, eq_self, OPK_, KEY_, hmk]
  refine loop_rule hC (α := Nat) (fun a => l.length - a) (fun a => [.ptr (.heap h) 0, .undef, .undef, .undef, .undef, .row (.heap H.length) 0 (pts.length + 1) (pts.length + 1), .undef, .undef, .undef, .undef, .undef, .undef, .list .sh 18 (l.map wA), .s (.int .i64 l.length), .s (.int .i64 a), .undef, .undef, .undef, .undef, .undef, .undef, .undef, .undef, .undef, .undef, .undef, .undef, .undef, .undef, .undef, .undef, .undef, .undef, .undef, .undef, .undef]) (fun _ => S) (fun a => H ++ [.cells (splitC pts (l.take a))]) (fun i => i ≤ l.length) 0 (by simp) rfl (by simp) rfl (fun i hi => by simp [AV.under, AV.under.go]) ?_
  intro i hi ih
  by_cases h16 : i < l.length
  · have hh2 : (H ++ [.cells (splitC pts (l.take i))])[h]? = some (tabA pts) := by rw [List.getElem?_append_left hhl]; exact hh
    have hlt : ((i : Int) < (l.length : Int)) := by omega
    have hw := wrap_succ (i := i) (by omega)
    have htk : l.take (i + 1) = l.take i ++ [l[i]] := List.take_succ_eq_append_getElem h16
    simp only [RUN_, U_route_Table_Split, FR_, Nat.reducePow, Int.reducePow, Nat.reduceAdd, Nat.reduceSub, Nat.reduceMul, Int.reduceToNat, Nat.reduceLeDiff, Nat.reduceEqDiff, Nat.reduceLT, Nat.reduceGT, Int.reduceGT, Int.reduceGE, Int.reduceLT, Int.reduceLE, Int.reduceEq, Int.reduceAdd, Int.reduceSub, Int.reduceNeg, reduceCtorEq, if_true, if_false, ite_true, ite_false, ne_eq, eq_self, OPK_, KEY_, WR_, hlt, h16]
    refine ho' _ _ _ _ _ hh2 (by omega) ?_
    by_cases hneg : ofK pts (l[i]).key < 0
    · have hge : ¬ ((0 : Int) ≤ ofK pts (l[i]).key) := by omega
      simp only [RUN_, U_route_Table_Split, FR_, Nat.reducePow, Int.reducePow, Nat.reduceAdd, Nat.reduceSub, Nat.reduceMul, Int.reduceToNat, Nat.reduceLeDiff, Nat.reduceEqDiff, Nat.reduceLT, Nat.reduceGT, Int.reduceGT, Int.reduceGE, Int.reduceLT, Int.reduceLE, Int.reduceEq, Int.reduceAdd, Int.reduceSub, Int.reduceNeg, reduceCtorEq, if_true, if_false, ite_true, ite_false, ne_eq, eq_self, OPK_, KEY_, WR_, hge, hw]
      refine ih (i + 1) _ _ _ (by omega) (by omega) rfl (by simp) ?_
      rw [htk, splitC_skip hneg]
    · obtain ⟨n, hn⟩ : ∃ n : Nat, ofK pts (l[i]).key = (n : Int) := ⟨(ofK pts (l[i]).key).toNat, by omega⟩
      have hnl : n < pts.length + 1 := by
        unfold ofK at hn hneg
        split at hn
        · have := cnt_le' (l[i]).key pts; omega
        · omega
      have hge : ((0 : Int) ≤ (n : Int)) := by omega
      have hsl : n < (splitC pts (l.take i)).length := by rw [splitC_len]; exact hnl
      have hg := splitC_get (pts := pts) (l := l.take i) hnl
      have hfin := splitC_snoc (l := l.take i) hn hnl
      rw [slO_own (by simp), ← htk] at hfin
      by_cases hp : partW pts (l.take i) n = []
      · have hst := storeO_heap (S := S ++ [wc l[i]]) (H := H) (cs := (splitC pts (l.take i)).set n (.s .nilS)) (n := n) (sz := 18) (es := [.agg (wc l[i])]) (by simpa using hsl)
        rw [hp, slO_nil] at hg
        rw [hp, List.nil_append] at hfin
        simp only [RUN_, U_route_Table_Split, FR_, Nat.reducePow, Int.reducePow, Nat.reduceAdd, Nat.reduceSub, Nat.reduceMul, Int.reduceToNat, Nat.reduceLeDiff, Nat.reduceEqDiff, Nat.reduceLT, Nat.reduceGT, Int.reduceGT, Int.reduceGE, Int.reduceLT, Int.reduceLE, Int.reduceEq, Int.reduceAdd, Int.reduceSub, Int.reduceNeg, reduceCtorEq, if_true, if_false, ite_true, ite_false, ne_eq, eq_self, OPK_, KEY_, WR_, CHK_, Nat.reduceBEq, hn, hge, hnl, ixr_n, hg, hw, app_nilW, hst, Nat.mul_one, List.set_set]
        exact ih (i + 1) _ _ _ (by omega) (by omega) rfl (by simp) (by rw [← hfin]; rfl)
      · have hst := storeO_heap (S := S ++ [wc l[i]]) (H := H) (cs := (splitC pts (l.take i)).set n (.list .sh 18 ((partW pts (l.take i) n).map wA))) (n := n) (sz := 18) (es := (partW pts (l.take i) n ++ [l[i]]).map wA) (by simpa using hsl)
        have hpl : (partW pts (l.take i) n).length ≤ 1000000 := by
          have h1 := List.length_filter_le (fun w : Wr => decide (ofK pts w.key = (n : Int))) (l.take i)
          rw [List.length_take] at h1
          unfold partW; omega
        rw [slO_own hp] at hg
        simp only [RUN_, U_route_Table_Split, FR_, Nat.reducePow, Int.reducePow, Nat.reduceAdd, Nat.reduceSub, Nat.reduceMul, Int.reduceToNat, Nat.reduceLeDiff, Nat.reduceEqDiff, Nat.reduceLT, Nat.reduceGT, Int.reduceGT, Int.reduceGE, Int.reduceLT, Int.reduceLE, Int.reduceEq, Int.reduceAdd, Int.reduceSub, Int.reduceNeg, reduceCtorEq, if_true, if_false, ite_true, ite_false, ne_eq, eq_self, OPK_, KEY_, WR_, CHK_, Nat.reduceBEq, hn, hge, hnl, ixr_n, hg, hw, hpl, app_ownW, hst, Nat.mul_one, List.set_set]
        exact ih (i + 1) _ _ _ (by omega) (by omega) rfl (by simp) (by rw [← hfin])
  · have hlt : ¬ ((i : Int) < (l.length : Int)) := by omega
    have : i = l.length := by omega
    subst this
    simp only [RUN_, U_route_Table_Split, FR_, Nat.reducePow, Int.reducePow, Nat.reduceAdd, Nat.reduceSub, Nat.reduceMul, Int.reduceToNat, Nat.reduceLeDiff, Nat.reduceEqDiff, Nat.reduceLT, Nat.reduceGT, Int.reduceGT, Int.reduceGE, Int.reduceLT, Int.reduceLE, Int.reduceEq, Int.reduceAdd, Int.reduceSub, Int.reduceNeg, reduceCtorEq, if_true, if_false, ite_true, ite_false, ne_eq, eq_self, OPK_, KEY_, hlt]
    exact hK
end Go.AM
