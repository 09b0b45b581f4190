import Derived.Test.YtokgblddddfhnaaM10
import Derived.Test.YtokgblddddfhnaaM7
import Derived.OpenShut
import Derived.Carry
import Derived.ChangeOld
set_option linter.unusedSimpArgs false
set_option linter.unusedVariables false
namespace Go.AM
open Go
set_option maxRecDepth 20000
def textOf (k : Key) : List UInt8 := k.b.takeWhile (· != 0)
theorem take_stop {l : List UInt8} {i : Nat} (h : i ≤ l.length) (hall : ∀ j, (hj : j < i) → l[j]'(by omega) ≠ 0) (hs : ∀ hi : i < l.length, l[i] = 0) : l.take i = l.takeWhile (· != 0) := by
  induction l generalizing i with
  | nil => simp
  | cons x l ih =>
    cases i with
    | zero =>
      have := hs (by simp)
      simp at this
      subst this; simp
    | succ i =>
      have h0 := hall 0 (by omega)
      simp at h0
      rw [List.take_succ_cons, List.takeWhile_cons]
      have hx : (x != 0) = true := by simpa using h0
      rw [hx]
      simp only [if_true]
      rw [ih (by simpa using h) (fun j hj => by have := hall (j + 1) (by omega); simpa using this) fun hi => by have := hs (by simpa using hi); simpa using this]
set_option maxHeartbeats 1000000 in
theorem key_text_spec {C : CallW} (hC : LeC C C) (P : Program) (k : Key) (S : List (List AV)) (H : List HObj) (K : AV → St → Prop) (hK : K (.str (textOf k)) ⟨S, H⟩) : runL C P C_key_text [.agg k.c] ⟨S, H⟩ K := by
  simp only [C_key_text, RUN_, u_C_key_text_k1.1, u_C_key_text_k2.1, u_C_key_text_k3.1, u_C_key_text_k4.1, FR_, simprocAttr, if_true, if_false, ite_true, ite_false, ne_eq, eq_self, binL, scBin, blBin, intBin, intShift, unL, load1L, storeL, readA, readCells, writeCells, splice, mayHold, boxOf_stk, boxOf_heap, setBox_stk, setBox_heap, newBox_stk, newBox_heap, app_get0, app_get, app_set0, app_set, app_take, app_one, List.length_append, shift, partL, lenL, capL, Nat.add_assoc, AV.under, AV.under.go, finL, under_bs]
  refine loop_rule hC (α := Nat) (fun i => 16 - i) (fun i => [.undef, .ptr (.stk S.length) 0, .undef, .s (.int .i64 i), .undef, .undef, .undef, .undef, .undef, .undef, .undef, .undef, .undef, .undef, .undef, .undef, .undef]) (fun _ => S ++ [k.c]) (fun _ => H) (fun i => i ≤ 16 ∧ ∀ j, (hj : j < i) → (hj' : j < k.b.length) → k.b[j] ≠ 0) 0 ⟨by omega, fun j hj => by omega⟩ rfl (app_take_add _ _ _) rfl (fun i hi => by simp [AV.under, AV.under.go]) ?_
  rintro i ⟨hi, hall⟩ ih
  have hkl := k.h
  by_cases h16 : i < 16
  · have hb := bs_get (l := k.b) (i := i) (by omega)
    have hw : IntKind.i64.wrap ((i : Int) + 1) = ((i + 1 : Nat) : Int) := by rw [wrap_i64 (by omega) (by omega)]; rfl
    have h1 : ((i : Int) < 16) := by omega
    have h2 : (0 : Int) ≤ (i : Int) := by omega
    by_cases hz : k.b[i]'(by omega) = 0
    · have hc := conv_row (σ := ⟨S ++ [k.c], H⟩) (r := .stk S.length) (off := 0) (len := i) (cap := 16) (l := k.b) (by rw [boxOf_stk, app_get0]; rfl) (by omega)
      rw [List.drop_zero, take_stop (by omega) (fun j hj => hall j hj (by omega)) (fun _ => hz)] at hc
      simp only [RUN_, u_C_key_text_k1.1, u_C_key_text_k2.1, u_C_key_text_k3.1, u_C_key_text_k4.1, FR_, simprocAttr, if_true, if_false, ite_true, ite_false, ne_eq, eq_self, binL, scBin, blBin, intBin, intShift, unL, load1L, storeL, readA, readCells, writeCells, splice, mayHold, boxOf_stk, boxOf_heap, setBox_stk, setBox_heap, newBox_stk, newBox_heap, app_get0, app_get, app_set0, app_set, app_take, app_one, List.length_append, shift, partL, lenL, capL, Nat.add_assoc, AV.under, AV.under.go, finL, indexAddrL, h1, h2, hb, Int.toNat_natCast, Nat.mul_one, u8, hz, sliceL, bound, Option.map_some, Nat.zero_le, hi, UInt8.toNat_zero, hc, Nat.sub_zero]
      exact hK
    · have hz' : ¬ (((k.b[i]'(by omega)).toNat : Int) = 0) := fun e => hz (by
        have : (k.b[i]'(by omega)).toNat = 0 := by omega
        exact UInt8.toNat_inj.1 this)
      simp only [RUN_, u_C_key_text_k1.1, u_C_key_text_k2.1, u_C_key_text_k3.1, u_C_key_text_k4.1, FR_, simprocAttr, if_true, if_false, ite_true, ite_false, ne_eq, eq_self, binL, scBin, blBin, intBin, intShift, unL, load1L, storeL, readA, readCells, writeCells, splice, mayHold, boxOf_stk, boxOf_heap, setBox_stk, setBox_heap, newBox_stk, newBox_heap, app_get0, app_get, app_set0, app_set, app_take, app_one, List.length_append, shift, partL, lenL, capL, Nat.add_assoc, AV.under, AV.under.go, finL, indexAddrL, h1, h2, hb, Int.toNat_natCast, Nat.mul_one, u8, hz', hw]
      exact ih (i + 1) _ _ _ (by omega) ⟨by omega, fun j hj hj' => by
        rcases Nat.lt_or_ge j i with h | h
        · exact hall j h hj'
        · have : j = i := by omega
          subst this; exact hz⟩ rfl (app_take_add _ _ _) rfl
  · have h1 : ¬ ((i : Int) < 16) := by omega
    have h16' : i = 16 := by omega
    have h2 : (0 : Int) ≤ (i : Int) := by omega
    have hc := conv_row (σ := ⟨S ++ [k.c], H⟩) (r := .stk S.length) (off := 0) (len := i) (cap := 16) (l := k.b) (by rw [boxOf_stk, app_get0]; rfl) (by omega)
    rw [List.drop_zero, take_stop (by omega) (fun j hj => hall j hj (by omega)) (fun h => by omega)] at hc
    simp only [RUN_, u_C_key_text_k1.1, u_C_key_text_k2.1, u_C_key_text_k3.1, u_C_key_text_k4.1, FR_, simprocAttr, if_true, if_false, ite_true, ite_false, ne_eq, eq_self, binL, scBin, blBin, intBin, intShift, unL, load1L, storeL, readA, readCells, writeCells, splice, mayHold, boxOf_stk, boxOf_heap, setBox_stk, setBox_heap, newBox_stk, newBox_heap, app_get0, app_get, app_set0, app_set, app_take, app_one, List.length_append, shift, partL, lenL, capL, Nat.add_assoc, AV.under, AV.under.go, finL, h1, h2, sliceL, bound, Option.map_some, Nat.zero_le, hi, hc, Nat.sub_zero, Int.toNat_natCast]
    exact hK
end Go.AM
namespace Go.AM
open Go
set_option maxRecDepth 20000
def CmpB (C : CallW) (f : FuncId) : Prop := ∀ (a b : List UInt8) (S : List (List AV)) (H : List HObj) (r1 r2 : Nat) (K : AV → St → Prop), S[r1]? = some (bs a) → S[r2]? = some (bs b) → a.length = 16 → b.length = 16 →
  K (.i (Lib.compareBytes a b)) ⟨S, H⟩ → C (.fn f) [.row (.stk r1) 0 16 16, .row (.stk r2) 0 16 16] ⟨S, H⟩ K
def KCmp (C : CallW) (f : FuncId) : Prop := ∀ (a b : Key) S H K, K (.i (Lib.compareBytes a.b b.b)) ⟨S, H⟩ → C (.fn f) [.agg (bs a.b), .agg (bs b.b)] ⟨S, H⟩ K
set_option maxHeartbeats 1000000 in
theorem bytes_Compare_spec {C : CallW} (hC : LeC C C) (P : Program) {f : FuncId} (hf : CmpB C f) : ∀ (a b : List UInt8) (S : List (List AV)) (H : List HObj) (r1 r2 : Nat) (K : AV → St → Prop), S[r1]? = some (bs a) → S[r2]? = some (bs b) → a.length = 16 → b.length = 16 →
  K (.i (Lib.compareBytes a b)) ⟨S, H⟩ → runL C P (C_bytes_Compare f) [.row (.stk r1) 0 16 16, .row (.stk r2) 0 16 16] ⟨S, H⟩ K := by
  intro a b S H r1 r2 K h1 h2 ha hb hK
  simp only [C_bytes_Compare, RUN_, (u_C_bytes_Compare_k1 _).1, FR_, simprocAttr, if_true, if_false, ite_true, ite_false, ne_eq, eq_self, OPK_, KEY_]
  refine hf a b S H r1 r2 _ h1 h2 ha hb ?_
  simp only [RUN_, (u_C_bytes_Compare_k1 _).1, FR_, simprocAttr, if_true, if_false, ite_true, ite_false, ne_eq, eq_self, OPK_, KEY_, List.take_length]
  exact hK
set_option maxHeartbeats 1000000 in
theorem key_Cmp_spec {C : CallW} (hC : LeC C C) (P : Program) {f : FuncId} (hf : CmpB C f) : ∀ (a b : Key) S H K, K (.i (Lib.compareBytes a.b b.b)) ⟨S, H⟩ → runL C P (C_key_Cmp f) [.agg (bs a.b), .agg (bs b.b)] ⟨S, H⟩ K := by
  intro a b S H K hK
  simp only [C_key_Cmp, RUN_, (u_C_key_Cmp_k1 _).1, FR_, simprocAttr, if_true, if_false, ite_true, ite_false, ne_eq, eq_self, OPK_, KEY_]
  refine hf a.b b.b _ _ _ _ _ ?_ ?_ a.h b.h ?_
  · simp
  · simp
  simp only [RUN_, (u_C_key_Cmp_k1 _).1, FR_, simprocAttr, if_true, if_false, ite_true, ite_false, ne_eq, eq_self, OPK_, KEY_]
  exact hK
def IdxS (C : CallW) (f : FuncId) : Prop := ∀ (l : List UInt8) (S : List (List AV)) (H : List HObj) (K : AV → St → Prop), K (.i (Lib.indexByte l 0)) ⟨S, H⟩ → C (.fn f) [.s (.str l), .s (.int .u8 0)] ⟨S, H⟩ K
theorem strings_IndexByte_spec {C : CallW} (hC : LeC C C) (P : Program) {f : FuncId} (hf : IdxS C f) : ∀ (l : List UInt8) (S : List (List AV)) (H : List HObj) (K : AV → St → Prop), K (.i (Lib.indexByte l 0)) ⟨S, H⟩ → runL C P (C_strings_IndexByte f) [.s (.str l), .s (.int .u8 0)] ⟨S, H⟩ K := by
  intro l S H K hK
  simp only [C_strings_IndexByte, RUN_, (u_C_strings_IndexByte_k1 _).1, FR_, simprocAttr, if_true, if_false, ite_true, ite_false, ne_eq, eq_self, OPK_, KEY_]
  refine hf _ _ _ _ ?_
  simp only [RUN_, (u_C_strings_IndexByte_k1 _).1, FR_, simprocAttr, if_true, if_false, ite_true, ite_false, ne_eq, eq_self, OPK_, KEY_, List.take_length]
  exact hK
theorem stringslite_IndexByte_spec {C : CallW} (hC : LeC C C) (P : Program) {f : FuncId} (hf : IdxS C f) : ∀ (l : List UInt8) (S : List (List AV)) (H : List HObj) (K : AV → St → Prop), K (.i (Lib.indexByte l 0)) ⟨S, H⟩ → runL C P (C_internal_stringslite_IndexByte f) [.s (.str l), .s (.int .u8 0)] ⟨S, H⟩ K := by
  intro l S H K hK
  simp only [C_internal_stringslite_IndexByte, RUN_, (u_C_internal_stringslite_IndexByte_k1 _).1, FR_, simprocAttr, if_true, if_false, ite_true, ite_false, ne_eq, eq_self, OPK_, KEY_]
  refine hf _ _ _ _ ?_
  simp only [RUN_, (u_C_internal_stringslite_IndexByte_k1 _).1, FR_, simprocAttr, if_true, if_false, ite_true, ite_false, ne_eq, eq_self, OPK_, KEY_, List.take_length]
  exact hK
def padB (s : List UInt8) : List UInt8 := s.take 16 ++ List.replicate (16 - s.length) 0
def padK (s : List UInt8) : Key := ⟨padB s, by simp [padB]; omega⟩
def badT (s : List UInt8) : Prop := s = [] ∨ 16 < s.length ∨ (0 : UInt8) ∈ s
instance (s : List UInt8) : Decidable (badT s) := inferInstanceAs (Decidable (_ ∨ _))
def keyOf (s : List UInt8) : Key × Int := if badT s then (key0, 1) else (padK s, 0)
theorem idx_neg {l : List UInt8} : Lib.indexByte l 0 ≥ 0 ↔ (0 : UInt8) ∈ l := by
  induction l with
  | nil => simp [Lib.indexByte]
  | cons x l ih =>
    simp only [Lib.indexByte, beq_iff_eq, List.mem_cons]
    by_cases h : x = 0
    · simp [h]
    · rw [if_neg h]
      have hge := Lib.indexByte_ge l 0
      by_cases h1 : Lib.indexByte l 0 = -1
      · rw [if_pos h1]
        have : ¬ ((0 : UInt8) ∈ l) := fun hm => by have := ih.2 hm; omega
        simp [this]; exact fun e => h e.symm
      · rw [if_neg h1]
        have : (0 : UInt8) ∈ l := ih.1 (by omega)
        simp [this]; omega
theorem splice_zero {cs vs : List AV} (h : vs.length ≤ cs.length) : splice cs 0 vs = vs ++ cs.drop vs.length := by
  unfold splice
  split
  · cases cs with
    | nil => simp at h
    | cons c cs => simp
  · simp
theorem flat_bs (l : List UInt8) : (bs l).flatMap AV.cells = bs l := by
  induction l with
  | nil => rfl
  | cons x l ih => show [u8 x] ++ (bs l).flatMap AV.cells = _; rw [ih]; rfl
theorem copy_str {e : ET} {S l : List (List AV)} {H : List HObj} {j : Nat} {s : List UInt8} {k : Key} (he : e.c = 1) (hj : j < l.length) (hk : l.getD j [] = bs k.b) (hs : s.length ≤ 16) :
    copyL e true (.row (.stk (S.length + j)) 0 16 16) (.s (.str s)) ⟨S ++ l, H⟩ = some (.i s.length, ⟨S ++ l.set j (bs (s ++ k.b.drop s.length)), H⟩) := by
  have e1 : l[j]? = some (bs k.b) := by rw [← hk]; simp [List.getD, hj]
  have hi : elemsL e (.s (.str s)) ⟨S ++ l, H⟩ = some (bs s) := by simp [elemsL, he, bs, u8]
  unfold copyL
  simp only [srcL, AV.isStr, if_true, hi]
  rw [List.take_of_length_le (by rw [bs_length]; exact hs), flat_bs, bs_length]
  simp only [writeCells, boxOf_stk, app_get, e1, Option.bind_some, mayHold, under_bs, bs_length, k.h, Nat.zero_add, hs, decide_true, Bool.and_self, if_true, Option.map_some, setBox_stk, app_set]
  rw [splice_zero (by rw [bs_length, bs_length, k.h]; exact hs), bs_length, bs_drop]
  simp only [bs, List.map_append]
theorem pad_drop {s : List UInt8} (hs : s.length ≤ 16) : s ++ key0.b.drop s.length = padB s := by
  unfold padB key0
  rw [List.take_of_length_le hs, List.drop_replicate]
def OfK (C : CallW) (f : FuncId) : Prop := ∀ (s : List UInt8) (S : List (List AV)) (H : List HObj) (K : AV → St → Prop), K (.tup [.agg (bs (keyOf s).1.b), .i (keyOf s).2]) ⟨S, H⟩ → C (.fn f) [.s (.str s)] ⟨S, H⟩ K
set_option maxHeartbeats 1000000 in
theorem key_Of_spec {C : CallW} (hC : LeC C C) (P : Program) {f : FuncId} (hf : IdxS C f) : ∀ (s : List UInt8) (S : List (List AV)) (H : List HObj) (K : AV → St → Prop), K (.tup [.agg (bs (keyOf s).1.b), .i (keyOf s).2]) ⟨S, H⟩ → runL C P (C_key_Of f) [.s (.str s)] ⟨S, H⟩ K := by
  intro s S H K hK
  have key0l : (bs key0.b).length = 16 := rfl
  by_cases h0 : s = []
  · have e : keyOf s = (key0, 1) := if_pos (.inl h0)
    rw [e] at hK
    simp only [C_key_Of, RUN_, (u_C_key_Of_k1 _).1, (u_C_key_Of_k2 _).1, (u_C_key_Of_k3 _).1, (u_C_key_Of_k4 _).1, FR_, simprocAttr, if_true, if_false, ite_true, ite_false, ne_eq, eq_self, OPK_, KEY_, h0]
    exact hK
  · have h0' : ¬ (s.length = 0) := fun e => h0 (List.length_eq_zero_iff.1 e)
    by_cases h1 : 16 < s.length
    · have e : keyOf s = (key0, 1) := if_pos (.inr (.inl h1))
      rw [e] at hK
      have h1' : (16 : Int) < (s.length : Int) := by omega
      simp only [C_key_Of, RUN_, (u_C_key_Of_k1 _).1, (u_C_key_Of_k2 _).1, (u_C_key_Of_k3 _).1, (u_C_key_Of_k4 _).1, FR_, simprocAttr, if_true, if_false, ite_true, ite_false, ne_eq, eq_self, OPK_, KEY_, h0, h1']
      exact hK
    · have h1' : ¬ ((16 : Int) < (s.length : Int)) := by omega
      simp only [C_key_Of, RUN_, (u_C_key_Of_k1 _).1, (u_C_key_Of_k2 _).1, (u_C_key_Of_k3 _).1, (u_C_key_Of_k4 _).1, FR_, simprocAttr, if_true, if_false, ite_true, ite_false, ne_eq, eq_self, OPK_, KEY_, h0, h1']
      refine hf _ _ _ _ ?_
      by_cases h2 : (0 : UInt8) ∈ s
      · have e : keyOf s = (key0, 1) := if_pos (.inr (.inr h2))
        rw [e] at hK
        have h2' : (0 : Int) ≤ Lib.indexByte s 0 := idx_neg.2 h2
        simp only [RUN_, (u_C_key_Of_k1 _).1, (u_C_key_Of_k2 _).1, (u_C_key_Of_k3 _).1, (u_C_key_Of_k4 _).1, FR_, simprocAttr, if_true, if_false, ite_true, ite_false, ne_eq, eq_self, OPK_, KEY_, h2']
        exact hK
      · have e : keyOf s = (padK s, 0) := if_neg (by rintro (h | h | h) <;> contradiction)
        rw [e] at hK
        have h2' : ¬ ((0 : Int) ≤ Lib.indexByte s 0) := fun h => h2 (idx_neg.1 h)
        have hcp := copy_str (e := ⟨1, false, 1, .s (.int .u8 0)⟩) (S := S) (l := [bs key0.b, bs key0.b]) (H := H) (j := 1) (s := s) (k := key0) rfl (by simp) rfl (by omega)
        rw [pad_drop (by omega)] at hcp
        have hk2 : (bs (padB s)).length = 16 := by rw [bs_length]; exact (padK s).h
        simp only [RUN_, (u_C_key_Of_k1 _).1, (u_C_key_Of_k2 _).1, (u_C_key_Of_k3 _).1, (u_C_key_Of_k4 _).1, FR_, simprocAttr, if_true, if_false, ite_true, ite_false, ne_eq, eq_self, OPK_, KEY_, h2', hcp, hk2]
        exact hK
end Go.AM
namespace Go.AM
open Go
theorem stkj_app {S l : List (List AV)} {j : Nat} {x : List AV} (h : S[j]? = some x) : (S ++ l)[j]? = some x := by
  have hj : j < S.length := (List.getElem?_eq_some_iff.1 h).1
  rw [List.getElem?_append_left hj, h]
theorem stkj_lt {S : List (List AV)} {j : Nat} {x : List AV} (h : S[j]? = some x) : j < S.length := (List.getElem?_eq_some_iff.1 h).1
theorem stkj_set {S : List (List AV)} {j : Nat} {x y : List AV} (h : S[j]? = some x) : (S.set j y)[j]? = some y := by
  rw [List.getElem?_set_self (stkj_lt h)]
theorem setj_app {S l : List (List AV)} {j : Nat} {y : List AV} (h : j < S.length) : (S ++ l).set j y = S.set j y ++ l := List.set_append_left _ _ h
theorem storeJ {S : List (List AV)} {H : List HObj} {j off : Nat} {cs : List AV} {v : AV} (hj : S[j]? = some cs) (h : off < cs.length) (hc : v.cells = [v]) (hf : v.fit = true) (hu : AV.under j v = true) : storeL 1 (.ptr (.stk j) off) v ⟨S, H⟩ = some ⟨S.set j (cs.set off v), H⟩ := by
  have h1 : off + 1 ≤ cs.length := h
  simp only [storeL, hc, hf, List.length_cons, List.length_nil, writeCells, boxOf_stk, hj, Option.bind_some, splice, setBox_stk, mayHold, AV.under.go, hu, Nat.zero_add, h1, decide_true, Bool.and_self, if_true, true_and, and_self]
  rw [if_pos (by simp)]
theorem storeJs {S : List (List AV)} {H : List HObj} {j off : Nat} {cs : List AV} {x : Sc} (hj : S[j]? = some cs) (h : off < cs.length) : storeL 1 (.ptr (.stk j) off) (.s x) ⟨S, H⟩ = some ⟨S.set j (cs.set off (.s x)), H⟩ := storeJ hj h rfl rfl rfl
theorem storeJl {S : List (List AV)} {H : List HObj} {j off : Nat} {cs : List AV} {fl : Fl} {c : Nat} {es : List AV} (hj : S[j]? = some cs) (h : off < cs.length) : storeL 1 (.ptr (.stk j) off) (.list fl c es) ⟨S, H⟩ = some ⟨S.set j (cs.set off (.list fl c es)), H⟩ := storeJ hj h rfl rfl rfl
theorem slc_nil {c : Nat} {k : IntKind} (hc : c ≠ 0) : sliceL (.sl c) (.s .nilS) (some (.s (.int k 0))) none none = some (.s .nilS) := by simp [sliceL, bound, hc]
theorem slc_nilh {c : Nat} {k : IntKind} (hc : c ≠ 0) : sliceL (.sl c) (.s .nilS) none (some (.s (.int k 0))) none = some (.s .nilS) := by simp [sliceL, bound, hc]
theorem conv_bs {σ : St} {fl : Fl} {l : List UInt8} : convL .ofBytes (.list fl 1 (bs l)) σ = some (.s (.str l)) := by
  simp only [convL, AV.isSlice, if_true, elemsL, Option.bind_some, bytesIn_bs, Option.map_some]
theorem conv_nil {σ : St} : convL .ofBytes (.s .nilS) σ = some (.s (.str [])) := rfl
abbrev Rd := Option (List UInt8)
def rdc : Rd → List AV
  | none => [.s .nilS, .s (.bool true)]
  | some b => [.list .sh 1 (bs b), .s (.bool false)]
theorem rdc_len (r : Rd) : (rdc r).length = 2 := by cases r <;> rfl
def rok (r : Rd) : Prop := ∀ b, r = some b → b.length ≤ 9223372036854775807
theorem rok_none : rok none := fun _ h => by cases h
theorem rok_some {b : List UInt8} (h : b.length ≤ 9223372036854775807) : rok (some b) := fun _ e => by cases e; exact h
theorem rok_drop {b : List UInt8} {n : Nat} (h : rok (some b)) : rok (some (b.drop n)) := fun _ e => by cases e; have := h b rfl; simp; omega
def numR : Rd → Nat × Rd
  | none => (0, none)
  | some b => if (getN b).2 = 0 then (0, none) else ((getN b).1, some (b.drop (getN b).2))
def mostR (m : Nat) (r : Rd) : Nat × Rd := if m < (numR r).1 then (0, none) else numR r
def textR (n : Nat) : Rd → List UInt8 × Rd
  | none => ([], none)
  | some b => if b.length < n then ([], none) else (b.take n, some (b.drop n))
def keyR (r : Rd) : Key × Rd := (padK (textR 16 r).1, (textR 16 r).2)
def stampR (r : Rd) : Stp × Rd := if (unpackS (numR r).1).2 = true then ((unpackS (numR r).1).1, (numR r).2) else (⟨0, 0⟩, none)
theorem numR_some {b : List UInt8} : numR (some b) = if (getN b).2 = 0 then (0, none) else ((getN b).1, some (b.drop (getN b).2)) := rfl
theorem textR_some {n : Nat} {b : List UInt8} : textR n (some b) = if b.length < n then ([], none) else (b.take n, some (b.drop n)) := rfl
theorem numR_ok {r : Rd} (h : rok r) : rok (numR r).2 := by
  cases r with
  | none => exact rok_none
  | some b =>
    rw [numR_some]
    by_cases h1 : (getN b).2 = 0
    · rw [if_pos h1]; exact rok_none
    · rw [if_neg h1]; exact rok_drop h
theorem numR_lt (r : Rd) : (numR r).1 < 18446744073709551616 := by
  cases r with
  | none => simp [numR]
  | some b =>
    rw [numR_some]
    have := (getN_bound b).1
    by_cases h1 : (getN b).2 = 0
    · rw [if_pos h1]; simp
    · rw [if_neg h1]; exact this
theorem mostR_ok {m : Nat} {r : Rd} (h : rok r) : rok (mostR m r).2 := by unfold mostR; split; exact rok_none; exact numR_ok h
theorem mostR_le (m : Nat) (r : Rd) : (mostR m r).1 ≤ m := by unfold mostR; split; simp; omega
theorem textR_ok {n : Nat} {r : Rd} (h : rok r) : rok (textR n r).2 := by
  cases r with
  | none => exact rok_none
  | some b =>
    rw [textR_some]
    by_cases h1 : b.length < n
    · rw [if_pos h1]; exact rok_none
    · rw [if_neg h1]; exact rok_drop h
theorem keyR_ok {r : Rd} (h : rok r) : rok (keyR r).2 := textR_ok h
theorem stampR_ok {r : Rd} (h : rok r) : rok (stampR r).2 := by unfold stampR; split; exact numR_ok h; exact rok_none
theorem textR_len (n : Nat) (r : Rd) : (textR n r).1.length ≤ n := by
  cases r with
  | none => simp [textR]
  | some b =>
    rw [textR_some]
    by_cases h1 : b.length < n
    · rw [if_pos h1]; simp
    · rw [if_neg h1]; simp; omega
theorem getN_nil : getN [] = (0, 0) := rfl
theorem getG_cons {i acc : Nat} {x : UInt8} {b : List UInt8} : getG i acc (x :: b) = if i = 9 ∧ 1 < x.toNat then none else if x.toNat < 128 then (if x = 0 ∧ 0 < i then none else some (acc + x.toNat % 128 * 2 ^ (7 * i), i + 1)) else if i = 9 then none else getG (i + 1) (acc + x.toNat % 128 * 2 ^ (7 * i)) b := by rw [getG]
end Go.AM
namespace Go.AM
open Go
set_option maxRecDepth 20000
def TextS (C : CallW) (f : FuncId) : Prop := ∀ (k : Key) S H K, K (.str (textOf k)) ⟨S, H⟩ → C (.fn f) [.agg (bs k.b)] ⟨S, H⟩ K
def BoolK (g : Key → Bool) (C : CallW) (f : FuncId) : Prop := ∀ (k : Key) S H K, K (.bool (g k)) ⟨S, H⟩ → C (.fn f) [.agg (bs k.b)] ⟨S, H⟩ K
theorem text_nz (k : Key) : (0 : UInt8) ∉ textOf k := by
  intro h
  have h2 : ∀ (l : List UInt8), (0 : UInt8) ∉ l.takeWhile (· != 0) := by
    intro l
    induction l with
    | nil => simp
    | cons x l ih =>
      rw [List.takeWhile_cons]
      split
      · rename_i hx
        intro h
        rcases List.mem_cons.1 h with h | h
        · subst h; simp at hx
        · exact ih h
      · simp
  exact h2 _ h
theorem text_len (k : Key) : (textOf k).length ≤ 16 := by
  have := (List.takeWhile_sublist (fun x : UInt8 => x != 0) (l := k.b)).length_le
  rw [k.h] at this
  exact this
def goodK (k : Key) : Bool := decide (textOf k ≠ []) && decide (padK (textOf k) = k)
theorem good_of (k : Key) : goodK k = (decide ((keyOf (textOf k)).2 = 0) && decide ((keyOf (textOf k)).1 = k)) := by
  unfold goodK keyOf
  by_cases h : textOf k = []
  · rw [if_pos (.inl h)]; simp [h]
  · rw [if_neg (by
      rintro (h1 | h1 | h1)
      · exact h h1
      · have := text_len k; omega
      · exact text_nz k h1)]
    simp [h]
set_option maxHeartbeats 1000000 in
theorem key_Good_spec {C : CallW} (hC : LeC C C) (P : Program) {f1 f2 : FuncId} (h1 : TextS C f1) (h2 : OfK C f2) : ∀ (k : Key) S H K, K (.bool (goodK k)) ⟨S, H⟩ → runL C P (C_key_Good f1 f2) [.agg (bs k.b)] ⟨S, H⟩ K := by
  intro k S H K hK
  rw [good_of] at hK
  simp only [C_key_Good, RUN_, (u_C_key_Good_k1 _ _).1, (u_C_key_Good_k2 _ _).1, FR_, simprocAttr, if_true, if_false, ite_true, ite_false, ne_eq, eq_self, OPK_, KEY_]
  refine h1 _ _ _ _ ?_
  simp only [RUN_, (u_C_key_Good_k1 _ _).1, (u_C_key_Good_k2 _ _).1, FR_, simprocAttr, if_true, if_false, ite_true, ite_false, ne_eq, eq_self, OPK_, KEY_]
  refine h2 _ _ _ _ ?_
  by_cases he : (keyOf (textOf k)).2 = 0
  · simp only [RUN_, (u_C_key_Good_k1 _ _).1, (u_C_key_Good_k2 _ _).1, FR_, simprocAttr, if_true, if_false, ite_true, ite_false, ne_eq, eq_self, OPK_, KEY_, he]
    rw [he] at hK
    simpa using hK
  · simp only [RUN_, (u_C_key_Good_k1 _ _).1, (u_C_key_Good_k2 _ _).1, FR_, simprocAttr, if_true, if_false, ite_true, ite_false, ne_eq, eq_self, OPK_, KEY_, he]
    simpa [he] using hK
def goodL : Bool → List UInt8 → Bool
  | _, [] => true
  | e, x :: l => if x = 0 then goodL true l else if e then false else goodL false l
def goodR (k : Key) : Bool := goodL false k.b && decide (k.b[0]'(by rw [k.h]; omega) ≠ 0)
end Go.AM
namespace Go.AM
open Go
theorem find_no : ∀ (es : List Entry) (l : List Key) (k : Key) (i : Nat), es.map (·.key) = l.map kA → k ∉ l → findL (.leaf lk) (.agg (bs k.b)) es i = some none
  | [], l, k, i, _, _ => rfl
  | e :: es, [], k, i, h, _ => by simp at h
  | e :: es, a :: l, k, i, h, hk => by
    simp only [List.map_cons, List.cons.injEq] at h
    have hne : ¬ (k = a) := fun e => hk (by rw [e]; simp)
    have hq : keyEqL (.leaf lk) (.agg (bs k.b)) e.key = some false := by
      rw [h.1]
      simp only [keyEqL, KK.fits, kA, fits_k, and_self, if_true, AV.beq, beq_kk, hne, decide_false]
    rw [findL, hq]
    exact find_no es l k (i + 1) h.2 (fun m => hk (List.mem_cons_of_mem _ m))
theorem find_yes : ∀ (es : List Entry) (l : List Key) (k : Key) (i : Nat), es.map (·.key) = l.map kA → k ∈ l → ∃ j e, es[j]? = some e ∧ l[j]? = some k ∧ findL (.leaf lk) (.agg (bs k.b)) es i = some (some (i + j, e))
  | [], l, k, i, h, hk => by cases l with
    | nil => simp at hk
    | cons => simp at h
  | e :: es, [], k, i, h, _ => by simp at h
  | e :: es, a :: l, k, i, h, hk => by
    simp only [List.map_cons, List.cons.injEq] at h
    by_cases hne : k = a
    · subst hne
      have hq : keyEqL (.leaf lk) (.agg (bs k.b)) e.key = some true := by
        rw [h.1]
        simp only [keyEqL, KK.fits, kA, fits_k, and_self, if_true, AV.beq, beq_kk, decide_true]
      refine ⟨0, e, rfl, rfl, ?_⟩
      rw [findL, hq]; rfl
    · have hq : keyEqL (.leaf lk) (.agg (bs k.b)) e.key = some false := by
        rw [h.1]
        simp only [keyEqL, KK.fits, kA, fits_k, and_self, if_true, AV.beq, beq_kk, hne, decide_false]
      have hk' : k ∈ l := by
        rcases List.mem_cons.1 hk with h | h
        · exact absurd h hne
        · exact h
      obtain ⟨j, e', h1, h2, h3⟩ := find_yes es l k (i + 1) h.2 hk'
      refine ⟨j + 1, e', h1, h2, ?_⟩
      rw [findL, hq]
      show findL (.leaf lk) (.agg (bs k.b)) es (i + 1) = _
      rw [h3]
      congr 3; omega
def seenE (l : List Key) : List Entry := l.zipIdx.map fun p => ⟨kA p.1, .bool true, p.2⟩
theorem seenE_keys (l : List Key) : (seenE l).map (·.key) = l.map kA := by
  unfold seenE
  rw [List.map_map]
  have : ((fun x : Entry => x.key) ∘ fun p : Key × Nat => (⟨kA p.1, .bool true, p.2⟩ : Entry)) = kA ∘ Prod.fst := rfl
  rw [this, ← List.map_map, List.zipIdx_map_fst]
theorem seenE_snoc (l : List Key) (k : Key) : seenE (l ++ [k]) = seenE l ++ [⟨kA k, .bool true, l.length⟩] := by
  unfold seenE
  rw [List.zipIdx_append]; simp
theorem seenE_val {l : List Key} {j : Nat} {e : Entry} (h : (seenE l)[j]? = some e) : e.val = .bool true := by
  unfold seenE at h
  rw [List.getElem?_map] at h
  cases hz : l.zipIdx[j]? with
  | none => rw [hz] at h; simp at h
  | some p => rw [hz] at h; simp at h; rw [← h]
theorem look_seen {S : List (List AV)} {H : List HObj} {l : List Key} {k : Key} {n : Nat} : lookupL (.leaf lk) (.s (.bool false)) false (.map H.length) (.agg (bs k.b)) ⟨S, H ++ [.map (seenE l) n]⟩ = some (.s (.bool (decide (k ∈ l)))) := by
  have hm : mapOf ⟨S, H ++ [.map (seenE l) n]⟩ (.map H.length) = some (seenE l, n) := by simp [mapOf]
  simp only [lookupL, KK.fits, fits_k, if_true, hm]
  by_cases h : k ∈ l
  · obtain ⟨j, e, h1, h2, h3⟩ := find_yes _ _ k 0 (seenE_keys l) h
    rw [h3]
    simp [seenE_val h1, h]
  · rw [find_no _ _ k 0 (seenE_keys l) h]
    simp [h]
theorem upd_seen {S : List (List AV)} {H : List HObj} {l : List Key} {k : Key} {n : Nat} (h : k ∉ l) (hn : l.length = n) : updateL (.leaf lk) (.map H.length) (.agg (bs k.b)) (.s (.bool true)) ⟨S, H ++ [.map (seenE l) n]⟩ = some ⟨S, H ++ [.map (seenE (l ++ [k])) (n + 1)]⟩ := by
  subst hn
  have hm : mapOf ⟨S, H ++ [.map (seenE l) l.length]⟩ (.map H.length) = some (seenE l, l.length) := by simp [mapOf]
  simp only [updateL, KK.fits, fits_k, AV.under, and_self, if_true, hm]
  rw [find_no _ _ k 0 (seenE_keys l) h]
  simp only [setMap, app_set0, List.set_cons_zero, seenE_snoc, List.length_append, List.length_cons, List.length_nil]
  rfl
def sgood (seen : List Key) : List Wr → Bool
  | [] => true
  | w :: l => if goodK w.key = false then false else if w.key ∈ seen then false else if 200 < w.val.length then false else if w.gone = true ∧ w.val ≠ [] then false else sgood (seen ++ [w.key]) l
end Go.AM
namespace Go.AM
open Go
set_option maxRecDepth 20000
def RdS (C : CallW) (f : FuncId) (args : List AV) (run : Rd → AV × Rd) : Prop := ∀ (j : Nat) (r : Rd) S H (K : AV → St → Prop), S[j]? = some (rdc r) → rok r → K (run r).1 ⟨S.set j (rdc (run r).2), H⟩ → C (.fn f) (.ptr (.stk j) 0 :: args) ⟨S, H⟩ K
theorem rec_spoil_spec {C : CallW} (P : Program) : ∀ (j : Nat) (r : Rd) S H (K : AV → St → Prop), S[j]? = some (rdc r) → rok r → K (.tup []) ⟨S.set j (rdc none), H⟩ → runL C P C_rec_Reader_spoil [.ptr (.stk j) 0] ⟨S, H⟩ K := by
  intro j r S H K hj hr hK
  have hlt := stkj_lt hj
  have s1 : storeL 1 (.ptr (.stk j) 0) (.s .nilS) ⟨S, H⟩ = some ⟨S.set j ((rdc r).set 0 (.s .nilS)), H⟩ := storeJs hj (by rw [rdc_len]; omega)
  have s2 : storeL 1 (.ptr (.stk j) 1) (.s (.bool true)) ⟨S.set j ((rdc r).set 0 (.s .nilS)), H⟩ = some ⟨(S.set j ((rdc r).set 0 (.s .nilS))).set j (((rdc r).set 0 (.s .nilS)).set 1 (.s (.bool true))), H⟩ := storeJs (stkj_set hj) (by rw [List.length_set, rdc_len]; omega)
  have s3 : ((rdc r).set 0 (.s .nilS)).set 1 (.s (.bool true)) = rdc none := by cases r <;> rfl
  rw [s3, List.set_set] at s2
  have ht : (S.set j (rdc none)).take S.length = S.set j (rdc none) := List.take_of_length_le (by rw [List.length_set]; omega)
  simp only [C_rec_Reader_spoil, A_, simprocAttr, ne_eq, s1, s2, ht, end1_nil]
  exact hK
theorem take_set {S : List (List AV)} {j : Nat} {x : List AV} : (S.set j x).take S.length = S.set j x := List.take_of_length_le (by rw [List.length_set]; omega)
set_option maxHeartbeats 4000000 in
theorem rec_Num_spec {C : CallW} (P : Program) {c : Nat → FuncId} (h0 : GetS C (c 0)) (h1 : RdS C (c 1) [] fun _ => (.tup [], none)) : ∀ (j : Nat) (r : Rd) S H (K : AV → St → Prop), S[j]? = some (rdc r) → rok r → K (.s (.int .u64 ((numR r).1 : Nat))) ⟨S.set j (rdc (numR r).2), H⟩ → runL C P (C_rec_Reader_Num c) [.ptr (.stk j) 0] ⟨S, H⟩ K := by
  intro j r S H K hj hr hK
  have hlt := stkj_lt hj
  have hj' : S[j]? = some (rdc r) := hj
  cases r with
  | none =>
    unfold rdc at hj'
    simp only [C_rec_Reader_Num, A_, simprocAttr, ne_eq, (U_rec_Reader_Num _).1, hj']
    refine h0 _ [] _ _ _ .n (by simp) ?_
    rw [getN_nil]
    simp only [A_, simprocAttr, ne_eq, (U_rec_Reader_Num _).1, hj']
    refine h1 j none _ _ _ hj hr ?_
    simp only [A_, simprocAttr, ne_eq, (U_rec_Reader_Num _).1, take_set]
    exact hK
  | some b =>
    unfold rdc at hj'
    simp only [C_rec_Reader_Num, A_, simprocAttr, ne_eq, (U_rec_Reader_Num _).1, hj']
    refine h0 _ b _ _ _ .l (hr b rfl) ?_
    rw [numR_some] at hK
    by_cases hn : (getN b).2 = 0
    · rw [if_pos hn] at hK
      simp only [A_, simprocAttr, ne_eq, (U_rec_Reader_Num _).1, hj', hn]
      refine h1 j _ _ _ _ hj hr ?_
      simp only [A_, simprocAttr, ne_eq, (U_rec_Reader_Num _).1, take_set]
      exact hK
    · rw [if_neg hn] at hK
      have hsl := slc_lo (c := 1) (n := (getN b).2) (es := bs b) (k := .i64) (by rw [bs_length]; exact (getN_bound b).2.1)
      rw [bs_drop] at hsl
      have hst : storeL 1 (.ptr (.stk j) 0) (.list .sh 1 (bs (b.drop (getN b).2))) ⟨S, H⟩ = some ⟨S.set j (rdc (some (b.drop (getN b).2))), H⟩ := storeJl hj (by rw [rdc_len]; omega)
      simp only [A_, simprocAttr, ne_eq, (U_rec_Reader_Num _).1, hj', hn, hsl, hst, take_set]
      exact hK
theorem rec_Most_spec {C : CallW} (P : Program) {c : Nat → FuncId} (h0 : RdS C (c 0) [] fun r => (.s (.int .u64 ((numR r).1 : Nat)), (numR r).2)) (h1 : RdS C (c 1) [] fun _ => (.tup [], none)) (m : Nat) (hm : m < 9223372036854775808) : ∀ (j : Nat) (r : Rd) S H (K : AV → St → Prop), S[j]? = some (rdc r) → rok r → K (.s (.int .i64 ((mostR m r).1 : Nat))) ⟨S.set j (rdc (mostR m r).2), H⟩ → runL C P (C_rec_Reader_Most c) [.ptr (.stk j) 0, .s (.int .i64 m)] ⟨S, H⟩ K := by
  intro j r S H K hj hr hK
  simp only [C_rec_Reader_Most, A_, simprocAttr, ne_eq, (U_rec_Reader_Most _).1]
  refine h0 j r _ _ _ hj hr ?_
  have hc := wrap_u64n (n := m) (by omega)
  unfold mostR at hK
  by_cases h : m < (numR r).1
  · have h' : ((m : Int) < ((numR r).1 : Int)) := by omega
    rw [if_pos h] at hK
    simp only [A_, simprocAttr, ne_eq, (U_rec_Reader_Most _).1, convL, hc, h']
    refine h1 j _ _ _ _ (stkj_set hj) (numR_ok hr) ?_
    rw [List.set_set]
    simp only [A_, simprocAttr, ne_eq, (U_rec_Reader_Most _).1, take_set]
    exact hK
  · have h' : ¬ ((m : Int) < ((numR r).1 : Int)) := by omega
    have hw : IntKind.i64.wrap (((numR r).1 : Nat) : Int) = ((numR r).1 : Nat) := wrap_i64 (by omega) (by omega)
    rw [if_neg h] at hK
    simp only [A_, simprocAttr, ne_eq, (U_rec_Reader_Most _).1, convL, hc, h', hw, take_set]
    exact hK
set_option maxHeartbeats 4000000 in
theorem rec_Text_spec {C : CallW} (P : Program) {c : Nat → FuncId} (h1 : RdS C (c 0) [] fun _ => (.tup [], none)) (n : Nat) : ∀ (j : Nat) (r : Rd) S H (K : AV → St → Prop), S[j]? = some (rdc r) → rok r → K (.s (.str (textR n r).1)) ⟨S.set j (rdc (textR n r).2), H⟩ → runL C P (C_rec_Reader_Text c) [.ptr (.stk j) 0, .s (.int .i64 n)] ⟨S, H⟩ K := by
  intro j r S H K hj hr hK
  have hlt := stkj_lt hj
  have hj' : S[j]? = some (rdc r) := hj
  cases r with
  | none =>
    unfold rdc at hj'
    by_cases hn : n = 0
    · subst hn
      have hst : storeL 1 (.ptr (.stk j) 0) (.s .nilS) ⟨S, H⟩ = some ⟨S.set j (rdc none), H⟩ := storeJs hj (by rw [rdc_len]; omega)
      have e0 : (((0 : Nat) : Int)) = 0 := rfl
      have z1 := slc_nil (c := 1) (k := .i64) (by omega)
      have z2 := slc_nilh (c := 1) (k := .i64) (by omega)
      simp only [C_rec_Reader_Text, A_, simprocAttr, ne_eq, (U_rec_Reader_Text _).1, hj', e0, z1, z2, conv_nil, hst, take_set]
      exact hK
    · have hp : ((0 : Int) < (n : Int)) := by omega
      simp only [C_rec_Reader_Text, A_, simprocAttr, ne_eq, (U_rec_Reader_Text _).1, hj', hp]
      refine h1 j none _ _ _ hj hr ?_
      simp only [A_, simprocAttr, ne_eq, (U_rec_Reader_Text _).1, take_set]
      exact hK
  | some b =>
    unfold rdc at hj'
    have hbl := bs_length b
    rw [textR_some] at hK
    by_cases h : b.length < n
    · have h' : ((b.length : Int) < (n : Int)) := by omega
      rw [if_pos h] at hK
      simp only [C_rec_Reader_Text, A_, simprocAttr, ne_eq, (U_rec_Reader_Text _).1, hj', hbl, h']
      refine h1 j _ _ _ _ hj hr ?_
      simp only [A_, simprocAttr, ne_eq, (U_rec_Reader_Text _).1, take_set]
      exact hK
    · have h' : ¬ ((b.length : Int) < (n : Int)) := by omega
      rw [if_neg h] at hK
      have hsl := slc_lo (c := 1) (n := n) (es := bs b) (k := .i64) (by rw [bs_length]; omega)
      rw [bs_drop] at hsl
      have hsh := slc_hi (c := 1) (n := n) (es := bs b) (k := .i64) (by rw [bs_length]; omega)
      rw [bs_take] at hsh
      have hst : storeL 1 (.ptr (.stk j) 0) (.list .sh 1 (bs (b.drop n))) ⟨S, H⟩ = some ⟨S.set j (rdc (some (b.drop n))), H⟩ := storeJl hj (by rw [rdc_len]; omega)
      simp only [C_rec_Reader_Text, A_, simprocAttr, ne_eq, (U_rec_Reader_Text _).1, hj', hbl, h', hsl, hsh, conv_bs, hst, take_set]
      exact hK
end Go.AM
namespace Go.AM
open Go
set_option maxRecDepth 20000
theorem set_len {S : List (List AV)} {j : Nat} {x : List AV} : ∃ S', S.set j x = S' ∧ S.length = S'.length := ⟨_, rfl, by rw [List.length_set]⟩
set_option maxHeartbeats 4000000 in
theorem rec_Key_spec {C : CallW} (P : Program) {c : Nat → FuncId} (h0 : ∀ n : Nat, RdS C (c 0) [.s (.int .i64 n)] fun r => (.s (.str (textR n r).1), (textR n r).2)) : ∀ (j : Nat) (r : Rd) S H (K : AV → St → Prop), S[j]? = some (rdc r) → rok r → K (.agg (bs (keyR r).1.b)) ⟨S.set j (rdc (keyR r).2), H⟩ → runL C P (C_rec_Reader_Key c) [.ptr (.stk j) 0] ⟨S, H⟩ K := by
  intro j r S H K hj hr hK
  have hlt := stkj_lt hj
  simp only [C_rec_Reader_Key, A_, simprocAttr, ne_eq, (U_rec_Reader_Key _).1]
  refine h0 16 j r _ _ _ (stkj_app hj) hr ?_
  rw [setj_app hlt]
  obtain ⟨S', hS, hl⟩ := set_len (S := S) (j := j) (x := rdc (textR 16 r).2)
  unfold keyR at hK
  rw [hS] at hK ⊢
  have hcp := copy_str (e := eB) (S := S') (l := [bs key0.b, bs key0.b]) (H := H) (j := 1) (s := (textR 16 r).1) (k := key0) rfl (by simp) rfl (textR_len 16 r)
  have hpd : bs ((textR 16 r).1 ++ key0.b.drop (textR 16 r).1.length) = bs (padK (textR 16 r).1).b := by rw [pad_drop (textR_len 16 r)]; rfl
  rw [hpd] at hcp
  simp only [eB] at hcp
  simp only [hl, A_, simprocAttr, ne_eq, (U_rec_Reader_Key _).1, hcp]
  exact hK
theorem rec_Stamp_spec {C : CallW} (P : Program) {c : Nat → FuncId} (h0 : RdS C (c 0) [] fun r => (.s (.int .u64 ((numR r).1 : Nat)), (numR r).2)) (h1 : ∀ n : Nat, n < 18446744073709551616 → FnS C (c 1) [.s (.int .u64 n)] (.tup [.agg (stc (unpackS n).1), .s (.int .i64 (if (unpackS n).2 = true then 0 else 1))])) (h2 : RdS C (c 2) [] fun _ => (.tup [], none)) : ∀ (j : Nat) (r : Rd) S H (K : AV → St → Prop), S[j]? = some (rdc r) → rok r → K (.agg (stc (stampR r).1)) ⟨S.set j (rdc (stampR r).2), H⟩ → runL C P (C_rec_Reader_Stamp c) [.ptr (.stk j) 0] ⟨S, H⟩ K := by
  intro j r S H K hj hr hK
  have hlt := stkj_lt hj
  simp only [C_rec_Reader_Stamp, A_, simprocAttr, ne_eq, (U_rec_Reader_Stamp _).1]
  refine h0 j r _ _ _ (stkj_app hj) hr ?_
  rw [setj_app hlt]
  obtain ⟨S', hS, hl⟩ := set_len (S := S) (j := j) (x := rdc (numR r).2)
  have hj2 : S'[j]? = some (rdc (numR r).2) := by rw [← hS]; exact stkj_set hj
  simp only [hS, hl, A_, simprocAttr, ne_eq, (U_rec_Reader_Stamp _).1]
  refine h1 _ (numR_lt r) _ _ _ ?_
  unfold stampR at hK
  cases hu : (unpackS (numR r).1).2 with
  | true =>
    rw [hu, if_pos rfl, hS] at hK
    simp only [A_, simprocAttr, ne_eq, (U_rec_Reader_Stamp _).1]
    exact hK
  | false =>
    have hz : (unpackS (numR r).1).1 = ⟨0, 0⟩ := by
      unfold unpackS at hu ⊢
      split at hu
      · cases hu
      · rename_i h; rw [if_neg h]
    rw [hu, if_neg (by simp)] at hK
    simp only [A_, simprocAttr, ne_eq, (U_rec_Reader_Stamp _).1]
    refine h2 j _ _ _ _ (stkj_app hj2) (numR_ok hr) ?_
    rw [setj_app (stkj_lt hj2)]
    obtain ⟨S2, hS2, hl2⟩ := set_len (S := S') (j := j) (x := rdc none)
    have e : S.set j (rdc none) = S2 := by rw [← hS2, ← hS, List.set_set]
    rw [e] at hK
    simp only [hS2, hl2, hz, A_, simprocAttr, ne_eq, (U_rec_Reader_Stamp _).1]
    exact hK
end Go.AM
namespace Go.AM
open Go
set_option maxRecDepth 20000
def cmpK (a b : Key) : Int := Lib.compareBytes a.b b.b
def withinK (k a b : Key) : Bool := decide (0 ≤ cmpK k a) && (decide (b = key0) || decide (cmpK k b < 0))
end Go.AM
namespace Go.AM
open Go
set_option maxRecDepth 20000
def cntK (k : Key) : List Key → Nat
  | [] => 0
  | p :: l => (if cmpK p k ≤ 0 then 1 else 0) + cntK k l
end Go.AM
namespace Go.AM
open Go
set_option maxRecDepth 20000
end Go.AM
namespace Go.AM
open Go
set_option maxRecDepth 20000
end Go.AM
namespace Go.AM
open Go
set_option maxRecDepth 20000
def aboveK (l : List Key) (a : Key) (i : Nat) : Bool := match l[i]? with
  | some p => decide (0 < cmpK p a)
  | none => true
def belowK (l : List Key) (b : Key) (i : Nat) : Bool := decide (i = 0) || decide (b = key0) || (match l[i - 1]? with
  | some p => decide (cmpK p b < 0)
  | none => true)
def covUp (l : List Key) (a b : Key) (n : Nat) : List Nat := (List.range n).filter fun i => aboveK l a i && belowK l b i
def coverK (l : List Key) (a b : Key) : List Nat := if b ≠ key0 ∧ cmpK b a ≤ 0 then [] else covUp l a b (l.length + 1)
end Go.AM
namespace Go.AM
open Go
set_option maxRecDepth 20000
def Steps (c : List Nat) : Prop := ∀ i, 0 < i → (h : i < c.length) → c[i] = c[i - 1] + 1
structure WholeP (pts : List Key) (a b fr to : Key) : Prop where
  good : ∀ k, goodR k = true → goodK k = true
  lt : cntK a pts ≤ pts.length
  mono : cmpK a b ≤ 0 → cntK a pts ≤ cntK b pts
  cons : Steps (coverK pts fr to)
  small : ∀ x ∈ coverK pts fr to, x ≤ pts.length
  mem : withinK a fr to = true → cntK a pts ∈ coverK pts fr to
end Go.AM
namespace Go.AM
open Go
end Go.AM
namespace Go.AM
open Go
set_option maxRecDepth 20000
def GoodWS (C : CallW) (f : FuncId) : Prop := ∀ (l : List Wr) S H (K : AV → St → Prop), l.length ≤ 9223372036854775807 → (∀ G, K (.bool (sgood [] l)) ⟨S, H ++ G⟩) → C (.fn f) [lstW l] ⟨S, H⟩ K
set_option maxHeartbeats 8000000 in
theorem store_Good_spec {C : CallW} (hC : LeC C C) (P : Program) {c : Nat → FuncId} (h0 : BoolK goodK C (c 0)) : ∀ (l : List Wr) S H (K : AV → St → Prop), l.length ≤ 9223372036854775807 → (∀ G, K (.bool (sgood [] l)) ⟨S, H ++ G⟩) → runL C P (C_store_Good c) [lstW l] ⟨S, H⟩ K := by
  intro l S H K hl hK
  simp only [lstW, C_store_Good, A_, simprocAttr, ne_eq, (U_store_Good _).1]
  refine loop_rule hC (α := Nat) (fun a => l.length - a) (fun a => [.undef, .undef, .undef, .map H.length, .undef, .undef, .undef, .list .sh 18 (l.map wA), .s (.int .i64 l.length), .s (.int .i64 a), .undef, .undef, .undef, .undef, .undef, .undef, .undef, .undef, .undef, .undef, .undef, .undef, .undef, .undef, .undef, .undef, .undef, .undef, .undef, .undef, .undef, .undef, .undef, .undef, .undef, .undef, .undef, .undef, .undef, .undef, .undef, .undef]) (fun _ => S) (fun a => H ++ [.map (seenE ((l.take a).map Wr.key)) a]) (fun a => a ≤ l.length ∧ sgood [] l = sgood ((l.take a).map Wr.key) (l.drop a)) 0 ⟨by simp, by simp⟩ rfl (by simp) rfl (fun a _ => by simp [AV.under, AV.under.go]) ?_
  rintro i ⟨hi, hinv⟩ ih
  by_cases h16 : i < l.length
  · have hlt : ((i : Int) < (l.length : Int)) := by omega
    have hw : IntKind.i64.wrap ((i : Int) + 1) = (i : Int) + 1 := wrap_i64 (by omega) (by omega)
    have htk : (l.take (i + 1)).map Wr.key = (l.take i).map Wr.key ++ [(l[i]).key] := by rw [List.take_succ_eq_append_getElem h16, List.map_append]; rfl
    rw [List.drop_eq_getElem_cons h16, sgood, ← htk] at hinv
    simp only [A_, simprocAttr, ne_eq, (U_store_Good _).1, hlt, h16]
    refine h0 _ _ _ _ ?_
    cases e1 : goodK (l[i]).key with
    | false =>
      rw [if_pos e1] at hinv
      rw [hinv] at hK
      simp only [A_, simprocAttr, ne_eq, (U_store_Good _).1]
      exact hK _
    | true =>
      rw [if_neg (by simp [e1])] at hinv
      simp only [A_, simprocAttr, ne_eq, (U_store_Good _).1, look_seen]
      by_cases e2 : (l[i]).key ∈ (l.take i).map Wr.key
      · rw [if_pos e2] at hinv
        rw [hinv] at hK
        simp only [A_, simprocAttr, ne_eq, (U_store_Good _).1, e2]
        exact hK _
      · rw [if_neg e2] at hinv
        have hup := upd_seen (S := S ++ [wc l[i]]) (H := H) (n := i) e2 (by simp; omega)
        rw [← htk] at hup
        by_cases e3 : 200 < (l[i]).val.length
        · have e3' : ((200 : Int) < ((l[i]).val.length : Int)) := by omega
          rw [if_pos e3] at hinv
          rw [hinv] at hK
          simp only [A_, simprocAttr, ne_eq, (U_store_Good _).1, e2, e3']
          exact hK _
        · have e3' : ¬ ((200 : Int) < ((l[i]).val.length : Int)) := by omega
          rw [if_neg e3] at hinv
          cases e4 : (l[i]).gone with
          | false =>
            rw [if_neg (by simp [e4])] at hinv
            simp only [A_, simprocAttr, ne_eq, (U_store_Good _).1, e2, e3', e4, hup, hw]
            exact ih (i + 1) _ _ _ (by omega) ⟨by omega, hinv⟩ rfl (by simp) rfl
          | true =>
            by_cases e5 : (l[i]).val = []
            · rw [if_neg (by simp [e5])] at hinv
              have e5' := eq_true e5
              simp only [A_, simprocAttr, ne_eq, (U_store_Good _).1, e2, e3', e4, e5', hup, hw]
              exact ih (i + 1) _ _ _ (by omega) ⟨by omega, hinv⟩ rfl (by simp) rfl
            · rw [if_pos ⟨e4, e5⟩] at hinv
              rw [hinv] at hK
              simp only [A_, simprocAttr, ne_eq, (U_store_Good _).1, e2, e3', e4, e5]
              exact hK _
  · have hlt : ¬ ((i : Int) < (l.length : Int)) := by omega
    rw [List.drop_of_length_le (by omega)] at hinv
    rw [hinv] at hK
    simp only [A_, simprocAttr, ne_eq, (U_store_Good _).1, hlt]
    exact hK _
end Go.AM
namespace Go.AM
open Go
set_option maxRecDepth 20000
end Go.AM
namespace Go.AM
open Go
set_option maxRecDepth 20000
def putW (w : Wr) : List UInt8 := w.key.b ++ ((if w.gone then 1 else 0) :: (putN w.val.length ++ w.val))
def putWs (l : List Wr) : List UInt8 := putN l.length ++ l.flatMap putW
theorem flatW_take {l : List Wr} {i : Nat} (h : i < l.length) : (l.take (i + 1)).flatMap putW = (l.take i).flatMap putW ++ putW l[i] := by
  rw [List.take_succ_eq_append_getElem h, List.flatMap_append]; simp
theorem putN_flag (g : Bool) : putN (if g then 1 else 0) = [if g then 1 else 0] := by cases g <;> exact putN_lt (by decide)
theorem group_any {e : ET} (he : e.ag = false) (hc : e.c = 1) : ∀ (n : Nat) (cs : List AV), cs.length = n → groupL e n cs = cs
  | 0, cs, h => by cases cs <;> simp_all [groupL]
  | n + 1, [], h => by simp at h
  | n + 1, c :: cs, h => by
    simp only [groupL, packL, hc, he, List.take_succ_cons, List.take_zero, List.drop_succ_cons, List.drop_zero, List.getD_cons_zero]
    rw [group_any he hc n cs (by simpa using h)]
theorem elems_key {σ : St} {r : Ref} {k : Key} {rest : List AV} (h : boxOf σ r = some (bs k.b ++ rest)) : elemsL eB (.row r 0 16 16) σ = some (bs k.b) := by
  unfold elemsL
  have hl : 0 + 16 * 1 ≤ (bs k.b ++ rest).length := by simp [kc_length]
  have e : (false || (1 : Nat) == 1) = true := rfl
  simp only [eB, e, if_true, readCells, h, Option.bind_some, Nat.mul_one] at hl ⊢
  rw [if_pos ⟨hl, .inl (by omega)⟩]
  have : (((bs k.b ++ rest).drop 0).take 16).map AV.look = bs k.b := by rw [List.drop_zero, take_kc, map_look_bs]
  simp only [Option.map_some, Nat.zero_add, Nat.mul_one, this]
  rw [group_any rfl rfl 16 _ (kc_length k)]
theorem app_bu2 {b d : List UInt8} {x : AV} {σ : St} (hs : srcL false x = true) (he : elemsL eB x σ = some (bs d)) (hb : b.length + d.length ≤ 1000000000000) : appendL eB false (.list .uniq 1 (bs b)) x σ = some (.list .uniq 1 (bs (b ++ d)), σ) := by
  have h := app_bu (b := b) (d := d) (fl2 := .sh) (σ := σ) hb
  have he2 : elemsL eB (.list .sh 1 (bs d)) σ = some (bs d) := by simp [elemsL]
  rw [← h]
  unfold appendL
  have hs2 : srcL false (.list .sh 1 (bs d)) = true := rfl
  rw [hs, hs2, he, he2]
theorem storeL_last {S : List (List AV)} {H G : List HObj} {n : Nat} {old vs : List AV} (h : old.length = n) (hv : vs.length = n) (hn : 2 ≤ n) (hu : AV.under.go 0 vs = true) : storeL n (.ptr (.heap (H.length + G.length)) 0) (.agg vs) ⟨S, H ++ (G ++ [.cells old])⟩ = some ⟨S, H ++ (G ++ [.cells vs])⟩ := by
  have := storeL_heap (S := S) (H := H) (l := G ++ [.cells old]) (j := G.length) (n := n) (vs := vs) (by simp) (by simp [List.getD, hcells, h]) hv hn hu
  rw [this]
  simp
def PutWS (C : CallW) (f : FuncId) : Prop := ∀ (a : AV) (b : List UInt8) (l : List Wr) S H (K : AV → St → Prop), BA a b → b.length ≤ 1000000 → l.length ≤ 1000 → (∀ w ∈ l, w.val.length ≤ 100000) → (∀ G, K (.list .uniq 1 (bs (b ++ putWs l))) ⟨S, H ++ G⟩) → C (.fn f) [a, lstW l] ⟨S, H⟩ K
theorem flat_len {l : List Wr} (hv : ∀ w ∈ l, w.val.length ≤ 100000) : (l.flatMap putW).length ≤ 100027 * l.length := by
  induction l with
  | nil => simp
  | cons w l ih =>
    have h1 := ih (fun x hx => hv x (List.mem_cons_of_mem _ hx))
    have h2 := hv w (List.mem_cons_self ..)
    have h3 := putN_len10 (v := w.val.length) (by omega)
    rw [List.flatMap_cons, List.length_append, List.length_cons]
    have : (putW w).length ≤ 100027 := by
      unfold putW
      rw [List.length_append, w.key.h, List.length_cons, List.length_append]; omega
    omega
set_option maxHeartbeats 16000000 in
theorem rec_PutWrites_spec {C : CallW} (hC : LeC C C) (P : Program) {c : Nat → FuncId} (h0 : NumS C (c 0)) : ∀ (b : List UInt8) (l : List Wr) S H (K : AV → St → Prop), b.length ≤ 1000000 → l.length ≤ 1000 → (∀ w ∈ l, w.val.length ≤ 100000) → (∀ G, K (.list .uniq 1 (bs (b ++ putWs l))) ⟨S, H ++ G⟩) → runL C P (C_rec_PutWrites c) [.list .sh 1 (bs b), lstW l] ⟨S, H⟩ K := by
  intro b l S H K hb hl hv hK
  simp only [lstW, C_rec_PutWrites, A_, simprocAttr, ne_eq, (U_rec_PutWrites _).1]
  refine h0 _ b l.length _ _ _ .l (by omega) (by omega) ?_
  have hp := putN_len10 (v := l.length) (by omega)
  simp only [A_, simprocAttr, ne_eq, (U_rec_PutWrites _).1]
  refine loop_rule hC (α := Nat × List HObj) (fun a => l.length - a.1) (fun a => [.list .uniq 1 (bs (b ++ (putN l.length ++ (l.take a.1).flatMap putW))), .undef, .undef, .undef, .undef, .undef, .undef, .undef, .undef, .undef, .undef, .list .sh 18 (l.map wA), .s (.int .i64 l.length), .s (.int .i64 a.1), .undef, .undef, .undef, .undef, .undef, .undef, .undef, .undef, .undef, .undef, .undef, .undef, .undef, .undef, .undef, .undef, .undef, .undef, .undef, .undef, .undef, .undef, .undef]) (fun _ => S) (fun a => H ++ a.2) (fun a => a.1 ≤ l.length) (0, []) (by simp) (by simp only [List.take_zero, List.flatMap_nil, List.append_nil]; rfl) (by simp) (by simp) (fun a _ => by simp [AV.under, AV.under.go]) ?_
  rintro ⟨i, G⟩ hi ih
  dsimp only at hi ih ⊢
  by_cases h16 : i < l.length
  · have hlt : ((i : Int) < (l.length : Int)) := by omega
    have hw : IntKind.i64.wrap ((i : Int) + 1) = (i : Int) + 1 := wrap_i64 (by omega) (by omega)
    have hcl : (b ++ (putN l.length ++ (l.take i).flatMap putW)).length ≤ 200000000 := by
      have := flat_len (l := l.take i) (fun w hw => hv w (List.mem_of_mem_take hw))
      rw [List.length_take] at this
      simp only [List.length_append]
      have : 100027 * min i l.length ≤ 100027 * 1000 := Nat.mul_le_mul_left _ (by omega)
      omega
    have hvi := hv l[i] (List.getElem_mem h16)
    have hlen1 : (b ++ (putN l.length ++ (l.take (i + 1)).flatMap putW)) = (b ++ (putN l.length ++ (l.take i).flatMap putW)) ++ ((l[i]).key.b ++ ((if (l[i]).gone then 1 else 0) :: (putN (l[i]).val.length ++ (l[i]).val))) := by
      rw [flatW_take h16, putW]; simp only [List.append_assoc]
    generalize hcur : b ++ (putN l.length ++ (l.take i).flatMap putW) = cur at hcl hlen1 ⊢
    have hb1 : boxOf ⟨S, H ++ (G ++ [HObj.cells (wc l[i])])⟩ (.heap (H.length + G.length)) = some (wc l[i]) := by
      rw [boxOf_heap, app_get]; simp [cellsOf?]
    have hk := (l[i]).key.h
    have happ := app_bu2 (b := cur) (d := (l[i]).key.b) (x := .row (.heap (H.length + G.length)) 0 16 16) (σ := ⟨S, H ++ (G ++ [HObj.cells (wc l[i])])⟩) rfl (elems_key (rest := [.s (.str (l[i]).val), .s (.bool (l[i]).gone)]) (by rw [hb1]; rfl)) (by omega)
    simp only [eB] at happ
    have hbx : (H ++ (G ++ [HObj.cells (wc l[i])]))[H.length + G.length]? = some (.cells (wc l[i])) := by rw [app_get]; simp
    have hst := storeL_last (S := S) (H := H) (G := G) (n := 18) (old := bs key0.b ++ [.s (.str []), .s (.bool false)]) (vs := wc l[i]) rfl (wc_length _) (by omega) wc_under
    have hflag : ∀ (g : Bool), putN (if g = true then 1 else 0) = [if g = true then 1 else 0] := putN_flag
    cases hg : (l[i]).gone with
    | true =>
      rw [hg] at hlen1
      simp only [A_, simprocAttr, ne_eq, (U_rec_PutWrites _).1, hlt, h16, hst, happ, hg]
      refine h0 _ (cur ++ (l[i]).key.b) 1 _ _ _ .l (by simp; omega) (by omega) ?_
      have hf1 : putN 1 = [1] := putN_flag true
      have hp2 := putN_len10 (v := (l[i]).val.length) (by omega)
      rw [hf1]
      simp only [A_, simprocAttr, ne_eq, (U_rec_PutWrites _).1]
      refine h0 _ _ (l[i]).val.length _ _ _ .l (by simp; omega) (by omega) ?_
      have ha2 := app_bstr (b := cur ++ (l[i]).key.b ++ [1] ++ putN (l[i]).val.length) (d := (l[i]).val) (σ := ⟨S, H ++ (G ++ [HObj.cells (wc l[i])])⟩) (by simp; omega)
      simp only [eB, List.append_assoc, List.cons_append, List.nil_append] at ha2
      have hn2 : cur ++ ((l[i]).key.b ++ 1 :: (putN (l[i]).val.length ++ (l[i]).val)) = b ++ (putN l.length ++ (l.take (i + 1)).flatMap putW) := by
        rw [hlen1]; simp
      rw [hn2] at ha2
      simp only [A_, simprocAttr, ne_eq, (U_rec_PutWrites _).1, ha2, hw]
      exact ih (i + 1, G ++ [HObj.cells (wc l[i])]) _ _ _ (by dsimp only; omega) (by dsimp only; omega) rfl (by simp) (by simp)
    | false =>
      rw [hg] at hlen1
      simp only [A_, simprocAttr, ne_eq, (U_rec_PutWrites _).1, hlt, h16, hst, happ, hg]
      refine h0 _ (cur ++ (l[i]).key.b) 0 _ _ _ .l (by simp; omega) (by omega) ?_
      have hf1 : putN 0 = [0] := putN_flag false
      have hp2 := putN_len10 (v := (l[i]).val.length) (by omega)
      rw [hf1]
      simp only [A_, simprocAttr, ne_eq, (U_rec_PutWrites _).1]
      refine h0 _ _ (l[i]).val.length _ _ _ .l (by simp; omega) (by omega) ?_
      have ha2 := app_bstr (b := cur ++ (l[i]).key.b ++ [0] ++ putN (l[i]).val.length) (d := (l[i]).val) (σ := ⟨S, H ++ (G ++ [HObj.cells (wc l[i])])⟩) (by simp; omega)
      simp only [eB, List.append_assoc, List.cons_append, List.nil_append] at ha2
      have hn2 : cur ++ ((l[i]).key.b ++ 0 :: (putN (l[i]).val.length ++ (l[i]).val)) = b ++ (putN l.length ++ (l.take (i + 1)).flatMap putW) := by
        rw [hlen1]; simp
      rw [hn2] at ha2
      simp only [A_, simprocAttr, ne_eq, (U_rec_PutWrites _).1, ha2, hw]
      exact ih (i + 1, G ++ [HObj.cells (wc l[i])]) _ _ _ (by dsimp only; omega) (by dsimp only; omega) rfl (by simp) (by simp)
  · have hlt : ¬ ((i : Int) < (l.length : Int)) := by omega
    have : i = l.length := by omega
    subst this
    rw [List.take_length]
    unfold putWs at hK
    simp only [A_, simprocAttr, ne_eq, (U_rec_PutWrites _).1, hlt]
    exact hK _
end Go.AM
namespace Go.AM
open Go
set_option maxRecDepth 20000
def TxtS (C : CallW) (f : FuncId) : Prop := ∀ (a : AV) (b s : List UInt8) S H (K : AV → St → Prop), BA a b → b.length ≤ 1000000000 → s.length ≤ 1000000000 → K (.list .uniq 1 (bs (b ++ (putN s.length ++ s)))) ⟨S, H⟩ → C (.fn f) [a, .s (.str s)] ⟨S, H⟩ K
end Go.AM
namespace Go.AM
open Go
set_option maxRecDepth 20000
def wrR (r : Rd) : Wr × Rd :=
  (⟨(keyR r).1, (textR (mostR 200 (mostR 1 (keyR r).2).2).1 (mostR 200 (mostR 1 (keyR r).2).2).2).1, decide ((mostR 1 (keyR r).2).1 = 1)⟩, (textR (mostR 200 (mostR 1 (keyR r).2).2).1 (mostR 200 (mostR 1 (keyR r).2).2).2).2)
def wrsR : Nat → Rd → List Wr × Rd
  | 0, r => ([], r)
  | n + 1, r => ((wrR r).1 :: (wrsR n (wrR r).2).1, (wrsR n (wrR r).2).2)
def writesR (r : Rd) : List Wr × Rd :=
  ((wrsR (mostR 16 r).1 (mostR 16 r).2).1, if sgood [] (wrsR (mostR 16 r).1 (mostR 16 r).2).1 = true then (wrsR (mostR 16 r).1 (mostR 16 r).2).2 else none)
theorem wrR_ok {r : Rd} (h : rok r) : rok (wrR r).2 := textR_ok (mostR_ok (mostR_ok (keyR_ok h)))
theorem wrsR_ok : ∀ (n : Nat) {r : Rd}, rok r → rok (wrsR n r).2
  | 0, r, h => h
  | n + 1, r, h => wrsR_ok n (wrR_ok h)
theorem wrsR_len : ∀ (n : Nat) (r : Rd), (wrsR n r).1.length = n
  | 0, r => rfl
  | n + 1, r => by rw [wrsR, List.length_cons, wrsR_len n]
theorem writesR_ok {r : Rd} (h : rok r) : rok (writesR r).2 := by
  unfold writesR
  dsimp only
  split
  · exact wrsR_ok _ (mostR_ok h)
  · exact rok_none
theorem set_kc17 {k : Key} {a b x : AV} : (bs k.b ++ [a, b]).set 17 x = bs k.b ++ [a, x] := by
  rw [List.set_append_right _ _ (by rw [kc_length]; omega), kc_length]; rfl
theorem set_kc16 {k : Key} {a b x : AV} : (bs k.b ++ [a, b]).set 16 x = bs k.b ++ [x, b] := by
  rw [List.set_append_right _ _ (by rw [kc_length]; omega), kc_length]; rfl
def WritesS (C : CallW) (f : FuncId) : Prop := ∀ (j : Nat) (r : Rd) S H (K : AV → St → Prop), S[j]? = some (rdc r) → rok r → (∀ G, K (lstW (writesR r).1) ⟨S.set j (rdc (writesR r).2), H ++ G⟩) → C (.fn f) [.ptr (.stk j) 0] ⟨S, H⟩ K
set_option maxHeartbeats 16000000 in
theorem rec_Writes_spec {C : CallW} (hC : LeC C C) (hW : WkC C) (P : Program) {c : Nat → FuncId} (h0 : ∀ m : Nat, m < 9223372036854775808 → RdS C (c 0) [.s (.int .i64 m)] fun r => (.s (.int .i64 ((mostR m r).1 : Nat)), (mostR m r).2)) (h1 : RdS C (c 1) [] fun r => (.agg (bs (keyR r).1.b), (keyR r).2)) (h2 : ∀ n : Nat, RdS C (c 2) [.s (.int .i64 n)] fun r => (.s (.str (textR n r).1), (textR n r).2)) (h3 : GoodWS C (c 3)) (h4 : RdS C (c 4) [] fun _ => (.tup [], none)) :
    ∀ (j : Nat) (r : Rd) S H (K : AV → St → Prop), S[j]? = some (rdc r) → rok r → (∀ G, K (lstW (writesR r).1) ⟨S.set j (rdc (writesR r).2), H ++ G⟩) → runL C P (C_rec_Reader_Writes c) [.ptr (.stk j) 0] ⟨S, H⟩ (fun v s => ∃ b, (b = v ∨ WkL [v.sh] [b]) ∧ K b s) := by
  intro j r S H K hj hr hK
  have hjl := stkj_lt hj
  simp only [C_rec_Reader_Writes, A_, simprocAttr, ne_eq, (U_rec_Reader_Writes _).1]
  refine h0 16 (by omega) j r _ _ _ hj hr ?_
  simp only [A_, simprocAttr, ne_eq, (U_rec_Reader_Writes _).1]
  generalize hn : (mostR 16 r).1 = n
  have hn16 : n ≤ 16 := by rw [← hn]; exact mostR_le 16 r
  have hr1 : rok (mostR 16 r).2 := mostR_ok hr
  generalize hrr : (mostR 16 r).2 = r1 at hr1
  unfold writesR at hK
  rw [hn, hrr] at hK
  refine loop_rule hC (α := Nat × List Wr × Rd) (fun a => n - a.1) (fun a => [.ptr (.stk j) 0, .undef, .undef, slG 18 (a.2.1.map wA), .undef, .undef, .s (.int .i64 n), .s (.int .i64 a.1), .undef, .undef, .undef, .undef, .undef, .undef, .undef, .undef, .undef, .undef, .undef, .undef, .undef, .undef, .undef, .undef, .undef, .undef, .undef, .undef, .undef, .undef, .undef, .undef]) (fun a => S.set j (rdc a.2.2)) (fun a => H) (fun a => a.1 ≤ n ∧ rok a.2.2 ∧ a.2.1.length = a.1 ∧ wrsR n r1 = (a.2.1 ++ (wrsR (n - a.1) a.2.2).1, (wrsR (n - a.1) a.2.2).2)) (0, [], r1) ⟨by simp, hr1, rfl, by simp⟩ rfl (by simp [take_set]) rfl (fun a _ => by simp [AV.under, AV.under.go, slG_under]; omega) ?_
  rintro ⟨i, acc, q⟩ ⟨hi, hq, hal, hinv⟩ ih
  dsimp only at hi hq hal hinv ih ⊢
  have hj1 : (S.set j (rdc q))[j]? = some (rdc q) := stkj_set hj
  by_cases h16 : i < n
  · have hlt : ((i : Int) < (n : Int)) := by omega
    have hw : IntKind.i64.wrap ((i : Int) + 1) = (i : Int) + 1 := wrap_i64 (by omega) (by omega)
    simp only [A_, simprocAttr, ne_eq, (U_rec_Reader_Writes _).1, hlt]
    refine h1 j q _ _ _ hj1 hq ?_
    rw [List.set_set]
    obtain ⟨S1, hS1, hl1⟩ := set_len (S := S) (j := j) (x := rdc (keyR q).2)
    have hq1 : rok (keyR q).2 := keyR_ok hq
    have hj2 : S1[j]? = some (rdc (keyR q).2) := by rw [← hS1]; exact stkj_set hj
    simp only [hS1, hl1, A_, simprocAttr, ne_eq, (U_rec_Reader_Writes _).1, fillL]
    refine h0 1 (by omega) j _ _ _ _ (stkj_app hj2) hq1 ?_
    rw [setj_app (stkj_lt hj2)]
    obtain ⟨S2, hS2, hl2⟩ := set_len (S := S1) (j := j) (x := rdc (mostR 1 (keyR q).2).2)
    have hq2 : rok (mostR 1 (keyR q).2).2 := mostR_ok hq1
    have hj3 : S2[j]? = some (rdc (mostR 1 (keyR q).2).2) := by rw [← hS2]; exact stkj_set hj2
    simp only [hS2, hl2, A_, simprocAttr, ne_eq, (U_rec_Reader_Writes _).1, set_kc17]
    refine h0 200 (by omega) j _ _ _ _ (stkj_app hj3) hq2 ?_
    rw [setj_app (stkj_lt hj3)]
    obtain ⟨S3, hS3, hl3⟩ := set_len (S := S2) (j := j) (x := rdc (mostR 200 (mostR 1 (keyR q).2).2).2)
    have hq3 : rok (mostR 200 (mostR 1 (keyR q).2).2).2 := mostR_ok hq2
    have hj4 : S3[j]? = some (rdc (mostR 200 (mostR 1 (keyR q).2).2).2) := by rw [← hS3]; exact stkj_set hj3
    simp only [hS3, hl3, A_, simprocAttr, ne_eq, (U_rec_Reader_Writes _).1]
    refine h2 _ j _ _ _ _ (stkj_app hj4) hq3 ?_
    rw [setj_app (stkj_lt hj4)]
    obtain ⟨S4, hS4, hl4⟩ := set_len (S := S3) (j := j) (x := rdc (textR (mostR 200 (mostR 1 (keyR q).2).2).1 (mostR 200 (mostR 1 (keyR q).2).2).2).2)
    have hS4' : S4 = S.set j (rdc (wrR q).2) := by rw [← hS4, ← hS3, ← hS2, ← hS1, List.set_set, List.set_set, List.set_set]; rfl
    have hde : decide ((((mostR 1 (keyR q).2).1 : Nat) : Int) = 1) = decide ((mostR 1 (keyR q).2).1 = 1) := by
      by_cases h : (mostR 1 (keyR q).2).1 = 1 <;> simp [h]; omega
    have happ : appendL ⟨18, true, 40, (.agg (zk ++ [(.s (.str [])), (.s (.bool false))]))⟩ false (slG 18 (acc.map wA)) (.list .full 18 [.agg (bs (keyR q).1.b ++ [.s (.str (textR (mostR 200 (mostR 1 (keyR q).2).2).1 (mostR 200 (mostR 1 (keyR q).2).2).2).1), .s (.bool (decide ((mostR 1 (keyR q).2).1 = 1)))])]) ⟨S4 ++ [bs (keyR q).1.b ++ [.s (.str (textR (mostR 200 (mostR 1 (keyR q).2).2).1 (mostR 200 (mostR 1 (keyR q).2).2).2).1), .s (.bool (decide ((mostR 1 (keyR q).2).1 = 1)))]], H⟩ = some (slG 18 ((acc ++ [(wrR q).1]).map wA), ⟨S4 ++ [bs (keyR q).1.b ++ [.s (.str (textR (mostR 200 (mostR 1 (keyR q).2).2).1 (mostR 200 (mostR 1 (keyR q).2).2).2).1), .s (.bool (decide ((mostR 1 (keyR q).2).1 = 1)))]], H⟩) := by
      have := app_slG (e := ⟨18, true, 40, (.agg (zk ++ [(.s (.str [])), (.s (.bool false))]))⟩) (es := acc.map wA) (a := wA (wrR q).1) (σ := ⟨S4 ++ [wc (wrR q).1], H⟩) wA_under (by rw [List.length_map]; dsimp only; omega)
      rw [List.map_append]
      exact this
    simp only [zk_eq] at happ
    simp only [hS4, hl4, A_, simprocAttr, ne_eq, (U_rec_Reader_Writes _).1, set_kc16, hde, happ, hw]
    rw [hl4.symm.trans (hl3.symm.trans (hl2.symm.trans hl1.symm))]
    refine ih (i + 1, acc ++ [(wrR q).1], (wrR q).2) _ _ _ (by dsimp only; omega) ⟨by dsimp only; omega, wrR_ok hq, by simp [hal], ?_⟩ rfl ?_ rfl
    · dsimp only
      rw [hinv, show n - i = (n - (i + 1)) + 1 by omega, wrsR]
      simp
    · rw [hl1.trans (hl2.trans (hl3.trans hl4)), app_take]; exact hS4'
  · have hlt : ¬ ((i : Int) < (n : Int)) := by omega
    have hin : n - i = 0 := by omega
    rw [hin, wrsR, List.append_nil] at hinv
    rw [hinv] at hK
    dsimp only at hK
    have fin1 : ∀ (v : AV) G, (lstW acc = v ∨ WkL [v.sh] [lstW acc]) → (∃ b, (b = v ∨ WkL [v.sh] [b]) ∧ K b ⟨S.set j (rdc (if sgood [] acc = true then q else none)), H ++ G⟩) := fun v G h => ⟨lstW acc, h, hK G⟩
    cases acc with
    | nil =>
      simp only [A_, simprocAttr, ne_eq, (U_rec_Reader_Writes _).1, hlt]
      refine hW _ _ [lstW []] _ _ (.nilS (by omega) .nil) ?_
      refine h3 [] _ _ _ (by simp) fun G => ?_
      have hg : sgood [] [] = true := rfl
      rw [hg, if_pos rfl] at fin1
      simp only [A_, simprocAttr, ne_eq, (U_rec_Reader_Writes _).1, hg, take_set]
      exact fin1 _ G (.inr (.nilS (by omega) .nil))
    | cons w acc =>
      have hsl : slG 18 ((w :: acc).map wA) = .list .uniq 18 ((w :: acc).map wA) := by unfold slG; rw [if_neg (by simp)]
      have hal2 : (w :: acc).length ≤ 16 := by omega
      generalize hacc : w :: acc = l at *
      have h3' := h3 l
      unfold lstW at h3'
      simp only [A_, simprocAttr, ne_eq, (U_rec_Reader_Writes _).1, hlt, hsl]
      refine h3' _ _ _ (by omega) fun G => ?_
      cases hg : sgood [] l with
      | true =>
        rw [hg, if_pos rfl] at fin1
        simp only [A_, simprocAttr, ne_eq, (U_rec_Reader_Writes _).1, take_set]
        exact fin1 _ G (.inr (show WkL [.list .sh 18 _] _ from .same .nil))
      | false =>
        rw [hg, if_neg (by simp)] at fin1
        simp only [A_, simprocAttr, ne_eq, (U_rec_Reader_Writes _).1]
        refine h4 j q _ _ _ hj1 hq ?_
        rw [List.set_set]
        simp only [A_, simprocAttr, ne_eq, (U_rec_Reader_Writes _).1, take_set]
        exact fin1 _ G (.inr (show WkL [.list .sh 18 _] _ from .same .nil))
end Go.AM
namespace Go.AM
open Go
set_option maxRecDepth 20000
def restLe (a b : Rd) : Prop := ∀ q, b = some q → ∃ p, a = some p ∧ q.length ≤ p.length
theorem restLe.refl (a : Rd) : restLe a a := fun q h => ⟨q, h, Nat.le_refl _⟩
theorem restLe.trans {a b c : Rd} (h : restLe a b) (h2 : restLe b c) : restLe a c := fun q hq => by
  obtain ⟨p, hp, hl⟩ := h2 q hq
  obtain ⟨p2, hp2, hl2⟩ := h p hp
  exact ⟨p2, hp2, by omega⟩
end Go.AM
namespace Go.AM
open Go
set_option maxRecDepth 20000
end Go.AM
namespace Go.AM
open Go
set_option maxRecDepth 20000
end Go.AM
namespace Go.AM
open Go
structure Rec where
  kind : Int
  id : Int
  snap : Stp
  stamp : Stp
  writes : List Wr
  yes : Bool
  parts : List Int
  deriving DecidableEq
def okR (r : Rec) : Prop := r.writes.length ≤ 9223372036854775807 ∧ r.parts.length ≤ 9223372036854775807
end Go.AM
namespace Go.AM
open Go
set_option maxRecDepth 20000
def EqWS (C : CallW) (f : FuncId) : Prop := ∀ (a b : List Wr) S H (K : AV → St → Prop), a.length ≤ 9223372036854775807 → b.length ≤ 9223372036854775807 → K (.bool (decide (a = b))) ⟨S, H⟩ → C (.fn f) [lstW a, lstW b] ⟨S, H⟩ K
theorem Equal_Write_spec {C : CallW} (hC : LeC C C) (P : Program) : ∀ (a b : List Wr) S H (K : AV → St → Prop), a.length ≤ 9223372036854775807 → b.length ≤ 9223372036854775807 → K (.bool (decide (a = b))) ⟨S, H⟩ → runL C P C_slices_Equal_Write [lstW a, lstW b] ⟨S, H⟩ K := by
  intro a b S H K ha hb hK
  by_cases hl : a.length = b.length
  case neg =>
    have hl' : ¬ ((a.length : Int) = (b.length : Int)) := by omega
    rw [decide_eq_false (fun e => hl (by rw [e]))] at hK
    simp only [lstW, C_slices_Equal_Write, A_, simprocAttr, ne_eq, U_slices_Equal_Write.1, hl']
    exact hK
  have hl' := eq_true (show ((a.length : Int) = (b.length : Int)) by omega)
  simp only [lstW, C_slices_Equal_Write, A_, simprocAttr, ne_eq, U_slices_Equal_Write.1, hl']
  refine loop_rule hC (α := Nat) (fun i => a.length - i) (fun i => [.list .sh 18 (a.map wA), .list .sh 18 (b.map wA), .undef, .undef, .undef, .undef, .undef, .undef, .undef, .undef, .undef, .undef, .s (.int .i64 a.length), .s (.int .i64 i), .undef, .undef, .undef, .undef, .undef, .undef, .undef, .undef, .undef, .undef, .undef, .undef]) (fun _ => S) (fun _ => H) (fun i => i ≤ a.length ∧ decide (a = b) = decide (a.drop i = b.drop i)) 0 ⟨by simp, by simp⟩ rfl (by simp) rfl (fun a _ => by simp [AV.under, AV.under.go]) ?_
  rintro i ⟨hi, hinv⟩ ih
  by_cases h16 : i < a.length
  · have hlt : ((i : Int) < (a.length : Int)) := by omega
    have h16' : i < b.length := by omega
    have hw : IntKind.i64.wrap ((i : Int) + 1) = (i : Int) + 1 := wrap_i64 (by omega) (by omega)
    rw [List.drop_eq_getElem_cons h16, List.drop_eq_getElem_cons h16'] at hinv
    by_cases he : a[i] = b[i]
    · have he' := eq_true he
      rw [he] at hinv
      simp only [List.cons.injEq, true_and] at hinv
      simp only [A_, simprocAttr, ne_eq, U_slices_Equal_Write.1, hlt, h16, h16', he', hw]
      exact ih (i + 1) _ _ _ (by omega) ⟨by omega, hinv⟩ rfl (by simp) rfl
    · simp only [List.cons.injEq, he, false_and, decide_false] at hinv
      rw [hinv] at hK
      simp only [A_, simprocAttr, ne_eq, U_slices_Equal_Write.1, hlt, h16, h16', he]
      exact hK
  · have hlt : ¬ ((i : Int) < (a.length : Int)) := by omega
    rw [List.drop_of_length_le (by omega), List.drop_of_length_le (by omega), decide_eq_true rfl] at hinv
    rw [hinv] at hK
    simp only [A_, simprocAttr, ne_eq, U_slices_Equal_Write.1, hlt]
    exact hK
end Go.AM
namespace Go.AM
open Go
set_option maxRecDepth 20000
end Go.AM
namespace Go.AM
open Go
set_option maxRecDepth 20000
end Go.AM
namespace Go.AM
open Go
set_option maxRecDepth 20000
end Go.AM
namespace Go.AM
open Go
set_option maxRecDepth 20000
structure Ent where
  id : Int
  snap : Stp
  stamp : Stp
  writes : List Wr
def enc (e : Ent) : List AV := [.s (.int .i64 e.id), .s (.int .i64 e.snap.t), u8 e.snap.n, .s (.int .i64 e.stamp.t), u8 e.stamp.n, .list .sh 18 (e.writes.map wA)]
end Go.AM
namespace Go.AM
open Go
set_option maxRecDepth 20000
theorem storeP_stk {S : List (List AV)} {l : List (List AV)} {H : List HObj} {j n off : Nat} {vs : List AV} (hj : j < l.length) (h : off + n ≤ (l.getD j []).length) (hv : vs.length = n) (hn : 2 ≤ n) (hu : AV.under.go (S.length + j) vs = true) : storeL n (.ptr (.stk (S.length + j)) off) (.agg vs) ⟨S ++ l, H⟩ = some ⟨S ++ l.set j ((l.getD j []).take off ++ vs ++ (l.getD j []).drop (off + n)), H⟩ := by
  have e : l[j]? = some (l.getD j []) := by simp [List.getD, hj]
  have hs : splice (l.getD j []) off vs = (l.getD j []).take off ++ vs ++ (l.getD j []).drop (off + n) := by
    unfold splice
    split
    · simp at hv; omega
    · rw [hv]
  simp only [storeL, AV.cells, AV.fit, hv, writeCells, boxOf_stk, app_get, e, Option.bind_some, hs, setBox_stk, app_set, mayHold, hu, h, decide_true, Bool.and_self, if_true, true_and]
  rw [if_pos (by simp; omega)]
def WkK (K : AV → St → Prop) : AV → St → Prop := fun v s => ∃ b, (b = v ∨ WkL [v.sh] [b]) ∧ K b s
end Go.AM
namespace Go.AM
open Go
set_option maxRecDepth 20000
end Go.AM
namespace Go.AM
open Go
set_option maxRecDepth 20000
structure okB (r : Rec) : Prop where
  ws : r.writes.length ≤ 20
  vs : ∀ w ∈ r.writes, w.val.length ≤ 250
  ps : r.parts.length ≤ 12
  lo : -9223372036854775808 ≤ r.id
  hi : r.id ≤ 9223372036854775807
theorem okB.ok {r : Rec} (h : okB r) : okR r := ⟨by have := h.ws; omega, by have := h.ps; omega⟩
theorem pack_len (s : Stp) : (putN (packN s)).length ≤ 10 := putN_len10 (by have := packN_lt s; omega)
theorem wk_uniq {K : AV → St → Prop} {b : List UInt8} {s : St} {fl : Fl} (h : K (.list .sh 1 (bs b)) s) : WkK K (.list fl 1 (bs b)) s := by
  cases fl
  · exact ⟨_, .inl rfl, h⟩
  · exact ⟨_, .inr (show WkL [.list .sh 1 _] _ from .same .nil), h⟩
  · exact ⟨_, .inr (show WkL [.list .sh 1 _] _ from .same .nil), h⟩
  · exact ⟨_, .inr (show WkL [.list .full 1 _] _ from .full .nil), h⟩
end Go.AM
namespace Go.AM
open Go
set_option maxRecDepth 20000
end Go.AM
namespace Go.AM
open Go
set_option maxRecDepth 20000
end Go.AM
namespace Go.AM
open Go
set_option maxRecDepth 20000
end Go.AM
namespace Go.AM
open Go
end Go.AM
namespace Go.AM
open Go
set_option maxRecDepth 20000
theorem sgood_len {r : Rd} : (writesR r).1.length ≤ 16 := by unfold writesR; dsimp only; rw [wrsR_len]; exact mostR_le 16 r
end Go.AM
namespace Go.AM
open Go
set_option maxRecDepth 20000
end Go.AM
namespace Go.AM
open Go
def Loc {α : Type} (f : Rd → α × Rd) : Prop := ∀ r q, (f r).2 = some q → ∃ b, r = some b ∧ ∀ c, f (some (b ++ c)) = ((f r).1, some (q ++ c))
theorem getG_loc : ∀ (b : List UInt8) (i acc v n : Nat) (c : List UInt8), getG i acc b = some (v, n) → getG i acc (b ++ c) = some (v, n)
  | [], i, acc, v, n, c, h => by simp [getG] at h
  | x :: b, i, acc, v, n, c, h => by
    rw [List.cons_append, getG_cons]
    rw [getG_cons] at h
    split
    · rename_i h1; rw [if_pos h1] at h; cases h
    · rename_i h1
      rw [if_neg h1] at h
      split
      · rename_i h2; rw [if_pos h2] at h; exact h
      · rename_i h2
        rw [if_neg h2] at h
        split
        · rename_i h3; rw [if_pos h3] at h; cases h
        · rename_i h3
          rw [if_neg h3] at h
          exact getG_loc b _ _ _ _ c h
theorem getN_loc {b : List UInt8} (h : (getN b).2 ≠ 0) (c : List UInt8) : getN (b ++ c) = getN b := by
  unfold getN at *
  cases hg : getG 0 0 b with
  | none => rw [hg] at h; simp at h
  | some p => rw [getG_loc b 0 0 p.1 p.2 c hg]
theorem numR_loc : Loc numR := by
  intro r q h
  cases r with
  | none => cases h
  | some b =>
    refine ⟨b, rfl, fun c => ?_⟩
    rw [numR_some] at h ⊢
    rw [numR_some]
    by_cases h0 : (getN b).2 = 0
    · rw [if_pos h0] at h; cases h
    · rw [if_neg h0] at h
      have hb := (getN_bound b).2.1
      rw [getN_loc h0, if_neg h0, if_neg h0, List.drop_append_of_le_length hb]
      cases h; rfl
theorem mostR_loc (m : Nat) : Loc (mostR m) := by
  intro r q h
  unfold mostR at h ⊢
  by_cases h1 : m < (numR r).1
  · rw [if_pos h1] at h; cases h
  · rw [if_neg h1] at h ⊢
    obtain ⟨b, hb, hc⟩ := numR_loc r q h
    refine ⟨b, hb, fun c => ?_⟩
    rw [hc c, if_neg h1]
theorem textR_loc (n : Nat) : Loc (textR n) := by
  intro r q h
  cases r with
  | none => cases h
  | some b =>
    refine ⟨b, rfl, fun c => ?_⟩
    rw [textR_some] at h ⊢
    rw [textR_some]
    by_cases h0 : b.length < n
    · rw [if_pos h0] at h; cases h
    · rw [if_neg h0] at h
      rw [if_neg h0, if_neg (by simp; omega), List.take_append_of_le_length (by omega), List.drop_append_of_le_length (by omega)]
      cases h; rfl
theorem keyR_loc : Loc keyR := by
  intro r q h
  obtain ⟨b, hb, hc⟩ := textR_loc 16 r q h
  refine ⟨b, hb, fun c => ?_⟩
  unfold keyR
  rw [hc c]
theorem stampR_loc : Loc stampR := by
  intro r q h
  unfold stampR at h ⊢
  by_cases h1 : (unpackS (numR r).1).2 = true
  · rw [if_pos h1] at h ⊢
    obtain ⟨b, hb, hc⟩ := numR_loc r q h
    refine ⟨b, hb, fun c => ?_⟩
    rw [hc c, if_pos h1]
  · rw [if_neg h1] at h; cases h
theorem Loc.dead {α : Type} {f : Rd → α × Rd} (h : Loc f) : (f none).2 = none := by
  cases hq : (f none).2 with
  | none => rfl
  | some q => obtain ⟨b, hb, _⟩ := h none q hq; cases hb
theorem Loc.bind {α β : Type} {f : Rd → α × Rd} {g : α → Rd → β × Rd} (hf : Loc f) (hg : ∀ a, Loc (g a)) : Loc fun r => g (f r).1 (f r).2 := by
  intro r q h
  obtain ⟨b1, hb1, hc1⟩ := hg _ _ q h
  obtain ⟨b, hb, hc⟩ := hf r b1 hb1
  refine ⟨b, hb, fun c => ?_⟩
  dsimp only
  rw [hc c, hc1 c]
theorem Loc.map {α β : Type} {f : Rd → α × Rd} (hf : Loc f) (g : α → β) : Loc fun r => (g (f r).1, (f r).2) := by
  intro r q h
  obtain ⟨b, hb, hc⟩ := hf r q h
  exact ⟨b, hb, fun c => by dsimp only; rw [hc c]⟩
theorem wrR_loc : Loc wrR := by
  have h := keyR_loc.bind (g := fun k r => (fun r => (fun y r => (fun n r => (fun r => ((⟨k, (textR n r).1, decide (y = 1)⟩ : Wr), (textR n r).2)) r) (mostR 200 r).1 (mostR 200 r).2) (mostR 1 r).1 (mostR 1 r).2) r)
    fun k => (mostR_loc 1).bind fun y => (mostR_loc 200).bind fun n => (textR_loc n).map fun t => (⟨k, t, decide (y = 1)⟩ : Wr)
  exact h
theorem retR_loc {α : Type} (a : α) : Loc fun r : Rd => (a, r) := by
  intro r q h
  cases r with
  | none => cases h
  | some b => exact ⟨b, rfl, fun c => by cases h; rfl⟩
theorem wrsR_loc : ∀ n, Loc (wrsR n)
  | 0 => retR_loc []
  | n + 1 => by
    have := wrR_loc.bind (g := fun w r => (w :: (wrsR n r).1, (wrsR n r).2)) fun w => (wrsR_loc n).map fun l => w :: l
    intro r q h
    exact this r q h
theorem writesR_loc : Loc writesR := by
  intro r q h
  have h0 := (mostR_loc 16).bind wrsR_loc
  unfold writesR at h ⊢
  dsimp only at h ⊢
  split at h
  · rename_i hs
    obtain ⟨b, hb, hc⟩ := h0 r q h
    refine ⟨b, hb, fun c => ?_⟩
    have e := hc c
    dsimp only at e
    rw [e, if_pos hs]
  · cases h
end Go.AM
namespace Go.AM
open Go
theorem getG_put : ∀ (m v i acc : Nat) (c : List UInt8), v ≤ m → i ≤ 9 → v < 2 ^ (64 - 7 * i) → (0 < i → 0 < v) → getG i acc (putN v ++ c) = some (acc + v * 2 ^ (7 * i), i + (putN v).length)
  | m, v, i, acc, c, hm, hi, hv, hp => by
    by_cases h : v < 128
    · rw [putN_lt h, List.cons_append, List.nil_append, getG_cons]
      have ht : (UInt8.ofNat v).toNat = v := by simp; omega
      rw [ht, if_neg, if_pos h, if_neg]
      · rw [Nat.mod_eq_of_lt h]; rfl
      · rintro ⟨h1, h2⟩
        have := congrArg UInt8.toNat h1
        rw [ht] at this
        have := hp h2
        simp at *; omega
      · rintro ⟨rfl, h2⟩; simp at hv; omega
    · have hi8 : i ≤ 8 := by
        rcases Nat.lt_or_ge i 9 with h1 | h1
        · omega
        · have : i = 9 := by omega
          subst this; simp at hv; omega
      rw [putN_ge h, List.cons_append, getG_cons]
      have ht : (UInt8.ofNat (v % 128 + 128)).toNat = v % 128 + 128 := by simp; omega
      rw [ht, if_neg (by omega), if_neg (by omega), if_neg (by omega)]
      have hpw : 2 ^ (64 - 7 * i) = 128 * 2 ^ (64 - 7 * (i + 1)) := by
        rw [show 64 - 7 * i = 7 + (64 - 7 * (i + 1)) by omega, Nat.pow_add]
      have hq : v / 128 < 2 ^ (64 - 7 * (i + 1)) := by
        rw [hpw] at hv
        exact Nat.div_lt_of_lt_mul hv
      cases m with
      | zero => omega
      | succ m =>
        rw [getG_put m (v / 128) (i + 1) _ c (by omega) (by omega) hq (by omega)]
        have e : 2 ^ (7 * (i + 1)) = 128 * 2 ^ (7 * i) := by rw [show 7 * (i + 1) = 7 + 7 * i by omega, Nat.pow_add]
        rw [e, show (v % 128 + 128) % 128 = v % 128 by omega, List.length_cons]
        have : v = v % 128 + 128 * (v / 128) := (Nat.mod_add_div v 128).symm
        congr 2
        · generalize 2 ^ (7 * i) = p
          rw [Nat.add_assoc]
          congr 1
          conv => rhs; rw [this]
          rw [Nat.add_mul, Nat.mul_comm 128 (v / 128), Nat.mul_assoc]
        · omega
theorem getN_put {v : Nat} (h : v < 18446744073709551616) (c : List UInt8) : getN (putN v ++ c) = (v, (putN v).length) := by
  unfold getN
  rw [getG_put v v 0 0 c (Nat.le_refl _) (by omega) (by simpa using h) (by omega)]
  simp
theorem putN_pos (v : Nat) : (putN v).length ≠ 0 := by
  by_cases h : v < 128
  · rw [putN_lt h]; simp
  · rw [putN_ge h]; simp
theorem numR_put {v : Nat} (h : v < 18446744073709551616) (c : List UInt8) : numR (some (putN v ++ c)) = (v, some c) := by
  rw [numR_some, getN_put h]
  dsimp only
  rw [if_neg (putN_pos v)]
  simp
theorem mostR_put {v m : Nat} (h : v ≤ m) (hm : m < 18446744073709551616) (c : List UInt8) : mostR m (some (putN v ++ c)) = (v, some c) := by
  unfold mostR
  rw [numR_put (by omega)]
  dsimp only
  rw [if_neg (by omega)]
theorem textR_put {n : Nat} {t : List UInt8} (h : t.length = n) (c : List UInt8) : textR n (some (t ++ c)) = (t, some c) := by
  subst h
  rw [textR_some, if_neg (by simp)]
  simp
theorem padK_key (k : Key) : padK k.b = k := by
  apply Key.ext'
  show padB k.b = k.b
  unfold padB
  rw [k.h]
  simp [List.take_of_length_le (Nat.le_of_eq k.h)]
theorem keyR_put (k : Key) (c : List UInt8) : keyR (some (k.b ++ c)) = (k, some c) := by
  unfold keyR
  rw [textR_put k.h, padK_key]
theorem stampR_put {s : Stp} (h : goodS s = true) (c : List UInt8) : stampR (some (putN (packN s) ++ c)) = (s, some c) := by
  have h1 := packN_lt s
  unfold stampR
  rw [numR_put (by omega)]
  dsimp only
  rw [unpack_pack h, if_pos rfl]
theorem putW_eq (w : Wr) (c : List UInt8) : putW w ++ c = w.key.b ++ (putN (if w.gone = true then 1 else 0) ++ (putN w.val.length ++ (w.val ++ c))) := by
  unfold putW
  have : putN (if w.gone = true then 1 else 0) = [if w.gone = true then 1 else 0] := by
    cases w.gone <;> · rw [putN_lt (by simp)]; rfl
  rw [this]
  simp [List.append_assoc]
theorem wrR_put {w : Wr} (h : w.val.length ≤ 200) (c : List UInt8) : wrR (some (putW w ++ c)) = (w, some c) := by
  rw [putW_eq]
  unfold wrR
  rw [keyR_put]
  dsimp only
  rw [mostR_put (by split <;> omega) (by omega)]
  dsimp only
  rw [mostR_put h (by omega)]
  dsimp only
  rw [textR_put rfl]
  cases w with
  | mk k v g => cases g <;> rfl
theorem wrsR_put : ∀ (l : List Wr) (c : List UInt8), (∀ w ∈ l, w.val.length ≤ 200) → wrsR l.length (some (l.flatMap putW ++ c)) = (l, some c)
  | [], c, _ => rfl
  | w :: l, c, h => by
    rw [List.length_cons, wrsR, List.flatMap_cons, List.append_assoc, wrR_put (h w (List.mem_cons_self ..))]
    dsimp only
    rw [wrsR_put l c fun x hx => h x (List.mem_cons_of_mem _ hx)]
theorem sgood_vals : ∀ (l : List Wr) (seen : List Key), sgood seen l = true → ∀ w ∈ l, w.val.length ≤ 200
  | [], _, _, w, hw => by cases hw
  | x :: l, seen, h, w, hw => by
    rw [sgood] at h
    split at h
    · cases h
    split at h
    · cases h
    split at h
    · cases h
    split at h
    · cases h
    rcases List.mem_cons.1 hw with rfl | hw
    · omega
    · exact sgood_vals l _ h w hw
theorem writesR_put {l : List Wr} (h : sgood [] l = true) (hl : l.length ≤ 16) (c : List UInt8) : writesR (some (putWs l ++ c)) = (l, some c) := by
  unfold writesR putWs
  rw [List.append_assoc, mostR_put hl (by omega)]
  dsimp only
  rw [wrsR_put l c (sgood_vals l [] h)]
  dsimp only
  rw [if_pos h]
end Go.AM
namespace Go.AM
open Go
set_option maxRecDepth 20000
end Go.AM
namespace Go.AM
open Go
set_option maxRecDepth 20000
structure inR (r : Rec) : Prop where
  ok : okR r
  lo : -9223372036854775808 ≤ r.id
  hi : r.id ≤ 9223372036854775807
end Go.AM
namespace Go.AM
open Go
set_option maxRecDepth 20000
theorem app_bs0 {d : List UInt8} {fl2 : Fl} {σ : St} (hd : d ≠ []) (hb : d.length ≤ 1000000000000) : appendL eB false (.list .full 1 []) (.list fl2 1 (bs d)) σ = some (.list .uniq 1 (bs d), σ) := by
  have he : elemsL eB (.list fl2 1 (bs d)) σ = some (bs d) := by simp [elemsL]
  have hne : (bs d).isEmpty = false := by cases d with
    | nil => exact absurd rfl hd
    | cons x d => rfl
  have hl : (bs d).length ≤ 2 ^ 48 := by rw [bs_length]; omega
  simp only [appendL, srcL, AV.isSlice, he, if_true, Option.bind_some, under_bs, appItems, ne_eq, not_true_eq_false, if_false, hne, Bool.false_eq_true, List.isEmpty_nil, Nat.mul_one, hl]
theorem slc_cut {l : List UInt8} {n : Nat} {k : IntKind} (h : n ≤ l.length) : sliceL (.sl 1) (.list .sh 1 (bs l)) none (some (.s (.int k (n : Int)))) none = some (.list .sh 1 (bs (l.take n))) := by
  have h2 : n ≤ (bs l).length := by rw [bs_length]; exact h
  simp only [sliceL, bound, reduceCtorEq, if_false, Int.toNat_natCast, Nat.zero_le, h2, and_self, and_true, if_true, List.drop_zero, Int.natCast_nonneg, false_and]
  rw [bs_take]
theorem putWs_le {l : List Wr} (h1 : l.length ≤ 20) (h2 : ∀ w ∈ l, w.val.length ≤ 250) : (putWs l).length ≤ 10000 := by
  have h3 := putN_len10 (v := l.length) (by omega)
  have : ∀ l : List Wr, (∀ w ∈ l, w.val.length ≤ 250) → (l.flatMap putW).length ≤ 280 * l.length := by
    intro l
    induction l with
    | nil => intro _; simp
    | cons w l ih =>
      intro h
      have h1 := ih fun x hx => h x (List.mem_cons_of_mem _ hx)
      have h2 := h w (List.mem_cons_self ..)
      have h3 := putN_len10 (v := w.val.length) (by omega)
      have hk := w.key.h
      have h4 : (putW w).length = 17 + (putN w.val.length).length + w.val.length := by
        unfold putW
        simp only [List.length_append, List.length_cons, hk]
        omega
      rw [List.flatMap_cons, List.length_append, List.length_cons]
      omega
  have := this l h2
  unfold putWs
  rw [List.length_append]
  omega
end Go.AM
namespace Go.AM
open Go
structure It where
  key : Key
  val : List UInt8
  deriving DecidableEq
def itc (x : It) : List AV := bs x.key.b ++ [.s (.str x.val)]
def itA (x : It) : AV := .agg (itc x)
theorem itc_length (x : It) : (itc x).length = 17 := by simp [itc, kc_length]
theorem itA_under {n : Nat} {x : It} : AV.under n (itA x) = true := by simp [itA, itc, AV.under, under_app', under_bs, AV.under.go]
theorem itc_under {n : Nat} {x : It} : AV.under.go n (itc x) = true := by simp [itc, AV.under, under_app', under_bs, AV.under.go]
theorem itA_low {n : Nat} : ∀ {l : List It}, AV.under.go n (l.map itA) = true
  | [] => rfl
  | k :: l => by simp only [List.map_cons, AV.under.go, itA_under, itA_low (l := l), Bool.and_self]
theorem look_itc (x : It) : (itc x).map AV.look = itc x := by simp [itc, map_look_bs]; rfl
theorem ixl_it {l : List It} {i c : Nat} {k : IntKind} (h : i < l.length) (hc : c ≠ 0) : indexAddrL (.sl c) (.list .sh c (l.map itA)) (.s (.int k (i : Int))) = some (.rop (itc l[i])) := ixl_map h hc
theorem beq_itc (a b : It) : AV.beq.go (itc a) (itc b) = decide (a = b) := by
  rw [itc, itc, beq_app_k, beq_kk]
  cases a; cases b
  simp [AV.beq.go, AV.beq, It.mk.injEq, Bool.decide_and, Bool.and_assoc]
theorem fits_itc (w : It) : fitsL (lk ++ [.str]) (itc w) = true := by rw [itc, fits_kr]; rfl
theorem take_itc (w : It) : (itc w).take 17 = itc w := List.take_of_length_le (Nat.le_of_eq (itc_length w))
theorem take_itk (w : It) : (itc w).take 16 = bs w.key.b := take_kc _ _
theorem drop_itc (w : It) : (itc w).drop 16 = [.s (.str w.val)] := drop_kc _ _
theorem get_itc16 (x : It) : (itc x)[16]? = some (.s (.str x.val)) := by rw [itc, get_kc16]; rfl
theorem IT_ : type_of% @get_itc16 ∧ type_of% @itc_length ∧ type_of% @itc_under ∧ type_of% @itA_low ∧ type_of% @look_itc ∧ type_of% @beq_itc ∧ type_of% @fits_itc ∧ type_of% @ixl_it ∧ type_of% @take_itc ∧ type_of% @take_itk ∧ type_of% @drop_itc := ⟨@get_itc16, @itc_length, @itc_under, @itA_low, @look_itc, @beq_itc, @fits_itc, @ixl_it, @take_itc, @take_itk, @drop_itc⟩
def lstIt (l : List It) : AV := .list .sh 17 (l.map itA)
structure Msg where
  kind : Int
  frm : Int
  tto : Int
  id : Int
  num : Int
  stp : Stp
  key : Key
  unt : Key
  writes : List Wr
  items : List It
  val : List UInt8
  found : Bool
  yes : Bool
  err : Int
  deriving DecidableEq
def msc (m : Msg) : List AV := [.s (.int .i64 m.kind), .s (.int .i64 m.frm), .s (.int .i64 m.tto), .s (.int .i64 m.id), .s (.int .i64 m.num), .s (.int .i64 m.stp.t), u8 m.stp.n] ++ (bs m.key.b ++ (bs m.unt.b ++ [.list .sh 18 (m.writes.map wA), .list .sh 17 (m.items.map itA), .s (.str m.val), .s (.bool m.found), .s (.bool m.yes), .s (.int .i64 m.err)]))
theorem get_kcG {k : Key} {r : List AV} {n : Nat} (h : 16 ≤ n) : (bs k.b ++ r)[n]? = r[n - 16]? := by rw [List.getElem?_append_right (by rw [kc_length]; exact h), kc_length]
theorem set_kcG {k : Key} {r : List AV} {n : Nat} {x : AV} (h : 16 ≤ n) : (bs k.b ++ r).set n x = bs k.b ++ r.set (n - 16) x := by rw [List.set_append_right _ _ (by rw [kc_length]; exact h), kc_length]
theorem drop_kcG {k : Key} {r : List AV} {n : Nat} (h : 16 ≤ n) : (bs k.b ++ r).drop n = r.drop (n - 16) := by rw [List.drop_append, kc_length, List.drop_of_length_le (by rw [kc_length]; exact h), List.nil_append]
theorem take_kcG {k : Key} {r : List AV} {n : Nat} (h : 16 ≤ n) : (bs k.b ++ r).take n = bs k.b ++ r.take (n - 16) := by rw [List.take_append, kc_length, List.take_of_length_le (by rw [kc_length]; exact h)]
theorem KG_ : type_of% @get_kcG ∧ type_of% @set_kcG ∧ type_of% @drop_kcG ∧ type_of% @take_kcG := ⟨@get_kcG, @set_kcG, @drop_kcG, @take_kcG⟩
def okM (m : Msg) : Prop := m.writes.length ≤ 9223372036854775807 ∧ m.items.length ≤ 9223372036854775807 ∧ m.val.length ≤ 9223372036854775807 ∧ (∀ x ∈ m.items, x.val.length ≤ 9223372036854775807)
def gits : Option Key → List It → Bool
  | _, [] => true
  | p, x :: l => if goodK x.key = false then false else if 200 < x.val.length then false else if (match p with | some k => decide (0 ≤ cmpK k x.key) | none => false) = true then false else gits (some x.key) l
theorem gits_cons {p : Option Key} {x : It} {l : List It} : gits p (x :: l) = if goodK x.key = false then false else if 200 < x.val.length then false else if (match p with | some k => decide (0 ≤ cmpK k x.key) | none => false) = true then false else gits (some x.key) l := rfl
theorem gits_nil {p : Option Key} : gits p [] = true := by cases p <;> rfl
def goodIts (l : List It) : Bool := gits none l && decide (l.length ≤ 200)
def nodeB (n : Int) : Bool := decide (0 ≤ n) && decide (n ≤ 255)
def goodM (m : Msg) : Bool := if m.kind < 1 then false else if 11 < m.kind then false else if nodeB m.frm = false then false else if nodeB m.tto = false then false else if m.id < 0 then false else if goodS m.stp = false then false
  else if 200 < m.val.length then false else if m.err < 0 then false else if 12 < m.err then false else decide (m.writes.length ≤ 16) && sgood [] m.writes && goodIts m.items
end Go.AM
namespace Go.AM
open Go
set_option maxRecDepth 20000
def EqItS (C : CallW) (f : FuncId) : Prop := ∀ (a b : List It) S H (K : AV → St → Prop), a.length ≤ 9223372036854775807 → b.length ≤ 9223372036854775807 → K (.bool (decide (a = b))) ⟨S, H⟩ → C (.fn f) [lstIt a, lstIt b] ⟨S, H⟩ K
theorem Equal_Item_spec {C : CallW} (hC : LeC C C) (P : Program) : ∀ (a b : List It) S H (K : AV → St → Prop), a.length ≤ 9223372036854775807 → b.length ≤ 9223372036854775807 → K (.bool (decide (a = b))) ⟨S, H⟩ → runL C P C_slices_Equal_Item [lstIt a, lstIt b] ⟨S, H⟩ K := by
  intro a b S H K ha hb hK
  by_cases hl : a.length = b.length
  case neg =>
    have hl' : ¬ ((a.length : Int) = (b.length : Int)) := by omega
    rw [decide_eq_false (fun e => hl (by rw [e]))] at hK
    simp only [lstIt, C_slices_Equal_Item, A_, simprocAttr, ne_eq, U_slices_Equal_Item.1, hl']
    exact hK
  have hl' := eq_true (show ((a.length : Int) = (b.length : Int)) by omega)
  simp only [lstIt, C_slices_Equal_Item, A_, simprocAttr, ne_eq, U_slices_Equal_Item.1, hl']
  refine loop_rule hC (α := Nat) (fun i => a.length - i) (fun i => [.list .sh 17 (a.map itA), .list .sh 17 (b.map itA), .undef, .undef, .undef, .undef, .undef, .undef, .undef, .undef, .undef, .undef, .s (.int .i64 a.length), .s (.int .i64 i), .undef, .undef, .undef, .undef, .undef, .undef, .undef, .undef, .undef, .undef, .undef, .undef]) (fun _ => S) (fun _ => H) (fun i => i ≤ a.length ∧ decide (a = b) = decide (a.drop i = b.drop i)) 0 ⟨by simp, by simp⟩ rfl (by simp) rfl (fun a _ => by simp [AV.under, AV.under.go]) ?_
  rintro i ⟨hi, hinv⟩ ih
  by_cases h16 : i < a.length
  · have hlt : ((i : Int) < (a.length : Int)) := by omega
    have h16' : i < b.length := by omega
    have hw : IntKind.i64.wrap ((i : Int) + 1) = (i : Int) + 1 := wrap_i64 (by omega) (by omega)
    rw [List.drop_eq_getElem_cons h16, List.drop_eq_getElem_cons h16'] at hinv
    by_cases he : a[i] = b[i]
    · have he' := eq_true he
      rw [he] at hinv
      simp only [List.cons.injEq, true_and] at hinv
      simp only [A_, simprocAttr, ne_eq, U_slices_Equal_Item.1, IT_, hlt, h16, h16', he', hw]
      exact ih (i + 1) _ _ _ (by omega) ⟨by omega, hinv⟩ rfl (by simp) rfl
    · simp only [List.cons.injEq, he, false_and, decide_false] at hinv
      rw [hinv] at hK
      simp only [A_, simprocAttr, ne_eq, U_slices_Equal_Item.1, IT_, hlt, h16, h16', he]
      exact hK
  · have hlt : ¬ ((i : Int) < (a.length : Int)) := by omega
    rw [List.drop_of_length_le (by omega), List.drop_of_length_le (by omega), decide_eq_true rfl] at hinv
    rw [hinv] at hK
    simp only [A_, simprocAttr, ne_eq, U_slices_Equal_Item.1, hlt]
    exact hK
theorem msg_node_spec {C : CallW} (P : Program) : ∀ (n : Int) S H (K : AV → St → Prop), K (.bool (nodeB n)) ⟨S, H⟩ → runL C P C_msg_node [.s (.int .i64 n)] ⟨S, H⟩ K := by
  intro n S H K hK
  unfold nodeB at hK
  by_cases h1 : 0 ≤ n
  · rw [decide_eq_true h1, Bool.true_and] at hK
    simp only [C_msg_node, A_, simprocAttr, ne_eq, U_msg_node.1, h1]
    exact hK
  · rw [decide_eq_false h1, Bool.false_and] at hK
    simp only [C_msg_node, A_, simprocAttr, ne_eq, U_msg_node.1, h1]
    exact hK
theorem msg_num_spec {C : CallW} (P : Program) {c : Nat → FuncId} (h0 : PutS C (c 0)) : ∀ (b : List UInt8) (v : Nat) S H (K : AV → St → Prop), b.length ≤ 1000000000 → v < 9223372036854775808 → K (.list .uniq 1 (bs (b ++ putN v))) ⟨S, H⟩ → runL C P (C_msg_num c) [.list .sh 1 (bs b), .s (.int .i64 v)] ⟨S, H⟩ K := by
  intro b v S H K hb hv hK
  have hw := wrap_u64n (n := v) (by omega)
  simp only [C_msg_num, A_, simprocAttr, ne_eq, (U_msg_num _).1, convL, hw]
  refine h0 _ b v _ _ _ .l hb (by omega) ?_
  simp only [A_, simprocAttr, ne_eq, (U_msg_num _).1]
  exact hK
theorem msg_text_spec {C : CallW} (P : Program) {c : Nat → FuncId} (h0 : NumS C (c 0)) : ∀ (b s : List UInt8) S H (K : AV → St → Prop), b.length ≤ 1000000000 → s.length ≤ 1000000000 → K (.list .uniq 1 (bs (b ++ (putN s.length ++ s)))) ⟨S, H⟩ → runL C P (C_msg_text c) [.list .sh 1 (bs b), .s (.str s)] ⟨S, H⟩ K := by
  intro b s S H K hb hs hK
  simp only [C_msg_text, A_, simprocAttr, ne_eq, (U_msg_text _).1]
  refine h0 _ b s.length _ _ _ .l hb (by omega) ?_
  have hl := putN_len10 (v := s.length) (by omega)
  have hap : ∀ σ, appendL ⟨1, false, 1, (.s (.int .u8 0))⟩ true (.list .uniq 1 (bs (b ++ putN s.length))) (.s (.str s)) σ = some (.list .uniq 1 (bs ((b ++ putN s.length) ++ s)), σ) := fun σ => app_bstr (by simp; omega)
  simp only [A_, simprocAttr, ne_eq, (U_msg_text _).1, hap]
  exact hK
end Go.AM
namespace Go.AM
open Go
set_option maxRecDepth 20000
def prevIt (l : List It) (i : Nat) : Option Key := if h : 0 < i ∧ i ≤ l.length then some (l[i - 1]'(by omega)).key else none
theorem prevIt_0 {l : List It} : prevIt l 0 = none := by unfold prevIt; rw [dif_neg (by omega)]
theorem prevIt_s {l : List It} {i : Nat} (h : i < l.length) : prevIt l (i + 1) = some (l[i]).key := by unfold prevIt; rw [dif_pos ⟨by omega, by omega⟩]; simp
theorem prevIt_p {l : List It} {i : Nat} (h : 0 < i) (h2 : i ≤ l.length) : prevIt l i = some (l[i - 1]'(by omega)).key := by unfold prevIt; rw [dif_pos ⟨h, h2⟩]
def GoodItsS (C : CallW) (f : FuncId) : Prop := ∀ (l : List It) S H (K : AV → St → Prop), l.length ≤ 9223372036854775807 → K (.bool (goodIts l)) ⟨S, H⟩ → C (.fn f) [lstIt l] ⟨S, H⟩ K
set_option maxHeartbeats 8000000 in
theorem msg_goodItems_spec {C : CallW} (hC : LeC C C) (P : Program) {c : Nat → FuncId} (h0 : BoolK goodK C (c 0)) (h1 : KCmp C (c 1)) : ∀ (l : List It) S H (K : AV → St → Prop), l.length ≤ 9223372036854775807 → K (.bool (goodIts l)) ⟨S, H⟩ → runL C P (C_msg_goodItems c) [lstIt l] ⟨S, H⟩ K := by
  intro l S H K hl hK
  unfold goodIts at hK
  simp only [lstIt, C_msg_goodItems, A_, simprocAttr, ne_eq, (U_msg_goodItems _).1, IT_]
  refine loop_rule hC (α := Nat) (fun a => l.length - a) (fun a => [.list .sh 17 (l.map itA), .undef, .undef, .undef, .undef, .list .sh 17 (l.map itA), .s (.int .i64 l.length), .s (.int .i64 a), .undef, .undef, .undef, .undef, .undef, .undef, .undef, .undef, .undef, .undef, .undef, .undef, .undef, .undef, .undef, .undef, .undef, .undef, .undef, .undef, .undef, .undef, .undef, .undef, .undef, .undef, .undef, .undef, .undef, .undef, .undef, .undef, .undef, .undef]) (fun _ => S) (fun _ => H) (fun i => i ≤ l.length ∧ gits none l = gits (prevIt l i) (l.drop i)) 0 ⟨by simp, by rw [prevIt_0]; rfl⟩ rfl (by simp) rfl (fun a _ => by simp [AV.under, AV.under.go]) ?_
  rintro i ⟨hi, hinv⟩ ih
  by_cases h16 : i < l.length
  · have hlt : ((i : Int) < (l.length : Int)) := by omega
    have hw : IntKind.i64.wrap ((i : Int) + 1) = (i : Int) + 1 := wrap_i64 (by omega) (by omega)
    rw [List.drop_eq_getElem_cons h16, gits_cons] at hinv
    simp only [A_, simprocAttr, ne_eq, (U_msg_goodItems _).1, IT_, hlt, h16]
    refine h0 _ _ _ _ ?_
    cases hg : goodK (l[i]).key with
    | false =>
      rw [if_pos hg] at hinv
      rw [hinv, Bool.false_and] at hK
      simp only [A_, simprocAttr, ne_eq, (U_msg_goodItems _).1, IT_]
      exact hK
    | true =>
    rw [if_neg (by rw [hg]; simp)] at hinv
    by_cases e3 : 200 < (l[i]).val.length
    · have e3' : ((200 : Int) < ((l[i]).val.length : Int)) := by omega
      rw [if_pos e3] at hinv
      rw [hinv, Bool.false_and] at hK
      simp only [A_, simprocAttr, ne_eq, (U_msg_goodItems _).1, IT_, e3']
      exact hK
    have e3' : ¬ ((200 : Int) < ((l[i]).val.length : Int)) := by omega
    rw [if_neg e3] at hinv
    by_cases hi0 : 0 < i
    · have hi0' : ((0 : Int) < (i : Int)) := by omega
      have hw1 : IntKind.i64.wrap ((i : Int) - 1) = ((i - 1 : Nat) : Int) := by rw [wrap_i64 (by omega) (by omega)]; omega
      have h17 : i - 1 < l.length := by omega
      rw [prevIt_p hi0 (by omega)] at hinv
      dsimp only at hinv
      simp only [A_, simprocAttr, ne_eq, (U_msg_goodItems _).1, IT_, e3', hi0', hw1, h17]
      refine h1 _ _ _ _ _ ?_
      by_cases e4 : 0 ≤ Lib.compareBytes (l[i - 1]).key.b (l[i]).key.b
      · rw [if_pos (show decide (0 ≤ cmpK (l[i - 1]).key (l[i]).key) = true from decide_eq_true e4)] at hinv
        rw [hinv, Bool.false_and] at hK
        simp only [A_, simprocAttr, ne_eq, (U_msg_goodItems _).1, IT_, e4]
        exact hK
      · rw [if_neg (show ¬ decide (0 ≤ cmpK (l[i - 1]).key (l[i]).key) = true from by rw [decide_eq_true_iff]; exact e4)] at hinv
        simp only [A_, simprocAttr, ne_eq, (U_msg_goodItems _).1, IT_, e4, hw]
        exact ih (i + 1) _ _ _ (by omega) ⟨by omega, by rw [prevIt_s h16]; exact hinv⟩ rfl (by simp) rfl
    · have hi0' : ¬ ((0 : Int) < (i : Int)) := by omega
      have : prevIt l i = none := by rw [show i = 0 by omega, prevIt_0]
      rw [this, if_neg (by simp)] at hinv
      simp only [A_, simprocAttr, ne_eq, (U_msg_goodItems _).1, IT_, e3', hi0', hw]
      exact ih (i + 1) _ _ _ (by omega) ⟨by omega, by rw [prevIt_s h16]; exact hinv⟩ rfl (by simp) rfl
  · have hlt : ¬ ((i : Int) < (l.length : Int)) := by omega
    rw [List.drop_of_length_le (by omega), gits_nil] at hinv
    rw [hinv, Bool.true_and] at hK
    by_cases e : l.length ≤ 200
    · have e' : ((l.length : Int) ≤ 200) := by omega
      rw [decide_eq_true e] at hK
      simp only [A_, simprocAttr, ne_eq, (U_msg_goodItems _).1, IT_, hlt, e']
      exact hK
    · have e' : ¬ ((l.length : Int) ≤ 200) := by omega
      rw [decide_eq_false e] at hK
      simp only [A_, simprocAttr, ne_eq, (U_msg_goodItems _).1, IT_, hlt, e']
      exact hK
def GoodMS (C : CallW) (f : FuncId) : Prop := ∀ (m : Msg) S H (K : AV → St → Prop), okM m → (∀ G, K (.bool (goodM m)) ⟨S, H ++ G⟩) → C (.fn f) [.agg (msc m)] ⟨S, H⟩ K
set_option maxHeartbeats 16000000 in
theorem msg_Good_spec {C : CallW} (P : Program) {c : Nat → FuncId} (h0 : ∀ n : Int, FnS C (c 0) [.s (.int .i64 n)] (.bool (nodeB n))) (h1 : ∀ s : Stp, FnS C (c 1) [.agg (stc s)] (.bool (goodS s))) (h2 : GoodWS C (c 2)) (h3 : GoodItsS C (c 3)) : ∀ (m : Msg) S H (K : AV → St → Prop), okM m → (∀ G, K (.bool (goodM m)) ⟨S, H ++ G⟩) → runL C P (C_msg_Good c) [.agg (msc m)] ⟨S, H⟩ K := by
  intro m S H K hm hK
  unfold goodM at hK
  have hK0 := hK []
  rw [List.append_nil] at hK0
  have h1' := h1 m.stp
  have h2' := h2 m.writes
  have h3' := h3 m.items
  unfold stc at h1'
  unfold lstW at h2'
  unfold lstIt at h3'
  by_cases a1 : m.kind < 1
  · rw [if_pos a1] at hK0
    simp only [msc, C_msg_Good, A_, simprocAttr, ne_eq, (U_msg_Good _).1, KG_, a1]
    exact hK0
  by_cases a2 : 11 < m.kind
  · rw [if_neg a1, if_pos a2] at hK0
    simp only [msc, C_msg_Good, A_, simprocAttr, ne_eq, (U_msg_Good _).1, KG_, a1, a2]
    exact hK0
  rw [if_neg a1, if_neg a2] at hK0
  simp only [if_neg a1, if_neg a2] at hK
  simp only [msc, C_msg_Good, A_, simprocAttr, ne_eq, (U_msg_Good _).1, KG_, a1, a2]
  refine h0 _ _ _ _ ?_
  cases a3 : nodeB m.frm with
  | false =>
    rw [if_pos a3] at hK0
    simp only [A_, simprocAttr, ne_eq, (U_msg_Good _).1, KG_]
    exact hK0
  | true =>
  rw [if_neg (by rw [a3]; simp)] at hK0
  rw [a3] at hK
  simp only [A_, simprocAttr, ne_eq, (U_msg_Good _).1, KG_]
  refine h0 _ _ _ _ ?_
  cases a4 : nodeB m.tto with
  | false =>
    rw [if_pos a4] at hK0
    simp only [A_, simprocAttr, ne_eq, (U_msg_Good _).1, KG_]
    exact hK0
  | true =>
  rw [if_neg (by rw [a4]; simp)] at hK0
  rw [a4] at hK
  by_cases a5 : m.id < 0
  · rw [if_pos a5] at hK0
    simp only [A_, simprocAttr, ne_eq, (U_msg_Good _).1, KG_, a5]
    exact hK0
  rw [if_neg a5] at hK0
  simp only [if_neg a5] at hK
  simp only [A_, simprocAttr, ne_eq, (U_msg_Good _).1, KG_, a5]
  refine h1' _ _ _ ?_
  cases a6 : goodS m.stp with
  | false =>
    rw [if_pos a6] at hK0
    simp only [A_, simprocAttr, ne_eq, (U_msg_Good _).1, KG_]
    exact hK0
  | true =>
  rw [if_neg (by rw [a6]; simp)] at hK0
  rw [a6] at hK
  by_cases a7 : 200 < m.val.length
  · have a7' : ((200 : Int) < (m.val.length : Int)) := by omega
    rw [if_pos a7] at hK0
    simp only [A_, simprocAttr, ne_eq, (U_msg_Good _).1, KG_, a7']
    exact hK0
  have a7' : ¬ ((200 : Int) < (m.val.length : Int)) := by omega
  rw [if_neg a7] at hK0
  by_cases a8 : m.err < 0
  · rw [if_pos a8] at hK0
    simp only [A_, simprocAttr, ne_eq, (U_msg_Good _).1, KG_, a7', a8]
    exact hK0
  rw [if_neg a8] at hK0
  by_cases a9 : 12 < m.err
  · rw [if_pos a9] at hK0
    simp only [A_, simprocAttr, ne_eq, (U_msg_Good _).1, KG_, a7', a8, a9]
    exact hK0
  rw [if_neg a9] at hK0
  simp only [if_neg a7, if_neg a8, if_neg a9, Bool.true_eq_false, if_false] at hK
  by_cases b1 : m.writes.length ≤ 16
  case neg =>
    have b1' : ¬ ((m.writes.length : Int) ≤ 16) := by omega
    rw [decide_eq_false b1, Bool.false_and, Bool.false_and] at hK0
    simp only [A_, simprocAttr, ne_eq, (U_msg_Good _).1, KG_, a7', a8, a9, b1']
    exact hK0
  have b1' : ((m.writes.length : Int) ≤ 16) := by omega
  rw [decide_eq_true b1] at hK
  simp only [Bool.true_and] at hK
  simp only [A_, simprocAttr, ne_eq, (U_msg_Good _).1, KG_, a7', a8, a9, b1']
  refine h2' _ _ _ hm.1 fun G => ?_
  have hKG := hK G
  cases b2 : sgood [] m.writes with
  | false =>
    rw [b2, Bool.false_and] at hKG
    simp only [A_, simprocAttr, ne_eq, (U_msg_Good _).1, KG_]
    exact hKG
  | true =>
  rw [b2, Bool.true_and] at hKG
  simp only [A_, simprocAttr, ne_eq, (U_msg_Good _).1, KG_]
  refine h3' _ _ _ hm.2.1 ?_
  simp only [A_, simprocAttr, ne_eq, (U_msg_Good _).1, KG_]
  exact hKG
end Go.AM
namespace Go.AM
open Go
set_option maxRecDepth 20000
def brc (m : Msg) : List AV := [.s (.int .i64 m.kind), .s (.int .i64 m.frm), .s (.int .i64 m.tto), .s (.int .i64 m.id), .s (.int .i64 m.num), .s (.int .i64 m.stp.t), u8 m.stp.n] ++ (bs m.key.b ++ (bs m.unt.b ++ [.s (.str m.val), .s (.bool m.found), .s (.bool m.yes), .s (.int .i64 m.err)]))
theorem brc_length (m : Msg) : (brc m).length = 43 := by simp [brc, kc_length]
theorem brc_under {n : Nat} {m : Msg} : AV.under.go n (brc m) = true := by simp [brc, under_app', under_bs, AV.under, AV.under.go, under_u8]
theorem brc_look (m : Msg) : (brc m).map AV.look = brc m := by simp [brc, map_look_bs, look_u8]; exact ⟨rfl, rfl, rfl, rfl, rfl, rfl, rfl, rfl, rfl, rfl⟩
theorem brc_take (m : Msg) : (brc m).take 43 = brc m := List.take_of_length_le (Nat.le_of_eq (brc_length m))
def bareEq (a b : Msg) : Bool := decide (a.kind = b.kind ∧ a.frm = b.frm ∧ a.tto = b.tto ∧ a.id = b.id ∧ a.num = b.num ∧ a.stp = b.stp ∧ a.key = b.key ∧ a.unt = b.unt ∧ a.val = b.val ∧ a.found = b.found ∧ a.yes = b.yes ∧ a.err = b.err)
theorem brc_beq (a b : Msg) : AV.beq.go (brc a) (brc b) = bareEq a b := by
  have e1 := beq_app_k a.unt b.unt
  have e2 := beq_app_k a.key b.key
  simp only [brc, List.cons_append, List.nil_append, AV.beq.go, AV.beq, e1, e2, beq_kk, u8_inj, Bool.and_true, Sc.int.injEq, Sc.str.injEq, Sc.bool.injEq, true_and]
  unfold bareEq
  have : ∀ x y : Stp, (x = y) = (x.t = y.t ∧ x.n = y.n) := fun x y => by cases x; cases y; simp [Stp.mk.injEq]
  simp only [this, Bool.decide_and, Bool.and_assoc]
abbrev brL : List LK := ([.int .i64, .int .i64, .int .i64, .int .i64, .int .i64, .int .i64] ++ lk ++ lk ++ [.int .u8, .str, .bool, .bool, .int .i64])
theorem brL_eq : brL = [.int .i64, .int .i64, .int .i64, .int .i64, .int .i64, .int .i64, .int .u8] ++ (lk ++ (lk ++ [.str, .bool, .bool, .int .i64])) := rfl
theorem brc_fits (m : Msg) : fitsL brL (brc m) = true := by
  rw [brL_eq]
  simp only [brc, List.cons_append, List.nil_append, fitsL, fits_kr, LK.fits, Bool.and_true, decide_true, Bool.true_and, u8]
theorem brc_bin {a b : Msg} : binL .eql (.leaf brL) (.agg (brc a)) (.agg (brc b)) = some (.s (.bool (bareEq a b))) := by
  simp only [binL, brc_fits, and_self, if_true, cellsEq, brc_beq]
abbrev brZ : List AV := ([(.s (.int .i64 0)), (.s (.int .i64 0)), (.s (.int .i64 0)), (.s (.int .i64 0)), (.s (.int .i64 0)), (.s (.int .i64 0))] ++ bs key0.b ++ bs key0.b ++ [(.s (.int .u8 0)), (.s (.str [])), (.s (.bool false)), (.s (.bool false)), (.s (.int .i64 0))])
theorem brZ_length : brZ.length = 43 := rfl
theorem brc_fill (m : Msg) : fillL brZ [(0, 1, .s (.int .i64 m.kind)), (1, 1, .s (.int .i64 m.frm)), (2, 1, .s (.int .i64 m.tto)), (3, 1, .s (.int .i64 m.id)), (4, 1, .s (.int .i64 m.num)), (5, 2, .agg [.s (.int .i64 m.stp.t), u8 m.stp.n]), (7, 16, .agg (bs m.key.b)), (23, 16, .agg (bs m.unt.b)), (39, 1, .s (.str m.val)), (40, 1, .s (.bool m.found)), (41, 1, .s (.bool m.yes)), (42, 1, .s (.int .i64 m.err))] = some (brc m) := by
  have hz : brZ = [(.s (.int .i64 0)), (.s (.int .i64 0)), (.s (.int .i64 0)), (.s (.int .i64 0)), (.s (.int .i64 0)), (.s (.int .i64 0)), (.s (.int .u8 0))] ++ (bs key0.b ++ (bs key0.b ++ [(.s (.str [])), (.s (.bool false)), (.s (.bool false)), (.s (.int .i64 0))])) := rfl
  rw [hz]
  have hf : ∀ x : UInt8, (u8 x).fit = true := fun _ => rfl
  simp [fillL, AV.cells, AV.fit, kc_length, take_kcG, drop_kcG, brc]
def PlainS (C : CallW) (f : FuncId) : Prop := ∀ (m : Msg), FnS C f [.agg (msc m)] (.agg (brc m))
set_option maxHeartbeats 16000000 in
theorem msg_plain_spec {C : CallW} (P : Program) : ∀ (m : Msg) S H (K : AV → St → Prop), K (.agg (brc m)) ⟨S, H⟩ → runL C P C_msg_plain [.agg (msc m)] ⟨S, H⟩ K := by
  intro m S H K hK
  have hfill := brc_fill m
  have hl := brc_length m
  have hzl := brZ_length
  simp only [List.cons_append, List.nil_append, List.append_assoc, brZ] at hfill hzl
  simp only [msc, C_msg_plain, A_, simprocAttr, ne_eq, U_msg_plain.1, KG_, hfill, List.append_assoc, hl, hzl, brc_under, brc_take, brc_look]
  exact hK
def SameMS (C : CallW) (f : FuncId) : Prop := ∀ (a b : Msg) S H (K : AV → St → Prop), okM a → okM b → K (.bool (decide (a = b))) ⟨S, H⟩ → C (.fn f) [.agg (msc a), .agg (msc b)] ⟨S, H⟩ K
theorem same_eq (a b : Msg) : (decide (a.writes = b.writes) && (decide (a.items = b.items) && bareEq a b)) = decide (a = b) := by
  unfold bareEq
  cases a; cases b
  simp only [Msg.mk.injEq, ← Bool.decide_and]
  apply decide_eq_decide.2
  constructor
  · rintro ⟨h1, h2, h3, h4, h5, h6, h7, h8, h9, h10, h11, h12, h13, h14⟩
    exact ⟨h3, h4, h5, h6, h7, h8, h9, h10, h1, h2, h11, h12, h13, h14⟩
  · rintro ⟨h3, h4, h5, h6, h7, h8, h9, h10, h1, h2, h11, h12, h13, h14⟩
    exact ⟨h1, h2, h3, h4, h5, h6, h7, h8, h9, h10, h11, h12, h13, h14⟩
set_option maxHeartbeats 16000000 in
theorem msg_Same_spec {C : CallW} (P : Program) {c : Nat → FuncId} (h0 : EqWS C (c 0)) (h1 : EqItS C (c 1)) (h2 : PlainS C (c 2)) : ∀ (a b : Msg) S H (K : AV → St → Prop), okM a → okM b → K (.bool (decide (a = b))) ⟨S, H⟩ → runL C P (C_msg_Same c) [.agg (msc a), .agg (msc b)] ⟨S, H⟩ K := by
  intro a b S H K ha hb hK
  rw [← same_eq] at hK
  have h0' := h0 a.writes b.writes
  have h1' := h1 a.items b.items
  have h2a := h2 a
  have h2b := h2 b
  have hbin := @brc_bin a b
  simp only [brL, List.cons_append, List.nil_append, List.append_assoc] at hbin
  unfold lstW at h0'
  unfold lstIt at h1'
  unfold msc at h2a h2b
  simp only [List.cons_append, List.nil_append] at h2a h2b
  simp only [msc, C_msg_Same, A_, simprocAttr, ne_eq, (U_msg_Same _).1, KG_]
  refine h0' _ _ _ ha.1 hb.1 ?_
  simp only [A_, simprocAttr, ne_eq, (U_msg_Same _).1, KG_]
  refine h1' _ _ _ ha.2.1 hb.2.1 ?_
  cases e1 : decide (a.writes = b.writes) with
  | false =>
    rw [e1, Bool.false_and] at hK
    simp only [A_, simprocAttr, ne_eq, (U_msg_Same _).1, KG_]
    exact hK
  | true =>
  rw [e1, Bool.true_and] at hK
  cases e2 : decide (a.items = b.items) with
  | false =>
    rw [e2, Bool.false_and] at hK
    simp only [A_, simprocAttr, ne_eq, (U_msg_Same _).1, KG_]
    exact hK
  | true =>
  rw [e2, Bool.true_and] at hK
  simp only [A_, simprocAttr, ne_eq, (U_msg_Same _).1, KG_]
  refine h2a _ _ _ ?_
  simp only [A_, simprocAttr, ne_eq, (U_msg_Same _).1, KG_]
  refine h2b _ _ _ ?_
  simp only [A_, simprocAttr, ne_eq, (U_msg_Same _).1, KG_, List.append_assoc, hbin]
  exact hK
end Go.AM
namespace Go.AM
open Go
set_option maxRecDepth 20000
structure okMB (m : Msg) : Prop where
  ws : m.writes.length ≤ 20
  vs : ∀ w ∈ m.writes, w.val.length ≤ 250
  is : m.items.length ≤ 20
  iv : ∀ w ∈ m.items, w.val.length ≤ 250
  vl : m.val.length ≤ 250
  il : -9223372036854775808 ≤ m.id
  ih : m.id ≤ 9223372036854775807
  nl : -9223372036854775808 ≤ m.num
  nh : m.num ≤ 9223372036854775807
theorem okMB.ok {m : Msg} (h : okMB m) : okM m := ⟨by have := h.ws; omega, by have := h.is; omega, by have := h.vl; omega, fun x hx => by have := h.iv x hx; omega⟩
def flB (f y : Bool) : UInt8 := match f, y with
  | false, false => 0
  | true, false => 1
  | false, true => 2
  | true, true => 3
def putIt (x : It) : List UInt8 := x.key.b ++ (putN x.val.length ++ x.val)
def hd2 (m : Msg) : List UInt8 := putN m.kind.toNat ++ (putN m.frm.toNat ++ (putN m.tto.toNat ++ (putN m.id.toNat ++ (putN (zig m.num) ++ putN (packN m.stp)))))
def tlB (m : Msg) : List UInt8 := putN m.val.length ++ (m.val ++ (flB m.found m.yes :: putN m.err.toNat))
def putM (m : Msg) : List UInt8 := if goodM m = false then [] else hd2 m ++ (m.key.b ++ (m.unt.b ++ (putWs m.writes ++ (putN m.items.length ++ (m.items.flatMap putIt ++ tlB m)))))
structure goodMp (m : Msg) : Prop where
  k1 : 1 ≤ m.kind
  k2 : m.kind ≤ 11
  f1 : 0 ≤ m.frm
  f2 : m.frm ≤ 255
  t1 : 0 ≤ m.tto
  t2 : m.tto ≤ 255
  i1 : 0 ≤ m.id
  s1 : goodS m.stp = true
  v1 : m.val.length ≤ 200
  e1 : 0 ≤ m.err
  e2 : m.err ≤ 12
  w1 : m.writes.length ≤ 16
  w2 : sgood [] m.writes = true
  g1 : gits none m.items = true
  g2 : m.items.length ≤ 200
theorem goodM_p {m : Msg} (h : goodM m = true) : goodMp m := by
  unfold goodM at h
  split at h
  · cases h
  split at h
  · cases h
  split at h
  · cases h
  split at h
  · cases h
  split at h
  · cases h
  split at h
  · cases h
  split at h
  · cases h
  split at h
  · cases h
  split at h
  · cases h
  rename_i a1 a2 a3 a4 a5 a6 a7 a8 a9
  unfold goodIts at h
  simp only [Bool.and_eq_true, decide_eq_true_eq] at h
  unfold nodeB at a3 a4
  simp at a3 a4
  exact ⟨by omega, by omega, by omega, by omega, by omega, by omega, by omega, by simpa using a6, by omega, by omega, by omega, h.1.1, h.1.2, h.2.1, h.2.2⟩
theorem putIt_len {x : It} (h : x.val.length ≤ 250) : (putIt x).length ≤ 280 := by
  have := putN_len10 (v := x.val.length) (by omega)
  unfold putIt
  simp [x.key.h]; omega
theorem putIts_len : ∀ (l : List It), (∀ w ∈ l, w.val.length ≤ 250) → (l.flatMap putIt).length ≤ 280 * l.length
  | [], _ => by simp
  | x :: l, h => by
    have h1 := putIts_len l fun y hy => h y (List.mem_cons_of_mem _ hy)
    have h2 := putIt_len (h x (List.mem_cons_self ..))
    rw [List.flatMap_cons, List.length_append, List.length_cons]
    omega
theorem flatIt_take {l : List It} {i : Nat} (h : i < l.length) : (l.take (i + 1)).flatMap putIt = (l.take i).flatMap putIt ++ putIt l[i] := by
  rw [List.take_succ_eq_append_getElem h, List.flatMap_append]; simp
theorem itc_last {S : List (List AV)} {H G : List HObj} {x : It} : storeL 17 (.ptr (.heap (H.length + G.length)) 0) (.agg (itc x)) ⟨S, H ++ (G ++ [.cells (bs key0.b ++ [.s (.str [])])])⟩ = some ⟨S, H ++ (G ++ [.cells (itc x)])⟩ := storeL_last (by simp [kc_length]) (itc_length x) (by omega) itc_under
theorem elems_keyM {σ : St} {r : Ref} {k : Key} {off : Nat} {pre rest : List AV} (h : boxOf σ r = some (pre ++ (bs k.b ++ rest))) (ho : pre.length = off) : elemsL eB (.row r off 16 16) σ = some (bs k.b) := by
  unfold elemsL
  have hl : off + 16 * 1 ≤ (pre ++ (bs k.b ++ rest)).length := by simp [kc_length]; omega
  have e : (false || (1 : Nat) == 1) = true := rfl
  simp only [eB, e, if_true, readCells, h, Option.bind_some, Nat.mul_one] at hl ⊢
  rw [if_pos ⟨hl, .inl (by omega)⟩]
  have : (((pre ++ (bs k.b ++ rest)).drop off).take 16).map AV.look = bs k.b := by rw [← ho, List.drop_left, take_kc, map_look_bs]
  simp only [Option.map_some, this]
  rw [group_any rfl rfl 16 _ (kc_length k)]
def NumKS (C : CallW) (f : FuncId) : Prop := ∀ (a : AV) (b : List UInt8) (v : Int) S H (K : AV → St → Prop), BA a b → b.length ≤ 1000000000 → 0 ≤ v → v < 9223372036854775808 → K (.list .uniq 1 (bs (b ++ putN v.toNat))) ⟨S, H⟩ → C (.fn f) [a, .s (.int .i64 v)] ⟨S, H⟩ K
theorem numK {C : CallW} {f : FuncId} (h : NumS C f) : NumKS C f := fun a b v S H K ha hb h0 h1 hK => by
  have := h a b v.toNat S H K ha hb (by omega) hK
  rwa [show ((v.toNat : Nat) : Int) = v by omega] at this
def PutMS (C : CallW) (f : FuncId) : Prop := ∀ (m : Msg) S H (K : AV → St → Prop), okMB m → (∀ G, K (.list .sh 1 (bs (putM m))) ⟨S, H ++ G⟩) → C (.fn f) [.agg (msc m)] ⟨S, H⟩ K
set_option maxHeartbeats 40000000 in
theorem msg_Put_spec {C : CallW} (hC : LeC C C) (P : Program) {c : Nat → FuncId} (h0 : GoodMS C (c 0)) (h1' : NumS C (c 1)) (h2 : ∀ s : Stp, FnS C (c 2) [.agg (stc s)] (.tup [.s (.int .u64 (packN s : Nat)), .s (.int .i64 (if goodS s = true then 0 else 1))])) (h3 : PutS C (c 3)) (h4 : ∀ v : Int, -9223372036854775808 ≤ v → v ≤ 9223372036854775807 → FnS C (c 4) [.s (.int .i64 v)] (.s (.int .u64 (zig v : Nat)))) (h5 : PutWS C (c 5)) (h6 : TxtS C (c 6)) :
    ∀ (m : Msg) S H (K : AV → St → Prop), okMB m → (∀ G, K (.list .sh 1 (bs (putM m))) ⟨S, H ++ G⟩) → runL C P (C_msg_Put c) [.agg (msc m)] ⟨S, H⟩ (WkK K) := by
  intro m S H K hm hK
  have h1 := numK h1'
  have h0' := h0 m
  have h2' := h2 m.stp
  have h4' := h4 m.num hm.nl hm.nh
  have h5' := fun a b => h5 a b m.writes
  unfold stc at h2'
  unfold lstW at h5'
  unfold msc at h0'
  simp only [List.cons_append, List.nil_append] at h0'
  simp only [msc, C_msg_Put, A_, simprocAttr, ne_eq, (U_msg_Put _).1, KG_]
  refine h0' _ _ _ hm.ok fun G => ?_
  unfold putM at hK
  cases hg : goodM m with
  | false =>
    have := hK ([.cells (msc m)] ++ G)
    rw [if_pos hg] at this
    simp only [A_, simprocAttr, ne_eq, (U_msg_Put _).1]
    exact ⟨.list .sh 1 (bs []), .inr (.nilS (by omega) .nil), by simpa [msc] using this⟩
  | true =>
  rw [if_neg (by rw [hg]; simp)] at hK
  have hp := goodM_p hg
  have p1 := putN_len10 (v := m.kind.toNat) (by have := hp.k2; omega)
  have p2 := putN_len10 (v := m.frm.toNat) (by have := hp.f2; omega)
  have p3 := putN_len10 (v := m.tto.toNat) (by have := hp.t2; omega)
  have p4 := putN_len10 (v := m.id.toNat) (by have := hm.ih; omega)
  have p5 := putN_len10 (v := zig m.num) (zig_lt hm.nl hm.nh)
  have p6 := pack_len m.stp
  simp only [A_, simprocAttr, ne_eq, (U_msg_Put _).1, KG_]
  refine h1 _ [] m.kind _ _ _ .n (by simp) (by have := hp.k1; omega) (by have := hp.k2; omega) ?_
  simp only [A_, simprocAttr, ne_eq, (U_msg_Put _).1, KG_]
  refine h1 _ _ m.frm _ _ _ .l (by first | omega | (simp only [List.length_append, List.length_nil]; omega)) hp.f1 (by have := hp.f2; omega) ?_
  simp only [A_, simprocAttr, ne_eq, (U_msg_Put _).1, KG_]
  refine h1 _ _ m.tto _ _ _ .l (by first | omega | (simp only [List.length_append, List.length_nil]; omega)) hp.t1 (by have := hp.t2; omega) ?_
  simp only [A_, simprocAttr, ne_eq, (U_msg_Put _).1, KG_]
  refine h2' _ _ _ ?_
  have hid : IntKind.u64.wrap m.id = ((m.id.toNat : Nat) : Int) := by rw [show m.id = ((m.id.toNat : Nat) : Int) by have := hp.i1; omega, wrap_u64n (by have := hm.ih; omega)]; simp
  simp only [A_, simprocAttr, ne_eq, (U_msg_Put _).1, KG_, convL, hid]
  refine h3 _ _ m.id.toNat _ _ _ .l (by first | omega | (simp only [List.length_append, List.length_nil]; omega)) (by have := hm.ih; omega) ?_
  simp only [A_, simprocAttr, ne_eq, (U_msg_Put _).1, KG_]
  refine h4' _ _ _ ?_
  simp only [A_, simprocAttr, ne_eq, (U_msg_Put _).1, KG_]
  refine h3 _ _ (zig m.num) _ _ _ .l (by first | omega | (simp only [List.length_append, List.length_nil]; omega)) (zig_lt hm.nl hm.nh) ?_
  simp only [A_, simprocAttr, ne_eq, (U_msg_Put _).1, KG_]
  refine h3 _ _ (packN m.stp) _ _ _ .l (by first | omega | (simp only [List.length_append, List.length_nil]; omega)) (by have := packN_lt m.stp; omega) ?_
  have hhd : putN m.kind.toNat ++ (putN m.frm.toNat ++ (putN m.tto.toNat ++ (putN m.id.toNat ++ putN (zig m.num)))) ++ putN (packN m.stp) = hd2 m := by simp only [hd2, List.append_assoc]
  rw [hhd]
  have hhl : (hd2 m).length ≤ 60 := by unfold hd2; simp only [List.length_append]; omega
  generalize hd2 m = b0 at hhl hK ⊢
  have hk := m.key.h
  have hu := m.unt.h
  have hsl7 : ∀ off, sliceL (.arr 16 1) (.ptr (.heap H.length) off) none none none = some (.row (.heap H.length) off 16 16) := fun off => by simp [sliceL, bound]
  have hcells : ∀ (X : List HObj), boxOf ⟨S, H ++ (HObj.cells (AV.s (.int .i64 m.kind) :: AV.s (.int .i64 m.frm) :: AV.s (.int .i64 m.tto) :: AV.s (.int .i64 m.id) :: AV.s (.int .i64 m.num) :: AV.s (.int .i64 m.stp.t) :: u8 m.stp.n :: (bs m.key.b ++ (bs m.unt.b ++ [.list .sh 18 (m.writes.map wA), .list .sh 17 (m.items.map itA), .s (.str m.val), .s (.bool m.found), .s (.bool m.yes), .s (.int .i64 m.err)]))) :: X)⟩ (.heap H.length) = some (msc m) := fun X => by rw [boxOf_heap, app_get0]; rfl
  have happ1 : ∀ (X : List HObj), appendL ⟨1, false, 1, (.s (.int .u8 0))⟩ false (.list .uniq 1 (bs b0)) (.row (.heap H.length) 7 16 16) ⟨S, H ++ (HObj.cells (AV.s (.int .i64 m.kind) :: AV.s (.int .i64 m.frm) :: AV.s (.int .i64 m.tto) :: AV.s (.int .i64 m.id) :: AV.s (.int .i64 m.num) :: AV.s (.int .i64 m.stp.t) :: u8 m.stp.n :: (bs m.key.b ++ (bs m.unt.b ++ [.list .sh 18 (m.writes.map wA), .list .sh 17 (m.items.map itA), .s (.str m.val), .s (.bool m.found), .s (.bool m.yes), .s (.int .i64 m.err)]))) :: X)⟩ = some (.list .uniq 1 (bs (b0 ++ m.key.b)), _) := fun X => app_bu2 (b := b0) (d := m.key.b) rfl (elems_keyM (pre := [.s (.int .i64 m.kind), .s (.int .i64 m.frm), .s (.int .i64 m.tto), .s (.int .i64 m.id), .s (.int .i64 m.num), .s (.int .i64 m.stp.t), u8 m.stp.n]) (hcells X) rfl) (by omega)
  have happ2 : ∀ (X : List HObj), appendL ⟨1, false, 1, (.s (.int .u8 0))⟩ false (.list .uniq 1 (bs (b0 ++ m.key.b))) (.row (.heap H.length) 23 16 16) ⟨S, H ++ (HObj.cells (AV.s (.int .i64 m.kind) :: AV.s (.int .i64 m.frm) :: AV.s (.int .i64 m.tto) :: AV.s (.int .i64 m.id) :: AV.s (.int .i64 m.num) :: AV.s (.int .i64 m.stp.t) :: u8 m.stp.n :: (bs m.key.b ++ (bs m.unt.b ++ [.list .sh 18 (m.writes.map wA), .list .sh 17 (m.items.map itA), .s (.str m.val), .s (.bool m.found), .s (.bool m.yes), .s (.int .i64 m.err)]))) :: X)⟩ = some (.list .uniq 1 (bs (b0 ++ m.key.b ++ m.unt.b)), _) := fun X => app_bu2 (b := b0 ++ m.key.b) (d := m.unt.b) rfl (elems_keyM (pre := [.s (.int .i64 m.kind), .s (.int .i64 m.frm), .s (.int .i64 m.tto), .s (.int .i64 m.id), .s (.int .i64 m.num), .s (.int .i64 m.stp.t), u8 m.stp.n] ++ bs m.key.b) (by rw [hcells X]; unfold msc; rw [← List.append_assoc]) (by simp [kc_length])) (by rw [List.length_append]; omega)
  simp only [A_, simprocAttr, ne_eq, (U_msg_Put _).1, KG_, hsl7, happ1, happ2]
  have hwv : ∀ w ∈ m.writes, w.val.length ≤ 100000 := fun w hw => by have := hm.vs w hw; omega
  refine h5' _ (b0 ++ m.key.b ++ m.unt.b) _ _ _ (by simp only [List.append_assoc]; exact .l) (by simp only [List.length_append]; omega) (by have := hm.ws; omega) hwv fun G2 => ?_
  have hlist : b0 ++ m.key.b ++ m.unt.b ++ putWs m.writes = b0 ++ (m.key.b ++ (m.unt.b ++ putWs m.writes)) := by simp only [List.append_assoc]
  rw [hlist]
  have hwl := putWs_le hm.ws hm.vs
  have pil := putN_len10 (v := m.items.length) (by have := hm.is; omega)
  have hil := hm.is
  have hl1 : (b0 ++ (m.key.b ++ (m.unt.b ++ putWs m.writes))).length ≤ 20000 := by simp only [List.length_append]; omega
  have hK2 : ∀ X, K (.list .sh 1 (bs ((b0 ++ (m.key.b ++ (m.unt.b ++ putWs m.writes))) ++ (putN m.items.length ++ (m.items.flatMap putIt ++ tlB m))))) ⟨S, H ++ X⟩ := fun X => by
    have := hK X
    simpa only [List.append_assoc] using this
  clear happ1 happ2 hlist
  generalize b0 ++ (m.key.b ++ (m.unt.b ++ putWs m.writes)) = b1 at hl1 hK2 ⊢
  simp only [A_, simprocAttr, ne_eq, (U_msg_Put _).1, KG_]
  refine h1 _ b1 ((m.items.length : Nat) : Int) _ _ _ .l (by omega) (by omega) (by omega) ?_
  rw [Int.toNat_natCast]
  simp only [A_, simprocAttr, ne_eq, (U_msg_Put _).1, KG_]
  have hX0 : ∀ (G' Y : List HObj), ((HObj.cells (AV.s (.int .i64 m.kind) :: AV.s (.int .i64 m.frm) :: AV.s (.int .i64 m.tto) :: AV.s (.int .i64 m.id) :: AV.s (.int .i64 m.num) :: AV.s (.int .i64 m.stp.t) :: u8 m.stp.n :: (bs m.key.b ++ (bs m.unt.b ++ [.list .sh 18 (m.writes.map wA), .list .sh 17 (m.items.map itA), .s (.str m.val), .s (.bool m.found), .s (.bool m.yes), .s (.int .i64 m.err)]))) :: G') ++ Y)[0]? = some (HObj.cells (AV.s (.int .i64 m.kind) :: AV.s (.int .i64 m.frm) :: AV.s (.int .i64 m.tto) :: AV.s (.int .i64 m.id) :: AV.s (.int .i64 m.num) :: AV.s (.int .i64 m.stp.t) :: u8 m.stp.n :: (bs m.key.b ++ (bs m.unt.b ++ [.list .sh 18 (m.writes.map wA), .list .sh 17 (m.items.map itA), .s (.str m.val), .s (.bool m.found), .s (.bool m.yes), .s (.int .i64 m.err)])))) := fun _ _ => rfl
  generalize hXe : (HObj.cells (AV.s (.int .i64 m.kind) :: AV.s (.int .i64 m.frm) :: AV.s (.int .i64 m.tto) :: AV.s (.int .i64 m.id) :: AV.s (.int .i64 m.num) :: AV.s (.int .i64 m.stp.t) :: u8 m.stp.n :: (bs m.key.b ++ (bs m.unt.b ++ [.list .sh 18 (m.writes.map wA), .list .sh 17 (m.items.map itA), .s (.str m.val), .s (.bool m.found), .s (.bool m.yes), .s (.int .i64 m.err)]))) :: (G ++ G2)) = X
  have hX := hX0 (G ++ G2)
  rw [hXe] at hX
  clear hX0 hXe hcells
  refine loop_rule hC (α := Nat × List HObj) (fun a => m.items.length - a.1) (fun a => [.undef, .ptr (.heap H.length) 0, .undef, .list .uniq 1 (bs (b1 ++ (putN m.items.length ++ (m.items.take a.1).flatMap putIt))), .undef, .undef, .undef, .undef, .undef, .undef, .undef, .undef, .undef, .undef, .undef, .undef, .undef, .undef, .undef, .undef, .undef, .undef, .undef, .undef, .undef, .undef, .undef, .undef, .undef, .undef, .undef, .undef, .undef, .undef, .undef, .undef, .undef, .undef, .undef, .undef, .undef, .undef, .undef, .undef, .undef, .undef, .undef, .undef, .undef, .undef, .undef, .undef, .undef, .undef, .list .sh 17 (m.items.map itA), .s (.int .i64 m.items.length), .s (.int .i64 a.1), .undef, .undef, .undef, .undef, .undef, .undef, .undef, .undef, .undef, .undef, .undef, .undef, .undef, .undef, .undef, .undef, .undef, .undef, .undef, .undef, .undef, .undef, .undef, .undef, .undef, .undef, .undef, .undef, .undef]) (fun _ => S) (fun a => H ++ (X ++ a.2)) (fun a => a.1 ≤ m.items.length) (0, []) (by simp) (by simp [keep, zm]) (by simp) (by simp) (fun a _ => by simp [AV.under, AV.under.go]) ?_
  rintro ⟨i, Y⟩ hi ih
  dsimp only at hi ih ⊢
  have hcl : (b1 ++ (putN m.items.length ++ (m.items.take i).flatMap putIt)).length ≤ 40000 := by
    have := putIts_len (m.items.take i) (fun w hw => hm.iv w (List.mem_of_mem_take hw))
    rw [List.length_take] at this
    have h3 : 280 * min i m.items.length ≤ 280 * 20 := Nat.mul_le_mul_left _ (by omega)
    simp only [List.length_append]
    omega
  by_cases h16 : i < m.items.length
  · have hlt : ((i : Int) < (m.items.length : Int)) := by omega
    have hw : IntKind.i64.wrap ((i : Int) + 1) = (i : Int) + 1 := wrap_i64 (by omega) (by omega)
    have hvi := hm.iv m.items[i] (List.getElem_mem h16)
    have hki := (m.items[i]).key.h
    have hnext : b1 ++ (putN m.items.length ++ (m.items.take (i + 1)).flatMap putIt) = (b1 ++ (putN m.items.length ++ (m.items.take i).flatMap putIt)) ++ ((m.items[i]).key.b ++ (putN (m.items[i]).val.length ++ (m.items[i]).val)) := by
      rw [flatIt_take h16, putIt]; simp only [List.append_assoc]
    have ih2 := ih (i + 1, Y ++ [.cells (itc m.items[i])])
    dsimp only at ih2
    rw [hnext] at ih2
    generalize b1 ++ (putN m.items.length ++ (m.items.take i).flatMap putIt) = cur at hcl ih2 ⊢
    have hst := itc_last (S := S) (H := H) (G := X ++ Y) (x := m.items[i])
    simp only [List.length_append, List.append_assoc] at hst
    have hb1 : boxOf ⟨S, H ++ (X ++ (Y ++ [HObj.cells (itc m.items[i])]))⟩ (.heap (H.length + (X.length + Y.length))) = some (itc m.items[i]) := by
      rw [boxOf_heap, app_get, app_get, List.getElem?_append_right (Nat.le_refl _)]; simp [cellsOf?]
    have hbx : (H ++ (X ++ (Y ++ [HObj.cells (itc m.items[i])])))[H.length + (X.length + Y.length)]? = some (.cells (itc m.items[i])) := by
      rw [app_get, app_get, List.getElem?_append_right (Nat.le_refl _)]; simp
    have hslx : sliceL (.arr 16 1) (.ptr (.heap (H.length + (X.length + Y.length))) 0) none none none = some (.row (.heap (H.length + (X.length + Y.length))) 0 16 16) := by simp [sliceL, bound]
    have happ := app_bu2 (b := cur) (d := (m.items[i]).key.b) (x := .row (.heap (H.length + (X.length + Y.length))) 0 16 16) (σ := ⟨S, H ++ (X ++ (Y ++ [HObj.cells (itc m.items[i])]))⟩) rfl (elems_key (rest := [.s (.str (m.items[i]).val)]) (by rw [hb1]; rfl)) (by omega)
    simp only [eB] at happ
    simp only [A_, simprocAttr, ne_eq, (U_msg_Put _).1, IT_, hlt, h16, hst, happ, hslx, hbx]
    refine h6 _ (cur ++ (m.items[i]).key.b) (m.items[i]).val _ _ _ .l (by simp only [List.length_append]; omega) (by omega) ?_
    simp only [A_, simprocAttr, ne_eq, (U_msg_Put _).1, hw]
    exact ih2 _ _ _ (by omega) (by omega) rfl (by simp) (by simp)
  · have hlt : ¬ ((i : Int) < (m.items.length : Int)) := by omega
    have hti : m.items.take i = m.items := List.take_of_length_le (by omega)
    rw [hti] at hcl ⊢
    generalize hcur : b1 ++ (putN m.items.length ++ m.items.flatMap putIt) = cur at hcl ⊢
    have or01 : IntKind.u8.wrap (((BitVec.ofInt IntKind.u8.bits 0 ||| BitVec.ofInt IntKind.u8.bits 1).toNat : Nat) : Int) = 1 := by decide
    have or02 : IntKind.u8.wrap (((BitVec.ofInt IntKind.u8.bits 0 ||| BitVec.ofInt IntKind.u8.bits 2).toNat : Nat) : Int) = 2 := by decide
    have or12 : IntKind.u8.wrap (((BitVec.ofInt IntKind.u8.bits 1 ||| BitVec.ofInt IntKind.u8.bits 2).toNat : Nat) : Int) = 3 := by decide
    have hvl := hm.vl
    have pvl := putN_len10 (v := m.val.length) (by omega)
    cases hf : m.found <;> cases hy : m.yes
    · have hap : ∀ σ, appendL ⟨1, false, 1, (.s (.int .u8 0))⟩ false (.list .uniq 1 (bs (cur ++ (putN m.val.length ++ m.val)))) (.list .full 1 [.s (.int .u8 0)]) σ = some (.list .uniq 1 (bs (cur ++ (putN m.val.length ++ m.val) ++ [0])), σ) := fun σ => app_b1 (c := 0) (.inl rfl) (by simp only [List.length_append]; omega)
      simp only [A_, simprocAttr, ne_eq, (U_msg_Put _).1, KG_, hlt, hX, hf, hy, or01, or02, or12]
      refine h6 _ cur m.val _ _ _ .l (by omega) (by omega) ?_
      simp only [A_, simprocAttr, ne_eq, (U_msg_Put _).1, KG_, hX, hap]
      refine h1 _ _ m.err _ _ _ .l (by simp only [List.length_append, List.length_cons, List.length_nil]; omega) hp.e1 (by have := hp.e2; omega) ?_
      simp only [A_, simprocAttr, ne_eq, (U_msg_Put _).1, KG_]
      refine wk_uniq ?_
      have := hK2 (X ++ Y)
      rw [tlB, hf, hy] at this
      rw [← hcur]
      simpa only [flB, List.append_assoc, List.cons_append, List.nil_append] using this
    · have hap : ∀ σ, appendL ⟨1, false, 1, (.s (.int .u8 0))⟩ false (.list .uniq 1 (bs (cur ++ (putN m.val.length ++ m.val)))) (.list .full 1 [.s (.int .u8 2)]) σ = some (.list .uniq 1 (bs (cur ++ (putN m.val.length ++ m.val) ++ [2])), σ) := fun σ => app_b1 (c := 2) (.inl rfl) (by simp only [List.length_append]; omega)
      simp only [A_, simprocAttr, ne_eq, (U_msg_Put _).1, KG_, hlt, hX, hf, hy, or01, or02, or12]
      refine h6 _ cur m.val _ _ _ .l (by omega) (by omega) ?_
      simp only [A_, simprocAttr, ne_eq, (U_msg_Put _).1, KG_, hX, hap]
      refine h1 _ _ m.err _ _ _ .l (by simp only [List.length_append, List.length_cons, List.length_nil]; omega) hp.e1 (by have := hp.e2; omega) ?_
      simp only [A_, simprocAttr, ne_eq, (U_msg_Put _).1, KG_]
      refine wk_uniq ?_
      have := hK2 (X ++ Y)
      rw [tlB, hf, hy] at this
      rw [← hcur]
      simpa only [flB, List.append_assoc, List.cons_append, List.nil_append] using this
    · have hap : ∀ σ, appendL ⟨1, false, 1, (.s (.int .u8 0))⟩ false (.list .uniq 1 (bs (cur ++ (putN m.val.length ++ m.val)))) (.list .full 1 [.s (.int .u8 1)]) σ = some (.list .uniq 1 (bs (cur ++ (putN m.val.length ++ m.val) ++ [1])), σ) := fun σ => app_b1 (c := 1) (.inl rfl) (by simp only [List.length_append]; omega)
      simp only [A_, simprocAttr, ne_eq, (U_msg_Put _).1, KG_, hlt, hX, hf, hy, or01, or02, or12]
      refine h6 _ cur m.val _ _ _ .l (by omega) (by omega) ?_
      simp only [A_, simprocAttr, ne_eq, (U_msg_Put _).1, KG_, hX, hap]
      refine h1 _ _ m.err _ _ _ .l (by simp only [List.length_append, List.length_cons, List.length_nil]; omega) hp.e1 (by have := hp.e2; omega) ?_
      simp only [A_, simprocAttr, ne_eq, (U_msg_Put _).1, KG_]
      refine wk_uniq ?_
      have := hK2 (X ++ Y)
      rw [tlB, hf, hy] at this
      rw [← hcur]
      simpa only [flB, List.append_assoc, List.cons_append, List.nil_append] using this
    · have hap : ∀ σ, appendL ⟨1, false, 1, (.s (.int .u8 0))⟩ false (.list .uniq 1 (bs (cur ++ (putN m.val.length ++ m.val)))) (.list .full 1 [.s (.int .u8 3)]) σ = some (.list .uniq 1 (bs (cur ++ (putN m.val.length ++ m.val) ++ [3])), σ) := fun σ => app_b1 (c := 3) (.inl rfl) (by simp only [List.length_append]; omega)
      simp only [A_, simprocAttr, ne_eq, (U_msg_Put _).1, KG_, hlt, hX, hf, hy, or01, or02, or12]
      refine h6 _ cur m.val _ _ _ .l (by omega) (by omega) ?_
      simp only [A_, simprocAttr, ne_eq, (U_msg_Put _).1, KG_, hX, hap]
      refine h1 _ _ m.err _ _ _ .l (by simp only [List.length_append, List.length_cons, List.length_nil]; omega) hp.e1 (by have := hp.e2; omega) ?_
      simp only [A_, simprocAttr, ne_eq, (U_msg_Put _).1, KG_]
      refine wk_uniq ?_
      have := hK2 (X ++ Y)
      rw [tlB, hf, hy] at this
      rw [← hcur]
      simpa only [flB, List.append_assoc, List.cons_append, List.nil_append] using this
end Go.AM
namespace Go.AM
open Go
def bnd {α β : Type} (f : Rd → α × Rd) (g : α → Rd → β × Rd) : Rd → β × Rd := fun r => g (f r).1 (f r).2
def ret {α : Type} (a : α) : Rd → α × Rd := fun r => (a, r)
theorem bnd_eq {α β : Type} {f : Rd → α × Rd} {g : α → Rd → β × Rd} {r : Rd} {a : α} {q : Rd} (h : f r = (a, q)) : bnd f g r = g a q := by unfold bnd; rw [h]
def itR : Rd → It × Rd := bnd keyR fun k => bnd (bnd (mostR 200) textR) fun v => ret ⟨k, v⟩
def itsR : Nat → Rd → List It × Rd
  | 0, r => ([], r)
  | n + 1, r => ((itR r).1 :: (itsR n (itR r).2).1, (itsR n (itR r).2).2)
def tailR (f : List It → List UInt8 → Nat → Nat → Msg) : Rd → Msg × Rd :=
  bnd (mostR 200) fun n => bnd (itsR n) fun is => bnd (bnd (mostR 200) textR) fun v => bnd (mostR 3) fun fl => bnd (mostR 12) fun er => ret (f is v fl er)
def mkM (k fr to : Nat) (id num : Int) (st : Stp) (ke un : Key) (ws : List Wr) (is : List It) (v : List UInt8) (fl er : Nat) : Msg := ⟨k, fr, to, id, num, st, ke, un, ws, is, v, decide (fl % 2 = 1), decide (fl / 2 % 2 = 1), er⟩
def readM : Rd → Msg × Rd :=
  bnd (mostR 11) fun k => bnd (mostR 255) fun fr => bnd (mostR 255) fun to => bnd numR fun id => bnd numR fun nm => bnd stampR fun st => bnd keyR fun ke => bnd keyR fun un => bnd writesR fun ws =>
    tailR (mkM k fr to (IntKind.i64.wrap id) (zag nm) st ke un ws)
def zMsg : Msg := ⟨0, 0, 0, 0, 0, ⟨0, 0⟩, key0, key0, [], [], [], false, false, 0⟩
def getM (b : List UInt8) : Msg × Int := if (readM (some b)).2 = some [] ∧ goodM (readM (some b)).1 = true then ((readM (some b)).1, 0) else (zMsg, 3)
end Go.AM
namespace Go.AM
open Go
set_option maxRecDepth 20000
def tupM (x : Msg × Int) : AV := .tup [.agg (msc x.1), .s (.int .i64 x.2)]
def GetMS (C : CallW) (f : FuncId) : Prop := ∀ (a : AV) (b : List UInt8) S H (K : AV → St → Prop), BA a b → b.length ≤ 9223372036854775807 → (∀ G, K (tupM (getM b)) ⟨S, H ++ G⟩) → C (.fn f) [a] ⟨S, H⟩ K
theorem msc_cell {m : Msg} : ∀ c ∈ msc m, c.isCell = true := by
  intro c hc
  simp only [msc, List.cons_append, List.nil_append, List.mem_cons, List.mem_append, List.not_mem_nil, or_false] at hc
  rcases hc with rfl | rfl | rfl | rfl | rfl | rfl | rfl | h | h | rfl | rfl | rfl | rfl | rfl | rfl
  case inr.inr.inr.inr.inr.inr.inr.inl => exact u8_isCell c h
  case inr.inr.inr.inr.inr.inr.inr.inr.inl => exact u8_isCell c h
  all_goals rfl
def mbx (m : Msg) (x z : AV) : List AV := AV.s (.int .i64 m.kind) :: AV.s (.int .i64 m.frm) :: AV.s (.int .i64 m.tto) :: AV.s (.int .i64 m.id) :: AV.s (.int .i64 m.num) :: AV.s (.int .i64 m.stp.t) :: u8 m.stp.n :: (bs m.key.b ++ (bs m.unt.b ++ [x, z, .s (.str m.val), .s (.bool m.found), .s (.bool m.yes), .s (.int .i64 m.err)]))
theorem WkL.pre : ∀ (l : List AV) {a b : List AV}, WkL a b → WkL (l ++ a) (l ++ b)
  | [], _, _, h => h
  | _ :: l, _, _, h => .same (WkL.pre l h)
theorem mbx_wk0 (m : Msg) (x z : AV) (hx : x = .list .sh 18 (m.writes.map wA) ∨ x = .s .nilS ∧ m.writes = []) (hz : z = .list .sh 17 (m.items.map itA) ∨ z = .s .nilS ∧ m.items = []) : WkL (mbx m x z) (msc m) := by
  refine .same (.same (.same (.same (.same (.same (.same ?_))))))
  refine WkL.pre _ (WkL.pre _ ?_)
  rcases hx with rfl | ⟨rfl, h1⟩ <;> rcases hz with rfl | ⟨rfl, h2⟩
  · exact WkL.refl _
  · rw [h2]; exact .same (.nilS (by omega) (WkL.refl _))
  · rw [h1]; exact .nilS (by omega) (WkL.refl _)
  · rw [h1, h2]; exact .nilS (by omega) (.nilS (by omega) (WkL.refl _))
theorem mbx_wkF (m : Msg) (x z : AV) (hx : x = .list .sh 18 (m.writes.map wA) ∨ x = .s .nilS ∧ m.writes = []) (hz : z = .list .sh 17 (m.items.map itA) ∨ z = .s .nilS ∧ m.items = []) : WkF [.agg (mbx m x z)] [.agg (msc m)] := .wk (show WkL [(AV.agg (mbx m x z)).sh] [.agg (msc m)] from WkL.agg (mbx_wk0 m x z hx hz) msc_cell .nil) .nil
theorem mbx_wkT (m : Msg) (x z e : AV) (hx : x = .list .sh 18 (m.writes.map wA) ∨ x = .s .nilS ∧ m.writes = []) (hz : z = .list .sh 17 (m.items.map itA) ∨ z = .s .nilS ∧ m.items = []) : WkL [(AV.tup [.agg (mbx m x z), e]).sh] [.tup [.agg (msc m), e]] := by
  have hsh : ∀ l, (AV.tup l).sh = .tup l := fun _ => rfl
  rw [hsh]
  exact .tup (.agg (mbx_wk0 m x z hx hz) msc_cell (.same .nil)) .nil
theorem zmsg_wkT (e : AV) : WkL [(AV.tup [.agg (mbx zMsg (.s .nilS) (.s .nilS)), e]).sh] [.tup [.agg (msc zMsg), e]] := mbx_wkT zMsg _ _ e (.inr ⟨rfl, rfl⟩) (.inr ⟨rfl, rfl⟩)
theorem zm_eq : (AV.s (.int .i64 0)) :: (AV.s (.int .i64 0)) :: (AV.s (.int .i64 0)) :: (AV.s (.int .i64 0)) :: (AV.s (.int .i64 0)) :: (AV.s (.int .i64 0)) :: (bs key0.b ++ (bs key0.b ++ [(.s (.int .u8 0)), (.s .nilS), (.s .nilS), (.s (.str [])), (.s (.bool false)), (.s (.bool false)), (.s (.int .i64 0))])) = (AV.s (.int .i64 0)) :: (AV.s (.int .i64 0)) :: (AV.s (.int .i64 0)) :: (AV.s (.int .i64 0)) :: (AV.s (.int .i64 0)) :: (AV.s (.int .i64 0)) :: u8 0 :: (bs key0.b ++ (bs key0.b ++ [(.s .nilS), (.s .nilS), (.s (.str [])), (.s (.bool false)), (.s (.bool false)), (.s (.int .i64 0))])) := rfl
theorem app_nilT {e : ET} {k : Key} {v : List UInt8} {σ : St} (h1 : e.c = 17) (h2 : e.bytes = 32) : appendL e false (.s .nilS) (.list .full 17 [.agg (bs k.b ++ [.s (.str v)])]) σ = some (.list .uniq 17 [itA ⟨k, v⟩], σ) := by
  have h := elems_list (e := e) (fl := .full) (es := [itA ⟨k, v⟩]) (σ := σ)
  rw [h1] at h
  have hu : AV.under 0 (itA ⟨k, v⟩) = true := itA_under
  show appendL e false (.s .nilS) (.list .full 17 [itA ⟨k, v⟩]) σ = _
  simp [appendL, srcL, AV.isSlice, h, AV.under.go, hu, appItems, h1, h2]
theorem app_ownT {e : ET} {k : Key} {v : List UInt8} {l : List It} {σ : St} (h1 : e.c = 17) (h2 : e.bytes = 32) (hl : l.length ≤ 1000000) : appendL e false (.list .own 17 (l.map itA)) (.list .full 17 [.agg (bs k.b ++ [.s (.str v)])]) σ = some (.list .own 17 ((l ++ [(⟨k, v⟩ : It)]).map itA), σ) := by
  have h := elems_list (e := e) (fl := .full) (es := [itA ⟨k, v⟩]) (σ := σ)
  rw [h1] at h
  have hu : AV.under 0 (itA ⟨k, v⟩) = true := itA_under
  have hb : 2 * ((l.map itA).length + 1) * 32 ≤ 2 ^ 48 := by simp; omega
  show appendL e false (.list .own 17 (l.map itA)) (.list .full 17 [itA ⟨k, v⟩]) σ = _
  simp [appendL, srcL, AV.isSlice, h, AV.under.go, hu, appItems, h1, h2]
  simpa using hb
theorem itsR_vals : ∀ (n : Nat) (r : Rd) (x : It), x ∈ (itsR n r).1 → x.val.length ≤ 200
  | 0, r, x, h => by cases h
  | n + 1, r, x, h => by
    rw [itsR] at h
    rcases List.mem_cons.1 h with rfl | h
    · have := textR_len (mostR 200 (keyR r).2).1 (mostR 200 (keyR r).2).2
      have h2 := mostR_le 200 (keyR r).2
      show (textR (mostR 200 (keyR r).2).1 (mostR 200 (keyR r).2).2).1.length ≤ 200
      omega
    · exact itsR_vals n _ x h
def slT (l : List It) : AV := if l = [] then .s .nilS else .list .own 17 (l.map itA)
theorem and1 : ∀ n : Nat, n ≤ 3 → (IntKind.i64.wrap (((BitVec.ofInt IntKind.i64.bits (n : Int) &&& BitVec.ofInt IntKind.i64.bits 1).toNat : Nat) : Int) = 0) = ¬ (n % 2 = 1) := by decide
theorem and2 : ∀ n : Nat, n ≤ 3 → (IntKind.i64.wrap (((BitVec.ofInt IntKind.i64.bits (n : Int) &&& BitVec.ofInt IntKind.i64.bits 2).toNat : Nat) : Int) = 0) = ¬ (n / 2 % 2 = 1) := by decide
set_option maxHeartbeats 40000000 in
theorem msg_Get_spec {C : CallW} (hC : LeC C C) (hW : WkC C) (P : Program) {c : Nat → FuncId} (h0 : ∀ m : Nat, m < 9223372036854775808 → RdS C (c 0) [.s (.int .i64 m)] fun r => (.s (.int .i64 ((mostR m r).1 : Nat)), (mostR m r).2)) (h1 : RdS C (c 1) [] fun r => (.s (.int .u64 ((numR r).1 : Nat)), (numR r).2)) (h2 : ∀ n : Nat, n < 18446744073709551616 → FnS C (c 2) [.s (.int .u64 n)] (.s (.int .i64 (zag n)))) (h3 : RdS C (c 3) [] fun r => (.agg (stc (stampR r).1), (stampR r).2)) (h4 : RdS C (c 4) [] fun r => (.agg (bs (keyR r).1.b), (keyR r).2)) (h5 : WritesS C (c 5)) (h6 : ∀ n : Nat, RdS C (c 6) [.s (.int .i64 n)] fun r => (.s (.str (textR n r).1), (textR n r).2)) (h7 : GoodMS C (c 7)) : ∀ (b : List UInt8) S H (K : AV → St → Prop), b.length ≤ 9223372036854775807 → (∀ G, K (tupM (getM b)) ⟨S, H ++ G⟩) → runL C P (C_msg_Get c) [.list .sh 1 (bs b)] ⟨S, H⟩ (WkK K) := by
  intro b S H K hb hK
  simp only [C_msg_Get, A_, simprocAttr, ne_eq, (U_msg_Get _).1, fillL, zm_eq]
  have hr0 : rok (some b) := rok_some hb
  have hrd : readM (some b) = readM (some b) := rfl
  conv at hrd => rhs; unfold readM
  refine h0 11 (by omega) (S.length + 1) (some b) _ _ _ (by rw [app_get]; rfl) hr0 ?_
  obtain ⟨v1, r1, e1⟩ : ∃ k r, mostR 11 (some b) = (k, r) := ⟨_, _, rfl⟩
  have hr1 : rok r1 := by have := mostR_ok (r := (some b)) (m := 11) hr0; rw [e1] at this; exact this
  rw [bnd_eq e1] at hrd
  simp only [e1, A_, simprocAttr, ne_eq, (U_msg_Get _).1, KG_, fillL, storeP_stk, List.append_assoc]
  refine h0 255 (by omega) (S.length + 1) r1 _ _ _ (by rw [app_get]; rfl) hr1 ?_
  obtain ⟨v2, r2, e2⟩ : ∃ k r, mostR 255 r1 = (k, r) := ⟨_, _, rfl⟩
  have hr2 : rok r2 := by have := mostR_ok (r := r1) (m := 255) hr1; rw [e2] at this; exact this
  rw [bnd_eq e2] at hrd
  simp only [e2, A_, simprocAttr, ne_eq, (U_msg_Get _).1, KG_, fillL, storeP_stk, List.append_assoc]
  refine h0 255 (by omega) (S.length + 1) r2 _ _ _ (by rw [app_get]; rfl) hr2 ?_
  obtain ⟨v3, r3, e3⟩ : ∃ k r, mostR 255 r2 = (k, r) := ⟨_, _, rfl⟩
  have hr3 : rok r3 := by have := mostR_ok (r := r2) (m := 255) hr2; rw [e3] at this; exact this
  rw [bnd_eq e3] at hrd
  simp only [e3, A_, simprocAttr, ne_eq, (U_msg_Get _).1, KG_, fillL, storeP_stk, List.append_assoc]
  refine h1 (S.length + 1) r3 _ _ _ (by rw [app_get]; rfl) hr3 ?_
  obtain ⟨v4, r4, e4⟩ : ∃ k r, numR r3 = (k, r) := ⟨_, _, rfl⟩
  have hr4 : rok r4 := by have := numR_ok (r := r3) hr3; rw [e4] at this; exact this
  rw [bnd_eq e4] at hrd
  simp only [e4, convL, A_, simprocAttr, ne_eq, (U_msg_Get _).1, KG_, fillL, storeP_stk, List.append_assoc]
  refine h1 (S.length + 1) r4 _ _ _ (by rw [app_get]; rfl) hr4 ?_
  obtain ⟨v5, r5, e5⟩ : ∃ k r, numR r4 = (k, r) := ⟨_, _, rfl⟩
  have hr5 : rok r5 := by have := numR_ok (r := r4) hr4; rw [e5] at this; exact this
  rw [bnd_eq e5] at hrd
  have hn5 : v5 < 18446744073709551616 := by have := numR_lt r4; rw [e5] at this; exact this
  simp only [e5, A_, simprocAttr, ne_eq, (U_msg_Get _).1, KG_, fillL, storeP_stk, List.append_assoc]
  refine h2 v5 hn5 _ _ _ ?_
  simp only [A_, simprocAttr, ne_eq, (U_msg_Get _).1, KG_, fillL, storeP_stk, List.append_assoc]
  refine h3 (S.length + 1) r5 _ _ _ (by rw [app_get]; rfl) hr5 ?_
  obtain ⟨v6, r6, e6⟩ : ∃ k r, stampR r5 = (k, r) := ⟨_, _, rfl⟩
  have hr6 : rok r6 := by have := stampR_ok (r := r5) hr5; rw [e6] at this; exact this
  rw [bnd_eq e6] at hrd
  simp only [e6, stc, A_, simprocAttr, ne_eq, (U_msg_Get _).1, KG_, fillL, storeP_stk, List.append_assoc]
  refine h4 (S.length + 1) r6 _ _ _ (by rw [app_get]; rfl) hr6 ?_
  obtain ⟨v7, r7, e7⟩ : ∃ k r, keyR r6 = (k, r) := ⟨_, _, rfl⟩
  have hr7 : rok r7 := by have := keyR_ok (r := r6) hr6; rw [e7] at this; exact this
  rw [bnd_eq e7] at hrd
  simp only [e7, A_, simprocAttr, ne_eq, (U_msg_Get _).1, KG_, fillL, storeP_stk, List.append_assoc]
  refine h4 (S.length + 1) r7 _ _ _ (by rw [app_get]; rfl) hr7 ?_
  obtain ⟨v8, r8, e8⟩ : ∃ k r, keyR r7 = (k, r) := ⟨_, _, rfl⟩
  have hr8 : rok r8 := by have := keyR_ok (r := r7) hr7; rw [e8] at this; exact this
  rw [bnd_eq e8] at hrd
  simp only [e8, A_, simprocAttr, ne_eq, (U_msg_Get _).1, KG_, fillL, storeP_stk, List.append_assoc]
  refine h5 (S.length + 1) r8 _ _ _ (by rw [app_get]; rfl) hr8 fun G => ?_
  obtain ⟨ws, r9, e9⟩ : ∃ k r, writesR r8 = (k, r) := ⟨_, _, rfl⟩
  have hr9 : rok r9 := by have := writesR_ok hr8; rw [e9] at this; exact this
  have hwl : ws.length ≤ 16 := by have := sgood_len (r := r8); rw [e9] at this; exact this
  rw [bnd_eq e9] at hrd
  simp only [e9, lstW, A_, simprocAttr, ne_eq, (U_msg_Get _).1, KG_, fillL, storeP_stk, List.append_assoc]
  unfold tailR at hrd
  refine h0 200 (by omega) (S.length + 1) r9 _ _ _ (by rw [app_get]; rfl) hr9 ?_
  obtain ⟨n, r10, e10⟩ : ∃ k r, mostR 200 r9 = (k, r) := ⟨_, _, rfl⟩
  have hr10 : rok r10 := by have := mostR_ok (m := 200) (r := r9) hr9; rw [e10] at this; exact this
  have hn : n ≤ 200 := by have := mostR_le 200 r9; rw [e10] at this; exact this
  rw [bnd_eq e10] at hrd
  simp only [e10, A_, simprocAttr, ne_eq, (U_msg_Get _).1, KG_, fillL, storeP_stk, List.append_assoc]
  refine loop_rule hC (α := Nat × List It × Rd) (fun a => n - a.1) (fun a => [.undef, .undef, .ptr (.stk S.length) 0, .undef, .ptr (.stk (S.length + 1)) 0, .ptr (.stk (S.length + 2)) 0, .undef, .undef, .undef, .undef, .undef, .undef, .undef, .undef, .undef, .undef, .undef, .undef, .undef, .undef, .undef, .undef, .undef, .undef, .undef, .undef, .undef, .undef, .undef, .undef, .undef, .undef, .undef, .undef, .undef, .undef, .undef, .undef, .undef, .undef, .undef, .s (.int .i64 n), .s (.int .i64 a.1), .undef, .undef, .undef, .undef, .undef, .undef, .undef, .undef, .undef, .undef, .undef, .undef, .undef, .undef, .undef, .undef, .undef, .undef, .undef, .undef, .undef, .undef, .undef, .undef, .undef, .undef, .undef, .undef, .undef, .undef, .undef, .undef, .undef, .undef, .undef, .undef, .undef, .undef, .undef, .undef, .undef, .undef, .undef, .undef, .undef, .undef, .undef, .undef, .undef, .undef, .undef, .undef, .undef]) (fun a => S ++ [mbx zMsg (.s .nilS) (.s .nilS), rdc a.2.2, mbx (mkM v1 v2 v3 (IntKind.i64.wrap v4) (zag v5) v6 v7 v8 ws [] [] 0 0) (.list .sh 18 (ws.map wA)) (slT a.2.1)]) (fun a => H ++ G) (fun a => a.1 ≤ n ∧ rok a.2.2 ∧ a.2.1.length = a.1 ∧ itsR n r10 = (a.2.1 ++ (itsR (n - a.1) a.2.2).1, (itsR (n - a.1) a.2.2).2)) (0, [], r10) ⟨by simp, hr10, rfl, by simp⟩ (by simp [keep, zm]) (by rw [app_take_add]; rfl) rfl (fun a _ => by simp [AV.under, AV.under.go]) ?_
  rintro ⟨i, acc, q⟩ ⟨hi, hq, hal, hinv⟩ ih
  dsimp only at hi hq hal hinv ih ⊢
  by_cases h16 : i < n
  · have hlt : ((i : Int) < (n : Int)) := by omega
    have hw : IntKind.i64.wrap ((i : Int) + 1) = (i : Int) + 1 := wrap_i64 (by omega) (by omega)
    obtain ⟨k, q1, f1⟩ : ∃ k r, keyR q = (k, r) := ⟨_, _, rfl⟩
    have hq1 : rok q1 := by have := keyR_ok (r := q) hq; rw [f1] at this; exact this
    obtain ⟨m, q2, f2⟩ : ∃ k r, mostR 200 q1 = (k, r) := ⟨_, _, rfl⟩
    have hq2 : rok q2 := by have := mostR_ok (m := 200) (r := q1) hq1; rw [f2] at this; exact this
    obtain ⟨v, q3, f3⟩ : ∃ k r, textR m q2 = (k, r) := ⟨_, _, rfl⟩
    have hq3 : rok q3 := by have := textR_ok (n := m) (r := q2) hq2; rw [f3] at this; exact this
    have hit : itR q = (⟨k, v⟩, q3) := by
      unfold itR
      rw [bnd_eq f1, bnd_eq (g := fun v => ret (⟨k, v⟩ : It)) (show bnd (mostR 200) textR q1 = (v, q3) by rw [bnd_eq f2, f3])]; rfl
    have ih2 := ih (i + 1, acc ++ [⟨k, v⟩], q3)
    have hinv2 : itsR n r10 = ((acc ++ [(⟨k, v⟩ : It)]) ++ (itsR (n - (i + 1)) q3).1, (itsR (n - (i + 1)) q3).2) := by
      rw [hinv, show n - i = (n - (i + 1)) + 1 by omega, itsR, hit]
      simp
    have hl8 : acc.length ≤ 1000000 := by omega
    by_cases hacc : acc = []
    · subst hacc
      rw [show slT ([] ++ [(⟨k, v⟩ : It)]) = .list .own 17 [itA ⟨k, v⟩] from rfl] at ih2
      simp only [mbx, A_, simprocAttr, ne_eq, (U_msg_Get _).1, KG_, fillL, storeP_stk, List.append_assoc, hlt, show slT [] = .s .nilS from rfl]
      refine h4 (S.length + 1) q _ _ _ (by rw [app_get]; rfl) hq ?_
      simp only [f1, A_, simprocAttr, ne_eq, (U_msg_Get _).1, KG_, fillL, storeP_stk, List.append_assoc, hlt]
      refine h0 200 (by omega) (S.length + 1) q1 _ _ _ (by rw [app_get]; rfl) hq1 ?_
      simp only [f2, A_, simprocAttr, ne_eq, (U_msg_Get _).1, KG_, fillL, storeP_stk, List.append_assoc]
      refine h6 m (S.length + 1) q2 _ _ _ (by rw [app_get]; rfl) hq2 ?_
      simp only [f3, A_, simprocAttr, ne_eq, (U_msg_Get _).1, KG_, fillL, storeP_stk, List.append_assoc, app_nilT, hl8, hw]
      exact ih2 _ _ _ (by dsimp only; omega) ⟨by dsimp only; omega, hq3, by simp [hal], hinv2⟩ (by simp [keep, zm]) (by rw [app_take_add]; rfl) rfl
    · rw [show slT (acc ++ [(⟨k, v⟩ : It)]) = .list .own 17 ((acc ++ [(⟨k, v⟩ : It)]).map itA) from if_neg (by simp)] at ih2
      simp only [mbx, A_, simprocAttr, ne_eq, (U_msg_Get _).1, KG_, fillL, storeP_stk, List.append_assoc, hlt, show slT acc = .list .own 17 (acc.map itA) from if_neg hacc]
      refine h4 (S.length + 1) q _ _ _ (by rw [app_get]; rfl) hq ?_
      simp only [f1, A_, simprocAttr, ne_eq, (U_msg_Get _).1, KG_, fillL, storeP_stk, List.append_assoc, hlt]
      refine h0 200 (by omega) (S.length + 1) q1 _ _ _ (by rw [app_get]; rfl) hq1 ?_
      simp only [f2, A_, simprocAttr, ne_eq, (U_msg_Get _).1, KG_, fillL, storeP_stk, List.append_assoc]
      refine h6 m (S.length + 1) q2 _ _ _ (by rw [app_get]; rfl) hq2 ?_
      simp only [f3, A_, simprocAttr, ne_eq, (U_msg_Get _).1, KG_, fillL, storeP_stk, List.append_assoc, app_ownT, hl8, hw]
      exact ih2 _ _ _ (by dsimp only; omega) ⟨by dsimp only; omega, hq3, by simp [hal], hinv2⟩ (by simp [keep, zm]) (by rw [app_take_add]; rfl) rfl
  · have hlt : ¬ ((i : Int) < (n : Int)) := by omega
    have hal2 : acc.length ≤ 200 := by omega
    rw [show n - i = 0 by omega] at hinv
    simp only [itsR, List.append_nil] at hinv
    rw [bnd_eq hinv] at hrd
    have hivl : ∀ x ∈ acc, x.val.length ≤ 200 := fun x hx => itsR_vals n r10 x (by rw [hinv]; exact hx)
    clear hinv ih
    obtain ⟨m, q2, f2⟩ : ∃ k r, mostR 200 q = (k, r) := ⟨_, _, rfl⟩
    have hq2 : rok q2 := by have := mostR_ok (m := 200) (r := q) hq; rw [f2] at this; exact this
    have hm200 : m ≤ 200 := by have := mostR_le 200 q; rw [f2] at this; exact this
    obtain ⟨v, q3, f3⟩ : ∃ k r, textR m q2 = (k, r) := ⟨_, _, rfl⟩
    have hq3 : rok q3 := by have := textR_ok (n := m) (r := q2) hq2; rw [f3] at this; exact this
    have hv200 : v.length ≤ 200 := by have := textR_len m q2; rw [f3] at this; dsimp only at this; omega
    obtain ⟨fl, q4, f4⟩ : ∃ k r, mostR 3 q3 = (k, r) := ⟨_, _, rfl⟩
    have hq4 : rok q4 := by have := mostR_ok (m := 3) (r := q3) hq3; rw [f4] at this; exact this
    have hfl : fl ≤ 3 := by have := mostR_le 3 q3; rw [f4] at this; exact this
    obtain ⟨er, q5, f5⟩ : ∃ k r, mostR 12 q4 = (k, r) := ⟨_, _, rfl⟩
    rw [bnd_eq (show bnd (mostR 200) textR q = (v, q3) by rw [bnd_eq f2, f3]), bnd_eq f4, bnd_eq f5, ret] at hrd
    have hn1 := and1 fl hfl
    have hn2 := and2 fl hfl
    have hbad : ¬ (q5 = some [] ∧ goodM (mkM v1 v2 v3 (IntKind.i64.wrap v4) (zag v5) v6 v7 v8 ws acc v fl er) = true) → getM b = (zMsg, 3) := fun hn => by unfold getM; rw [hrd, if_neg hn]
    have hgood : q5 = some [] → goodM (mkM v1 v2 v3 (IntKind.i64.wrap v4) (zag v5) v6 v7 v8 ws acc v fl er) = true → getM b = (mkM v1 v2 v3 (IntKind.i64.wrap v4) (zag v5) v6 v7 v8 ws acc v fl er, 0) := fun h1 h2 => by unfold getM; rw [hrd, if_pos ⟨h1, h2⟩]
    have hok : okM (mkM v1 v2 v3 (IntKind.i64.wrap v4) (zag v5) v6 v7 v8 ws acc v fl er) := ⟨by simp only [mkM]; omega, by simp only [mkM]; omega, by simp only [mkM]; omega, fun x hx => by have := hivl x hx; omega⟩
    clear hrd
    by_cases hacc : acc = []
    · rw [show slT acc = .s .nilS from if_pos hacc]
      simp only [mbx, A_, simprocAttr, ne_eq, (U_msg_Get _).1, KG_, fillL, storeP_stk, List.append_assoc, hlt]
      refine h0 200 (by omega) (S.length + 1) q _ _ _ (by rw [app_get]; rfl) hq ?_
      simp only [f2, A_, simprocAttr, ne_eq, (U_msg_Get _).1, KG_, fillL, storeP_stk, List.append_assoc]
      refine h6 m (S.length + 1) q2 _ _ _ (by rw [app_get]; rfl) hq2 ?_
      simp only [f3, A_, simprocAttr, ne_eq, (U_msg_Get _).1, KG_, fillL, storeP_stk, List.append_assoc]
      refine h0 3 (by omega) (S.length + 1) q3 _ _ _ (by rw [app_get]; rfl) hq3 ?_
      simp only [f4, A_, simprocAttr, ne_eq, (U_msg_Get _).1, KG_, fillL, storeP_stk, List.append_assoc, hn1, hn2, decide_not, Bool.not_not]
      refine h0 12 (by omega) (S.length + 1) q4 _ _ _ (by rw [app_get]; rfl) hq4 ?_
      simp only [f5, A_, simprocAttr, ne_eq, (U_msg_Get _).1, KG_, fillL, storeP_stk, List.append_assoc]
      cases q5 with
      | none =>
        have hKf := hK G
        rw [hbad (by rintro ⟨h, _⟩; cases h)] at hKf
        simp only [A_, simprocAttr, ne_eq, (U_msg_Get _).1, KG_, fillL, storeP_stk, List.append_assoc, rdc]
        exact ⟨_, .inr (zmsg_wkT _), by simpa [tupM] using hKf⟩
      | some l =>
      cases l with
      | cons y l =>
        have hKf := hK G
        rw [hbad (by rintro ⟨h, _⟩; cases h)] at hKf
        have hpos : ((0 : Int) < (((bs (y :: l)).length : Nat) : Int)) := by rw [bs_length]; simp <;> omega
        simp only [A_, simprocAttr, ne_eq, (U_msg_Get _).1, KG_, fillL, storeP_stk, List.append_assoc, rdc, hpos]
        exact ⟨_, .inr (zmsg_wkT _), by simpa [tupM] using hKf⟩
      | nil =>
        have hpos : ¬ ((0 : Int) < (((bs []).length : Nat) : Int)) := by rw [bs_length]; simp
        simp only [A_, simprocAttr, ne_eq, (U_msg_Get _).1, KG_, fillL, storeP_stk, List.append_assoc, rdc, hpos]
        refine hW _ _ [.agg (msc (mkM v1 v2 v3 (IntKind.i64.wrap v4) (zag v5) v6 v7 v8 ws acc v fl er))] _ _ (mbx_wkF (mkM v1 v2 v3 (IntKind.i64.wrap v4) (zag v5) v6 v7 v8 ws acc v fl er) _ _ (.inl rfl) (.inr ⟨rfl, hacc⟩)) ?_
        refine h7 _ _ _ _ hok fun G2 => ?_
        cases hg : goodM (mkM v1 v2 v3 (IntKind.i64.wrap v4) (zag v5) v6 v7 v8 ws acc v fl er) with
        | false =>
          have hKf := hK (G ++ G2)
          rw [hbad (by rintro ⟨_, h⟩; rw [hg] at h; cases h)] at hKf
          simp only [A_, simprocAttr, ne_eq, (U_msg_Get _).1, KG_, fillL, storeP_stk, List.append_assoc]
          exact ⟨_, .inr (zmsg_wkT _), by simpa [tupM] using hKf⟩
        | true =>
          have hKf := hK (G ++ G2)
          rw [hgood rfl hg] at hKf
          simp only [A_, simprocAttr, ne_eq, (U_msg_Get _).1, KG_, fillL, storeP_stk, List.append_assoc]
          exact ⟨_, .inr (mbx_wkT (mkM v1 v2 v3 (IntKind.i64.wrap v4) (zag v5) v6 v7 v8 ws acc v fl er) _ _ _ (.inl rfl) (.inr ⟨rfl, hacc⟩)), by simpa [tupM] using hKf⟩
    · rw [show slT acc = .list .own 17 (acc.map itA) from if_neg hacc]
      simp only [mbx, A_, simprocAttr, ne_eq, (U_msg_Get _).1, KG_, fillL, storeP_stk, List.append_assoc, hlt]
      refine h0 200 (by omega) (S.length + 1) q _ _ _ (by rw [app_get]; rfl) hq ?_
      simp only [f2, A_, simprocAttr, ne_eq, (U_msg_Get _).1, KG_, fillL, storeP_stk, List.append_assoc]
      refine h6 m (S.length + 1) q2 _ _ _ (by rw [app_get]; rfl) hq2 ?_
      simp only [f3, A_, simprocAttr, ne_eq, (U_msg_Get _).1, KG_, fillL, storeP_stk, List.append_assoc]
      refine h0 3 (by omega) (S.length + 1) q3 _ _ _ (by rw [app_get]; rfl) hq3 ?_
      simp only [f4, A_, simprocAttr, ne_eq, (U_msg_Get _).1, KG_, fillL, storeP_stk, List.append_assoc, hn1, hn2, decide_not, Bool.not_not]
      refine h0 12 (by omega) (S.length + 1) q4 _ _ _ (by rw [app_get]; rfl) hq4 ?_
      simp only [f5, A_, simprocAttr, ne_eq, (U_msg_Get _).1, KG_, fillL, storeP_stk, List.append_assoc]
      cases q5 with
      | none =>
        have hKf := hK G
        rw [hbad (by rintro ⟨h, _⟩; cases h)] at hKf
        simp only [A_, simprocAttr, ne_eq, (U_msg_Get _).1, KG_, fillL, storeP_stk, List.append_assoc, rdc]
        exact ⟨_, .inr (zmsg_wkT _), by simpa [tupM] using hKf⟩
      | some l =>
      cases l with
      | cons y l =>
        have hKf := hK G
        rw [hbad (by rintro ⟨h, _⟩; cases h)] at hKf
        have hpos : ((0 : Int) < (((bs (y :: l)).length : Nat) : Int)) := by rw [bs_length]; simp <;> omega
        simp only [A_, simprocAttr, ne_eq, (U_msg_Get _).1, KG_, fillL, storeP_stk, List.append_assoc, rdc, hpos]
        exact ⟨_, .inr (zmsg_wkT _), by simpa [tupM] using hKf⟩
      | nil =>
        have hpos : ¬ ((0 : Int) < (((bs []).length : Nat) : Int)) := by rw [bs_length]; simp
        simp only [A_, simprocAttr, ne_eq, (U_msg_Get _).1, KG_, fillL, storeP_stk, List.append_assoc, rdc, hpos]
        refine hW _ _ [.agg (msc (mkM v1 v2 v3 (IntKind.i64.wrap v4) (zag v5) v6 v7 v8 ws acc v fl er))] _ _ (mbx_wkF (mkM v1 v2 v3 (IntKind.i64.wrap v4) (zag v5) v6 v7 v8 ws acc v fl er) _ _ (.inl rfl) (.inl rfl)) ?_
        refine h7 _ _ _ _ hok fun G2 => ?_
        cases hg : goodM (mkM v1 v2 v3 (IntKind.i64.wrap v4) (zag v5) v6 v7 v8 ws acc v fl er) with
        | false =>
          have hKf := hK (G ++ G2)
          rw [hbad (by rintro ⟨_, h⟩; rw [hg] at h; cases h)] at hKf
          simp only [A_, simprocAttr, ne_eq, (U_msg_Get _).1, KG_, fillL, storeP_stk, List.append_assoc]
          exact ⟨_, .inr (zmsg_wkT _), by simpa [tupM] using hKf⟩
        | true =>
          have hKf := hK (G ++ G2)
          rw [hgood rfl hg] at hKf
          simp only [A_, simprocAttr, ne_eq, (U_msg_Get _).1, KG_, fillL, storeP_stk, List.append_assoc]
          exact ⟨_, .inr (mbx_wkT (mkM v1 v2 v3 (IntKind.i64.wrap v4) (zag v5) v6 v7 v8 ws acc v fl er) _ _ _ (.inl rfl) (.inl rfl)), by simpa [tupM] using hKf⟩
end Go.AM
namespace Go.AM
open Go
set_option maxRecDepth 20000
end Go.AM
namespace Go.AM
open Go
set_option maxRecDepth 20000
end Go.AM
namespace Go.AM
open Go
set_option maxRecDepth 20000
end Go.AM
namespace Go.AM
open Go
theorem ret_loc {α : Type} (a : α) : Loc (ret a) := retR_loc a
theorem bnd_loc {α β : Type} {f : Rd → α × Rd} {g : α → Rd → β × Rd} (hf : Loc f) (hg : ∀ a, Loc (g a)) : Loc (bnd f g) := hf.bind hg
theorem itR_loc : Loc itR := bnd_loc keyR_loc fun _ => bnd_loc (bnd_loc (mostR_loc 200) textR_loc) fun _ => ret_loc _
theorem itsR_loc : ∀ n, Loc (itsR n)
  | 0 => retR_loc []
  | n + 1 => by
    have := itR_loc.bind (g := fun w r => (w :: (itsR n r).1, (itsR n r).2)) fun w => (itsR_loc n).map fun l => w :: l
    intro r q h
    exact this r q h
theorem tailR_loc (f) : Loc (tailR f) := bnd_loc (mostR_loc _) fun n => bnd_loc (itsR_loc n) fun _ => bnd_loc (bnd_loc (mostR_loc _) textR_loc) fun _ => bnd_loc (mostR_loc _) fun _ => bnd_loc (mostR_loc _) fun _ => ret_loc _
theorem readM_loc : Loc readM := bnd_loc (mostR_loc _) fun _ => bnd_loc (mostR_loc _) fun _ => bnd_loc (mostR_loc _) fun _ => bnd_loc numR_loc fun _ => bnd_loc numR_loc fun _ => bnd_loc stampR_loc fun _ => bnd_loc keyR_loc fun _ => bnd_loc keyR_loc fun _ => bnd_loc writesR_loc fun _ => tailR_loc _
theorem gits_long : ∀ (l : List It) (p : Option Key) (x : It), x ∈ l → 200 < x.val.length → gits p l = false
  | [], p, x, h, _ => by cases h
  | y :: l, p, x, h, hx => by
    rw [gits_cons]
    split
    · rfl
    split
    · rfl
    have hl : gits (some y.key) l = false := by
      rcases List.mem_cons.1 h with rfl | h
      · omega
      · exact gits_long l _ x h hx
    rw [hl, ite_self]
theorem getM_more {b : List UInt8} (h : (readM (some b)).2 = some []) {c : List UInt8} (hc : c ≠ []) : (getM (b ++ c)).2 = 3 := by
  obtain ⟨b', hb, hl⟩ := readM_loc (some b) [] h
  cases hb
  unfold getM
  rw [if_neg]
  rw [hl c]
  rintro ⟨h, _⟩
  exact hc (by simpa using h)
theorem getM_cut {b : List UInt8} (h : (readM (some b)).2 = some []) {n : Nat} (hn : n < b.length) : (getM (b.take n)).2 = 3 := by
  unfold getM
  rw [if_neg]
  rintro ⟨h1, _⟩
  obtain ⟨b', hb, hl⟩ := readM_loc (some (b.take n)) [] h1
  cases hb
  have e := hl (b.drop n)
  rw [List.take_append_drop] at e
  rw [e] at h
  have := congrArg (fun o : Rd => (o.getD []).length) h
  simp at this
  omega
theorem itR_put {x : It} (h : x.val.length ≤ 200) (c : List UInt8) : itR (some (putIt x ++ c)) = (x, some c) := by
  unfold itR putIt bnd
  rw [List.append_assoc, List.append_assoc, keyR_put]
  dsimp only
  rw [mostR_put h (by omega)]
  dsimp only
  rw [textR_put rfl]
  rfl
theorem itsR_put : ∀ (l : List It) (c : List UInt8), (∀ w ∈ l, w.val.length ≤ 200) → itsR l.length (some (l.flatMap putIt ++ c)) = (l, some c)
  | [], c, _ => rfl
  | w :: l, c, h => by
    rw [List.length_cons, itsR, List.flatMap_cons, List.append_assoc, itR_put (h w (List.mem_cons_self ..))]
    dsimp only
    rw [itsR_put l c fun x hx => h x (List.mem_cons_of_mem _ hx)]
theorem gits_vals {l : List It} {p : Option Key} (h : gits p l = true) : ∀ w ∈ l, w.val.length ≤ 200 := by
  intro w hw
  rcases Nat.lt_or_ge 200 w.val.length with h1 | h1
  · rw [gits_long l p w hw h1] at h; cases h
  · exact h1
theorem fl_put (f y : Bool) (c : List UInt8) : mostR 3 (some (flB f y :: c)) = ((flB f y).toNat, some c) := by
  have : flB f y :: c = putN (flB f y).toNat ++ c := by cases f <;> cases y <;> · rw [putN_lt (by decide)]; rfl
  rw [this, mostR_put (by cases f <;> cases y <;> decide) (by omega)]
theorem readM_put {m : Msg} (h : goodM m = true) (ho : okMB m) : readM (some (putM m)) = (m, some []) := by
  have hp := goodM_p h
  have hz := zig_lt ho.nl ho.nh
  have hih := ho.ih
  unfold putM
  rw [if_neg (by rw [h]; simp)]
  unfold hd2 tlB readM tailR bnd
  simp only [List.append_assoc]
  rw [mostR_put (v := m.kind.toNat) (by have := hp.k2; omega) (by omega)]
  dsimp only
  rw [mostR_put (v := m.frm.toNat) (by have := hp.f2; omega) (by omega)]
  dsimp only
  rw [mostR_put (v := m.tto.toNat) (by have := hp.t2; omega) (by omega)]
  dsimp only
  rw [numR_put (v := m.id.toNat) (by omega)]
  dsimp only
  rw [numR_put hz]
  dsimp only
  rw [stampR_put hp.s1]
  dsimp only
  rw [keyR_put]
  dsimp only
  rw [keyR_put]
  dsimp only
  rw [writesR_put hp.w2 hp.w1]
  dsimp only
  rw [mostR_put (v := m.items.length) hp.g2 (by omega)]
  dsimp only
  rw [itsR_put m.items _ (gits_vals hp.g1)]
  dsimp only
  rw [mostR_put (v := m.val.length) hp.v1 (by omega)]
  dsimp only
  rw [textR_put rfl]
  dsimp only
  rw [fl_put]
  dsimp only
  rw [← List.append_nil (putN m.err.toNat), mostR_put (v := m.err.toNat) (by have := hp.e2; omega) (by omega)]
  have hw : IntKind.i64.wrap ((m.id.toNat : Nat) : Int) = m.id := by rw [wrap_i64 (by omega) (by omega)]; have := hp.i1; omega
  have a1 := hp.k1
  have a2 := hp.f1
  have a3 := hp.t1
  have a4 := hp.e1
  show (mkM m.kind.toNat m.frm.toNat m.tto.toNat (IntKind.i64.wrap ((m.id.toNat : Nat) : Int)) (zag (zig m.num)) m.stp m.key m.unt m.writes m.items m.val (flB m.found m.yes).toNat m.err.toNat, some []) = _
  rw [hw, zag_zig]
  obtain ⟨kind, frm, tto, id, num, stp, key, unt, writes, items, val, found, yes, err⟩ := m
  unfold mkM
  dsimp only at *
  rw [show ((kind.toNat : Nat) : Int) = kind by omega, show ((frm.toNat : Nat) : Int) = frm by omega, show ((tto.toNat : Nat) : Int) = tto by omega, show ((err.toNat : Nat) : Int) = err by omega]
  have e1 : decide ((flB found yes).toNat % 2 = 1) = found := by cases found <;> cases yes <;> decide
  have e2 : decide ((flB found yes).toNat / 2 % 2 = 1) = yes := by cases found <;> cases yes <;> decide
  rw [e1, e2]
theorem getM_put {m : Msg} (h : goodM m = true) (ho : okMB m) : getM (putM m) = (m, 0) := by
  unfold getM
  rw [readM_put h ho, if_pos ⟨rfl, h⟩]
theorem putM_inj {r q : Msg} (h : goodM r = true) (ho : okMB r) (h2 : goodM q = true) (ho2 : okMB q) (e : putM r = putM q) : r = q := by
  have := getM_put h ho
  rw [e, getM_put h2 ho2] at this
  exact (Prod.ext_iff.1 this).1.symm
end Go.AM
namespace Go.AM
open Go
set_option maxRecDepth 20000
def heavyM (m : Msg) : Bool := decide (20 < m.writes.length) || (decide (20 < m.items.length) || (decide (250 < m.val.length) || ((m.writes.any fun w => decide (250 < w.val.length)) || (m.items.any fun w => decide (250 < w.val.length)))))
def HeavyMS (C : CallW) (f : FuncId) : Prop := ∀ (m : Msg) S H (K : AV → St → Prop), okM m → K (.bool (heavyM m)) ⟨S, H⟩ → C (.fn f) [.agg (msc m)] ⟨S, H⟩ K
set_option maxHeartbeats 8000000 in
theorem law19_heavy_spec {C : CallW} (hC : LeC C C) (P : Program) : ∀ (m : Msg) S H (K : AV → St → Prop), okM m → K (.bool (heavyM m)) ⟨S, H⟩ → runL C P C_hourglasslaw19_heavy [.agg (msc m)] ⟨S, H⟩ K := by
  intro m S H K hm hK
  unfold heavyM at hK
  simp only [C_hourglasslaw19_heavy, msc, A_, simprocAttr, ne_eq, U_hourglasslaw19_heavy.1, KG_]
  by_cases a1 : 20 < m.writes.length
  · have a1' : ((20 : Int) < (m.writes.length : Int)) := by omega
    rw [decide_eq_true a1, Bool.true_or] at hK
    simp only [A_, simprocAttr, ne_eq, U_hourglasslaw19_heavy.1, KG_, a1']
    exact hK
  have a1' : ¬ ((20 : Int) < (m.writes.length : Int)) := by omega
  rw [decide_eq_false a1, Bool.false_or] at hK
  simp only [A_, simprocAttr, ne_eq, U_hourglasslaw19_heavy.1, KG_, a1']
  by_cases a2 : 20 < m.items.length
  · have a2' : ((20 : Int) < (m.items.length : Int)) := by omega
    rw [decide_eq_true a2, Bool.true_or] at hK
    simp only [A_, simprocAttr, ne_eq, U_hourglasslaw19_heavy.1, KG_, a2']
    exact hK
  have a2' : ¬ ((20 : Int) < (m.items.length : Int)) := by omega
  rw [decide_eq_false a2, Bool.false_or] at hK
  simp only [A_, simprocAttr, ne_eq, U_hourglasslaw19_heavy.1, KG_, a2']
  by_cases a3 : 250 < m.val.length
  · have a3' : ((250 : Int) < (m.val.length : Int)) := by omega
    rw [decide_eq_true a3, Bool.true_or] at hK
    simp only [A_, simprocAttr, ne_eq, U_hourglasslaw19_heavy.1, KG_, a3']
    exact hK
  have a3' : ¬ ((250 : Int) < (m.val.length : Int)) := by omega
  rw [decide_eq_false a3, Bool.false_or] at hK
  simp only [A_, simprocAttr, ne_eq, U_hourglasslaw19_heavy.1, KG_, a3']
  refine loop_rule hC (α := Nat) (fun a => m.writes.length - a) (fun a => [.undef, .ptr (.stk S.length) 0, .undef, .s (.int .i64 a), .undef, .undef, .undef, .undef, .undef, .undef, .undef, .undef, .undef, .undef, .undef, .undef, .undef, .undef, .undef, .undef, .undef, .undef, .undef, .undef, .undef, .undef, .undef, .undef, .undef, .undef, .undef, .undef, .undef, .undef, .undef, .undef, .undef, .undef, .undef, .undef, .undef, .undef, .undef, .undef, .undef, .undef, .undef, .undef, .undef, .undef, .undef]) (fun _ => S ++ [msc m]) (fun _ => H) (fun i => i ≤ m.writes.length ∧ (m.writes.any fun w => decide (250 < w.val.length)) = ((m.writes.drop i).any fun w => decide (250 < w.val.length))) 0 ⟨by simp, rfl⟩ (by simp [keep, zm]) (by rw [app_take_add]; rfl) rfl (fun a _ => by simp [AV.under, AV.under.go]) ?_
  rintro i ⟨hi, hinv⟩ ih
  by_cases h16 : i < m.writes.length
  · have hlt : ((i : Int) < (m.writes.length : Int)) := by omega
    have hw : IntKind.i64.wrap ((i : Int) + 1) = (i : Int) + 1 := wrap_i64 (by omega) (by omega)
    rw [List.drop_eq_getElem_cons h16, List.any_cons] at hinv
    by_cases e : 250 < (m.writes[i]).val.length
    · have e' : ((250 : Int) < ((m.writes[i]).val.length : Int)) := by omega
      rw [decide_eq_true e, Bool.true_or] at hinv
      rw [hinv, Bool.true_or] at hK
      simp only [msc, A_, simprocAttr, ne_eq, U_hourglasslaw19_heavy.1, KG_, IT_, hlt, h16, e']
      exact hK
    · have e' : ¬ ((250 : Int) < ((m.writes[i]).val.length : Int)) := by omega
      rw [decide_eq_false e, Bool.false_or] at hinv
      simp only [msc, A_, simprocAttr, ne_eq, U_hourglasslaw19_heavy.1, KG_, IT_, hlt, h16, e', hw]
      exact ih (i + 1) _ _ _ (by omega) ⟨by omega, hinv⟩ (by simp [keep, zm]) (by rw [app_take_add]; rfl) rfl
  have hlt : ¬ ((i : Int) < (m.writes.length : Int)) := by omega
  rw [List.drop_of_length_le (by omega), List.any_nil] at hinv
  rw [hinv, Bool.false_or] at hK
  simp only [msc, A_, simprocAttr, ne_eq, U_hourglasslaw19_heavy.1, KG_, IT_, hlt]
  clear ih hinv
  refine loop_rule hC (α := Nat) (fun a => m.items.length - a) (fun a => [.undef, .ptr (.stk S.length) 0, .undef, .undef, .s (.int .i64 a), .undef, .undef, .undef, .undef, .undef, .undef, .undef, .undef, .undef, .undef, .undef, .undef, .undef, .undef, .undef, .undef, .undef, .undef, .undef, .undef, .undef, .undef, .undef, .undef, .undef, .undef, .undef, .undef, .undef, .undef, .undef, .undef, .undef, .undef, .undef, .undef, .undef, .undef, .undef, .undef, .undef, .undef, .undef, .undef, .undef, .undef]) (fun _ => S ++ [msc m]) (fun _ => H) (fun i => i ≤ m.items.length ∧ (m.items.any fun w => decide (250 < w.val.length)) = ((m.items.drop i).any fun w => decide (250 < w.val.length))) 0 ⟨by simp, rfl⟩ (by simp [keep, zm]) (by rw [app_take_add]; rfl) rfl (fun a _ => by simp [AV.under, AV.under.go]) ?_
  rintro i ⟨hi, hinv⟩ ih
  by_cases h16 : i < m.items.length
  · have hlt : ((i : Int) < (m.items.length : Int)) := by omega
    have hw : IntKind.i64.wrap ((i : Int) + 1) = (i : Int) + 1 := wrap_i64 (by omega) (by omega)
    rw [List.drop_eq_getElem_cons h16, List.any_cons] at hinv
    by_cases e : 250 < (m.items[i]).val.length
    · have e' : ((250 : Int) < ((m.items[i]).val.length : Int)) := by omega
      rw [decide_eq_true e, Bool.true_or] at hinv
      rw [hinv] at hK
      simp only [msc, A_, simprocAttr, ne_eq, U_hourglasslaw19_heavy.1, KG_, IT_, hlt, h16, e']
      exact hK
    · have e' : ¬ ((250 : Int) < ((m.items[i]).val.length : Int)) := by omega
      rw [decide_eq_false e, Bool.false_or] at hinv
      simp only [msc, A_, simprocAttr, ne_eq, U_hourglasslaw19_heavy.1, KG_, IT_, hlt, h16, e', hw]
      exact ih (i + 1) _ _ _ (by omega) ⟨by omega, hinv⟩ (by simp [keep, zm]) (by rw [app_take_add]; rfl) rfl
  have hlt : ¬ ((i : Int) < (m.items.length : Int)) := by omega
  rw [List.drop_of_length_le (by omega), List.any_nil] at hinv
  rw [hinv] at hK
  simp only [msc, A_, simprocAttr, ne_eq, U_hourglasslaw19_heavy.1, KG_, IT_, hlt]
  exact hK
structure inM (m : Msg) : Prop where
  ok : okM m
  il : -9223372036854775808 ≤ m.id
  ih : m.id ≤ 9223372036854775807
  nl : -9223372036854775808 ≤ m.num
  nh : m.num ≤ 9223372036854775807
theorem heavy_ok {m : Msg} (h : inM m) (hg : heavyM m = false) : okMB m := by
  unfold heavyM at hg
  simp only [Bool.or_eq_false_iff, decide_eq_false_iff_not] at hg
  obtain ⟨a1, a2, a3, a4, a5⟩ := hg
  refine ⟨by omega, fun w hw => ?_, by omega, fun w hw => ?_, by omega, h.il, h.ih, h.nl, h.nh⟩
  · have := List.any_eq_false.1 a4 w hw
    simp at this; omega
  · have := List.any_eq_false.1 a5 w hw
    simp at this; omega
def key97 : Key := ⟨97 :: List.replicate 15 0, rfl⟩
def awM : Msg := ⟨5, 255, 1, 7, 0, ⟨3, 0⟩, key0, key0, [⟨key97, [120], false⟩], [], [], false, true, 0⟩
end Go.AM
namespace Go.AM
open Go
set_option maxRecDepth 20000
theorem aw_goodM : goodM awM = true := by decide
theorem aw_okM : okMB awM := by
  refine ⟨by simp [awM], ?_, by simp [awM], by simp [awM], by simp [awM], by simp [awM], by simp [awM], by simp [awM], by simp [awM]⟩
  intro w hw
  simp only [awM, List.mem_singleton] at hw
  subst hw
  decide
theorem aw_lenM : 50 < (putM awM).length := by
  have hk := key97.h
  have h0 := key0.h
  have h1 : 18 ≤ (putWs awM.writes).length := by
    unfold putWs
    rw [List.length_append, show awM.writes.flatMap putW = putW ⟨key97, [120], false⟩ from List.append_nil _]
    unfold putW
    simp only [List.length_append, List.length_cons, List.length_nil, hk]
    omega
  unfold putM
  rw [if_neg (by rw [aw_goodM]; simp)]
  have h2 : 1 ≤ (tlB awM).length := by unfold tlB; simp only [List.length_append, List.length_cons]; omega
  have e1 : awM.key.b.length = 16 := h0
  have e2 : awM.unt.b.length = 16 := h0
  simp only [List.length_append, e1, e2]
  omega
theorem putM_le {m : Msg} (hm : okMB m) : (putM m).length ≤ 1000000 := by
  unfold putM
  split
  · simp
  rename_i hg
  have hg : goodM m = true := by simpa using hg
  have hp := goodM_p hg
  have p1 := putN_len10 (v := m.kind.toNat) (by have := hp.k2; omega)
  have p2 := putN_len10 (v := m.frm.toNat) (by have := hp.f2; omega)
  have p3 := putN_len10 (v := m.tto.toNat) (by have := hp.t2; omega)
  have p4 := putN_len10 (v := m.id.toNat) (by have := hm.ih; omega)
  have p5 := putN_len10 (v := zig m.num) (zig_lt hm.nl hm.nh)
  have p6 := pack_len m.stp
  have p7 := putWs_le hm.ws hm.vs
  have p8 := putIts_len m.items hm.iv
  have p9 := putN_len10 (v := m.items.length) (by have := hm.is; omega)
  have p10 := putN_len10 (v := m.val.length) (by have := hm.vl; omega)
  have p11 := putN_len10 (v := m.err.toNat) (by have := hp.e2; omega)
  have hk := m.key.h
  have hu := m.unt.h
  have h1 := hm.vl
  have h2 := hm.is
  unfold hd2 tlB
  simp only [List.length_append, List.length_cons, hk, hu]
  omega
theorem k97_eq : AV.s (.int .u8 97) :: List.drop 1 (bs key0.b) = bs key97.b := rfl
theorem aw_getM : getM (putM awM) = (awM, 0) := getM_put aw_goodM aw_okM
def AwakeMS (C : CallW) (f : FuncId) : Prop := ∀ S H (K : AV → St → Prop), (∀ G, K (.bool true) ⟨S, H ++ G⟩) → C (.fn f) [] ⟨S, H⟩ K
theorem aw_msc : msc awM = AV.s (.int .i64 5) :: AV.s (.int .i64 255) :: AV.s (.int .i64 1) :: AV.s (.int .i64 7) :: AV.s (.int .i64 0) :: AV.s (.int .i64 3) :: AV.s (.int .u8 0) :: (bs key0.b ++ (bs key0.b ++ [AV.list .sh 18 [wA ⟨key97, [120], false⟩], .list .sh 17 [], .s (.str []), .s (.bool false), .s (.bool true), .s (.int .i64 0)])) := rfl
theorem awX : WkL [(AV.agg (AV.s (.int .i64 5) :: AV.s (.int .i64 255) :: AV.s (.int .i64 1) :: AV.s (.int .i64 7) :: AV.s (.int .i64 0) :: AV.s (.int .i64 3) :: AV.s (.int .u8 0) :: (bs key0.b ++ (bs key0.b ++ [AV.list .full 18 [.agg (bs key97.b ++ [.s (.str [120]), .s (.bool false)])], .s .nilS, .s (.str []), .s (.bool false), .s (.bool true), .s (.int .i64 0)])))).sh] [.agg (msc awM)] := WkL.agg (.same (.same (.same (.same (.same (.same (.same (WkL.pre (bs key0.b) (WkL.pre (bs key0.b) (.full (.nilS (by omega) (WkL.refl _)))))))))))) msc_cell .nil
theorem awF : WkF [.agg (AV.s (.int .i64 5) :: AV.s (.int .i64 255) :: AV.s (.int .i64 1) :: AV.s (.int .i64 7) :: AV.s (.int .i64 0) :: AV.s (.int .i64 3) :: AV.s (.int .u8 0) :: (bs key0.b ++ (bs key0.b ++ [AV.list .full 18 [.agg (bs key97.b ++ [.s (.str [120]), .s (.bool false)])], .s .nilS, .s (.str []), .s (.bool false), .s (.bool true), .s (.int .i64 0)])))] [.agg (msc awM)] := .wk awX .nil
set_option maxHeartbeats 16000000 in
theorem law19_awake_spec {C : CallW} (hW : WkC C) (P : Program) {c : Nat → FuncId} (h0 : PutMS C (c 0)) (h1 : GetMS C (c 1)) (h2 : SameMS C (c 2)) (h3 : GoodMS C (c 3)) : ∀ S H (K : AV → St → Prop), (∀ G, K (.bool true) ⟨S, H ++ G⟩) → runL C P (C_hourglasslaw19_awake c) [] ⟨S, H⟩ K := by
  intro S H K hK
  simp only [C_hourglasslaw19_awake, A_, simprocAttr, ne_eq, (U_hourglasslaw19_awake _).1, KG_, fillL, List.append_assoc, zm_eq, k97_eq]
  refine hW _ _ _ _ _ awF ?_
  refine h0 _ _ _ _ aw_okM fun G => ?_
  have hlen := aw_lenM
  have hle : (putM awM).length ≤ 9223372036854775807 := Nat.le_trans (putM_le aw_okM) (by omega)
  have hbl := bs_length (putM awM)
  simp only [A_, simprocAttr, ne_eq, (U_hourglasslaw19_awake _).1, KG_, fillL, List.append_assoc]
  refine h1 _ (putM awM) _ _ _ .l hle fun G2 => ?_
  rw [aw_getM]
  simp only [tupM, aw_msc, A_, simprocAttr, ne_eq, (U_hourglasslaw19_awake _).1, KG_, fillL, List.append_assoc]
  refine hW _ _ [.agg (msc awM), .agg (msc awM)] _ _ (.same (.wk awX .nil)) ?_
  refine h2 awM awM _ _ _ aw_okM.ok aw_okM.ok ?_
  rw [decide_eq_true rfl]
  simp only [A_, simprocAttr, ne_eq, (U_hourglasslaw19_awake _).1, KG_, fillL, List.append_assoc]
  refine hW _ _ _ _ _ awF ?_
  refine h3 _ _ _ _ aw_okM.ok fun G3 => ?_
  rw [aw_goodM]
  simp only [A_, simprocAttr, ne_eq, (U_hourglasslaw19_awake _).1, KG_, fillL, List.append_assoc]
  refine hW _ _ _ _ _ awF ?_
  refine h0 _ _ _ _ aw_okM fun G4 => ?_
  have h50 : ((50 : Int) < ((putM awM).length : Int)) := by omega
  simp only [A_, simprocAttr, ne_eq, (U_hourglasslaw19_awake _).1, KG_, fillL, List.append_assoc, hbl, h50]
  simpa using hK (G ++ (G2 ++ (G3 ++ G4)))
end Go.AM
namespace Go.AM
open Go
set_option maxRecDepth 20000
end Go.AM
namespace Go.AM
open Go
set_option maxRecDepth 20000
theorem putM_ne {m : Msg} (h : okMB m) (hg : goodM m = true) : putM m ≠ [] := by
  intro e
  unfold putM at e
  rw [if_neg (by rw [hg]; simp)] at e
  have := congrArg List.length e
  have hk := m.key.h
  simp only [List.length_append, hk, List.length_nil] at this
  omega
theorem pair3 {α β : Type} {x : α × β} {e : β} (h : x.2 = e) : ∃ a, x = (a, e) := ⟨x.1, by rw [← h]⟩
set_option maxHeartbeats 40000000 in
theorem law19_MsgBack_spec {C : CallW} (P : Program) {c : Nat → FuncId} (h0 : AwakeMS C (c 0)) (h1 : HeavyMS C (c 1)) (h2 : GoodMS C (c 2)) (h3 : PutMS C (c 3)) (h4 : GetMS C (c 4)) (h5 : SameMS C (c 5)) : ∀ (r q : Msg) (cut : Int) (more : UInt8) S H (K : AV → St → Prop), inM r → inM q → (∀ G, K (.bool true) ⟨S, H ++ G⟩) → runL C P (C_hourglasslaw19_MsgBack c) [.agg (msc r), .agg (msc q), .s (.int .i64 cut), u8 more] ⟨S, H⟩ K := by
  intro r q cut more S H K hr hq hK
  rw [show u8 more = .s (.int .u8 more.toNat) from rfl]
  have h1r := h1 r
  have h1q := h1 q
  have h2r := h2 r
  have h2q := h2 q
  have h3r := h3 r
  have h3q := h3 q
  have h5' := h5 r r
  have h5q := h5 r q
  unfold msc at h1r h1q h2r h2q h3r h3q h5' h5q
  simp only [List.cons_append, List.nil_append] at h1r h1q h2r h2q h3r h3q h5' h5q
  simp only [msc, C_hourglasslaw19_MsgBack, A_, simprocAttr, ne_eq, (U_hourglasslaw19_MsgBack _).1, KG_, fillL, List.append_assoc, zm_eq]
  refine h0 _ _ _ fun G => ?_
  simp only [A_, simprocAttr, ne_eq, (U_hourglasslaw19_MsgBack _).1, KG_, fillL, List.append_assoc]
  refine h1r _ _ _ hr.ok ?_
  cases hg : heavyM r with
  | true =>
    simp only [A_, simprocAttr, ne_eq, (U_hourglasslaw19_MsgBack _).1, KG_, fillL, List.append_assoc]
    exact hK _
  | false =>
  simp only [A_, simprocAttr, ne_eq, (U_hourglasslaw19_MsgBack _).1, KG_, fillL, List.append_assoc]
  refine h1q _ _ _ hq.ok ?_
  cases hg2 : heavyM q with
  | true =>
    simp only [A_, simprocAttr, ne_eq, (U_hourglasslaw19_MsgBack _).1, KG_, fillL, List.append_assoc]
    exact hK _
  | false =>
  have okr := heavy_ok hr hg
  have okq := heavy_ok hq hg2
  simp only [A_, simprocAttr, ne_eq, (U_hourglasslaw19_MsgBack _).1, KG_, fillL, List.append_assoc]
  refine h2r _ _ _ hr.ok fun G1 => ?_
  cases hgr : goodM r with
  | false =>
    simp only [A_, simprocAttr, ne_eq, (U_hourglasslaw19_MsgBack _).1, KG_, fillL, List.append_assoc]
    simpa using hK (G ++ G1)
  | true =>
  simp only [A_, simprocAttr, ne_eq, (U_hourglasslaw19_MsgBack _).1, KG_, fillL, List.append_assoc]
  refine h3r _ _ _ okr fun G2 => ?_
  have hgp := getM_put hgr okr
  have hne := putM_ne okr hgr
  have hrp := readM_put hgr okr
  have hlen := putM_le okr
  have hinj : goodM q = true → decide (putM r = putM q) = decide (r = q) := fun h => by
    by_cases e : r = q
    · subst e; simp
    · rw [decide_eq_false e, decide_eq_false fun e2 => e (putM_inj hgr okr h okq e2)]
  generalize putM r = b at *
  have hrp2 : (readM (some b)).2 = some [] := by rw [hrp]
  simp only [A_, simprocAttr, ne_eq, (U_hourglasslaw19_MsgBack _).1, KG_, fillL, List.append_assoc, zm_eq]
  refine h4 _ b _ _ _ .l (by omega) fun G3 => ?_
  rw [hgp]
  have h4b := h4 (.list .uniq 1 (bs (b ++ [more]))) (b ++ [more])
  simp only [tupM, msc, A_, simprocAttr, ne_eq, (U_hourglasslaw19_MsgBack _).1, KG_, fillL, List.append_assoc]
  refine h5' _ _ _ hr.ok hr.ok ?_
  simp only [A_, simprocAttr, ne_eq, (U_hourglasslaw19_MsgBack _).1, KG_, fillL, List.append_assoc]
  refine h2q _ _ _ hq.ok fun G4 => ?_
  have hbl := bs_length b
  have hmore := getM_more hrp2 (c := [more]) (by simp)
  have hap1 : ∀ σ, appendL ⟨1, false, 1, (.s (.int .u8 0))⟩ false (.list .full 1 []) (.list .sh 1 (bs b)) σ = some (.list .uniq 1 (bs b), σ) := fun σ => app_bs0 hne (by omega)
  have hap2 : ∀ σ, appendL ⟨1, false, 1, (.s (.int .u8 0))⟩ false (.list .uniq 1 (bs b)) (.list .full 1 [.s (.int .u8 more.toNat)]) σ = some (.list .uniq 1 (bs (b ++ [more])), σ) := fun σ => app_b1 (.inl rfl) (by omega)
  cases hgq : goodM q with
  | false =>
    simp only [A_, simprocAttr, ne_eq, (U_hourglasslaw19_MsgBack _).1, KG_, fillL, List.append_assoc, conv_bs, hap1, hap2, zm_eq]
    refine h4b _ _ _ .l (by simp; omega) fun G6 => ?_
    obtain ⟨xm, hxm⟩ : ∃ xm, getM (b ++ [more]) = (xm, 3) := pair3 hmore
    rw [hxm]
    simp only [tupM, msc, A_, simprocAttr, ne_eq, (U_hourglasslaw19_MsgBack _).1, KG_, fillL, List.append_assoc]
    by_cases hc0 : cut < 0
    · have hc0' := eq_true hc0
      simp only [A_, simprocAttr, ne_eq, (U_hourglasslaw19_MsgBack _).1, KG_, fillL, List.append_assoc, hc0']
      simpa using hK (G ++ (G1 ++ (G2 ++ (G3 ++ (G4 ++ G6)))))
    obtain ⟨n, rfl⟩ : ∃ n : Nat, cut = n := ⟨cut.toNat, by omega⟩
    by_cases hc1 : n < b.length
    case neg =>
      have hc1' : ((b.length : Int) ≤ (n : Int)) := by omega
      simp only [A_, simprocAttr, ne_eq, (U_hourglasslaw19_MsgBack _).1, KG_, fillL, List.append_assoc, hc0, hbl, hc1']
      simpa using hK (G ++ (G1 ++ (G2 ++ (G3 ++ (G4 ++ G6)))))
    have hc1' : ¬ ((b.length : Int) ≤ (n : Int)) := by omega
    have hsl := slc_cut (l := b) (n := n) (k := .i64) (by omega)
    simp only [A_, simprocAttr, ne_eq, (U_hourglasslaw19_MsgBack _).1, KG_, fillL, List.append_assoc, hc0, hbl, hc1', hsl, zm_eq]
    refine h4 _ (b.take n) _ _ _ .l (by simp; omega) fun G7 => ?_
    obtain ⟨xc, hxc⟩ : ∃ xc, getM (b.take n) = (xc, 3) := pair3 (getM_cut hrp2 hc1)
    rw [hxc]
    simp only [tupM, msc, A_, simprocAttr, ne_eq, (U_hourglasslaw19_MsgBack _).1, KG_, fillL, List.append_assoc]
    simpa using hK (G ++ (G1 ++ (G2 ++ (G3 ++ (G4 ++ (G6 ++ G7))))))
  | true =>
    simp only [A_, simprocAttr, ne_eq, (U_hourglasslaw19_MsgBack _).1, KG_, fillL, List.append_assoc, conv_bs]
    refine h3q _ _ _ okq fun G5 => ?_
    simp only [A_, simprocAttr, ne_eq, (U_hourglasslaw19_MsgBack _).1, KG_, fillL, List.append_assoc, conv_bs]
    refine h5q _ _ _ hr.ok hq.ok ?_
    rw [hinj hgq]
    simp only [A_, simprocAttr, ne_eq, (U_hourglasslaw19_MsgBack _).1, KG_, fillL, List.append_assoc, conv_bs, hap1, hap2, zm_eq]
    refine h4b _ _ _ .l (by simp; omega) fun G6 => ?_
    obtain ⟨xm, hxm⟩ : ∃ xm, getM (b ++ [more]) = (xm, 3) := pair3 hmore
    rw [hxm]
    simp only [tupM, msc, A_, simprocAttr, ne_eq, (U_hourglasslaw19_MsgBack _).1, KG_, fillL, List.append_assoc]
    by_cases hc0 : cut < 0
    · have hc0' := eq_true hc0
      simp only [A_, simprocAttr, ne_eq, (U_hourglasslaw19_MsgBack _).1, KG_, fillL, List.append_assoc, hc0']
      simpa using hK (G ++ (G1 ++ (G2 ++ (G3 ++ (G4 ++ (G5 ++ G6))))))
    obtain ⟨n, rfl⟩ : ∃ n : Nat, cut = n := ⟨cut.toNat, by omega⟩
    by_cases hc1 : n < b.length
    case neg =>
      have hc1' : ((b.length : Int) ≤ (n : Int)) := by omega
      simp only [A_, simprocAttr, ne_eq, (U_hourglasslaw19_MsgBack _).1, KG_, fillL, List.append_assoc, hc0, hbl, hc1']
      simpa using hK (G ++ (G1 ++ (G2 ++ (G3 ++ (G4 ++ (G5 ++ G6))))))
    have hc1' : ¬ ((b.length : Int) ≤ (n : Int)) := by omega
    have hsl := slc_cut (l := b) (n := n) (k := .i64) (by omega)
    simp only [A_, simprocAttr, ne_eq, (U_hourglasslaw19_MsgBack _).1, KG_, fillL, List.append_assoc, hc0, hbl, hc1', hsl, zm_eq]
    refine h4 _ (b.take n) _ _ _ .l (by simp; omega) fun G7 => ?_
    obtain ⟨xc, hxc⟩ : ∃ xc, getM (b.take n) = (xc, 3) := pair3 (getM_cut hrp2 hc1)
    rw [hxc]
    simp only [tupM, msc, A_, simprocAttr, ne_eq, (U_hourglasslaw19_MsgBack _).1, KG_, fillL, List.append_assoc]
    simpa using hK (G ++ (G1 ++ (G2 ++ (G3 ++ (G4 ++ (G5 ++ (G6 ++ G7)))))))
end Go.AM
namespace Go.AM
open Go
set_option maxRecDepth 20000
structure VSt where
  best : Wr
  top : Stp
  found : Bool
end Go.AM
namespace Go.AM
open Go
set_option maxRecDepth 20000
end Go.AM
namespace Go.AM
open Go
set_option maxRecDepth 20000
end Go.AM
namespace Go.AM
open Go
end Go.AM
namespace Go.AM
open Go
set_option maxRecDepth 20000
def ofV (id snap t : Int) (s v : List UInt8) : AV := .agg [.s (.int .i64 id), .s (.int .i64 snap), u8 0, .s (.int .i64 t), u8 0, .s (.bool true), .s .nilS, .list .full 18 [.agg (wc ⟨(keyOf s).1, v, false⟩)]]
end Go.AM
namespace Go.AM
open Go
set_option maxRecDepth 20000
end Go.AM
namespace Go.AM
open Go
set_option maxRecDepth 20000
end Go.AM
namespace Go.AM
open Go
section
variable {H : Type} {enc : TypeId × Value → H} {P : Program} {w : World} {sp : Nat → Bool} {held : Bool}
theorem of_each {α β : Type} {f : β → α} : ∀ (l : List α), (∀ x ∈ l, ∃ b, x = f b) → ∃ bs : List β, l = bs.map f
  | [], _ => ⟨[], rfl⟩
  | x :: l, h => by
    obtain ⟨b, rfl⟩ := h x List.mem_cons_self
    obtain ⟨bs, rfl⟩ := of_each l fun y hy => h y (List.mem_cons_of_mem _ hy)
    exact ⟨b :: bs, rfl⟩
theorem trodAll_stays {W W' : World} (hl : laidOutB P = true) (hb : RowKit.Below W.heap.size W W') : ∀ {ts : List TypeId} {vs : List Value} {ds : List (DataW H)} {ps : List MemPlace}, (∀ t ∈ ts, P.readableRec t = true ∧ t < P.types.size) →
    DataW.TrodAll enc P W 0 (fun _ => true) true ts vs ds ps → DataW.TrodAll enc P W' 0 (fun b => decide (b < W.heap.size)) true ts vs ds ps
  | [], [], [], _, _, h => h
  | t :: ts, v :: vs, d :: ds, ps, ht, ⟨p, q, h1, h2, e⟩ => by
    obtain ⟨n, hn⟩ := h1
    exact ⟨p, q, RowKit.Below.trod hl (ht t List.mem_cons_self).1 (ht t List.mem_cons_self).2 ⟨n, hn⟩ hb (DataW.trod_lt n _ _ _ hn), trodAll_stays hl hb (fun t h => ht t (List.mem_cons_of_mem _ h)) h2, e⟩
  | [], [], _ :: _, _, _, h => h.elim
  | [], _ :: _, _, _, _, h => h.elim
  | _ :: _, [], _, _, _, h => h.elim
  | _ :: _, _ :: _, [], _, _, h => h.elim
end
end Go.AM
namespace Go.AM
open Go
section
variable {H : Type} {enc : TypeId × Value → H} {P : Program} {w : World} {sp : Nat → Bool} {held : Bool}
def contig (P : Program) : List Field → Nat → Nat → Bool
  | [], o, tot => o == tot
  | f :: l, o, tot => f.offset == o && contig P l (o + P.cellsOf f.type) tot
def plainT (P : Program) : Nat → TypeId → Bool
  | 0, _ => false
  | d + 1, t => match P.underlying t with
    | some .bool | some (.int _) | some .string => true
    | some (.slice e) => decide (0 < P.cellsOf e) && (isAgg P e || P.cellsOf e == 1) && plainT P d e
    | some (.struct fs) => contig P fs.toList 0 (P.cellsOf t) && fs.toList.all fun f => plainT P d f.type
    | some (.array m e) => P.cellsOf t == m * P.cellsOf e && plainT P d e
    | _ => false
def shp (P : Program) : Nat → TypeId → List AV → Prop
  | 0, _, _ => False
  | d + 1, t, as => match P.underlying t with
    | some .bool => ∃ b, as = [.s (.bool b)]
    | some (.int k) => ∃ i, as = [.s (.int k i)] ∧ (Lit.int k i).wf = true
    | some .string => ∃ l, as = [.s (.str l)] ∧ l.length ≤ maxLen
    | some (.slice e) => ∃ es : List AV, as = [.list .sh (P.cellsOf e) es] ∧ es.length ≤ maxLen ∧ ∀ x ∈ es, shp P d e x.cells ∧ (isAgg P e = true → x = .agg x.cells) ∧ (isAgg P e = false → x.cells = [x])
    | some (.struct fs) => fs.toList.foldr (fun f (Q : List AV → Prop) as => ∃ a b, as = a ++ b ∧ shp P d f.type a ∧ Q b) (fun as => as = []) as
    | some (.array m e) => ∃ ps : List (List AV), ps.length = m ∧ as = ps.flatten ∧ ∀ p ∈ ps, shp P d e p
    | _ => False
structure Tells (w : World) (as : List AV) (cs : List Value) : Prop where
  vl : VL G.none w as cs
  cell : ∀ c ∈ as, c.isCell = true
  low : AV.under.go 0 as = true
theorem Tells.nil : Tells w [] [] := ⟨.nil, (fun _ h => by cases h), rfl⟩
theorem Tells.app {a b : List AV} {c d : List Value} (h : Tells w a c) (h' : Tells w b d) : Tells w (a ++ b) (c ++ d) :=
  ⟨h.vl.app h'.vl, fun x hx => (List.mem_append.1 hx).elim (h.cell x) (h'.cell x), by rw [under_app', h.low, h'.low]; rfl⟩
theorem Tells.flat : ∀ {ps : List (List AV)} {qs : List (List Value)}, ps.length = qs.length → (∀ (i : Nat) (p : List AV) (q : List Value), ps[i]? = some p → qs[i]? = some q → Tells w p q) → Tells w ps.flatten qs.flatten
  | [], [], _, _ => .nil
  | [], _ :: _, h, _ => by simp at h
  | _ :: _, [], h, _ => by simp at h
  | p :: ps, q :: qs, h, hall => by
    rw [List.flatten_cons, List.flatten_cons]
    exact (hall 0 p q rfl rfl).app (Tells.flat (by simpa using h) fun i a b ha hb => hall (i + 1) a b (by simpa using ha) (by simpa using hb))
theorem Tells.sc (x : Sc) : Tells w [.s x] [x.toV] := ⟨.sc x .nil, fun c hc => by rw [List.mem_singleton.1 hc]; rfl, rfl⟩
theorem lies_flat {b c : Nat} : ∀ (qs : List (List Value)) (off : Nat), (∀ i q, qs[i]? = some q → w.cells? 0 ⟨b, off + i * c, none⟩ c = some q) → ∀ j v, qs.flatten[j]? = some v → w.cell? ⟨b, off + j, none⟩ = some v
  | [], off, _, j, v, h => by simp at h
  | q :: qs, off, hall, j, v, h => by
    have hk := hall 0 q rfl
    rw [Nat.zero_mul, Nat.add_zero] at hk
    have hs := World.cells?_some hk
    rw [List.flatten_cons] at h
    by_cases hj : j < c
    · rw [List.getElem?_append_left (by omega)] at h
      have := hs.2.2 j hj
      rw [Addr.add_lit] at this
      rw [this]; exact h
    · rw [List.getElem?_append_right (by omega), hs.2.1] at h
      have := lies_flat qs (off + c) (fun i q hi => by
        have := hall (i + 1) q (by simpa using hi)
        rw [show off + c + i * c = off + (i + 1) * c by rw [Nat.add_mul]; omega]
        exact this) (j - c) v h
      rwa [show off + c + (j - c) = off + j by omega] at this
theorem choose_list {β : Type} {n : Nat} {p : Nat → β → Prop} (h : ∀ i, i < n → ∃ b, p i b) : ∃ l : List β, l.length = n ∧ ∀ i b, l[i]? = some b → p i b := by
  induction n with
  | zero => exact ⟨[], rfl, fun i b h => by simp at h⟩
  | succ n ih =>
    obtain ⟨l, hl, hall⟩ := ih fun i hi => h i (by omega)
    obtain ⟨b, hb⟩ := h n (by omega)
    refine ⟨l ++ [b], by simp [hl], fun i c hc => ?_⟩
    by_cases hi : i < l.length
    · rw [List.getElem?_append_left hi] at hc; exact hall i c hc
    · rw [List.getElem?_append_right (by omega)] at hc
      have : i = n := by
        have := (List.getElem?_eq_some_iff.1 hc).1
        simp at this; omega
      subst this
      rw [hl, Nat.sub_self] at hc
      injection hc with hc; subst hc; exact hb
def elemA (ag : Bool) (as : List AV) : AV := match ag with
  | true => .agg as
  | false => as.getD 0 .undef
theorem elemA_cells {w : World} {ag : Bool} {as : List AV} {cs : List Value} (h : Tells w as cs) (hl : ag = true ∨ as.length = 1) : (elemA ag as).cells = as := by
  cases ag with
  | true => rfl
  | false =>
    obtain ⟨a, rfl⟩ := List.length_eq_one_iff.1 (hl.resolve_left (by simp))
    have hc := h.cell a (by simp)
    show a.cells = [a]
    cases a <;> simp [AV.isCell] at hc <;> rfl
theorem elemA_low {w : World} {ag : Bool} {as : List AV} {cs : List Value} (h : Tells w as cs) (hl : ag = true ∨ as.length = 1) : AV.under 0 (elemA ag as) = true := by
  cases ag with
  | true => exact h.low
  | false =>
    obtain ⟨a, rfl⟩ := List.length_eq_one_iff.1 (hl.resolve_left (by simp))
    have := h.low
    simpa [elemA, AV.under.go] using this
theorem trod_struct_shp {d m tot : Nat} {cs : List Value} (ih : ∀ t, plainT P d t = true → ∀ N cs x, DataW.trod enc P w 0 sp held N t cs = some x → ∃ as, shp P d t as ∧ Tells w as cs) (htot : cs.length = tot) :
    ∀ (l : List Field) (o : Nat), contig P l o tot = true → (l.all fun f => plainT P d f.type) = true → (∀ f ∈ l, ∃ x, DataW.trod enc P w 0 sp held m f.type ((cs.drop f.offset).take (P.cellsOf f.type)) = some x) →
    ∃ as, l.foldr (fun f (Q : List AV → Prop) as => ∃ a b, as = a ++ b ∧ shp P d f.type a ∧ Q b) (fun as => as = []) as ∧ Tells w as (cs.drop o)
  | [], o, hc, _, _ => by
    have : o = tot := by simpa [contig] using hc
    subst this
    rw [List.drop_of_length_le (by omega)]
    exact ⟨[], rfl, .nil⟩
  | f :: l, o, hc, hp, hall => by
    simp only [contig, Bool.and_eq_true, beq_iff_eq] at hc
    simp only [List.all_cons, Bool.and_eq_true] at hp
    obtain ⟨x, hx⟩ := hall f List.mem_cons_self
    obtain ⟨a, ha, hta⟩ := ih _ hp.1 _ _ _ hx
    obtain ⟨b, hb, htb⟩ := trod_struct_shp ih htot l _ hc.2 hp.2 fun g hg => hall g (List.mem_cons_of_mem _ hg)
    refine ⟨a ++ b, ⟨a, b, rfl, ha, hb⟩, ?_⟩
    rw [hc.1] at hta
    have : cs.drop o = (cs.drop o).take (P.cellsOf f.type) ++ cs.drop (o + P.cellsOf f.type) := by
      rw [← List.drop_drop, List.take_append_drop]
    rw [this]
    exact hta.app htb
theorem flat_parts {c : Nat} : ∀ (m : Nat) (cs : List Value), cs.length = m * c → ((List.range m).map fun i => (cs.drop (i * c)).take c).flatten = cs
  | 0, cs, h => by simp at h; subst h; rfl
  | m + 1, cs, h => by
    rw [List.range_succ_eq_map, List.map_cons, List.map_map, List.flatten_cons, Nat.zero_mul, List.drop_zero]
    have := flat_parts (c := c) m (cs.drop c) (by rw [List.length_drop, h, Nat.add_mul]; omega)
    have e : ((fun i => (cs.drop (i * c)).take c) ∘ Nat.succ) = fun i => ((cs.drop c).drop (i * c)).take c := by
      funext i
      simp only [Function.comp, List.drop_drop, Nat.succ_eq_add_one, Nat.add_mul, Nat.one_mul]
      rw [Nat.add_comm c]
    rw [e, this, List.take_append_drop]
theorem trod_shp : ∀ (d : Nat) (t : TypeId), plainT P d t = true → ∀ (N : Nat) (cs : List Value) (x : DataW H × List MemPlace), DataW.trod enc P w 0 sp held N t cs = some x → ∃ as, shp P d t as ∧ Tells w as cs
  | 0, t, h, _, _, _, _ => by simp [plainT] at h
  | d + 1, t, h, N, cs, x, hx => by
    have ih := trod_shp d
    unfold plainT at h
    unfold shp
    cases hu : P.underlying t with
    | none => rw [hu] at h; cases h
    | some D =>
      rw [hu] at h
      cases D with
      | bool =>
        obtain ⟨b, rfl, _⟩ := DataW.trod_bool hu hx
        exact ⟨_, ⟨b, rfl⟩, .sc (.bool b)⟩
      | int k =>
        obtain ⟨n, rfl, _, hw⟩ := DataW.trod_int hu hx
        exact ⟨_, ⟨n, rfl, hw⟩, .sc (.int k n)⟩
      | string =>
        obtain ⟨s, rfl, _, hl⟩ := DataW.trod_string hu hx
        refine ⟨_, ⟨s.data.toList, rfl, by simpa using hl⟩, ?_⟩
        have := Tells.sc (w := w) (.str s.data.toList)
        simpa [Sc.toV] using this
      | slice e =>
        simp only [Bool.and_eq_true, decide_eq_true_eq, Bool.or_eq_true, beq_iff_eq] at h
        obtain ⟨⟨hpos, hag⟩, hpe⟩ := h
        rcases DataW.trod_slice hu hx with ⟨rfl, _⟩ | ⟨a, len, cap, elems, rest, n, _, rfl, _, _, hle, hcap, hlen, hel, _, _⟩
        · exact ⟨_, ⟨[], rfl, Nat.zero_le _, fun _ h => by cases h⟩, ⟨.lnil hpos .nil, fun c hc => by rw [List.mem_singleton.1 hc]; rfl, rfl⟩⟩
        · have each : ∀ i, i < len → ∃ z : List Value × List AV, w.cells? 0 (a.add (i * P.cellsOf e)) (P.cellsOf e) = some z.1 ∧ shp P d e z.2 ∧ Tells w z.2 z.1 := fun i hi => by
            have h1 := hel i hi
            rw [List.getElem?_eq_getElem (by omega)] at h1
            obtain ⟨q, hq, hq2⟩ := Option.bind_eq_some_iff.1 h1
            obtain ⟨as, h2, h3⟩ := ih e hpe _ _ _ hq2
            exact ⟨(q, as), hq, h2, h3⟩
          obtain ⟨l, hl, hall⟩ := choose_list each
          have hin : ∀ z ∈ l, (∃ i, w.cells? 0 (a.add (i * P.cellsOf e)) (P.cellsOf e) = some z.1) ∧ shp P d e z.2 ∧ Tells w z.2 z.1 := fun z hz => by
            obtain ⟨i, hi⟩ := List.getElem?_of_mem hz
            exact ⟨⟨i, (hall i z hi).1⟩, (hall i z hi).2⟩
          have hone : ∀ z ∈ l, z.2.length = P.cellsOf e := fun z hz => by
            obtain ⟨⟨i, h1⟩, _, h2⟩ := hin z hz
            rw [← h2.vl.length]; exact (World.cells?_some h1).2.1
          have hag' : ∀ z ∈ l, isAgg P e = true ∨ z.2.length = 1 := fun z hz => hag.imp id fun h => by rw [hone z hz, h]
          let es : List AV := l.map fun z => elemA (isAgg P e) z.2
          have hcells : es.flatMap AV.cells = (l.map (·.2)).flatten := by
            have : ∀ (l' : List (List Value × List AV)), (∀ z ∈ l', z ∈ l) → (l'.map fun z => elemA (isAgg P e) z.2).flatMap AV.cells = (l'.map (·.2)).flatten := by
              intro l'
              induction l' with
              | nil => intro _; rfl
              | cons z l' ihl =>
                intro hs
                rw [List.map_cons, List.flatMap_cons, List.map_cons, List.flatten_cons, ihl fun y hy => hs y (List.mem_cons_of_mem _ hy)]
                have hz := hs z List.mem_cons_self
                rw [elemA_cells (hin z hz).2.2 (hag' z hz)]
            exact this l fun _ h => h
          have hspot : es = [] ∨ a.spot = none := by
            by_cases h0 : len = 0
            · left; apply List.length_eq_zero_iff.1; simp [es, hl, h0]
            · right
              obtain ⟨z, hz, _⟩ := each 0 (by omega)
              have h1 := (World.cells?_some hz).2.2 0 hpos
              have h2 : (a.add (0 * P.cellsOf e)).add 0 = a := by simp [Addr.add]
              rw [h2, List.getElem?_eq_getElem (by rw [(World.cells?_some hz).2.1]; exact hpos)] at h1
              unfold World.cell? at h1
              split at h1
              · split at h1
                · cases h1
                · rename_i h3; simpa using h3
              · cases h1
          have htell : Tells w (l.map (·.2)).flatten (l.map (·.1)).flatten := Tells.flat (by simp) fun i p q hp hq => by
            rw [List.getElem?_map] at hp hq
            cases hz : l[i]? with
            | none => rw [hz] at hp; cases hp
            | some z =>
              rw [hz] at hp hq
              injection hp with hp; injection hq with hq; subst hp; subst hq
              exact (hall i z hz).2.2
          refine ⟨_, ⟨es, rfl, by simp [es, hl]; omega, fun y hy => ?_⟩, ⟨?_, fun c hc => by rw [List.mem_singleton.1 hc]; rfl, rfl⟩⟩
          · obtain ⟨z, hz, rfl⟩ := List.mem_map.1 hy
            rw [elemA_cells (hin z hz).2.2 (hag' z hz)]
            refine ⟨(hin z hz).2.1, fun h => by rw [h]; rfl, fun h => ?_⟩
            obtain ⟨a, ha⟩ := List.length_eq_one_iff.1 ((hag' z hz).resolve_left (by rw [h]; simp))
            rw [ha, h]; rfl
          · refine .list (xs := (l.map (·.1)).flatten) (.inl rfl) (by simp [es, hl]) hle hpos hspot (fun y hy => ?_) ?_ (by rw [hcells]; exact htell.vl) (fun i v hv => ⟨?_, fun h => (show False from h)⟩) .nil
            · obtain ⟨z, hz, rfl⟩ := List.mem_map.1 hy
              rw [elemA_cells (hin z hz).2.2 (hag' z hz)]
              exact ⟨hone z hz, (hin z hz).2.2.cell⟩
            · refine under_mem.2 fun y hy => ?_
              obtain ⟨z, hz, rfl⟩ := List.mem_map.1 hy
              exact elemA_low (hin z hz).2.2 (hag' z hz)
            · rcases hspot with h0 | h0
              · have : l = [] := by simpa [es] using h0
                rw [this] at hv; simp at hv
              · obtain ⟨ab, ao, as⟩ := a
                dsimp only at h0; subst h0
                refine lies_flat (c := P.cellsOf e) _ ao (fun j q hq => ?_) i v hv
                rw [List.getElem?_map] at hq
                cases hz : l[j]? with
                | none => rw [hz] at hq; cases hq
                | some z =>
                  rw [hz] at hq
                  injection hq with hq; subst hq
                  have := (hall j z hz).1
                  rwa [Addr.add_lit] at this
      | struct fs =>
        simp only [Bool.and_eq_true] at h
        obtain ⟨xs, n, _, _, hl, hxl, hf⟩ := DataW.trod_struct hu hx
        obtain ⟨as, h1, h2⟩ := trod_struct_shp (m := n) ih hl fs.toList 0 h.1 h.2 fun f hm => by
          obtain ⟨i, hi⟩ := List.getElem?_of_mem hm
          have hi' : fs[i]? = some f := by simpa using hi
          have := hf i f hi'
          have hlt := (Array.getElem?_eq_some_iff.1 hi').1
          rw [List.getElem?_eq_getElem (by omega)] at this
          exact ⟨_, this⟩
        exact ⟨as, h1, by simpa using h2⟩
      | array m e =>
        simp only [Bool.and_eq_true, beq_iff_eq] at h
        obtain ⟨xs, n, _, _, hl, hxl, hf⟩ := DataW.trod_array hu hx
        obtain ⟨ps, hpl, hall⟩ := choose_list (n := m) (p := fun i as => shp P d e as ∧ Tells w as ((cs.drop (i * P.cellsOf e)).take (P.cellsOf e))) fun i hi => by
          have := hf i hi
          rw [List.getElem?_eq_getElem (by omega)] at this
          exact ih e h.2 _ _ _ this
        refine ⟨ps.flatten, ⟨ps, hpl, rfl, fun p hp => ?_⟩, ?_⟩
        · obtain ⟨i, hi⟩ := List.getElem?_of_mem hp
          exact (hall i p hi).1
        · rw [← flat_parts (c := P.cellsOf e) m cs (by rw [hl, h.1])]
          refine Tells.flat (by simp [hpl]) fun i p q hp hq => ?_
          have hlt : i < m := by have := (List.getElem?_eq_some_iff.1 hp).1; omega
          have : q = (cs.drop (i * P.cellsOf e)).take (P.cellsOf e) := by
            rw [List.getElem?_map, List.getElem?_range hlt] at hq
            injection hq with hq; exact hq.symm
          subst this
          exact (hall i p hp).2
      | _ => cases h
def argA (ag : Bool) (as : List AV) : AV := elemA ag as
theorem trod_arg {d : Nat} {t : TypeId} {v : Value} {D : DataW H} {ps : List MemPlace} (hp : plainT P d t = true) (hok : Value.okWide P w .any 0 t v) (h : DataW.Trod enc P w 0 sp held t v D ps) :
    ∃ as, shp P d t as ∧ V G.none w (argA (isAgg P t) as) v := by
  obtain ⟨n, hn⟩ := h
  obtain ⟨as, h1, h2⟩ := trod_shp d t hp n _ _ hn
  refine ⟨as, h1, ?_⟩
  cases hu : P.underlying t with
  | none =>
    cases d with
    | zero => simp [plainT] at hp
    | succ d => rw [plainT, hu] at hp; cases hp
  | some D =>
    have scalar : isAgg P t = false → (∀ xs, v ≠ .agg xs) → V G.none w (argA (isAgg P t) as) v := fun hf hv => by
      rw [hf]
      have e : v.cells.toList = [v] := by
        cases v <;> first | rfl | exact (hv _ rfl).elim
      rw [e] at h2
      obtain ⟨a, as', rfl, h3, h4⟩ : ∃ a as', as = a :: as' ∧ V G.none w a v ∧ VL G.none w as' [] := by
        cases as with
        | nil => have := h2.vl.length; simp at this
        | cons a as' =>
          obtain ⟨v', vs', hh, h3, h4⟩ := h2.vl.cons_left
          injection hh with hh1 hh2; subst hh1; subst hh2
          exact ⟨a, as', rfl, h3, h4⟩
      exact h3
    cases D with
    | struct fs =>
      simp only [Value.okWide, hu] at hok
      obtain ⟨cs, rfl, _, _⟩ := hok
      rw [show isAgg P t = true by simp [isAgg, hu]]
      exact .agg h2.cell (by simpa [Value.cells] using h2.vl) .nil
    | array m e =>
      simp only [Value.okWide, hu] at hok
      obtain ⟨cs, rfl, _, _⟩ := hok
      rw [show isAgg P t = true by simp [isAgg, hu]]
      exact .agg h2.cell (by simpa [Value.cells] using h2.vl) .nil
    | _ =>
      refine scalar (by simp [isAgg, hu]) fun xs hv => ?_
      subst hv
      simp [Value.okWide, Cell.okWide, Cell.ok, hu] at hok
end
end Go.AM
namespace Go.AM
open Go
section
variable {P : Program}
def parts (P : Program) (d : Nat) : List TypeId → List AV → Prop
  | [], as => as = []
  | u :: ts, as => ∃ a b, as = a ++ b ∧ shp P d u a ∧ parts P d ts b
theorem parts_of {d : Nat} : ∀ {fs : List Field} {as : List AV}, fs.foldr (fun f (Q : List AV → Prop) as => ∃ a b, as = a ++ b ∧ shp P d f.type a ∧ Q b) (fun as => as = []) as → parts P d (fs.map (·.type)) as
  | [], _, h => h
  | f :: fs, as, h => by
    obtain ⟨a, b, h1, h2, h3⟩ := h
    exact ⟨a, b, h1, h2, parts_of h3⟩
theorem shp_struct {d : Nat} {t : TypeId} {fs : Array Field} {ts : List TypeId} {as : List AV} (ht : P.underlying t = some (.struct fs)) (hts : fs.toList.map (·.type) = ts) (h : shp P (d + 1) t as) : parts P d ts as := by
  unfold shp at h
  rw [ht] at h
  subst hts
  exact parts_of h
theorem shp_int {d : Nat} {t : TypeId} {k : IntKind} {as : List AV} (ht : P.underlying t = some (.int k)) (h : shp P (d + 1) t as) : ∃ i, as = [.s (.int k i)] ∧ (Lit.int k i).wf = true := by
  unfold shp at h; rw [ht] at h; exact h
theorem shp_bool {d : Nat} {t : TypeId} {as : List AV} (ht : P.underlying t = some .bool) (h : shp P (d + 1) t as) : ∃ b, as = [.s (.bool b)] := by
  unfold shp at h; rw [ht] at h; exact h
theorem shp_str {d : Nat} {t : TypeId} {as : List AV} (ht : P.underlying t = some .string) (h : shp P (d + 1) t as) : ∃ l, as = [.s (.str l)] ∧ l.length ≤ maxLen := by
  unfold shp at h; rw [ht] at h; exact h
theorem shp_u8 {d : Nat} {t : TypeId} {as : List AV} (ht : P.underlying t = some (.int .u8)) (h : shp P (d + 1) t as) : ∃ b : UInt8, as = [u8 b] := by
  obtain ⟨i, rfl, hw⟩ := shp_int ht h
  have := bounds_u8 hw
  refine ⟨UInt8.ofNat i.toNat, ?_⟩
  have : ((UInt8.ofNat i.toNat).toNat : Int) = i := by rw [UInt8.toNat_ofNat']; omega
  show _ = [AV.s (.int .u8 _)]
  rw [this]
theorem shp_key {d : Nat} {t u : TypeId} {as : List AV} (ht : P.underlying t = some (.array 16 u)) (hu : P.underlying u = some (.int .u8)) (h : shp P (d + 2) t as) : ∃ k : Key, as = bs k.b := by
  unfold shp at h; rw [ht] at h
  obtain ⟨ps, hl, rfl, hall⟩ := h
  obtain ⟨l, rfl⟩ := of_each (f := fun b => [u8 b]) ps fun p hp => shp_u8 hu (hall p hp)
  refine ⟨⟨l, by simpa using hl⟩, ?_⟩
  show _ = l.map u8
  clear hl hall
  induction l with
  | nil => rfl
  | cons b l ih => simp only [List.map_cons, List.flatten_cons, ih]; rfl
theorem shp_wr {d : Nat} {t tk u ts tb : TypeId} {fs : Array Field} {as : List AV} (ht : P.underlying t = some (.struct fs)) (hf : fs.toList.map (·.type) = [tk, ts, tb]) (hk : P.underlying tk = some (.array 16 u)) (hu : P.underlying u = some (.int .u8)) (hs : P.underlying ts = some .string) (hb : P.underlying tb = some .bool)
    (h : shp P (d + 3) t as) : ∃ w : Wr, as = wc w := by
  obtain ⟨a, r, rfl, h1, a2, r2, rfl, h2, a3, r3, rfl, h3, rfl⟩ := shp_struct ht hf h
  obtain ⟨k, rfl⟩ := shp_key hk hu h1
  obtain ⟨l, rfl, _⟩ := shp_str hs h2
  obtain ⟨b, rfl⟩ := shp_bool hb h3
  exact ⟨⟨k, l, b⟩, rfl⟩
end
end Go.AM
namespace Go.AM
open Go
section
variable {P : Program}
theorem shp_stamp {d : Nat} {t ti tn : TypeId} {fs : Array Field} {as : List AV} (ht : P.underlying t = some (.struct fs)) (hf : fs.toList.map (·.type) = [ti, tn]) (hi : P.underlying ti = some (.int .i64)) (hn : P.underlying tn = some (.int .u8)) (h : shp P (d + 2) t as) : ∃ s : Stp, as = stc s := by
  obtain ⟨a, r, rfl, h1, a2, r2, rfl, h2, rfl⟩ := shp_struct ht hf h
  obtain ⟨i, rfl, _⟩ := shp_int hi h1
  obtain ⟨b, rfl⟩ := shp_u8 hn h2
  exact ⟨⟨i, b⟩, rfl⟩
end
end Go.AM
namespace Go.AM
open Go
variable {P : Program}
theorem wT {α : Type} {p : α → Prop} (h : ∃ x, p x) : ∃ x, p x ∧ True := h.imp fun _ e => ⟨e, trivial⟩
theorem of_eachQ {α : Type} {f : α → AV} {Q : α → Prop} : ∀ (es : List AV), (∀ x ∈ es, ∃ a, x = f a ∧ Q a) → ∃ l : List α, es = l.map f ∧ ∀ a ∈ l, Q a
  | [], _ => ⟨[], rfl, fun a h => by cases h⟩
  | x :: es, h => by
    obtain ⟨a, rfl, hq⟩ := h x (List.mem_cons_self ..)
    obtain ⟨l, rfl, hl⟩ := of_eachQ es fun y hy => h y (List.mem_cons_of_mem _ hy)
    exact ⟨a :: l, rfl, fun b hb => by rcases List.mem_cons.1 hb with rfl | hb; exact hq; exact hl b hb⟩
theorem shp_sliceQ {d : Nat} {t e : TypeId} {c : Nat} {as : List AV} {α : Type} (f : α → AV) (Q : α → Prop) (ht : P.underlying t = some (.slice e)) (hc : P.cellsOf e = c) (he : ∀ x : AV, shp P d e x.cells → (isAgg P e = true → x = .agg x.cells) → (isAgg P e = false → x.cells = [x]) → ∃ a, x = f a ∧ Q a) (h : shp P (d + 1) t as) :
    ∃ l : List α, as = [.list .sh c (l.map f)] ∧ l.length ≤ 9223372036854775807 ∧ ∀ a ∈ l, Q a := by
  subst hc
  unfold shp at h; rw [ht] at h
  obtain ⟨es, rfl, hl, hall⟩ := h
  obtain ⟨l, rfl, hq⟩ := of_eachQ (f := f) es fun x hx => he x (hall x hx).1 (hall x hx).2.1 (hall x hx).2.2
  refine ⟨l, rfl, ?_, hq⟩
  rw [List.length_map] at hl
  unfold maxLen at hl; omega
theorem shp_i64 {d : Nat} {t : TypeId} {as : List AV} (ht : P.underlying t = some (.int .i64)) (h : shp P (d + 1) t as) : ∃ i : Int, as = [.s (.int .i64 i)] ∧ -9223372036854775808 ≤ i ∧ i ≤ 9223372036854775807 := by
  obtain ⟨i, rfl, hw⟩ := shp_int ht h
  refine ⟨i, rfl, ?_⟩
  unfold Lit.wf at hw
  rw [Bool.and_eq_true] at hw
  have h1 := of_decide_eq_true hw.1
  have h2 := of_decide_eq_true hw.2
  simp [IntKind.min, IntKind.max, IntKind.signed, IntKind.bits] at h1 h2
  omega
theorem shp_strQ {d : Nat} {t : TypeId} {as : List AV} (ht : P.underlying t = some .string) (h : shp P (d + 1) t as) : ∃ l : List UInt8, as = [.s (.str l)] ∧ l.length ≤ 9223372036854775807 := by
  obtain ⟨l, rfl, hl⟩ := shp_str ht h
  refine ⟨l, rfl, ?_⟩
  unfold maxLen at hl; omega
end Go.AM
