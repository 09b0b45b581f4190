import Derived.Test.YtokgblddddfhnaaM10
import Derived.Test.YtokgblddddfhnaaM7
import Derived.OpenShut
import Derived.Carry
import Derived.ChangeOld
namespace Go.AM
open Go
set_option maxRecDepth 20000
set_option linter.unusedSimpArgs false
set_option linter.unusedVariables false

/-- A number is read: i groups are behind. -/
def getG : Nat → Nat → List UInt8 → Option (Nat × Nat)
  | _, _, [] => none
  | i, acc, x :: b => if i = 9 ∧ 1 < x.toNat then none else if x.toNat < 128 then (if x = 0 ∧ 0 < i then none else some (acc + x.toNat % 128 * 2 ^ (7 * i), i + 1)) else if i = 9 then none else getG (i + 1) (acc + x.toNat % 128 * 2 ^ (7 * i)) b
def getN (b : List UInt8) : Nat × Nat := (getG 0 0 b).getD (0, 0)
theorem getG_bound : ∀ (b : List UInt8) (i acc v n : Nat), i ≤ 9 → acc < 2 ^ (7 * i) → getG i acc b = some (v, n) → v < 18446744073709551616 ∧ i < n ∧ n ≤ i + b.length ∧ n ≤ 10
  | [], i, acc, v, n, _, _, h => by simp [getG] at h
  | x :: b, i, acc, v, n, hi, ha, h => by
    unfold getG at h
    split at h
    · cases h
    rename_i h1
    have hx : x.toNat % 128 < 128 := Nat.mod_lt _ (by omega)
    have hb : acc + x.toNat % 128 * 2 ^ (7 * i) < 2 ^ (7 * (i + 1)) := by
      rw [show 7 * (i + 1) = 7 * i + 7 by omega, Nat.pow_add]
      have : x.toNat % 128 * 2 ^ (7 * i) ≤ 127 * 2 ^ (7 * i) := Nat.mul_le_mul_right _ (by omega)
      have h128 : (2:Nat) ^ 7 = 128 := rfl
      rw [h128]; omega
    split at h
    · rename_i h2
      split at h
      · cases h
      · injection h with h; injection h with h3 h4
        subst h3 h4
        refine ⟨?_, by omega, by simp, by omega⟩
        by_cases h9 : i = 9
        · subst h9
          have : x.toNat ≤ 1 := by omega
          have h63 : (2:Nat) ^ (7 * 9) = 9223372036854775808 := rfl
          rw [h63] at ha ⊢
          have : x.toNat % 128 * 9223372036854775808 ≤ 1 * 9223372036854775808 := Nat.mul_le_mul_right _ (by omega)
          omega
        · have : (2:Nat) ^ (7 * (i + 1)) ≤ 2 ^ 63 := Nat.pow_le_pow_right (by omega) (by omega)
          have h63 : (2:Nat) ^ 63 = 9223372036854775808 := rfl
          omega
    · split at h
      · cases h
      · obtain ⟨a, b', c, d⟩ := getG_bound b (i + 1) _ v n (by omega) hb h
        exact ⟨a, by omega, by simp; omega, d⟩
theorem getN_bound (b : List UInt8) : (getN b).1 < 18446744073709551616 ∧ (getN b).2 ≤ b.length ∧ (getN b).2 ≤ 10 := by
  unfold getN
  cases h : getG 0 0 b with
  | none => simp
  | some p =>
    obtain ⟨v, n⟩ := p
    obtain ⟨h1, h2, h3, h4⟩ := getG_bound b 0 0 v n (by omega) (by simp) h
    exact ⟨h1, by simpa using h3, h4⟩
theorem or_add {i a y : Nat} (ha : a < 2 ^ i) : a ||| y * 2 ^ i = a + y * 2 ^ i := by
  rw [Nat.or_comm, Nat.mul_comm y, ← Nat.two_pow_add_eq_or_of_lt ha, Nat.add_comm]
theorem or_u {a b : Nat} (ha : a < 18446744073709551616) (hb : b < 18446744073709551616) : ((BitVec.ofInt IntKind.u64.bits (a : Int) ||| BitVec.ofInt IntKind.u64.bits (b : Int)).toNat : Int) = ((a ||| b : Nat) : Int) := by
  show ((BitVec.ofInt 64 (a : Int) ||| BitVec.ofInt 64 (b : Int)).toNat : Int) = _
  rw [BitVec.toNat_or, ofInt_toNat (by omega) (by omega), ofInt_toNat (by omega) (by omega)]
  simp
theorem and127 (x : UInt8) : IntKind.u8.wrap ((BitVec.ofInt IntKind.u8.bits (x.toNat : Int) &&& BitVec.ofInt IntKind.u8.bits 127).toNat : Int) = ((x.toNat % 128 : Nat) : Int) := by
  have : ∀ m : Fin 256, IntKind.u8.wrap ((BitVec.ofInt IntKind.u8.bits (m.val : Int) &&& BitVec.ofInt IntKind.u8.bits 127).toNat : Int) = ((m.val % 128 : Nat) : Int) := by decide +kernel
  exact this ⟨x.toNat, x.toNat_lt⟩
theorem ixl_b {b : List UInt8} {i : Nat} (h : i < b.length) : indexAddrL (.sl 1) (.list .sh 1 (bs b)) (.s (.int .i64 (i : Int))) = some (.rop [u8 b[i]]) := ixl_map (f := u8) h (by omega)
theorem pow_lt (i : Nat) (h : i ≤ 9) : (2:Nat) ^ (7 * i) ≤ 9223372036854775808 := by
  have : (2:Nat) ^ (7 * i) ≤ 2 ^ 63 := Nat.pow_le_pow_right (by omega) (by omega)
  exact this
/-- The group's step. -/
theorem step_u {i acc : Nat} {x : Nat} (hi : i ≤ 9) (ha : acc < 2 ^ (7 * i)) (hx : x < 128) (h9 : i = 9 → x ≤ 1) :
    (acc + x * 2 ^ (7 * i) < 18446744073709551616) ∧ (i < 9 → acc + x * 2 ^ (7 * i) < 2 ^ (7 * (i + 1))) ∧ IntKind.u64.wrap ((x : Int) * 2 ^ (min (7 * i) IntKind.u64.bits)) = ((x * 2 ^ (7 * i) : Nat) : Int) ∧ IntKind.u64.wrap ((BitVec.ofInt IntKind.u64.bits (acc : Int) ||| BitVec.ofInt IntKind.u64.bits ((x * 2 ^ (7 * i) : Nat) : Int)).toNat : Int) = ((acc + x * 2 ^ (7 * i) : Nat) : Int) := by
  have hp := pow_lt i hi
  have hb : i < 9 → acc + x * 2 ^ (7 * i) < 2 ^ (7 * (i + 1)) := fun _ => by
    rw [show 7 * (i + 1) = 7 * i + 7 by omega, Nat.pow_add]
    have : x * 2 ^ (7 * i) ≤ 127 * 2 ^ (7 * i) := Nat.mul_le_mul_right _ (by omega)
    have h128 : (2:Nat) ^ 7 = 128 := rfl
    rw [h128]; omega
  have h1 : acc + x * 2 ^ (7 * i) < 18446744073709551616 := by
    by_cases h : i = 9
    · have : x * 2 ^ (7 * i) ≤ 1 * 2 ^ (7 * i) := Nat.mul_le_mul_right _ (h9 h)
      omega
    · have h2 := hb (by omega)
      have : (2:Nat) ^ (7 * (i + 1)) ≤ 2 ^ 63 := Nat.pow_le_pow_right (by omega) (by omega)
      have h63 : (2:Nat) ^ 63 = 9223372036854775808 := rfl
      omega
  have hm : min (7 * i) IntKind.u64.bits = 7 * i := by
    show min (7 * i) 64 = _; omega
  refine ⟨h1, hb, ?_, ?_⟩
  · rw [hm]
    have : ((x : Int) * 2 ^ (7 * i)) = ((x * 2 ^ (7 * i) : Nat) : Int) := by rw [Int.natCast_mul, Int.natCast_pow]; rfl
    rw [this]; exact wrap_u64n (by omega)
  · rw [or_u (by omega) (by omega), or_add ha]; exact wrap_u64n h1
def GetS (C : CallW) (f : FuncId) : Prop := ∀ (a : AV) (b : List UInt8) S H (K : AV → St → Prop), BA a b → b.length ≤ 9223372036854775807 → K (.tup [.s (.int .u64 ((getN b).1 : Nat)), .s (.int .i64 ((getN b).2 : Nat)), .s (.int .i64 (if (getN b).2 = 0 then 3 else 0))]) ⟨S, H⟩ → C (.fn f) [a] ⟨S, H⟩ K
set_option maxHeartbeats 8000000 in
theorem bits_Get_spec {C : CallW} (hC : LeC C C) (P : Program) : ∀ (b : List UInt8) S H (K : AV → St → Prop), b.length ≤ 9223372036854775807 → K (.tup [.s (.int .u64 ((getN b).1 : Nat)), .s (.int .i64 ((getN b).2 : Nat)), .s (.int .i64 (if (getN b).2 = 0 then 3 else 0))]) ⟨S, H⟩ → runL C P C_bits_Get [.list .sh 1 (bs b)] ⟨S, H⟩ K := by
  intro b S H K hb hK
  have hbl := bs_length b
  unfold getN at hK
  simp only [C_bits_Get, A_, simprocAttr, ne_eq, U_bits_Get.1, hbl]
  refine loop_rule hC (α := Nat × Nat) (fun a => b.length - a.1) (fun a => [.undef, .undef, .s (.int .u64 a.2), .undef, .undef, .undef, .undef, .list .sh 1 (bs b), .s (.int .i64 b.length), .s (.int .i64 a.1), .undef, .undef, .undef, .undef, .undef, .undef, .undef, .undef, .undef, .undef, .undef, .undef, .undef, .undef, .undef, .undef, .undef, .undef, .undef, .undef, .undef, .undef, .undef, .undef, .undef, .undef, .undef, .undef, .undef, .undef, .undef, .undef, .undef, .undef]) (fun _ => S) (fun _ => H) (fun a => a.1 ≤ b.length ∧ a.1 ≤ 9 ∧ a.2 < 2 ^ (7 * a.1) ∧ getG 0 0 b = getG a.1 a.2 (b.drop a.1)) (0, 0) ⟨by simp, by simp, by simp, rfl⟩ rfl (by simp) rfl (fun a _ => by simp [AV.under, AV.under.go]) ?_
  rintro ⟨i, acc⟩ ⟨hi, h9, ha, hinv⟩ ih
  dsimp only at hi h9 ha hinv ih ⊢
  by_cases h16 : i < b.length
  case neg =>
    have hlt : ¬ ((i : Int) < (b.length : Int)) := by omega
    rw [List.drop_of_length_le (by omega)] at hinv
    rw [hinv] at hK
    simp only [A_, simprocAttr, ne_eq, U_bits_Get.1, hlt]
    exact hK
  have hlt : ((i : Int) < (b.length : Int)) := by omega
  have hix := ixl_b h16
  have hw : IntKind.i64.wrap ((i : Int) + 1) = (i : Int) + 1 := wrap_i64 (by omega) (by omega)
  have h10 : ¬ ((i : Int) = 10) := by omega
  have hp := pow_lt i h9
  have hx8 := (b[i]).toNat_lt
  rw [List.drop_eq_getElem_cons h16, getG] at hinv
  by_cases hc1 : i = 9 ∧ 1 < (b[i]).toNat
  · rw [if_pos hc1] at hinv
    rw [hinv] at hK
    have e9 : ((i : Int) = 9) := by omega
    have e9' := eq_true e9
    have ex : ((1 : Int) < ((b[i]).toNat : Int)) := by omega
    simp only [A_, simprocAttr, ne_eq, U_bits_Get.1, u8, hlt, hix, h10, e9', ex]
    exact hK
  rw [if_neg hc1] at hinv
  have hand := and127 b[i]
  have hcv : IntKind.u64.wrap (((b[i]).toNat % 128 : Nat) : Int) = (((b[i]).toNat % 128 : Nat) : Int) := wrap_u64n (by omega)
  have hm7 : IntKind.i64.wrap (7 * (i : Int)) = ((7 * i : Nat) : Int) := by rw [wrap_i64 (by omega) (by omega)]; omega
  have hn7 : ¬ (((7 * i : Nat) : Int) < 0) := by omega
  have ht7 : (((7 * i : Nat) : Int)).toNat = 7 * i := Int.toNat_natCast _
  obtain ⟨k1, k2, k3, k4⟩ := step_u (x := (b[i]).toNat % 128) h9 ha (by omega) (fun h => by omega)
  have hpick : (if i = 9 then (decide (1 < ((b[i]).toNat : Int))) else false) = false := by
    split
    · simp; omega
    · rfl
  by_cases h9e : i = 9
  · have e9' := eq_true (show ((i : Int) = 9) by omega)
    have ex : ¬ ((1 : Int) < ((b[i]).toNat : Int)) := by omega
    have hl128 : (b[i]).toNat < 128 := by omega
    have hl128' : (((b[i]).toNat : Int) < 128) := by omega
    rw [if_pos hl128] at hinv
    by_cases h0 : b[i] = 0
    · have hz := eq_true (show (((b[i]).toNat : Int) = 0) by rw [h0]; rfl)
      have hp0 : ((0 : Int) < (i : Int)) := by omega
      rw [if_pos ⟨h0, by omega⟩] at hinv
      rw [hinv] at hK
      simp only [A_, simprocAttr, ne_eq, U_bits_Get.1, u8, convL, hlt, hix, h10, e9', ex, hand, hcv, hm7, hn7, ht7, k3, k4, hl128', hz, hp0]
      exact hK
    · have hz : ¬ (((b[i]).toNat : Int) = 0) := fun e => h0 (UInt8.toNat_inj.1 (by simpa using e))
      rw [if_neg (by rintro ⟨h, _⟩; exact h0 h)] at hinv
      rw [hinv] at hK
      simp only [A_, simprocAttr, ne_eq, U_bits_Get.1, u8, convL, hlt, hix, h10, e9', ex, hand, hcv, hm7, hn7, ht7, k3, k4, hl128', hz, hw]
      exact hK
  · have e9 : ¬ ((i : Int) = 9) := by omega
    by_cases hl128 : (b[i]).toNat < 128
    · have hl128' : (((b[i]).toNat : Int) < 128) := by omega
      rw [if_pos hl128] at hinv
      by_cases h0 : b[i] = 0 ∧ 0 < i
      · have hz := eq_true (show (((b[i]).toNat : Int) = 0) by rw [h0.1]; rfl)
        have hp0 : ((0 : Int) < (i : Int)) := by omega
        rw [if_pos h0] at hinv
        rw [hinv] at hK
        simp only [A_, simprocAttr, ne_eq, U_bits_Get.1, u8, convL, hlt, hix, h10, e9, hand, hcv, hm7, hn7, ht7, k3, k4, hl128', hz, hp0]
        exact hK
      · rw [if_neg h0] at hinv
        rw [hinv] at hK
        by_cases hz0 : b[i] = 0
        · have hz := eq_true (show (((b[i]).toNat : Int) = 0) by rw [hz0]; rfl)
          have hp0 : ¬ ((0 : Int) < (i : Int)) := fun h => h0 ⟨hz0, by omega⟩
          simp only [A_, simprocAttr, ne_eq, U_bits_Get.1, u8, convL, hlt, hix, h10, e9, hand, hcv, hm7, hn7, ht7, k3, k4, hl128', hz, hp0, hw]
          exact hK
        · have hz : ¬ (((b[i]).toNat : Int) = 0) := fun e => hz0 (UInt8.toNat_inj.1 (by simpa using e))
          simp only [A_, simprocAttr, ne_eq, U_bits_Get.1, u8, convL, hlt, hix, h10, e9, hand, hcv, hm7, hn7, ht7, k3, k4, hl128', hz, hw]
          exact hK
    · have hl128' : ¬ (((b[i]).toNat : Int) < 128) := by omega
      rw [if_neg hl128, if_neg h9e] at hinv
      simp only [A_, simprocAttr, ne_eq, U_bits_Get.1, u8, convL, hlt, hix, h10, e9, hand, hcv, hm7, hn7, ht7, k3, k4, hl128', hw]
      exact ih (i + 1, _) _ _ _ (by dsimp only; omega) ⟨by dsimp only; omega, by dsimp only; omega, k2 (by omega), hinv⟩ rfl (by simp) rfl
end Go.AM
namespace Go.AM
open Go
set_option maxRecDepth 20000
set_option linter.unusedSimpArgs false
set_option linter.unusedVariables false

end Go.AM
namespace Go.AM
open Go
set_option maxRecDepth 20000
set_option linter.unusedSimpArgs false
set_option linter.unusedVariables false

/-! stamps in bytes -/
def packN (s : Stp) : Nat := if goodS s = true then s.t.toNat * 256 + s.n.toNat else 0
theorem packN_lt (s : Stp) : packN s < 9223372036854775808 := by
  unfold packN
  split
  · rename_i h
    unfold goodS at h
    simp only [Bool.and_eq_true, decide_eq_true_eq] at h
    have := s.n.toNat_lt
    omega
  · omega
theorem good_cases {s : Stp} (h : goodS s = true) : 0 ≤ s.t ∧ s.t ≤ 36028797018963967 := by
  unfold goodS at h; simpa using h
theorem stamp_Good_spec {C : CallW} (P : Program) (s : Stp) : ∀ S H (K : AV → St → Prop), K (.bool (goodS s)) ⟨S, H⟩ → runL C P C_stamp_Good [.agg (stc s)] ⟨S, H⟩ K := by
  intro S H K hK
  unfold goodS at hK
  by_cases h1 : 0 ≤ s.t
  · by_cases h2 : s.t ≤ 36028797018963967
    · simp only [h1, h2, decide_true, Bool.and_self] at hK
      simp only [C_stamp_Good, A_, simprocAttr, ne_eq, U_stamp_Good.1, h1, h2]
      exact hK
    · simp only [h1, h2, decide_true, decide_false, Bool.and_false] at hK
      simp only [C_stamp_Good, A_, simprocAttr, ne_eq, U_stamp_Good.1, h1, h2]
      exact hK
  · simp only [h1, decide_false, Bool.false_and] at hK
    simp only [C_stamp_Good, A_, simprocAttr, ne_eq, U_stamp_Good.1, h1]
    exact hK
theorem stamp_Pack_spec {C : CallW} (P : Program) {c : Nat → FuncId} (h0 : ∀ s : Stp, FnS C (c 0) [.agg (stc s)] (.bool (goodS s))) (s : Stp) : ∀ S H (K : AV → St → Prop), K (.tup [.s (.int .u64 (packN s : Nat)), .s (.int .i64 (if goodS s = true then 0 else 1))]) ⟨S, H⟩ → runL C P (C_stamp_Pack c) [.agg (stc s)] ⟨S, H⟩ K := by
  intro S H K hK
  simp only [C_stamp_Pack, A_, simprocAttr, ne_eq, (U_stamp_Pack _).1]
  refine h0 s _ _ _ ?_
  have hn8 := s.n.toNat_lt
  have n8 : ¬ ((8 : Int) < 0) := by omega
  have t8 : ((8 : Int).toNat) = 8 := rfl
  have m8 : (2 : Int) ^ min 8 IntKind.u64.bits = 256 := rfl
  cases hg : goodS s with
  | false =>
    simp only [packN, hg, if_false, Bool.false_eq_true] at hK
    simp only [A_, simprocAttr, ne_eq, (U_stamp_Pack _).1]
    exact hK
  | true =>
    obtain ⟨g1, g2⟩ := good_cases hg
    have w1 : IntKind.u64.wrap s.t = s.t := by rw [wrap_u64]; omega
    have w2 : IntKind.u64.wrap (s.t * 256) = ((s.t.toNat * 256 : Nat) : Int) := by rw [wrap_u64]; omega
    have w3 : IntKind.u64.wrap (s.n.toNat : Int) = (s.n.toNat : Int) := by rw [wrap_u64]; omega
    have w4 := or_u (a := s.t.toNat * 256) (b := s.n.toNat) (by omega) (by omega)
    have w5 : ((s.t.toNat * 256 : Nat) ||| s.n.toNat) = packN s := by
      rw [Nat.or_comm, or_add (i := 8) (by omega)]
      unfold packN; rw [if_pos hg]; omega
    have w6 : IntKind.u64.wrap ((packN s : Nat) : Int) = ((packN s : Nat) : Int) := wrap_u64n (by have := packN_lt s; omega)
    rw [w5] at w4
    simp only [hg, if_true] at hK
    simp only [A_, simprocAttr, ne_eq, (U_stamp_Pack _).1, u8, stc, convL, n8, t8, m8, w1, w2, w3, w4, w6]
    exact hK
def unpackS (n : Nat) : Stp × Bool := if n < 9223372036854775808 then (⟨((n / 256 : Nat) : Int), UInt8.ofNat (n % 256)⟩, true) else (⟨0, 0⟩, false)
theorem unpack_pack {s : Stp} (h : goodS s = true) : unpackS (packN s) = (s, true) := by
  have h1 := packN_lt s
  obtain ⟨g1, g2⟩ := good_cases h
  have hn8 := s.n.toNat_lt
  have e : packN s = s.t.toNat * 256 + s.n.toNat := by unfold packN; rw [if_pos h]
  unfold unpackS
  rw [if_pos h1, e]
  have e1 : (((s.t.toNat * 256 + s.n.toNat) / 256 : Nat) : Int) = s.t := by omega
  have e2 : (s.t.toNat * 256 + s.n.toNat) % 256 = s.n.toNat := by omega
  rw [e1, e2]
  simp
theorem and_sign {n : Nat} (h : n < 18446744073709551616) : (IntKind.u64.wrap ((BitVec.ofInt IntKind.u64.bits (n : Int) &&& BitVec.ofInt IntKind.u64.bits 9223372036854775808).toNat : Int) = 0) = (n < 9223372036854775808) := by
  have e : (BitVec.ofInt IntKind.u64.bits (n : Int) &&& BitVec.ofInt IntKind.u64.bits 9223372036854775808).toNat = n &&& 2 ^ 63 := by
    show (BitVec.ofInt 64 (n : Int) &&& BitVec.ofInt 64 9223372036854775808).toNat = _
    rw [BitVec.toNat_and, ofInt_toNat (by omega) (by omega), ofInt_toNat (by omega) (by omega)]
    rfl
  rw [e]
  have hle : n &&& 2 ^ 63 ≤ n := Nat.and_le_left
  rw [wrap_u64n (by omega)]
  apply propext
  constructor
  · intro h0
    have h1 : n &&& 2 ^ 63 = 0 := by omega
    by_cases h2 : n < 9223372036854775808
    · exact h2
    · have ht : n.testBit 63 = true := Nat.testBit_of_two_pow_le_and_two_pow_add_one_gt (by omega) (by omega)
      have := congrArg (fun x => Nat.testBit x 63) h1
      simp [Nat.testBit_and, ht] at this
      exact absurd this (by decide +kernel)
  · intro h2
    have : n &&& 2 ^ 63 = 0 := by
      apply Nat.eq_of_testBit_eq
      intro j
      rw [Nat.testBit_and, Nat.zero_testBit, Nat.testBit_two_pow]
      by_cases hj : 63 = j
      · subst hj
        rw [Nat.testBit_lt_two_pow (by omega)]; rfl
      · simp [hj]
    omega
theorem stamp_Unpack_spec {C : CallW} (P : Program) (n : Nat) (h : n < 18446744073709551616) : ∀ S H (K : AV → St → Prop), K (.tup [.agg (stc (unpackS n).1), .s (.int .i64 (if (unpackS n).2 = true then 0 else 1))]) ⟨S, H⟩ → runL C P C_stamp_Unpack [.s (.int .u64 n)] ⟨S, H⟩ K := by
  intro S H K hK
  have hs := and_sign h
  unfold unpackS at hK
  by_cases h2 : n < 9223372036854775808
  · rw [if_pos h2] at hK
    have hs' := hs.trans (eq_true h2)
    have n8 : ¬ ((8 : Int) < 0) := by omega
    have t8 : ((8 : Int).toNat) = 8 := rfl
    have m8 : (2 : Int) ^ min 8 IntKind.u64.bits = 256 := rfl
    have d8 : (n : Int).fdiv 256 = ((n / 256 : Nat) : Int) := fdiv_n n 256
    have w1 : IntKind.i64.wrap ((n / 256 : Nat) : Int) = ((n / 256 : Nat) : Int) := wrap_i64 (by omega) (by omega)
    have w2 := wrap_u8n n
    have hu : AV.s (.int .u8 ((n % 256 : Nat) : Int)) = u8 (UInt8.ofNat (n % 256)) := u8_of (by omega)
    simp only [stc, ← hu] at hK
    simp only [C_stamp_Unpack, A_, simprocAttr, ne_eq, U_stamp_Unpack.1, convL, hs', n8, t8, m8, d8, w1, w2]
    exact hK
  · rw [if_neg h2] at hK
    have hs' := hs.trans (eq_false h2)
    simp only [C_stamp_Unpack, A_, simprocAttr, ne_eq, U_stamp_Unpack.1, convL, hs']
    exact hK
def PutStampS (C : CallW) (f : FuncId) : Prop := ∀ (a : AV) (b : List UInt8) (s : Stp) S H (K : AV → St → Prop), BA a b → b.length ≤ 1000000000 → K (.list .uniq 1 (bs (b ++ putN (packN s)))) ⟨S, H⟩ → C (.fn f) [a, .agg (stc s)] ⟨S, H⟩ K
theorem rec_putStamp_spec {C : CallW} (P : Program) {c : Nat → FuncId} (h0 : ∀ s : Stp, FnS C (c 0) [.agg (stc s)] (.tup [.s (.int .u64 (packN s : Nat)), .s (.int .i64 (if goodS s = true then 0 else 1))])) (h1 : PutS C (c 1)) : ∀ (b : List UInt8) (s : Stp) S H (K : AV → St → Prop), b.length ≤ 1000000000 → K (.list .uniq 1 (bs (b ++ putN (packN s)))) ⟨S, H⟩ → runL C P (C_rec_putStamp c) [.list .sh 1 (bs b), .agg (stc s)] ⟨S, H⟩ K := by
  intro b s S H K hb hK
  simp only [C_rec_putStamp, A_, simprocAttr, ne_eq, (U_rec_putStamp _).1]
  refine h0 s _ _ _ ?_
  simp only [A_, simprocAttr, ne_eq, (U_rec_putStamp _).1]
  refine h1 _ b _ _ _ _ .l hb (by have := packN_lt s; omega) ?_
  simp only [A_, simprocAttr, ne_eq, (U_rec_putStamp _).1]
  exact hK
end Go.AM
namespace Go.AM
open Go
set_option maxRecDepth 20000
set_option linter.unusedSimpArgs false
def textOf (k : Key) : List UInt8 := k.b.takeWhile (· != 0)
theorem take_stop {l : List UInt8} {i : Nat} (h : i ≤ l.length) (hall : ∀ j, (hj : j < i) → l[j]'(by omega) ≠ 0) (hs : ∀ hi : i < l.length, l[i] = 0) : l.take i = l.takeWhile (· != 0) := by
  induction l generalizing i with
  | nil => simp
  | cons x l ih =>
    cases i with
    | zero =>
      have := hs (by simp)
      simp at this
      subst this; simp
    | succ i =>
      have h0 := hall 0 (by omega)
      simp at h0
      rw [List.take_succ_cons, List.takeWhile_cons]
      have hx : (x != 0) = true := by simpa using h0
      rw [hx]
      simp only [if_true]
      rw [ih (by simpa using h) (fun j hj => by have := hall (j + 1) (by omega); simpa using this) fun hi => by have := hs (by simpa using hi); simpa using this]
set_option maxHeartbeats 1000000 in
theorem key_text_spec {C : CallW} (hC : LeC C C) (P : Program) (k : Key) (S : List (List AV)) (H : List HObj) (K : AV → St → Prop) (hK : K (.str (textOf k)) ⟨S, H⟩) : runL C P C_key_text [.agg k.c] ⟨S, H⟩ K := by
  simp only [C_key_text, RUN_, u_C_key_text_k1.1, u_C_key_text_k2.1, u_C_key_text_k3.1, u_C_key_text_k4.1, FR_, simprocAttr, if_true, if_false, ite_true, ite_false, ne_eq, eq_self, binL, scBin, blBin, intBin, intShift, unL, load1L, storeL, readA, readCells, writeCells, splice, mayHold, boxOf_stk, boxOf_heap, setBox_stk, setBox_heap, newBox_stk, newBox_heap, app_get0, app_get, app_set0, app_set, app_take, app_one, List.length_append, shift, partL, lenL, capL, Nat.add_assoc, AV.under, AV.under.go, finL, under_bs]
  refine loop_rule hC (α := Nat) (fun i => 16 - i) (fun i => [.undef, .ptr (.stk S.length) 0, .undef, .s (.int .i64 i), .undef, .undef, .undef, .undef, .undef, .undef, .undef, .undef, .undef, .undef, .undef, .undef, .undef]) (fun _ => S ++ [k.c]) (fun _ => H) (fun i => i ≤ 16 ∧ ∀ j, (hj : j < i) → (hj' : j < k.b.length) → k.b[j] ≠ 0) 0 ⟨by omega, fun j hj => by omega⟩ rfl (app_take_add _ _ _) rfl (fun i hi => by simp [AV.under, AV.under.go]) ?_
  rintro i ⟨hi, hall⟩ ih
  have hkl := k.h
  by_cases h16 : i < 16
  · have hb := bs_get (l := k.b) (i := i) (by omega)
    have hw : IntKind.i64.wrap ((i : Int) + 1) = ((i + 1 : Nat) : Int) := by rw [wrap_i64 (by omega) (by omega)]; rfl
    have h1 : ((i : Int) < 16) := by omega
    have h2 : (0 : Int) ≤ (i : Int) := by omega
    by_cases hz : k.b[i]'(by omega) = 0
    · have hc := conv_row (σ := ⟨S ++ [k.c], H⟩) (r := .stk S.length) (off := 0) (len := i) (cap := 16) (l := k.b) (by rw [boxOf_stk, app_get0]; rfl) (by omega)
      rw [List.drop_zero, take_stop (by omega) (fun j hj => hall j hj (by omega)) (fun _ => hz)] at hc
      simp only [RUN_, u_C_key_text_k1.1, u_C_key_text_k2.1, u_C_key_text_k3.1, u_C_key_text_k4.1, FR_, simprocAttr, if_true, if_false, ite_true, ite_false, ne_eq, eq_self, binL, scBin, blBin, intBin, intShift, unL, load1L, storeL, readA, readCells, writeCells, splice, mayHold, boxOf_stk, boxOf_heap, setBox_stk, setBox_heap, newBox_stk, newBox_heap, app_get0, app_get, app_set0, app_set, app_take, app_one, List.length_append, shift, partL, lenL, capL, Nat.add_assoc, AV.under, AV.under.go, finL, indexAddrL, h1, h2, hb, Int.toNat_natCast, Nat.mul_one, u8, hz, sliceL, bound, Option.map_some, Nat.zero_le, hi, UInt8.toNat_zero, hc, Nat.sub_zero]
      exact hK
    · have hz' : ¬ (((k.b[i]'(by omega)).toNat : Int) = 0) := fun e => hz (by
        have : (k.b[i]'(by omega)).toNat = 0 := by omega
        exact UInt8.toNat_inj.1 this)
      simp only [RUN_, u_C_key_text_k1.1, u_C_key_text_k2.1, u_C_key_text_k3.1, u_C_key_text_k4.1, FR_, simprocAttr, if_true, if_false, ite_true, ite_false, ne_eq, eq_self, binL, scBin, blBin, intBin, intShift, unL, load1L, storeL, readA, readCells, writeCells, splice, mayHold, boxOf_stk, boxOf_heap, setBox_stk, setBox_heap, newBox_stk, newBox_heap, app_get0, app_get, app_set0, app_set, app_take, app_one, List.length_append, shift, partL, lenL, capL, Nat.add_assoc, AV.under, AV.under.go, finL, indexAddrL, h1, h2, hb, Int.toNat_natCast, Nat.mul_one, u8, hz', hw]
      exact ih (i + 1) _ _ _ (by omega) ⟨by omega, fun j hj hj' => by
        rcases Nat.lt_or_ge j i with h | h
        · exact hall j h hj'
        · have : j = i := by omega
          subst this; exact hz⟩ rfl (app_take_add _ _ _) rfl
  · have h1 : ¬ ((i : Int) < 16) := by omega
    have h16' : i = 16 := by omega
    have h2 : (0 : Int) ≤ (i : Int) := by omega
    have hc := conv_row (σ := ⟨S ++ [k.c], H⟩) (r := .stk S.length) (off := 0) (len := i) (cap := 16) (l := k.b) (by rw [boxOf_stk, app_get0]; rfl) (by omega)
    rw [List.drop_zero, take_stop (by omega) (fun j hj => hall j hj (by omega)) (fun h => by omega)] at hc
    simp only [RUN_, u_C_key_text_k1.1, u_C_key_text_k2.1, u_C_key_text_k3.1, u_C_key_text_k4.1, FR_, simprocAttr, if_true, if_false, ite_true, ite_false, ne_eq, eq_self, binL, scBin, blBin, intBin, intShift, unL, load1L, storeL, readA, readCells, writeCells, splice, mayHold, boxOf_stk, boxOf_heap, setBox_stk, setBox_heap, newBox_stk, newBox_heap, app_get0, app_get, app_set0, app_set, app_take, app_one, List.length_append, shift, partL, lenL, capL, Nat.add_assoc, AV.under, AV.under.go, finL, h1, h2, sliceL, bound, Option.map_some, Nat.zero_le, hi, hc, Nat.sub_zero, Int.toNat_natCast]
    exact hK
end Go.AM
/-! Keys: what the functions of key and of hourglassref10 answer. -/
namespace Go.AM
open Go
set_option maxRecDepth 20000
set_option linter.unusedSimpArgs false
set_option linter.unusedVariables false

def IdxS (C : CallW) (f : FuncId) : Prop := ∀ (l : List UInt8) (S : List (List AV)) (H : List HObj) (K : AV → St → Prop), K (.i (Lib.indexByte l 0)) ⟨S, H⟩ → C (.fn f) [.s (.str l), .s (.int .u8 0)] ⟨S, H⟩ K

theorem strings_IndexByte_spec {C : CallW} (hC : LeC C C) (P : Program) {f : FuncId} (hf : IdxS C f) : ∀ (l : List UInt8) (S : List (List AV)) (H : List HObj) (K : AV → St → Prop), K (.i (Lib.indexByte l 0)) ⟨S, H⟩ → runL C P (C_strings_IndexByte f) [.s (.str l), .s (.int .u8 0)] ⟨S, H⟩ K := by
  intro l S H K hK
  simp only [C_strings_IndexByte, RUN_, (u_C_strings_IndexByte_k1 _).1, FR_, simprocAttr, if_true, if_false, ite_true, ite_false, ne_eq, eq_self, OPK_, KEY_]
  refine hf _ _ _ _ ?_
  simp only [RUN_, (u_C_strings_IndexByte_k1 _).1, FR_, simprocAttr, if_true, if_false, ite_true, ite_false, ne_eq, eq_self, OPK_, KEY_, List.take_length]
  exact hK
theorem stringslite_IndexByte_spec {C : CallW} (hC : LeC C C) (P : Program) {f : FuncId} (hf : IdxS C f) : ∀ (l : List UInt8) (S : List (List AV)) (H : List HObj) (K : AV → St → Prop), K (.i (Lib.indexByte l 0)) ⟨S, H⟩ → runL C P (C_internal_stringslite_IndexByte f) [.s (.str l), .s (.int .u8 0)] ⟨S, H⟩ K := by
  intro l S H K hK
  simp only [C_internal_stringslite_IndexByte, RUN_, (u_C_internal_stringslite_IndexByte_k1 _).1, FR_, simprocAttr, if_true, if_false, ite_true, ite_false, ne_eq, eq_self, OPK_, KEY_]
  refine hf _ _ _ _ ?_
  simp only [RUN_, (u_C_internal_stringslite_IndexByte_k1 _).1, FR_, simprocAttr, if_true, if_false, ite_true, ite_false, ne_eq, eq_self, OPK_, KEY_, List.take_length]
  exact hK

/-- A text as a key's bytes. -/
def padB (s : List UInt8) : List UInt8 := s.take 16 ++ List.replicate (16 - s.length) 0
def padK (s : List UInt8) : Key := ⟨padB s, by simp [padB]; omega⟩
def badT (s : List UInt8) : Prop := s = [] ∨ 16 < s.length ∨ (0 : UInt8) ∈ s
instance (s : List UInt8) : Decidable (badT s) := inferInstanceAs (Decidable (_ ∨ _))
def keyOf (s : List UInt8) : Key × Int := if badT s then (key0, 1) else (padK s, 0)

theorem idx_neg {l : List UInt8} : Lib.indexByte l 0 ≥ 0 ↔ (0 : UInt8) ∈ l := by
  induction l with
  | nil => simp [Lib.indexByte]
  | cons x l ih =>
    simp only [Lib.indexByte, beq_iff_eq, List.mem_cons]
    by_cases h : x = 0
    · simp [h]
    · rw [if_neg h]
      have hge := Lib.indexByte_ge l 0
      by_cases h1 : Lib.indexByte l 0 = -1
      · rw [if_pos h1]
        have : ¬ ((0 : UInt8) ∈ l) := fun hm => by have := ih.2 hm; omega
        simp [this]; exact fun e => h e.symm
      · rw [if_neg h1]
        have : (0 : UInt8) ∈ l := ih.1 (by omega)
        simp [this]; omega

theorem splice_zero {cs vs : List AV} (h : vs.length ≤ cs.length) : splice cs 0 vs = vs ++ cs.drop vs.length := by
  unfold splice
  split
  · cases cs with
    | nil => simp at h
    | cons c cs => simp
  · simp

theorem flat_bs (l : List UInt8) : (bs l).flatMap AV.cells = bs l := by
  induction l with
  | nil => rfl
  | cons x l ih => show [u8 x] ++ (bs l).flatMap AV.cells = _; rw [ih]; rfl

theorem copy_str {e : ET} {S l : List (List AV)} {H : List HObj} {j : Nat} {s : List UInt8} {k : Key} (he : e.c = 1) (hj : j < l.length) (hk : l.getD j [] = bs k.b) (hs : s.length ≤ 16) :
    copyL e true (.row (.stk (S.length + j)) 0 16 16) (.s (.str s)) ⟨S ++ l, H⟩ = some (.i s.length, ⟨S ++ l.set j (bs (s ++ k.b.drop s.length)), H⟩) := by
  have e1 : l[j]? = some (bs k.b) := by rw [← hk]; simp [List.getD, hj]
  have hi : elemsL e (.s (.str s)) ⟨S ++ l, H⟩ = some (bs s) := by simp [elemsL, he, bs, u8]
  unfold copyL
  simp only [srcL, AV.isStr, if_true, hi]
  rw [List.take_of_length_le (by rw [bs_length]; exact hs), flat_bs, bs_length]
  simp only [writeCells, boxOf_stk, app_get, e1, Option.bind_some, mayHold, under_bs, bs_length, k.h, Nat.zero_add, hs, decide_true, Bool.and_self, if_true, Option.map_some, setBox_stk, app_set]
  rw [splice_zero (by rw [bs_length, bs_length, k.h]; exact hs), bs_length, bs_drop]
  simp only [bs, List.map_append]

theorem pad_drop {s : List UInt8} (hs : s.length ≤ 16) : s ++ key0.b.drop s.length = padB s := by
  unfold padB key0
  rw [List.take_of_length_le hs, List.drop_replicate]

def OfK (C : CallW) (f : FuncId) : Prop := ∀ (s : List UInt8) (S : List (List AV)) (H : List HObj) (K : AV → St → Prop), K (.tup [.agg (bs (keyOf s).1.b), .i (keyOf s).2]) ⟨S, H⟩ → C (.fn f) [.s (.str s)] ⟨S, H⟩ K

set_option maxHeartbeats 1000000 in
theorem key_Of_spec {C : CallW} (hC : LeC C C) (P : Program) {f : FuncId} (hf : IdxS C f) : ∀ (s : List UInt8) (S : List (List AV)) (H : List HObj) (K : AV → St → Prop), K (.tup [.agg (bs (keyOf s).1.b), .i (keyOf s).2]) ⟨S, H⟩ → runL C P (C_key_Of f) [.s (.str s)] ⟨S, H⟩ K := by
  intro s S H K hK
  have key0l : (bs key0.b).length = 16 := rfl
  by_cases h0 : s = []
  · have e : keyOf s = (key0, 1) := if_pos (.inl h0)
    rw [e] at hK
    simp only [C_key_Of, RUN_, (u_C_key_Of_k1 _).1, (u_C_key_Of_k2 _).1, (u_C_key_Of_k3 _).1, (u_C_key_Of_k4 _).1, FR_, simprocAttr, if_true, if_false, ite_true, ite_false, ne_eq, eq_self, OPK_, KEY_, h0]
    exact hK
  · have h0' : ¬ (s.length = 0) := fun e => h0 (List.length_eq_zero_iff.1 e)
    by_cases h1 : 16 < s.length
    · have e : keyOf s = (key0, 1) := if_pos (.inr (.inl h1))
      rw [e] at hK
      have h1' : (16 : Int) < (s.length : Int) := by omega
      simp only [C_key_Of, RUN_, (u_C_key_Of_k1 _).1, (u_C_key_Of_k2 _).1, (u_C_key_Of_k3 _).1, (u_C_key_Of_k4 _).1, FR_, simprocAttr, if_true, if_false, ite_true, ite_false, ne_eq, eq_self, OPK_, KEY_, h0, h1']
      exact hK
    · have h1' : ¬ ((16 : Int) < (s.length : Int)) := by omega
      simp only [C_key_Of, RUN_, (u_C_key_Of_k1 _).1, (u_C_key_Of_k2 _).1, (u_C_key_Of_k3 _).1, (u_C_key_Of_k4 _).1, FR_, simprocAttr, if_true, if_false, ite_true, ite_false, ne_eq, eq_self, OPK_, KEY_, h0, h1']
      refine hf _ _ _ _ ?_
      by_cases h2 : (0 : UInt8) ∈ s
      · have e : keyOf s = (key0, 1) := if_pos (.inr (.inr h2))
        rw [e] at hK
        have h2' : (0 : Int) ≤ Lib.indexByte s 0 := idx_neg.2 h2
        simp only [RUN_, (u_C_key_Of_k1 _).1, (u_C_key_Of_k2 _).1, (u_C_key_Of_k3 _).1, (u_C_key_Of_k4 _).1, FR_, simprocAttr, if_true, if_false, ite_true, ite_false, ne_eq, eq_self, OPK_, KEY_, h2']
        exact hK
      · have e : keyOf s = (padK s, 0) := if_neg (by rintro (h | h | h) <;> contradiction)
        rw [e] at hK
        have h2' : ¬ ((0 : Int) ≤ Lib.indexByte s 0) := fun h => h2 (idx_neg.1 h)
        have hcp := copy_str (e := ⟨1, false, 1, .s (.int .u8 0)⟩) (S := S) (l := [bs key0.b, bs key0.b]) (H := H) (j := 1) (s := s) (k := key0) rfl (by simp) rfl (by omega)
        rw [pad_drop (by omega)] at hcp
        have hk2 : (bs (padB s)).length = 16 := by rw [bs_length]; exact (padK s).h
        simp only [RUN_, (u_C_key_Of_k1 _).1, (u_C_key_Of_k2 _).1, (u_C_key_Of_k3 _).1, (u_C_key_Of_k4 _).1, FR_, simprocAttr, if_true, if_false, ite_true, ite_false, ne_eq, eq_self, OPK_, KEY_, h2', hcp, hk2]
        exact hK
end Go.AM
/-! Boxes of the callers: a place j in the stack. -/
namespace Go.AM
open Go
set_option linter.unusedVariables false
set_option linter.unusedSimpArgs false

theorem stkj_app {S l : List (List AV)} {j : Nat} {x : List AV} (h : S[j]? = some x) : (S ++ l)[j]? = some x := by
  have hj : j < S.length := (List.getElem?_eq_some_iff.1 h).1
  rw [List.getElem?_append_left hj, h]
theorem stkj_lt {S : List (List AV)} {j : Nat} {x : List AV} (h : S[j]? = some x) : j < S.length := (List.getElem?_eq_some_iff.1 h).1
theorem stkj_set {S : List (List AV)} {j : Nat} {x y : List AV} (h : S[j]? = some x) : (S.set j y)[j]? = some y := by
  rw [List.getElem?_set_self (stkj_lt h)]
theorem setj_app {S l : List (List AV)} {j : Nat} {y : List AV} (h : j < S.length) : (S ++ l).set j y = S.set j y ++ l := List.set_append_left _ _ h
theorem storeJ {S : List (List AV)} {H : List HObj} {j off : Nat} {cs : List AV} {v : AV} (hj : S[j]? = some cs) (h : off < cs.length) (hc : v.cells = [v]) (hf : v.fit = true) (hu : AV.under j v = true) : storeL 1 (.ptr (.stk j) off) v ⟨S, H⟩ = some ⟨S.set j (cs.set off v), H⟩ := by
  have h1 : off + 1 ≤ cs.length := h
  simp only [storeL, hc, hf, List.length_cons, List.length_nil, writeCells, boxOf_stk, hj, Option.bind_some, splice, setBox_stk, mayHold, AV.under.go, hu, Nat.zero_add, h1, decide_true, Bool.and_self, if_true, true_and, and_self]
  rw [if_pos (by simp)]
theorem storeJs {S : List (List AV)} {H : List HObj} {j off : Nat} {cs : List AV} {x : Sc} (hj : S[j]? = some cs) (h : off < cs.length) : storeL 1 (.ptr (.stk j) off) (.s x) ⟨S, H⟩ = some ⟨S.set j (cs.set off (.s x)), H⟩ := storeJ hj h rfl rfl rfl
theorem storeJl {S : List (List AV)} {H : List HObj} {j off : Nat} {cs : List AV} {fl : Fl} {c : Nat} {es : List AV} (hj : S[j]? = some cs) (h : off < cs.length) : storeL 1 (.ptr (.stk j) off) (.list fl c es) ⟨S, H⟩ = some ⟨S.set j (cs.set off (.list fl c es)), H⟩ := storeJ hj h rfl rfl rfl
theorem slc_nil {c : Nat} {k : IntKind} (hc : c ≠ 0) : sliceL (.sl c) (.s .nilS) (some (.s (.int k 0))) none none = some (.s .nilS) := by simp [sliceL, bound, hc]
theorem slc_nilh {c : Nat} {k : IntKind} (hc : c ≠ 0) : sliceL (.sl c) (.s .nilS) none (some (.s (.int k 0))) none = some (.s .nilS) := by simp [sliceL, bound, hc]
theorem conv_bs {σ : St} {fl : Fl} {l : List UInt8} : convL .ofBytes (.list fl 1 (bs l)) σ = some (.s (.str l)) := by
  simp only [convL, AV.isSlice, if_true, elemsL, Option.bind_some, bytesIn_bs, Option.map_some]
theorem conv_nil {σ : St} : convL .ofBytes (.s .nilS) σ = some (.s (.str [])) := rfl

/-! The reader of rec. -/
abbrev Rd := Option (List UInt8)
def rdc : Rd → List AV
  | none => [.s .nilS, .s (.bool true)]
  | some b => [.list .sh 1 (bs b), .s (.bool false)]
theorem rdc_len (r : Rd) : (rdc r).length = 2 := by cases r <;> rfl
def rok (r : Rd) : Prop := ∀ b, r = some b → b.length ≤ 9223372036854775807
theorem rok_none : rok none := fun _ h => by cases h
theorem rok_some {b : List UInt8} (h : b.length ≤ 9223372036854775807) : rok (some b) := fun _ e => by cases e; exact h
theorem rok_drop {b : List UInt8} {n : Nat} (h : rok (some b)) : rok (some (b.drop n)) := fun _ e => by cases e; have := h b rfl; simp; omega
def numR : Rd → Nat × Rd
  | none => (0, none)
  | some b => if (getN b).2 = 0 then (0, none) else ((getN b).1, some (b.drop (getN b).2))
def mostR (m : Nat) (r : Rd) : Nat × Rd := if m < (numR r).1 then (0, none) else numR r
def textR (n : Nat) : Rd → List UInt8 × Rd
  | none => ([], none)
  | some b => if b.length < n then ([], none) else (b.take n, some (b.drop n))
def keyR (r : Rd) : Key × Rd := (padK (textR 16 r).1, (textR 16 r).2)
def stampR (r : Rd) : Stp × Rd := if (unpackS (numR r).1).2 = true then ((unpackS (numR r).1).1, (numR r).2) else (⟨0, 0⟩, none)
theorem numR_some {b : List UInt8} : numR (some b) = if (getN b).2 = 0 then (0, none) else ((getN b).1, some (b.drop (getN b).2)) := rfl
theorem textR_some {n : Nat} {b : List UInt8} : textR n (some b) = if b.length < n then ([], none) else (b.take n, some (b.drop n)) := rfl
theorem numR_ok {r : Rd} (h : rok r) : rok (numR r).2 := by
  cases r with
  | none => exact rok_none
  | some b =>
    rw [numR_some]
    by_cases h1 : (getN b).2 = 0
    · rw [if_pos h1]; exact rok_none
    · rw [if_neg h1]; exact rok_drop h
theorem numR_lt (r : Rd) : (numR r).1 < 18446744073709551616 := by
  cases r with
  | none => simp [numR]
  | some b =>
    rw [numR_some]
    have := (getN_bound b).1
    by_cases h1 : (getN b).2 = 0
    · rw [if_pos h1]; simp
    · rw [if_neg h1]; exact this
theorem mostR_ok {m : Nat} {r : Rd} (h : rok r) : rok (mostR m r).2 := by unfold mostR; split; exact rok_none; exact numR_ok h
theorem mostR_le (m : Nat) (r : Rd) : (mostR m r).1 ≤ m := by unfold mostR; split; simp; omega
theorem textR_ok {n : Nat} {r : Rd} (h : rok r) : rok (textR n r).2 := by
  cases r with
  | none => exact rok_none
  | some b =>
    rw [textR_some]
    by_cases h1 : b.length < n
    · rw [if_pos h1]; exact rok_none
    · rw [if_neg h1]; exact rok_drop h
theorem keyR_ok {r : Rd} (h : rok r) : rok (keyR r).2 := textR_ok h
theorem stampR_ok {r : Rd} (h : rok r) : rok (stampR r).2 := by unfold stampR; split; exact numR_ok h; exact rok_none
theorem textR_len (n : Nat) (r : Rd) : (textR n r).1.length ≤ n := by
  cases r with
  | none => simp [textR]
  | some b =>
    rw [textR_some]
    by_cases h1 : b.length < n
    · rw [if_pos h1]; simp
    · rw [if_neg h1]; simp; omega
theorem getN_nil : getN [] = (0, 0) := rfl
theorem getG_cons {i acc : Nat} {x : UInt8} {b : List UInt8} : getG i acc (x :: b) = if i = 9 ∧ 1 < x.toNat then none else if x.toNat < 128 then (if x = 0 ∧ 0 < i then none else some (acc + x.toNat % 128 * 2 ^ (7 * i), i + 1)) else if i = 9 then none else getG (i + 1) (acc + x.toNat % 128 * 2 ^ (7 * i)) b := by rw [getG]
end Go.AM
namespace Go.AM
open Go
set_option maxRecDepth 20000
set_option linter.unusedSimpArgs false
set_option linter.unusedVariables false

def TextS (C : CallW) (f : FuncId) : Prop := ∀ (k : Key) S H K, K (.str (textOf k)) ⟨S, H⟩ → C (.fn f) [.agg (bs k.b)] ⟨S, H⟩ K
def BoolK (g : Key → Bool) (C : CallW) (f : FuncId) : Prop := ∀ (k : Key) S H K, K (.bool (g k)) ⟨S, H⟩ → C (.fn f) [.agg (bs k.b)] ⟨S, H⟩ K

theorem text_nz (k : Key) : (0 : UInt8) ∉ textOf k := by
  intro h
  have h2 : ∀ (l : List UInt8), (0 : UInt8) ∉ l.takeWhile (· != 0) := by
    intro l
    induction l with
    | nil => simp
    | cons x l ih =>
      rw [List.takeWhile_cons]
      split
      · rename_i hx
        intro h
        rcases List.mem_cons.1 h with h | h
        · subst h; simp at hx
        · exact ih h
      · simp
  exact h2 _ h
theorem text_len (k : Key) : (textOf k).length ≤ 16 := by
  have := (List.takeWhile_sublist (fun x : UInt8 => x != 0) (l := k.b)).length_le
  rw [k.h] at this
  exact this

def goodK (k : Key) : Bool := decide (textOf k ≠ []) && decide (padK (textOf k) = k)

theorem good_of (k : Key) : goodK k = (decide ((keyOf (textOf k)).2 = 0) && decide ((keyOf (textOf k)).1 = k)) := by
  unfold goodK keyOf
  by_cases h : textOf k = []
  · rw [if_pos (.inl h)]; simp [h]
  · rw [if_neg (by
      rintro (h1 | h1 | h1)
      · exact h h1
      · have := text_len k; omega
      · exact text_nz k h1)]
    simp [h]

set_option maxHeartbeats 1000000 in
theorem key_Good_spec {C : CallW} (hC : LeC C C) (P : Program) {f1 f2 : FuncId} (h1 : TextS C f1) (h2 : OfK C f2) : ∀ (k : Key) S H K, K (.bool (goodK k)) ⟨S, H⟩ → runL C P (C_key_Good f1 f2) [.agg (bs k.b)] ⟨S, H⟩ K := by
  intro k S H K hK
  rw [good_of] at hK
  simp only [C_key_Good, RUN_, (u_C_key_Good_k1 _ _).1, (u_C_key_Good_k2 _ _).1, FR_, simprocAttr, if_true, if_false, ite_true, ite_false, ne_eq, eq_self, OPK_, KEY_]
  refine h1 _ _ _ _ ?_
  simp only [RUN_, (u_C_key_Good_k1 _ _).1, (u_C_key_Good_k2 _ _).1, FR_, simprocAttr, if_true, if_false, ite_true, ite_false, ne_eq, eq_self, OPK_, KEY_]
  refine h2 _ _ _ _ ?_
  by_cases he : (keyOf (textOf k)).2 = 0
  · simp only [RUN_, (u_C_key_Good_k1 _ _).1, (u_C_key_Good_k2 _ _).1, FR_, simprocAttr, if_true, if_false, ite_true, ite_false, ne_eq, eq_self, OPK_, KEY_, he]
    rw [he] at hK
    simpa using hK
  · simp only [RUN_, (u_C_key_Good_k1 _ _).1, (u_C_key_Good_k2 _ _).1, FR_, simprocAttr, if_true, if_false, ite_true, ite_false, ne_eq, eq_self, OPK_, KEY_, he]
    simpa [he] using hK

/-! hourglassref10 -/
def goodL : Bool → List UInt8 → Bool
  | _, [] => true
  | e, x :: l => if x = 0 then goodL true l else if e then false else goodL false l
def goodR (k : Key) : Bool := goodL false k.b && decide (k.b[0]'(by rw [k.h]; omega) ≠ 0)

theorem u8_zero {x : UInt8} : ((x.toNat : Int) = 0) ↔ x = 0 := ⟨fun h => UInt8.toNat_inj.1 (by simp; omega), fun h => by subst h; rfl⟩

end Go.AM
/-! Maps by keys. -/
namespace Go.AM
open Go
set_option linter.unusedVariables false
set_option linter.unusedSimpArgs false

theorem find_no : ∀ (es : List Entry) (l : List Key) (k : Key) (i : Nat), es.map (·.key) = l.map kA → k ∉ l → findL (.leaf lk) (.agg (bs k.b)) es i = some none
  | [], l, k, i, _, _ => rfl
  | e :: es, [], k, i, h, _ => by simp at h
  | e :: es, a :: l, k, i, h, hk => by
    simp only [List.map_cons, List.cons.injEq] at h
    have hne : ¬ (k = a) := fun e => hk (by rw [e]; simp)
    have hq : keyEqL (.leaf lk) (.agg (bs k.b)) e.key = some false := by
      rw [h.1]
      simp only [keyEqL, KK.fits, kA, fits_k, and_self, if_true, AV.beq, beq_kk, hne, decide_false]
    rw [findL, hq]
    exact find_no es l k (i + 1) h.2 (fun m => hk (List.mem_cons_of_mem _ m))
theorem find_yes : ∀ (es : List Entry) (l : List Key) (k : Key) (i : Nat), es.map (·.key) = l.map kA → k ∈ l → ∃ j e, es[j]? = some e ∧ l[j]? = some k ∧ findL (.leaf lk) (.agg (bs k.b)) es i = some (some (i + j, e))
  | [], l, k, i, h, hk => by cases l with
    | nil => simp at hk
    | cons => simp at h
  | e :: es, [], k, i, h, _ => by simp at h
  | e :: es, a :: l, k, i, h, hk => by
    simp only [List.map_cons, List.cons.injEq] at h
    by_cases hne : k = a
    · subst hne
      have hq : keyEqL (.leaf lk) (.agg (bs k.b)) e.key = some true := by
        rw [h.1]
        simp only [keyEqL, KK.fits, kA, fits_k, and_self, if_true, AV.beq, beq_kk, decide_true]
      refine ⟨0, e, rfl, rfl, ?_⟩
      rw [findL, hq]; rfl
    · have hq : keyEqL (.leaf lk) (.agg (bs k.b)) e.key = some false := by
        rw [h.1]
        simp only [keyEqL, KK.fits, kA, fits_k, and_self, if_true, AV.beq, beq_kk, hne, decide_false]
      have hk' : k ∈ l := by
        rcases List.mem_cons.1 hk with h | h
        · exact absurd h hne
        · exact h
      obtain ⟨j, e', h1, h2, h3⟩ := find_yes es l k (i + 1) h.2 hk'
      refine ⟨j + 1, e', h1, h2, ?_⟩
      rw [findL, hq]
      show findL (.leaf lk) (.agg (bs k.b)) es (i + 1) = _
      rw [h3]
      congr 3; omega

/-- The set of keys that were seen. -/
def seenE (l : List Key) : List Entry := l.zipIdx.map fun p => ⟨kA p.1, .bool true, p.2⟩
theorem seenE_keys (l : List Key) : (seenE l).map (·.key) = l.map kA := by
  unfold seenE
  rw [List.map_map]
  have : ((fun x : Entry => x.key) ∘ fun p : Key × Nat => (⟨kA p.1, .bool true, p.2⟩ : Entry)) = kA ∘ Prod.fst := rfl
  rw [this, ← List.map_map, List.zipIdx_map_fst]
theorem seenE_snoc (l : List Key) (k : Key) : seenE (l ++ [k]) = seenE l ++ [⟨kA k, .bool true, l.length⟩] := by
  unfold seenE
  rw [List.zipIdx_append]; simp
theorem seenE_val {l : List Key} {j : Nat} {e : Entry} (h : (seenE l)[j]? = some e) : e.val = .bool true := by
  unfold seenE at h
  rw [List.getElem?_map] at h
  cases hz : l.zipIdx[j]? with
  | none => rw [hz] at h; simp at h
  | some p => rw [hz] at h; simp at h; rw [← h]
theorem look_seen {S : List (List AV)} {H : List HObj} {l : List Key} {k : Key} {n : Nat} : lookupL (.leaf lk) (.s (.bool false)) false (.map H.length) (.agg (bs k.b)) ⟨S, H ++ [.map (seenE l) n]⟩ = some (.s (.bool (decide (k ∈ l)))) := by
  have hm : mapOf ⟨S, H ++ [.map (seenE l) n]⟩ (.map H.length) = some (seenE l, n) := by simp [mapOf]
  simp only [lookupL, KK.fits, fits_k, if_true, hm]
  by_cases h : k ∈ l
  · obtain ⟨j, e, h1, h2, h3⟩ := find_yes _ _ k 0 (seenE_keys l) h
    rw [h3]
    simp [seenE_val h1, h]
  · rw [find_no _ _ k 0 (seenE_keys l) h]
    simp [h]
theorem upd_seen {S : List (List AV)} {H : List HObj} {l : List Key} {k : Key} {n : Nat} (h : k ∉ l) (hn : l.length = n) : updateL (.leaf lk) (.map H.length) (.agg (bs k.b)) (.s (.bool true)) ⟨S, H ++ [.map (seenE l) n]⟩ = some ⟨S, H ++ [.map (seenE (l ++ [k])) (n + 1)]⟩ := by
  subst hn
  have hm : mapOf ⟨S, H ++ [.map (seenE l) l.length]⟩ (.map H.length) = some (seenE l, l.length) := by simp [mapOf]
  simp only [updateL, KK.fits, fits_k, AV.under, and_self, if_true, hm]
  rw [find_no _ _ k 0 (seenE_keys l) h]
  simp only [setMap, app_set0, List.set_cons_zero, seenE_snoc, List.length_append, List.length_cons, List.length_nil]
  rfl

def sgood (seen : List Key) : List Wr → Bool
  | [] => true
  | w :: l => if goodK w.key = false then false else if w.key ∈ seen then false else if 200 < w.val.length then false else if w.gone = true ∧ w.val ≠ [] then false else sgood (seen ++ [w.key]) l
end Go.AM
namespace Go.AM
open Go
set_option maxRecDepth 20000
set_option linter.unusedSimpArgs false
set_option linter.unusedVariables false

/-- A reader's method: what it answers, what is left. -/
def RdS (C : CallW) (f : FuncId) (args : List AV) (run : Rd → AV × Rd) : Prop := ∀ (j : Nat) (r : Rd) S H (K : AV → St → Prop), S[j]? = some (rdc r) → rok r → K (run r).1 ⟨S.set j (rdc (run r).2), H⟩ → C (.fn f) (.ptr (.stk j) 0 :: args) ⟨S, H⟩ K

theorem rec_spoil_spec {C : CallW} (P : Program) : ∀ (j : Nat) (r : Rd) S H (K : AV → St → Prop), S[j]? = some (rdc r) → rok r → K (.tup []) ⟨S.set j (rdc none), H⟩ → runL C P C_rec_Reader_spoil [.ptr (.stk j) 0] ⟨S, H⟩ K := by
  intro j r S H K hj hr hK
  have hlt := stkj_lt hj
  have s1 : storeL 1 (.ptr (.stk j) 0) (.s .nilS) ⟨S, H⟩ = some ⟨S.set j ((rdc r).set 0 (.s .nilS)), H⟩ := storeJs hj (by rw [rdc_len]; omega)
  have s2 : storeL 1 (.ptr (.stk j) 1) (.s (.bool true)) ⟨S.set j ((rdc r).set 0 (.s .nilS)), H⟩ = some ⟨(S.set j ((rdc r).set 0 (.s .nilS))).set j (((rdc r).set 0 (.s .nilS)).set 1 (.s (.bool true))), H⟩ := storeJs (stkj_set hj) (by rw [List.length_set, rdc_len]; omega)
  have s3 : ((rdc r).set 0 (.s .nilS)).set 1 (.s (.bool true)) = rdc none := by cases r <;> rfl
  rw [s3, List.set_set] at s2
  have ht : (S.set j (rdc none)).take S.length = S.set j (rdc none) := List.take_of_length_le (by rw [List.length_set]; omega)
  simp only [C_rec_Reader_spoil, A_, simprocAttr, ne_eq, s1, s2, ht, end1_nil]
  exact hK

theorem take_set {S : List (List AV)} {j : Nat} {x : List AV} : (S.set j x).take S.length = S.set j x := List.take_of_length_le (by rw [List.length_set]; omega)

set_option maxHeartbeats 4000000 in
theorem rec_Num_spec {C : CallW} (P : Program) {c : Nat → FuncId} (h0 : GetS C (c 0)) (h1 : RdS C (c 1) [] fun _ => (.tup [], none)) : ∀ (j : Nat) (r : Rd) S H (K : AV → St → Prop), S[j]? = some (rdc r) → rok r → K (.s (.int .u64 ((numR r).1 : Nat))) ⟨S.set j (rdc (numR r).2), H⟩ → runL C P (C_rec_Reader_Num c) [.ptr (.stk j) 0] ⟨S, H⟩ K := by
  intro j r S H K hj hr hK
  have hlt := stkj_lt hj
  have hj' : S[j]? = some (rdc r) := hj
  cases r with
  | none =>
    unfold rdc at hj'
    simp only [C_rec_Reader_Num, A_, simprocAttr, ne_eq, (U_rec_Reader_Num _).1, hj']
    refine h0 _ [] _ _ _ .n (by simp) ?_
    rw [getN_nil]
    simp only [A_, simprocAttr, ne_eq, (U_rec_Reader_Num _).1, hj']
    refine h1 j none _ _ _ hj hr ?_
    simp only [A_, simprocAttr, ne_eq, (U_rec_Reader_Num _).1, take_set]
    exact hK
  | some b =>
    unfold rdc at hj'
    simp only [C_rec_Reader_Num, A_, simprocAttr, ne_eq, (U_rec_Reader_Num _).1, hj']
    refine h0 _ b _ _ _ .l (hr b rfl) ?_
    rw [numR_some] at hK
    by_cases hn : (getN b).2 = 0
    · rw [if_pos hn] at hK
      simp only [A_, simprocAttr, ne_eq, (U_rec_Reader_Num _).1, hj', hn]
      refine h1 j _ _ _ _ hj hr ?_
      simp only [A_, simprocAttr, ne_eq, (U_rec_Reader_Num _).1, take_set]
      exact hK
    · rw [if_neg hn] at hK
      have hsl := slc_lo (c := 1) (n := (getN b).2) (es := bs b) (k := .i64) (by rw [bs_length]; exact (getN_bound b).2.1)
      rw [bs_drop] at hsl
      have hst : storeL 1 (.ptr (.stk j) 0) (.list .sh 1 (bs (b.drop (getN b).2))) ⟨S, H⟩ = some ⟨S.set j (rdc (some (b.drop (getN b).2))), H⟩ := storeJl hj (by rw [rdc_len]; omega)
      simp only [A_, simprocAttr, ne_eq, (U_rec_Reader_Num _).1, hj', hn, hsl, hst, take_set]
      exact hK

theorem rec_Most_spec {C : CallW} (P : Program) {c : Nat → FuncId} (h0 : RdS C (c 0) [] fun r => (.s (.int .u64 ((numR r).1 : Nat)), (numR r).2)) (h1 : RdS C (c 1) [] fun _ => (.tup [], none)) (m : Nat) (hm : m < 9223372036854775808) : ∀ (j : Nat) (r : Rd) S H (K : AV → St → Prop), S[j]? = some (rdc r) → rok r → K (.s (.int .i64 ((mostR m r).1 : Nat))) ⟨S.set j (rdc (mostR m r).2), H⟩ → runL C P (C_rec_Reader_Most c) [.ptr (.stk j) 0, .s (.int .i64 m)] ⟨S, H⟩ K := by
  intro j r S H K hj hr hK
  simp only [C_rec_Reader_Most, A_, simprocAttr, ne_eq, (U_rec_Reader_Most _).1]
  refine h0 j r _ _ _ hj hr ?_
  have hc := wrap_u64n (n := m) (by omega)
  unfold mostR at hK
  by_cases h : m < (numR r).1
  · have h' : ((m : Int) < ((numR r).1 : Int)) := by omega
    rw [if_pos h] at hK
    simp only [A_, simprocAttr, ne_eq, (U_rec_Reader_Most _).1, convL, hc, h']
    refine h1 j _ _ _ _ (stkj_set hj) (numR_ok hr) ?_
    rw [List.set_set]
    simp only [A_, simprocAttr, ne_eq, (U_rec_Reader_Most _).1, take_set]
    exact hK
  · have h' : ¬ ((m : Int) < ((numR r).1 : Int)) := by omega
    have hw : IntKind.i64.wrap (((numR r).1 : Nat) : Int) = ((numR r).1 : Nat) := wrap_i64 (by omega) (by omega)
    rw [if_neg h] at hK
    simp only [A_, simprocAttr, ne_eq, (U_rec_Reader_Most _).1, convL, hc, h', hw, take_set]
    exact hK

set_option maxHeartbeats 4000000 in
theorem rec_Text_spec {C : CallW} (P : Program) {c : Nat → FuncId} (h1 : RdS C (c 0) [] fun _ => (.tup [], none)) (n : Nat) : ∀ (j : Nat) (r : Rd) S H (K : AV → St → Prop), S[j]? = some (rdc r) → rok r → K (.s (.str (textR n r).1)) ⟨S.set j (rdc (textR n r).2), H⟩ → runL C P (C_rec_Reader_Text c) [.ptr (.stk j) 0, .s (.int .i64 n)] ⟨S, H⟩ K := by
  intro j r S H K hj hr hK
  have hlt := stkj_lt hj
  have hj' : S[j]? = some (rdc r) := hj
  cases r with
  | none =>
    unfold rdc at hj'
    by_cases hn : n = 0
    · subst hn
      have hst : storeL 1 (.ptr (.stk j) 0) (.s .nilS) ⟨S, H⟩ = some ⟨S.set j (rdc none), H⟩ := storeJs hj (by rw [rdc_len]; omega)
      have e0 : (((0 : Nat) : Int)) = 0 := rfl
      have z1 := slc_nil (c := 1) (k := .i64) (by omega)
      have z2 := slc_nilh (c := 1) (k := .i64) (by omega)
      simp only [C_rec_Reader_Text, A_, simprocAttr, ne_eq, (U_rec_Reader_Text _).1, hj', e0, z1, z2, conv_nil, hst, take_set]
      exact hK
    · have hp : ((0 : Int) < (n : Int)) := by omega
      simp only [C_rec_Reader_Text, A_, simprocAttr, ne_eq, (U_rec_Reader_Text _).1, hj', hp]
      refine h1 j none _ _ _ hj hr ?_
      simp only [A_, simprocAttr, ne_eq, (U_rec_Reader_Text _).1, take_set]
      exact hK
  | some b =>
    unfold rdc at hj'
    have hbl := bs_length b
    rw [textR_some] at hK
    by_cases h : b.length < n
    · have h' : ((b.length : Int) < (n : Int)) := by omega
      rw [if_pos h] at hK
      simp only [C_rec_Reader_Text, A_, simprocAttr, ne_eq, (U_rec_Reader_Text _).1, hj', hbl, h']
      refine h1 j _ _ _ _ hj hr ?_
      simp only [A_, simprocAttr, ne_eq, (U_rec_Reader_Text _).1, take_set]
      exact hK
    · have h' : ¬ ((b.length : Int) < (n : Int)) := by omega
      rw [if_neg h] at hK
      have hsl := slc_lo (c := 1) (n := n) (es := bs b) (k := .i64) (by rw [bs_length]; omega)
      rw [bs_drop] at hsl
      have hsh := slc_hi (c := 1) (n := n) (es := bs b) (k := .i64) (by rw [bs_length]; omega)
      rw [bs_take] at hsh
      have hst : storeL 1 (.ptr (.stk j) 0) (.list .sh 1 (bs (b.drop n))) ⟨S, H⟩ = some ⟨S.set j (rdc (some (b.drop n))), H⟩ := storeJl hj (by rw [rdc_len]; omega)
      simp only [C_rec_Reader_Text, A_, simprocAttr, ne_eq, (U_rec_Reader_Text _).1, hj', hbl, h', hsl, hsh, conv_bs, hst, take_set]
      exact hK
end Go.AM
namespace Go.AM
open Go
set_option maxRecDepth 20000
set_option linter.unusedSimpArgs false
set_option linter.unusedVariables false

theorem set_len {S : List (List AV)} {j : Nat} {x : List AV} : ∃ S', S.set j x = S' ∧ S.length = S'.length := ⟨_, rfl, by rw [List.length_set]⟩

set_option maxHeartbeats 4000000 in
theorem rec_Key_spec {C : CallW} (P : Program) {c : Nat → FuncId} (h0 : ∀ n : Nat, RdS C (c 0) [.s (.int .i64 n)] fun r => (.s (.str (textR n r).1), (textR n r).2)) : ∀ (j : Nat) (r : Rd) S H (K : AV → St → Prop), S[j]? = some (rdc r) → rok r → K (.agg (bs (keyR r).1.b)) ⟨S.set j (rdc (keyR r).2), H⟩ → runL C P (C_rec_Reader_Key c) [.ptr (.stk j) 0] ⟨S, H⟩ K := by
  intro j r S H K hj hr hK
  have hlt := stkj_lt hj
  simp only [C_rec_Reader_Key, A_, simprocAttr, ne_eq, (U_rec_Reader_Key _).1]
  refine h0 16 j r _ _ _ (stkj_app hj) hr ?_
  rw [setj_app hlt]
  obtain ⟨S', hS, hl⟩ := set_len (S := S) (j := j) (x := rdc (textR 16 r).2)
  unfold keyR at hK
  rw [hS] at hK ⊢
  have hcp := copy_str (e := eB) (S := S') (l := [bs key0.b, bs key0.b]) (H := H) (j := 1) (s := (textR 16 r).1) (k := key0) rfl (by simp) rfl (textR_len 16 r)
  have hpd : bs ((textR 16 r).1 ++ key0.b.drop (textR 16 r).1.length) = bs (padK (textR 16 r).1).b := by rw [pad_drop (textR_len 16 r)]; rfl
  rw [hpd] at hcp
  simp only [eB] at hcp
  simp only [hl, A_, simprocAttr, ne_eq, (U_rec_Reader_Key _).1, hcp]
  exact hK
theorem rec_Stamp_spec {C : CallW} (P : Program) {c : Nat → FuncId} (h0 : RdS C (c 0) [] fun r => (.s (.int .u64 ((numR r).1 : Nat)), (numR r).2)) (h1 : ∀ n : Nat, n < 18446744073709551616 → FnS C (c 1) [.s (.int .u64 n)] (.tup [.agg (stc (unpackS n).1), .s (.int .i64 (if (unpackS n).2 = true then 0 else 1))])) (h2 : RdS C (c 2) [] fun _ => (.tup [], none)) : ∀ (j : Nat) (r : Rd) S H (K : AV → St → Prop), S[j]? = some (rdc r) → rok r → K (.agg (stc (stampR r).1)) ⟨S.set j (rdc (stampR r).2), H⟩ → runL C P (C_rec_Reader_Stamp c) [.ptr (.stk j) 0] ⟨S, H⟩ K := by
  intro j r S H K hj hr hK
  have hlt := stkj_lt hj
  simp only [C_rec_Reader_Stamp, A_, simprocAttr, ne_eq, (U_rec_Reader_Stamp _).1]
  refine h0 j r _ _ _ (stkj_app hj) hr ?_
  rw [setj_app hlt]
  obtain ⟨S', hS, hl⟩ := set_len (S := S) (j := j) (x := rdc (numR r).2)
  have hj2 : S'[j]? = some (rdc (numR r).2) := by rw [← hS]; exact stkj_set hj
  simp only [hS, hl, A_, simprocAttr, ne_eq, (U_rec_Reader_Stamp _).1]
  refine h1 _ (numR_lt r) _ _ _ ?_
  unfold stampR at hK
  cases hu : (unpackS (numR r).1).2 with
  | true =>
    rw [hu, if_pos rfl, hS] at hK
    simp only [A_, simprocAttr, ne_eq, (U_rec_Reader_Stamp _).1]
    exact hK
  | false =>
    have hz : (unpackS (numR r).1).1 = ⟨0, 0⟩ := by
      unfold unpackS at hu ⊢
      split at hu
      · cases hu
      · rename_i h; rw [if_neg h]
    rw [hu, if_neg (by simp)] at hK
    simp only [A_, simprocAttr, ne_eq, (U_rec_Reader_Stamp _).1]
    refine h2 j _ _ _ _ (stkj_app hj2) (numR_ok hr) ?_
    rw [setj_app (stkj_lt hj2)]
    obtain ⟨S2, hS2, hl2⟩ := set_len (S := S') (j := j) (x := rdc none)
    have e : S.set j (rdc none) = S2 := by rw [← hS2, ← hS, List.set_set]
    rw [e] at hK
    simp only [hS2, hl2, hz, A_, simprocAttr, ne_eq, (U_rec_Reader_Stamp _).1]
    exact hK
end Go.AM
namespace Go.AM
open Go
set_option maxRecDepth 20000
set_option linter.unusedSimpArgs false
set_option linter.unusedVariables false

def cmpK (a b : Key) : Int := Lib.compareBytes a.b b.b
def withinK (k a b : Key) : Bool := decide (0 ≤ cmpK k a) && (decide (b = key0) || decide (cmpK k b < 0))

end Go.AM
namespace Go.AM
open Go
set_option maxRecDepth 20000
set_option linter.unusedSimpArgs false
set_option linter.unusedVariables false

/-- How many points are not above a key. -/
def cntK (k : Key) : List Key → Nat
  | [] => 0
  | p :: l => (if cmpK p k ≤ 0 then 1 else 0) + cntK k l
end Go.AM
namespace Go.AM
open Go
set_option maxRecDepth 20000
set_option linter.unusedSimpArgs false
set_option linter.unusedVariables false

end Go.AM
namespace Go.AM
open Go
set_option maxRecDepth 20000
set_option linter.unusedSimpArgs false
set_option linter.unusedVariables false

end Go.AM
namespace Go.AM
open Go
set_option maxRecDepth 20000
set_option linter.unusedSimpArgs false
set_option linter.unusedVariables false

def aboveK (l : List Key) (a : Key) (i : Nat) : Bool := match l[i]? with
  | some p => decide (0 < cmpK p a)
  | none => true
def belowK (l : List Key) (b : Key) (i : Nat) : Bool := decide (i = 0) || decide (b = key0) || (match l[i - 1]? with
  | some p => decide (cmpK p b < 0)
  | none => true)
def covUp (l : List Key) (a b : Key) (n : Nat) : List Nat := (List.range n).filter fun i => aboveK l a i && belowK l b i
def coverK (l : List Key) (a b : Key) : List Nat := if b ≠ key0 ∧ cmpK b a ≤ 0 then [] else covUp l a b (l.length + 1)
end Go.AM
namespace Go.AM
open Go
set_option maxRecDepth 20000
set_option linter.unusedSimpArgs false
set_option linter.unusedVariables false

def Steps (c : List Nat) : Prop := ∀ i, 0 < i → (h : i < c.length) → c[i] = c[i - 1] + 1

structure WholeP (pts : List Key) (a b fr to : Key) : Prop where
  good : ∀ k, goodR k = true → goodK k = true
  lt : cntK a pts ≤ pts.length
  mono : cmpK a b ≤ 0 → cntK a pts ≤ cntK b pts
  cons : Steps (coverK pts fr to)
  small : ∀ x ∈ coverK pts fr to, x ≤ pts.length
  mem : withinK a fr to = true → cntK a pts ∈ coverK pts fr to

end Go.AM
/-! The plain law of RouteWhole. -/
namespace Go.AM
open Go
set_option linter.unusedVariables false

end Go.AM
namespace Go.AM
open Go
set_option maxRecDepth 20000
set_option linter.unusedSimpArgs false
set_option linter.unusedVariables false

def GoodWS (C : CallW) (f : FuncId) : Prop := ∀ (l : List Wr) S H (K : AV → St → Prop), l.length ≤ 9223372036854775807 → (∀ G, K (.bool (sgood [] l)) ⟨S, H ++ G⟩) → C (.fn f) [lstW l] ⟨S, H⟩ K
set_option maxHeartbeats 8000000 in
theorem store_Good_spec {C : CallW} (hC : LeC C C) (P : Program) {c : Nat → FuncId} (h0 : BoolK goodK C (c 0)) : ∀ (l : List Wr) S H (K : AV → St → Prop), l.length ≤ 9223372036854775807 → (∀ G, K (.bool (sgood [] l)) ⟨S, H ++ G⟩) → runL C P (C_store_Good c) [lstW l] ⟨S, H⟩ K := by
  intro l S H K hl hK
  simp only [lstW, C_store_Good, A_, simprocAttr, ne_eq, (U_store_Good _).1]
  refine loop_rule hC (α := Nat) (fun a => l.length - a) (fun a => [.undef, .undef, .undef, .map H.length, .undef, .undef, .undef, .list .sh 18 (l.map wA), .s (.int .i64 l.length), .s (.int .i64 a), .undef, .undef, .undef, .undef, .undef, .undef, .undef, .undef, .undef, .undef, .undef, .undef, .undef, .undef, .undef, .undef, .undef, .undef, .undef, .undef, .undef, .undef, .undef, .undef, .undef, .undef, .undef, .undef, .undef, .undef, .undef, .undef]) (fun _ => S) (fun a => H ++ [.map (seenE ((l.take a).map Wr.key)) a]) (fun a => a ≤ l.length ∧ sgood [] l = sgood ((l.take a).map Wr.key) (l.drop a)) 0 ⟨by simp, by simp⟩ rfl (by simp) rfl (fun a _ => by simp [AV.under, AV.under.go]) ?_
  rintro i ⟨hi, hinv⟩ ih
  by_cases h16 : i < l.length
  · have hlt : ((i : Int) < (l.length : Int)) := by omega
    have hw : IntKind.i64.wrap ((i : Int) + 1) = (i : Int) + 1 := wrap_i64 (by omega) (by omega)
    have htk : (l.take (i + 1)).map Wr.key = (l.take i).map Wr.key ++ [(l[i]).key] := by rw [List.take_succ_eq_append_getElem h16, List.map_append]; rfl
    rw [List.drop_eq_getElem_cons h16, sgood, ← htk] at hinv
    simp only [A_, simprocAttr, ne_eq, (U_store_Good _).1, hlt, h16]
    refine h0 _ _ _ _ ?_
    cases e1 : goodK (l[i]).key with
    | false =>
      rw [if_pos e1] at hinv
      rw [hinv] at hK
      simp only [A_, simprocAttr, ne_eq, (U_store_Good _).1]
      exact hK _
    | true =>
      rw [if_neg (by simp [e1])] at hinv
      simp only [A_, simprocAttr, ne_eq, (U_store_Good _).1, look_seen]
      by_cases e2 : (l[i]).key ∈ (l.take i).map Wr.key
      · rw [if_pos e2] at hinv
        rw [hinv] at hK
        simp only [A_, simprocAttr, ne_eq, (U_store_Good _).1, e2]
        exact hK _
      · rw [if_neg e2] at hinv
        have hup := upd_seen (S := S ++ [wc l[i]]) (H := H) (n := i) e2 (by simp; omega)
        rw [← htk] at hup
        by_cases e3 : 200 < (l[i]).val.length
        · have e3' : ((200 : Int) < ((l[i]).val.length : Int)) := by omega
          rw [if_pos e3] at hinv
          rw [hinv] at hK
          simp only [A_, simprocAttr, ne_eq, (U_store_Good _).1, e2, e3']
          exact hK _
        · have e3' : ¬ ((200 : Int) < ((l[i]).val.length : Int)) := by omega
          rw [if_neg e3] at hinv
          cases e4 : (l[i]).gone with
          | false =>
            rw [if_neg (by simp [e4])] at hinv
            simp only [A_, simprocAttr, ne_eq, (U_store_Good _).1, e2, e3', e4, hup, hw]
            exact ih (i + 1) _ _ _ (by omega) ⟨by omega, hinv⟩ rfl (by simp) rfl
          | true =>
            by_cases e5 : (l[i]).val = []
            · rw [if_neg (by simp [e5])] at hinv
              have e5' := eq_true e5
              simp only [A_, simprocAttr, ne_eq, (U_store_Good _).1, e2, e3', e4, e5', hup, hw]
              exact ih (i + 1) _ _ _ (by omega) ⟨by omega, hinv⟩ rfl (by simp) rfl
            · rw [if_pos ⟨e4, e5⟩] at hinv
              rw [hinv] at hK
              simp only [A_, simprocAttr, ne_eq, (U_store_Good _).1, e2, e3', e4, e5]
              exact hK _
  · have hlt : ¬ ((i : Int) < (l.length : Int)) := by omega
    rw [List.drop_of_length_le (by omega)] at hinv
    rw [hinv] at hK
    simp only [A_, simprocAttr, ne_eq, (U_store_Good _).1, hlt]
    exact hK _
end Go.AM
namespace Go.AM
open Go
set_option maxRecDepth 20000
set_option linter.unusedSimpArgs false
set_option linter.unusedVariables false

end Go.AM
namespace Go.AM
open Go
set_option maxRecDepth 20000
set_option linter.unusedSimpArgs false
set_option linter.unusedVariables false

/-! writes in bytes -/
def putW (w : Wr) : List UInt8 := w.key.b ++ ((if w.gone then 1 else 0) :: (putN w.val.length ++ w.val))
def putWs (l : List Wr) : List UInt8 := putN l.length ++ l.flatMap putW
theorem flatW_take {l : List Wr} {i : Nat} (h : i < l.length) : (l.take (i + 1)).flatMap putW = (l.take i).flatMap putW ++ putW l[i] := by
  rw [List.take_succ_eq_append_getElem h, List.flatMap_append]; simp
theorem putN_flag (g : Bool) : putN (if g then 1 else 0) = [if g then 1 else 0] := by cases g <;> exact putN_lt (by decide)
theorem group_any {e : ET} (he : e.ag = false) (hc : e.c = 1) : ∀ (n : Nat) (cs : List AV), cs.length = n → groupL e n cs = cs
  | 0, cs, h => by cases cs <;> simp_all [groupL]
  | n + 1, [], h => by simp at h
  | n + 1, c :: cs, h => by
    simp only [groupL, packL, hc, he, List.take_succ_cons, List.take_zero, List.drop_succ_cons, List.drop_zero, List.getD_cons_zero]
    rw [group_any he hc n cs (by simpa using h)]
theorem elems_key {σ : St} {r : Ref} {k : Key} {rest : List AV} (h : boxOf σ r = some (bs k.b ++ rest)) : elemsL eB (.row r 0 16 16) σ = some (bs k.b) := by
  unfold elemsL
  have hl : 0 + 16 * 1 ≤ (bs k.b ++ rest).length := by simp [kc_length]
  have e : (false || (1 : Nat) == 1) = true := rfl
  simp only [eB, e, if_true, readCells, h, Option.bind_some, Nat.mul_one] at hl ⊢
  rw [if_pos ⟨hl, .inl (by omega)⟩]
  have : (((bs k.b ++ rest).drop 0).take 16).map AV.look = bs k.b := by rw [List.drop_zero, take_kc, map_look_bs]
  simp only [Option.map_some, Nat.zero_add, Nat.mul_one, this]
  rw [group_any rfl rfl 16 _ (kc_length k)]
theorem app_bu2 {b d : List UInt8} {x : AV} {σ : St} (hs : srcL false x = true) (he : elemsL eB x σ = some (bs d)) (hb : b.length + d.length ≤ 1000000000000) : appendL eB false (.list .uniq 1 (bs b)) x σ = some (.list .uniq 1 (bs (b ++ d)), σ) := by
  have h := app_bu (b := b) (d := d) (fl2 := .sh) (σ := σ) hb
  have he2 : elemsL eB (.list .sh 1 (bs d)) σ = some (bs d) := by simp [elemsL]
  rw [← h]
  unfold appendL
  have hs2 : srcL false (.list .sh 1 (bs d)) = true := rfl
  rw [hs, hs2, he, he2]

theorem storeL_last {S : List (List AV)} {H G : List HObj} {n : Nat} {old vs : List AV} (h : old.length = n) (hv : vs.length = n) (hn : 2 ≤ n) (hu : AV.under.go 0 vs = true) : storeL n (.ptr (.heap (H.length + G.length)) 0) (.agg vs) ⟨S, H ++ (G ++ [.cells old])⟩ = some ⟨S, H ++ (G ++ [.cells vs])⟩ := by
  have := storeL_heap (S := S) (H := H) (l := G ++ [.cells old]) (j := G.length) (n := n) (vs := vs) (by simp) (by simp [List.getD, hcells, h]) hv hn hu
  rw [this]
  simp
def PutWS (C : CallW) (f : FuncId) : Prop := ∀ (a : AV) (b : List UInt8) (l : List Wr) S H (K : AV → St → Prop), BA a b → b.length ≤ 1000000 → l.length ≤ 1000 → (∀ w ∈ l, w.val.length ≤ 100000) → (∀ G, K (.list .uniq 1 (bs (b ++ putWs l))) ⟨S, H ++ G⟩) → C (.fn f) [a, lstW l] ⟨S, H⟩ K
theorem flat_len {l : List Wr} (hv : ∀ w ∈ l, w.val.length ≤ 100000) : (l.flatMap putW).length ≤ 100027 * l.length := by
  induction l with
  | nil => simp
  | cons w l ih =>
    have h1 := ih (fun x hx => hv x (List.mem_cons_of_mem _ hx))
    have h2 := hv w (List.mem_cons_self ..)
    have h3 := putN_len10 (v := w.val.length) (by omega)
    rw [List.flatMap_cons, List.length_append, List.length_cons]
    have : (putW w).length ≤ 100027 := by
      unfold putW
      rw [List.length_append, w.key.h, List.length_cons, List.length_append]; omega
    omega
set_option maxHeartbeats 16000000 in
theorem rec_PutWrites_spec {C : CallW} (hC : LeC C C) (P : Program) {c : Nat → FuncId} (h0 : NumS C (c 0)) : ∀ (b : List UInt8) (l : List Wr) S H (K : AV → St → Prop), b.length ≤ 1000000 → l.length ≤ 1000 → (∀ w ∈ l, w.val.length ≤ 100000) → (∀ G, K (.list .uniq 1 (bs (b ++ putWs l))) ⟨S, H ++ G⟩) → runL C P (C_rec_PutWrites c) [.list .sh 1 (bs b), lstW l] ⟨S, H⟩ K := by
  intro b l S H K hb hl hv hK
  simp only [lstW, C_rec_PutWrites, A_, simprocAttr, ne_eq, (U_rec_PutWrites _).1]
  refine h0 _ b l.length _ _ _ .l (by omega) (by omega) ?_
  have hp := putN_len10 (v := l.length) (by omega)
  simp only [A_, simprocAttr, ne_eq, (U_rec_PutWrites _).1]
  refine loop_rule hC (α := Nat × List HObj) (fun a => l.length - a.1) (fun a => [.list .uniq 1 (bs (b ++ (putN l.length ++ (l.take a.1).flatMap putW))), .undef, .undef, .undef, .undef, .undef, .undef, .undef, .undef, .undef, .undef, .list .sh 18 (l.map wA), .s (.int .i64 l.length), .s (.int .i64 a.1), .undef, .undef, .undef, .undef, .undef, .undef, .undef, .undef, .undef, .undef, .undef, .undef, .undef, .undef, .undef, .undef, .undef, .undef, .undef, .undef, .undef, .undef, .undef]) (fun _ => S) (fun a => H ++ a.2) (fun a => a.1 ≤ l.length) (0, []) (by simp) (by simp only [List.take_zero, List.flatMap_nil, List.append_nil]; rfl) (by simp) (by simp) (fun a _ => by simp [AV.under, AV.under.go]) ?_
  rintro ⟨i, G⟩ hi ih
  dsimp only at hi ih ⊢
  by_cases h16 : i < l.length
  · have hlt : ((i : Int) < (l.length : Int)) := by omega
    have hw : IntKind.i64.wrap ((i : Int) + 1) = (i : Int) + 1 := wrap_i64 (by omega) (by omega)
    have hcl : (b ++ (putN l.length ++ (l.take i).flatMap putW)).length ≤ 200000000 := by
      have := flat_len (l := l.take i) (fun w hw => hv w (List.mem_of_mem_take hw))
      rw [List.length_take] at this
      simp only [List.length_append]
      have : 100027 * min i l.length ≤ 100027 * 1000 := Nat.mul_le_mul_left _ (by omega)
      omega
    have hvi := hv l[i] (List.getElem_mem h16)
    have hlen1 : (b ++ (putN l.length ++ (l.take (i + 1)).flatMap putW)) = (b ++ (putN l.length ++ (l.take i).flatMap putW)) ++ ((l[i]).key.b ++ ((if (l[i]).gone then 1 else 0) :: (putN (l[i]).val.length ++ (l[i]).val))) := by
      rw [flatW_take h16, putW]; simp only [List.append_assoc]
    generalize hcur : b ++ (putN l.length ++ (l.take i).flatMap putW) = cur at hcl hlen1 ⊢
    have hb1 : boxOf ⟨S, H ++ (G ++ [HObj.cells (wc l[i])])⟩ (.heap (H.length + G.length)) = some (wc l[i]) := by
      rw [boxOf_heap, app_get]; simp [cellsOf?]
    have hk := (l[i]).key.h
    have happ := app_bu2 (b := cur) (d := (l[i]).key.b) (x := .row (.heap (H.length + G.length)) 0 16 16) (σ := ⟨S, H ++ (G ++ [HObj.cells (wc l[i])])⟩) rfl (elems_key (rest := [.s (.str (l[i]).val), .s (.bool (l[i]).gone)]) (by rw [hb1]; rfl)) (by omega)
    simp only [eB] at happ
    have hbx : (H ++ (G ++ [HObj.cells (wc l[i])]))[H.length + G.length]? = some (.cells (wc l[i])) := by rw [app_get]; simp
    have hst := storeL_last (S := S) (H := H) (G := G) (n := 18) (old := bs key0.b ++ [.s (.str []), .s (.bool false)]) (vs := wc l[i]) rfl (wc_length _) (by omega) wc_under
    have hflag : ∀ (g : Bool), putN (if g = true then 1 else 0) = [if g = true then 1 else 0] := putN_flag
    cases hg : (l[i]).gone with
    | true =>
      rw [hg] at hlen1
      simp only [A_, simprocAttr, ne_eq, (U_rec_PutWrites _).1, hlt, h16, hst, happ, hg]
      refine h0 _ (cur ++ (l[i]).key.b) 1 _ _ _ .l (by simp; omega) (by omega) ?_
      have hf1 : putN 1 = [1] := putN_flag true
      have hp2 := putN_len10 (v := (l[i]).val.length) (by omega)
      rw [hf1]
      simp only [A_, simprocAttr, ne_eq, (U_rec_PutWrites _).1]
      refine h0 _ _ (l[i]).val.length _ _ _ .l (by simp; omega) (by omega) ?_
      have ha2 := app_bstr (b := cur ++ (l[i]).key.b ++ [1] ++ putN (l[i]).val.length) (d := (l[i]).val) (σ := ⟨S, H ++ (G ++ [HObj.cells (wc l[i])])⟩) (by simp; omega)
      simp only [eB, List.append_assoc, List.cons_append, List.nil_append] at ha2
      have hn2 : cur ++ ((l[i]).key.b ++ 1 :: (putN (l[i]).val.length ++ (l[i]).val)) = b ++ (putN l.length ++ (l.take (i + 1)).flatMap putW) := by
        rw [hlen1]; simp
      rw [hn2] at ha2
      simp only [A_, simprocAttr, ne_eq, (U_rec_PutWrites _).1, ha2, hw]
      exact ih (i + 1, G ++ [HObj.cells (wc l[i])]) _ _ _ (by dsimp only; omega) (by dsimp only; omega) rfl (by simp) (by simp)
    | false =>
      rw [hg] at hlen1
      simp only [A_, simprocAttr, ne_eq, (U_rec_PutWrites _).1, hlt, h16, hst, happ, hg]
      refine h0 _ (cur ++ (l[i]).key.b) 0 _ _ _ .l (by simp; omega) (by omega) ?_
      have hf1 : putN 0 = [0] := putN_flag false
      have hp2 := putN_len10 (v := (l[i]).val.length) (by omega)
      rw [hf1]
      simp only [A_, simprocAttr, ne_eq, (U_rec_PutWrites _).1]
      refine h0 _ _ (l[i]).val.length _ _ _ .l (by simp; omega) (by omega) ?_
      have ha2 := app_bstr (b := cur ++ (l[i]).key.b ++ [0] ++ putN (l[i]).val.length) (d := (l[i]).val) (σ := ⟨S, H ++ (G ++ [HObj.cells (wc l[i])])⟩) (by simp; omega)
      simp only [eB, List.append_assoc, List.cons_append, List.nil_append] at ha2
      have hn2 : cur ++ ((l[i]).key.b ++ 0 :: (putN (l[i]).val.length ++ (l[i]).val)) = b ++ (putN l.length ++ (l.take (i + 1)).flatMap putW) := by
        rw [hlen1]; simp
      rw [hn2] at ha2
      simp only [A_, simprocAttr, ne_eq, (U_rec_PutWrites _).1, ha2, hw]
      exact ih (i + 1, G ++ [HObj.cells (wc l[i])]) _ _ _ (by dsimp only; omega) (by dsimp only; omega) rfl (by simp) (by simp)
  · have hlt : ¬ ((i : Int) < (l.length : Int)) := by omega
    have : i = l.length := by omega
    subst this
    rw [List.take_length]
    unfold putWs at hK
    simp only [A_, simprocAttr, ne_eq, (U_rec_PutWrites _).1, hlt]
    exact hK _
end Go.AM
namespace Go.AM
open Go
set_option maxRecDepth 20000
set_option linter.unusedSimpArgs false
set_option linter.unusedVariables false

end Go.AM
namespace Go.AM
open Go
set_option maxRecDepth 20000
set_option linter.unusedSimpArgs false
set_option linter.unusedVariables false

def wrR (r : Rd) : Wr × Rd :=
  (⟨(keyR r).1, (textR (mostR 200 (mostR 1 (keyR r).2).2).1 (mostR 200 (mostR 1 (keyR r).2).2).2).1, decide ((mostR 1 (keyR r).2).1 = 1)⟩, (textR (mostR 200 (mostR 1 (keyR r).2).2).1 (mostR 200 (mostR 1 (keyR r).2).2).2).2)
def wrsR : Nat → Rd → List Wr × Rd
  | 0, r => ([], r)
  | n + 1, r => ((wrR r).1 :: (wrsR n (wrR r).2).1, (wrsR n (wrR r).2).2)
def writesR (r : Rd) : List Wr × Rd :=
  ((wrsR (mostR 16 r).1 (mostR 16 r).2).1, if sgood [] (wrsR (mostR 16 r).1 (mostR 16 r).2).1 = true then (wrsR (mostR 16 r).1 (mostR 16 r).2).2 else none)
theorem wrR_ok {r : Rd} (h : rok r) : rok (wrR r).2 := textR_ok (mostR_ok (mostR_ok (keyR_ok h)))
theorem wrsR_len : ∀ (n : Nat) (r : Rd), (wrsR n r).1.length = n
  | 0, r => rfl
  | n + 1, r => by rw [wrsR, List.length_cons, wrsR_len n]
theorem set_kc17 {k : Key} {a b x : AV} : (bs k.b ++ [a, b]).set 17 x = bs k.b ++ [a, x] := by
  rw [List.set_append_right _ _ (by rw [kc_length]; omega), kc_length]; rfl
theorem set_kc16 {k : Key} {a b x : AV} : (bs k.b ++ [a, b]).set 16 x = bs k.b ++ [x, b] := by
  rw [List.set_append_right _ _ (by rw [kc_length]; omega), kc_length]; rfl

def WritesS (C : CallW) (f : FuncId) : Prop := ∀ (j : Nat) (r : Rd) S H (K : AV → St → Prop), S[j]? = some (rdc r) → rok r → (∀ G, K (lstW (writesR r).1) ⟨S.set j (rdc (writesR r).2), H ++ G⟩) → C (.fn f) [.ptr (.stk j) 0] ⟨S, H⟩ K
set_option maxHeartbeats 16000000 in
theorem rec_Writes_spec {C : CallW} (hC : LeC C C) (hW : WkC C) (P : Program) {c : Nat → FuncId} (h0 : ∀ m : Nat, m < 9223372036854775808 → RdS C (c 0) [.s (.int .i64 m)] fun r => (.s (.int .i64 ((mostR m r).1 : Nat)), (mostR m r).2)) (h1 : RdS C (c 1) [] fun r => (.agg (bs (keyR r).1.b), (keyR r).2)) (h2 : ∀ n : Nat, RdS C (c 2) [.s (.int .i64 n)] fun r => (.s (.str (textR n r).1), (textR n r).2)) (h3 : GoodWS C (c 3)) (h4 : RdS C (c 4) [] fun _ => (.tup [], none)) :
    ∀ (j : Nat) (r : Rd) S H (K : AV → St → Prop), S[j]? = some (rdc r) → rok r → (∀ G, K (lstW (writesR r).1) ⟨S.set j (rdc (writesR r).2), H ++ G⟩) → runL C P (C_rec_Reader_Writes c) [.ptr (.stk j) 0] ⟨S, H⟩ (fun v s => ∃ b, (b = v ∨ WkL [v.sh] [b]) ∧ K b s) := by
  intro j r S H K hj hr hK
  have hjl := stkj_lt hj
  simp only [C_rec_Reader_Writes, A_, simprocAttr, ne_eq, (U_rec_Reader_Writes _).1]
  refine h0 16 (by omega) j r _ _ _ hj hr ?_
  simp only [A_, simprocAttr, ne_eq, (U_rec_Reader_Writes _).1]
  generalize hn : (mostR 16 r).1 = n
  have hn16 : n ≤ 16 := by rw [← hn]; exact mostR_le 16 r
  have hr1 : rok (mostR 16 r).2 := mostR_ok hr
  generalize hrr : (mostR 16 r).2 = r1 at hr1
  unfold writesR at hK
  rw [hn, hrr] at hK
  refine loop_rule hC (α := Nat × List Wr × Rd) (fun a => n - a.1) (fun a => [.ptr (.stk j) 0, .undef, .undef, slG 18 (a.2.1.map wA), .undef, .undef, .s (.int .i64 n), .s (.int .i64 a.1), .undef, .undef, .undef, .undef, .undef, .undef, .undef, .undef, .undef, .undef, .undef, .undef, .undef, .undef, .undef, .undef, .undef, .undef, .undef, .undef, .undef, .undef, .undef, .undef]) (fun a => S.set j (rdc a.2.2)) (fun a => H) (fun a => a.1 ≤ n ∧ rok a.2.2 ∧ a.2.1.length = a.1 ∧ wrsR n r1 = (a.2.1 ++ (wrsR (n - a.1) a.2.2).1, (wrsR (n - a.1) a.2.2).2)) (0, [], r1) ⟨by simp, hr1, rfl, by simp⟩ rfl (by simp [take_set]) rfl (fun a _ => by simp [AV.under, AV.under.go, slG_under]; omega) ?_
  rintro ⟨i, acc, q⟩ ⟨hi, hq, hal, hinv⟩ ih
  dsimp only at hi hq hal hinv ih ⊢
  have hj1 : (S.set j (rdc q))[j]? = some (rdc q) := stkj_set hj
  by_cases h16 : i < n
  · have hlt : ((i : Int) < (n : Int)) := by omega
    have hw : IntKind.i64.wrap ((i : Int) + 1) = (i : Int) + 1 := wrap_i64 (by omega) (by omega)
    simp only [A_, simprocAttr, ne_eq, (U_rec_Reader_Writes _).1, hlt]
    refine h1 j q _ _ _ hj1 hq ?_
    rw [List.set_set]
    obtain ⟨S1, hS1, hl1⟩ := set_len (S := S) (j := j) (x := rdc (keyR q).2)
    have hq1 : rok (keyR q).2 := keyR_ok hq
    have hj2 : S1[j]? = some (rdc (keyR q).2) := by rw [← hS1]; exact stkj_set hj
    simp only [hS1, hl1, A_, simprocAttr, ne_eq, (U_rec_Reader_Writes _).1, fillL]
    refine h0 1 (by omega) j _ _ _ _ (stkj_app hj2) hq1 ?_
    rw [setj_app (stkj_lt hj2)]
    obtain ⟨S2, hS2, hl2⟩ := set_len (S := S1) (j := j) (x := rdc (mostR 1 (keyR q).2).2)
    have hq2 : rok (mostR 1 (keyR q).2).2 := mostR_ok hq1
    have hj3 : S2[j]? = some (rdc (mostR 1 (keyR q).2).2) := by rw [← hS2]; exact stkj_set hj2
    simp only [hS2, hl2, A_, simprocAttr, ne_eq, (U_rec_Reader_Writes _).1, set_kc17]
    refine h0 200 (by omega) j _ _ _ _ (stkj_app hj3) hq2 ?_
    rw [setj_app (stkj_lt hj3)]
    obtain ⟨S3, hS3, hl3⟩ := set_len (S := S2) (j := j) (x := rdc (mostR 200 (mostR 1 (keyR q).2).2).2)
    have hq3 : rok (mostR 200 (mostR 1 (keyR q).2).2).2 := mostR_ok hq2
    have hj4 : S3[j]? = some (rdc (mostR 200 (mostR 1 (keyR q).2).2).2) := by rw [← hS3]; exact stkj_set hj3
    simp only [hS3, hl3, A_, simprocAttr, ne_eq, (U_rec_Reader_Writes _).1]
    refine h2 _ j _ _ _ _ (stkj_app hj4) hq3 ?_
    rw [setj_app (stkj_lt hj4)]
    obtain ⟨S4, hS4, hl4⟩ := set_len (S := S3) (j := j) (x := rdc (textR (mostR 200 (mostR 1 (keyR q).2).2).1 (mostR 200 (mostR 1 (keyR q).2).2).2).2)
    have hS4' : S4 = S.set j (rdc (wrR q).2) := by rw [← hS4, ← hS3, ← hS2, ← hS1, List.set_set, List.set_set, List.set_set]; rfl
    have hde : decide ((((mostR 1 (keyR q).2).1 : Nat) : Int) = 1) = decide ((mostR 1 (keyR q).2).1 = 1) := by
      by_cases h : (mostR 1 (keyR q).2).1 = 1 <;> simp [h]; omega
    have happ : appendL ⟨18, true, 40, (.agg (zk ++ [(.s (.str [])), (.s (.bool false))]))⟩ false (slG 18 (acc.map wA)) (.list .full 18 [.agg (bs (keyR q).1.b ++ [.s (.str (textR (mostR 200 (mostR 1 (keyR q).2).2).1 (mostR 200 (mostR 1 (keyR q).2).2).2).1), .s (.bool (decide ((mostR 1 (keyR q).2).1 = 1)))])]) ⟨S4 ++ [bs (keyR q).1.b ++ [.s (.str (textR (mostR 200 (mostR 1 (keyR q).2).2).1 (mostR 200 (mostR 1 (keyR q).2).2).2).1), .s (.bool (decide ((mostR 1 (keyR q).2).1 = 1)))]], H⟩ = some (slG 18 ((acc ++ [(wrR q).1]).map wA), ⟨S4 ++ [bs (keyR q).1.b ++ [.s (.str (textR (mostR 200 (mostR 1 (keyR q).2).2).1 (mostR 200 (mostR 1 (keyR q).2).2).2).1), .s (.bool (decide ((mostR 1 (keyR q).2).1 = 1)))]], H⟩) := by
      have := app_slG (e := ⟨18, true, 40, (.agg (zk ++ [(.s (.str [])), (.s (.bool false))]))⟩) (es := acc.map wA) (a := wA (wrR q).1) (σ := ⟨S4 ++ [wc (wrR q).1], H⟩) wA_under (by rw [List.length_map]; dsimp only; omega)
      rw [List.map_append]
      exact this
    simp only [zk_eq] at happ
    simp only [hS4, hl4, A_, simprocAttr, ne_eq, (U_rec_Reader_Writes _).1, set_kc16, hde, happ, hw]
    rw [hl4.symm.trans (hl3.symm.trans (hl2.symm.trans hl1.symm))]
    refine ih (i + 1, acc ++ [(wrR q).1], (wrR q).2) _ _ _ (by dsimp only; omega) ⟨by dsimp only; omega, wrR_ok hq, by simp [hal], ?_⟩ rfl ?_ rfl
    · dsimp only
      rw [hinv, show n - i = (n - (i + 1)) + 1 by omega, wrsR]
      simp
    · rw [hl1.trans (hl2.trans (hl3.trans hl4)), app_take]; exact hS4'
  · have hlt : ¬ ((i : Int) < (n : Int)) := by omega
    have hin : n - i = 0 := by omega
    rw [hin, wrsR, List.append_nil] at hinv
    rw [hinv] at hK
    dsimp only at hK
    have fin1 : ∀ (v : AV) G, (lstW acc = v ∨ WkL [v.sh] [lstW acc]) → (∃ b, (b = v ∨ WkL [v.sh] [b]) ∧ K b ⟨S.set j (rdc (if sgood [] acc = true then q else none)), H ++ G⟩) := fun v G h => ⟨lstW acc, h, hK G⟩
    cases acc with
    | nil =>
      simp only [A_, simprocAttr, ne_eq, (U_rec_Reader_Writes _).1, hlt]
      refine hW _ _ [lstW []] _ _ (.nilS (by omega) .nil) ?_
      refine h3 [] _ _ _ (by simp) fun G => ?_
      have hg : sgood [] [] = true := rfl
      rw [hg, if_pos rfl] at fin1
      simp only [A_, simprocAttr, ne_eq, (U_rec_Reader_Writes _).1, hg, take_set]
      exact fin1 _ G (.inr (.nilS (by omega) .nil))
    | cons w acc =>
      have hsl : slG 18 ((w :: acc).map wA) = .list .uniq 18 ((w :: acc).map wA) := by unfold slG; rw [if_neg (by simp)]
      have hal2 : (w :: acc).length ≤ 16 := by omega
      generalize hacc : w :: acc = l at *
      have h3' := h3 l
      unfold lstW at h3'
      simp only [A_, simprocAttr, ne_eq, (U_rec_Reader_Writes _).1, hlt, hsl]
      refine h3' _ _ _ (by omega) fun G => ?_
      cases hg : sgood [] l with
      | true =>
        rw [hg, if_pos rfl] at fin1
        simp only [A_, simprocAttr, ne_eq, (U_rec_Reader_Writes _).1, take_set]
        exact fin1 _ G (.inr (show WkL [.list .sh 18 _] _ from .same .nil))
      | false =>
        rw [hg, if_neg (by simp)] at fin1
        simp only [A_, simprocAttr, ne_eq, (U_rec_Reader_Writes _).1]
        refine h4 j q _ _ _ hj1 hq ?_
        rw [List.set_set]
        simp only [A_, simprocAttr, ne_eq, (U_rec_Reader_Writes _).1, take_set]
        exact fin1 _ G (.inr (show WkL [.list .sh 18 _] _ from .same .nil))

end Go.AM
namespace Go.AM
open Go
set_option maxRecDepth 20000
set_option linter.unusedSimpArgs false
set_option linter.unusedVariables false

def restLe (a b : Rd) : Prop := ∀ q, b = some q → ∃ p, a = some p ∧ q.length ≤ p.length
theorem restLe.refl (a : Rd) : restLe a a := fun q h => ⟨q, h, Nat.le_refl _⟩
theorem restLe.trans {a b c : Rd} (h : restLe a b) (h2 : restLe b c) : restLe a c := fun q hq => by
  obtain ⟨p, hp, hl⟩ := h2 q hq
  obtain ⟨p2, hp2, hl2⟩ := h p hp
  exact ⟨p2, hp2, by omega⟩
end Go.AM
namespace Go.AM
open Go
set_option maxRecDepth 20000
set_option linter.unusedSimpArgs false
set_option linter.unusedVariables false

/-! The document's reader: what it holds, where it is, whether it is spoilt. -/
end Go.AM
namespace Go.AM
open Go
set_option maxRecDepth 20000
set_option linter.unusedSimpArgs false
set_option linter.unusedVariables false

end Go.AM
/-! Records. -/
namespace Go.AM
open Go
set_option linter.unusedVariables false
set_option linter.unusedSimpArgs false

structure Rec where
  kind : Int
  id : Int
  snap : Stp
  stamp : Stp
  writes : List Wr
  yes : Bool
  parts : List Int
  deriving DecidableEq
def pI (n : Int) : AV := .s (.int .i64 n)
def lstN (l : List Int) : AV := .list .sh 1 (l.map pI)
def rcc (r : Rec) : List AV := [.s (.int .i64 r.kind), .s (.int .i64 r.id), .s (.int .i64 r.snap.t), u8 r.snap.n, .s (.int .i64 r.stamp.t), u8 r.stamp.n, .list .sh 18 (r.writes.map wA), .s (.bool r.yes), .list .sh 1 (r.parts.map pI)]
theorem stp_beq2 (a b : Stp) : (decide (a.t = b.t) && decide (a.n = b.n)) = decide (a = b) := by
  cases a; cases b; simp [Stp.mk.injEq, Bool.decide_and]
theorem ixl_pI {l : List Int} {i : Nat} (h : i < l.length) : indexAddrL (.sl 1) (.list .sh 1 (l.map pI)) (.s (.int .i64 (i : Int))) = some (.rop [.s (.int .i64 l[i])]) := ixl_map h (by omega)
/-- A record's numbers are numbers of the machine. -/
def zRec : Rec := ⟨0, 0, ⟨0, 0⟩, ⟨0, 0⟩, [], false, []⟩
def okR (r : Rec) : Prop := r.writes.length ≤ 9223372036854775807 ∧ r.parts.length ≤ 9223372036854775807
end Go.AM
namespace Go.AM
open Go
set_option maxRecDepth 20000
set_option linter.unusedSimpArgs false
set_option linter.unusedVariables false

def EqWS (C : CallW) (f : FuncId) : Prop := ∀ (a b : List Wr) S H (K : AV → St → Prop), a.length ≤ 9223372036854775807 → b.length ≤ 9223372036854775807 → K (.bool (decide (a = b))) ⟨S, H⟩ → C (.fn f) [lstW a, lstW b] ⟨S, H⟩ K
def EqIS (C : CallW) (f : FuncId) : Prop := ∀ (a b : List Int) S H (K : AV → St → Prop), a.length ≤ 9223372036854775807 → b.length ≤ 9223372036854775807 → K (.bool (decide (a = b))) ⟨S, H⟩ → C (.fn f) [lstN a, lstN b] ⟨S, H⟩ K
theorem Equal_Write_spec {C : CallW} (hC : LeC C C) (P : Program) : ∀ (a b : List Wr) S H (K : AV → St → Prop), a.length ≤ 9223372036854775807 → b.length ≤ 9223372036854775807 → K (.bool (decide (a = b))) ⟨S, H⟩ → runL C P C_slices_Equal_Write [lstW a, lstW b] ⟨S, H⟩ K := by
  intro a b S H K ha hb hK
  by_cases hl : a.length = b.length
  case neg =>
    have hl' : ¬ ((a.length : Int) = (b.length : Int)) := by omega
    rw [decide_eq_false (fun e => hl (by rw [e]))] at hK
    simp only [lstW, C_slices_Equal_Write, A_, simprocAttr, ne_eq, U_slices_Equal_Write.1, hl']
    exact hK
  have hl' := eq_true (show ((a.length : Int) = (b.length : Int)) by omega)
  simp only [lstW, C_slices_Equal_Write, A_, simprocAttr, ne_eq, U_slices_Equal_Write.1, hl']
  refine loop_rule hC (α := Nat) (fun i => a.length - i) (fun i => [.list .sh 18 (a.map wA), .list .sh 18 (b.map wA), .undef, .undef, .undef, .undef, .undef, .undef, .undef, .undef, .undef, .undef, .s (.int .i64 a.length), .s (.int .i64 i), .undef, .undef, .undef, .undef, .undef, .undef, .undef, .undef, .undef, .undef, .undef, .undef]) (fun _ => S) (fun _ => H) (fun i => i ≤ a.length ∧ decide (a = b) = decide (a.drop i = b.drop i)) 0 ⟨by simp, by simp⟩ rfl (by simp) rfl (fun a _ => by simp [AV.under, AV.under.go]) ?_
  rintro i ⟨hi, hinv⟩ ih
  by_cases h16 : i < a.length
  · have hlt : ((i : Int) < (a.length : Int)) := by omega
    have h16' : i < b.length := by omega
    have hw : IntKind.i64.wrap ((i : Int) + 1) = (i : Int) + 1 := wrap_i64 (by omega) (by omega)
    rw [List.drop_eq_getElem_cons h16, List.drop_eq_getElem_cons h16'] at hinv
    by_cases he : a[i] = b[i]
    · have he' := eq_true he
      rw [he] at hinv
      simp only [List.cons.injEq, true_and] at hinv
      simp only [A_, simprocAttr, ne_eq, U_slices_Equal_Write.1, hlt, h16, h16', he', hw]
      exact ih (i + 1) _ _ _ (by omega) ⟨by omega, hinv⟩ rfl (by simp) rfl
    · simp only [List.cons.injEq, he, false_and, decide_false] at hinv
      rw [hinv] at hK
      simp only [A_, simprocAttr, ne_eq, U_slices_Equal_Write.1, hlt, h16, h16', he]
      exact hK
  · have hlt : ¬ ((i : Int) < (a.length : Int)) := by omega
    rw [List.drop_of_length_le (by omega), List.drop_of_length_le (by omega), decide_eq_true rfl] at hinv
    rw [hinv] at hK
    simp only [A_, simprocAttr, ne_eq, U_slices_Equal_Write.1, hlt]
    exact hK
theorem Equal_int_spec {C : CallW} (hC : LeC C C) (P : Program) : ∀ (a b : List Int) S H (K : AV → St → Prop), a.length ≤ 9223372036854775807 → b.length ≤ 9223372036854775807 → K (.bool (decide (a = b))) ⟨S, H⟩ → runL C P C_slices_Equal_int [lstN a, lstN b] ⟨S, H⟩ K := by
  intro a b S H K ha hb hK
  by_cases hl : a.length = b.length
  case neg =>
    have hl' : ¬ ((a.length : Int) = (b.length : Int)) := by omega
    rw [decide_eq_false (fun e => hl (by rw [e]))] at hK
    simp only [lstN, C_slices_Equal_int, A_, simprocAttr, ne_eq, U_slices_Equal_int.1, hl']
    exact hK
  have hl' := eq_true (show ((a.length : Int) = (b.length : Int)) by omega)
  simp only [lstN, C_slices_Equal_int, A_, simprocAttr, ne_eq, U_slices_Equal_int.1, hl']
  refine loop_rule hC (α := Nat) (fun i => a.length - i) (fun i => [.list .sh 1 (a.map pI), .list .sh 1 (b.map pI), .undef, .undef, .undef, .undef, .undef, .undef, .undef, .undef, .undef, .undef, .s (.int .i64 a.length), .s (.int .i64 i), .undef, .undef, .undef, .undef, .undef, .undef, .undef, .undef, .undef, .undef, .undef, .undef]) (fun _ => S) (fun _ => H) (fun i => i ≤ a.length ∧ decide (a = b) = decide (a.drop i = b.drop i)) 0 ⟨by simp, by simp⟩ rfl (by simp) rfl (fun a _ => by simp [AV.under, AV.under.go]) ?_
  rintro i ⟨hi, hinv⟩ ih
  by_cases h16 : i < a.length
  · have hlt : ((i : Int) < (a.length : Int)) := by omega
    have h16' : i < b.length := by omega
    have hw : IntKind.i64.wrap ((i : Int) + 1) = (i : Int) + 1 := wrap_i64 (by omega) (by omega)
    have hx1 := ixl_pI h16
    have hx2 := ixl_pI h16'
    rw [List.drop_eq_getElem_cons h16, List.drop_eq_getElem_cons h16'] at hinv
    by_cases he : a[i] = b[i]
    · have he' := eq_true he
      rw [he] at hinv
      simp only [List.cons.injEq, true_and] at hinv
      simp only [A_, simprocAttr, ne_eq, U_slices_Equal_int.1, hlt, hx1, hx2, he', hw]
      exact ih (i + 1) _ _ _ (by omega) ⟨by omega, hinv⟩ rfl (by simp) rfl
    · simp only [List.cons.injEq, he, false_and, decide_false] at hinv
      rw [hinv] at hK
      simp only [A_, simprocAttr, ne_eq, U_slices_Equal_int.1, hlt, hx1, hx2, he]
      exact hK
  · have hlt : ¬ ((i : Int) < (a.length : Int)) := by omega
    rw [List.drop_of_length_le (by omega), List.drop_of_length_le (by omega), decide_eq_true rfl] at hinv
    rw [hinv] at hK
    simp only [A_, simprocAttr, ne_eq, U_slices_Equal_int.1, hlt]
    exact hK
def SameS (C : CallW) (f : FuncId) : Prop := ∀ (a b : Rec) S H (K : AV → St → Prop), okR a → okR b → K (.bool (decide (a = b))) ⟨S, H⟩ → C (.fn f) [.agg (rcc a), .agg (rcc b)] ⟨S, H⟩ K
set_option maxHeartbeats 8000000 in
theorem rec_Same_spec {C : CallW} (P : Program) {c : Nat → FuncId} (h0 : EqWS C (c 0)) (h1 : EqIS C (c 1)) : ∀ (a b : Rec) S H (K : AV → St → Prop), okR a → okR b → K (.bool (decide (a = b))) ⟨S, H⟩ → runL C P (C_rec_Same c) [.agg (rcc a), .agg (rcc b)] ⟨S, H⟩ K := by
  intro a b S H K ha hb hK
  by_cases e1 : a.kind = b.kind
  case neg =>
    rw [decide_eq_false (fun e => e1 (by rw [e]))] at hK
    simp only [C_rec_Same, A_, simprocAttr, ne_eq, (U_rec_Same _).1, rcc, e1]
    exact hK
  by_cases e2 : a.id = b.id
  case neg =>
    rw [decide_eq_false (fun e => e2 (by rw [e]))] at hK
    have e1 := eq_true e1
    simp only [C_rec_Same, A_, simprocAttr, ne_eq, (U_rec_Same _).1, rcc, e1, e2]
    exact hK
  by_cases e3 : a.snap = b.snap
  case neg =>
    rw [decide_eq_false (fun e => e3 (by rw [e]))] at hK
    have e1 := eq_true e1
    have e2 := eq_true e2
    simp only [C_rec_Same, A_, simprocAttr, ne_eq, (U_rec_Same _).1, rcc, e1, e2, stp_beq2, e3]
    exact hK
  by_cases e4 : a.stamp = b.stamp
  case neg =>
    rw [decide_eq_false (fun e => e4 (by rw [e]))] at hK
    have e1 := eq_true e1
    have e2 := eq_true e2
    have e3 := eq_true e3
    simp only [C_rec_Same, A_, simprocAttr, ne_eq, (U_rec_Same _).1, rcc, e1, e2, stp_beq2, e3, e4]
    exact hK
  by_cases e5 : a.yes = b.yes
  case neg =>
    rw [decide_eq_false (fun e => e5 (by rw [e]))] at hK
    have e1 := eq_true e1
    have e2 := eq_true e2
    have e3 := eq_true e3
    have e4 := eq_true e4
    simp only [C_rec_Same, A_, simprocAttr, ne_eq, (U_rec_Same _).1, rcc, e1, e2, stp_beq2, e3, e4, e5]
    exact hK
  have h0' := h0 a.writes b.writes
  have h1' := h1 a.parts b.parts
  unfold lstW at h0'
  unfold lstN at h1'
  have e1' := eq_true e1
  have e2' := eq_true e2
  have e3' := eq_true e3
  have e4' := eq_true e4
  have e5' := eq_true e5
  simp only [C_rec_Same, A_, simprocAttr, ne_eq, (U_rec_Same _).1, rcc, e1', e2', stp_beq2, e3', e4', e5']
  refine h0' _ _ _ ha.1 hb.1 ?_
  by_cases e6 : a.writes = b.writes
  case neg =>
    rw [decide_eq_false (fun e => e6 (by rw [e]))] at hK
    simp only [A_, simprocAttr, ne_eq, (U_rec_Same _).1, e6]
    exact hK
  have e6' := eq_true e6
  simp only [A_, simprocAttr, ne_eq, (U_rec_Same _).1, e6']
  refine h1' _ _ _ ha.2 hb.2 ?_
  have : decide (a.parts = b.parts) = decide (a = b) := by
    cases a; cases b
    simp only [Rec.mk.injEq] at *
    simp [e1, e2, e3, e4, e5, e6]
  rw [← this] at hK
  simp only [A_, simprocAttr, ne_eq, (U_rec_Same _).1]
  exact hK
end Go.AM
/-! hist: a transaction's last write of a key. -/
namespace Go.AM
open Go
set_option maxRecDepth 20000
set_option linter.unusedSimpArgs false
set_option linter.unusedVariables false

theorem wrap_pred {i : Nat} (h : i ≤ 9223372036854775807) : IntKind.i64.wrap ((i : Int) - 1) = (i : Int) - 1 := wrap_i64 (by omega) (by omega)
end Go.AM
namespace Go.AM
open Go
set_option maxRecDepth 20000
set_option linter.unusedSimpArgs false
set_option linter.unusedVariables false

end Go.AM
namespace Go.AM
open Go
set_option maxRecDepth 20000
set_option linter.unusedSimpArgs false
set_option linter.unusedVariables false

def CmpSS (C : CallW) (f : FuncId) : Prop := ∀ (a b : Stp), FnS C f [.agg (stc a), .agg (stc b)] (.i (cmpS a b))

end Go.AM
namespace Go.AM
open Go
set_option maxRecDepth 20000
set_option linter.unusedSimpArgs false
set_option linter.unusedVariables false

/-! parts -/
def gparts (prev : Int) : List Int → Bool
  | [] => true
  | x :: l => if x < 0 then false else if 8 ≤ x then false else if x ≤ prev then false else gparts x l
def goodParts (l : List Int) : Bool := gparts (-1) l && decide (0 < l.length)
def prevAt (l : List Int) (i : Nat) : Int := if 0 < i then l.getD (i - 1) 0 else -1
theorem gparts_step {l : List Int} {i : Nat} (h : i < l.length) : gparts (prevAt l i) (l.drop i) = if l[i] < 0 then false else if 8 ≤ l[i] then false else if l[i] ≤ prevAt l i then false else gparts (prevAt l (i + 1)) (l.drop (i + 1)) := by
  rw [List.drop_eq_getElem_cons h, gparts]
  have : prevAt l (i + 1) = l[i] := by
    unfold prevAt; rw [if_pos (by omega)]; simp [List.getD, h]
  rw [this]
def PartsS (C : CallW) (f : FuncId) : Prop := ∀ (l : List Int) S H (K : AV → St → Prop), l.length ≤ 9223372036854775807 → K (.bool (goodParts l)) ⟨S, H⟩ → C (.fn f) [lstN l] ⟨S, H⟩ K
set_option maxHeartbeats 16000000 in
theorem rec_GoodParts_spec {C : CallW} (hC : LeC C C) (P : Program) : ∀ (l : List Int) S H (K : AV → St → Prop), l.length ≤ 9223372036854775807 → K (.bool (goodParts l)) ⟨S, H⟩ → runL C P C_rec_GoodParts [lstN l] ⟨S, H⟩ K := by
  intro l S H K hl hK
  unfold goodParts at hK
  simp only [lstN, C_rec_GoodParts, A_, simprocAttr, ne_eq, U_rec_GoodParts.1]
  refine loop_rule hC (α := Nat) (fun a => l.length - a) (fun a => [.list .sh 1 (l.map pI), .undef, .undef, .undef, .undef, .list .sh 1 (l.map pI), .s (.int .i64 l.length), .s (.int .i64 a), .undef, .undef, .undef, .undef, .undef, .undef, .undef, .undef, .undef, .undef, .undef, .undef, .undef, .undef, .undef, .undef, .undef, .undef, .undef, .undef, .undef, .undef, .undef, .undef, .undef, .undef, .undef]) (fun _ => S) (fun a => H) (fun a => a ≤ l.length ∧ gparts (-1) l = gparts (prevAt l a) (l.drop a)) 0 ⟨by simp, rfl⟩ rfl (by simp) rfl (fun a _ => by simp [AV.under, AV.under.go]) ?_
  rintro i ⟨hi, hinv⟩ ih
  by_cases h16 : i < l.length
  case neg =>
    have hlt : ¬ ((i : Int) < (l.length : Int)) := by omega
    rw [hinv, List.drop_of_length_le (by omega), gparts, Bool.true_and] at hK
    by_cases h0 : 0 < l.length
    · have h0' : ((1 : Int) ≤ (l.length : Int)) := by omega
      rw [decide_eq_true h0] at hK
      simp only [A_, simprocAttr, ne_eq, U_rec_GoodParts.1, hlt, h0']
      exact hK
    · have h0' : ¬ ((1 : Int) ≤ (l.length : Int)) := by omega
      rw [decide_eq_false h0] at hK
      simp only [A_, simprocAttr, ne_eq, U_rec_GoodParts.1, hlt, h0']
      exact hK
  have hlt : ((i : Int) < (l.length : Int)) := by omega
  have hw : IntKind.i64.wrap ((i : Int) + 1) = (i : Int) + 1 := wrap_i64 (by omega) (by omega)
  have hx := ixl_pI h16
  rw [gparts_step h16] at hinv
  by_cases e1 : l[i] < 0
  · rw [if_pos e1] at hinv
    rw [hinv, Bool.false_and] at hK
    simp only [A_, simprocAttr, ne_eq, U_rec_GoodParts.1, hlt, hx, e1]
    exact hK
  by_cases e2 : 8 ≤ l[i]
  · rw [if_neg e1, if_pos e2] at hinv
    rw [hinv, Bool.false_and] at hK
    simp only [A_, simprocAttr, ne_eq, U_rec_GoodParts.1, hlt, hx, e1, e2]
    exact hK
  rw [if_neg e1, if_neg e2] at hinv
  by_cases h0 : 0 < i
  · have h0' : ((0 : Int) < (i : Int)) := by omega
    have hw2 : IntKind.i64.wrap ((i : Int) - 1) = ((i - 1 : Nat) : Int) := by rw [wrap_pred (by omega)]; omega
    have hx2 := ixl_pI (l := l) (i := i - 1) (by omega)
    have hp : prevAt l i = l[i - 1]'(by omega) := by unfold prevAt; rw [if_pos h0]; simp [List.getD, show i - 1 < l.length by omega]
    rw [hp] at hinv
    by_cases e3 : l[i] ≤ l[i - 1]'(by omega)
    · rw [if_pos e3] at hinv
      rw [hinv, Bool.false_and] at hK
      simp only [A_, simprocAttr, ne_eq, U_rec_GoodParts.1, hlt, hx, e1, e2, h0', hw2, hx2, e3]
      exact hK
    · rw [if_neg e3] at hinv
      simp only [A_, simprocAttr, ne_eq, U_rec_GoodParts.1, hlt, hx, e1, e2, h0', hw2, hx2, e3, hw]
      exact ih (i + 1) _ _ _ (by omega) ⟨by omega, hinv⟩ rfl (by simp) rfl
  · have h0' : ¬ ((0 : Int) < (i : Int)) := by omega
    have hp : prevAt l i = -1 := by unfold prevAt; rw [if_neg h0]
    rw [hp, if_neg (by omega)] at hinv
    simp only [A_, simprocAttr, ne_eq, U_rec_GoodParts.1, hlt, hx, e1, e2, h0', hw]
    exact ih (i + 1) _ _ _ (by omega) ⟨by omega, hinv⟩ rfl (by simp) rfl
/-! entries -/
structure Ent where
  id : Int
  snap : Stp
  stamp : Stp
  writes : List Wr
def enc (e : Ent) : List AV := [.s (.int .i64 e.id), .s (.int .i64 e.snap.t), u8 e.snap.n, .s (.int .i64 e.stamp.t), u8 e.stamp.n, .list .sh 18 (e.writes.map wA)]
def mayE (e : Ent) : Bool := decide (1 ≤ e.id) && goodS e.snap && decide (1 ≤ e.writes.length) && decide (e.writes.length ≤ 16) && sgood [] e.writes
def goodE (e : Ent) : Bool := mayE e && goodS e.stamp && decide (0 < cmpS e.stamp e.snap)
theorem store_Many_spec {C : CallW} (P : Program) : ∀ (l : List Wr) S H (K : AV → St → Prop), K (.bool (decide (1 ≤ l.length) && decide (l.length ≤ 16))) ⟨S, H⟩ → runL C P C_store_Many [lstW l] ⟨S, H⟩ K := by
  intro l S H K hK
  by_cases h1 : 1 ≤ l.length
  · have h1' : ((1 : Int) ≤ (l.length : Int)) := by omega
    by_cases h2 : l.length ≤ 16
    · have h2' : ((l.length : Int) ≤ 16) := by omega
      rw [decide_eq_true h1, decide_eq_true h2] at hK
      simp only [lstW, C_store_Many, A_, simprocAttr, ne_eq, U_store_Many.1, h1', h2']
      exact hK
    · have h2' : ¬ ((l.length : Int) ≤ 16) := by omega
      rw [decide_eq_true h1, decide_eq_false h2] at hK
      simp only [lstW, C_store_Many, A_, simprocAttr, ne_eq, U_store_Many.1, h1', h2']
      exact hK
  · have h1' : ¬ ((1 : Int) ≤ (l.length : Int)) := by omega
    rw [decide_eq_false h1, Bool.false_and] at hK
    simp only [lstW, C_store_Many, A_, simprocAttr, ne_eq, U_store_Many.1, h1']
    exact hK
def EntS (g : Ent → Bool) (C : CallW) (f : FuncId) : Prop := ∀ (e : Ent) S H (K : AV → St → Prop), e.writes.length ≤ 9223372036854775807 → (∀ G, K (.bool (g e)) ⟨S, H ++ G⟩) → C (.fn f) [.agg (enc e)] ⟨S, H⟩ K
set_option maxHeartbeats 8000000 in
theorem prep_May_spec {C : CallW} (P : Program) {c : Nat → FuncId} (h0 : ∀ s : Stp, FnS C (c 0) [.agg (stc s)] (.bool (goodS s))) (h1 : ∀ l : List Wr, FnS C (c 1) [lstW l] (.bool (decide (1 ≤ l.length) && decide (l.length ≤ 16)))) (h2 : GoodWS C (c 2)) : ∀ (e : Ent) S H (K : AV → St → Prop), e.writes.length ≤ 9223372036854775807 → (∀ G, K (.bool (mayE e)) ⟨S, H ++ G⟩) → runL C P (C_prep_May c) [.agg (enc e)] ⟨S, H⟩ K := by
  intro e S H K hl hK
  have hK0 := hK []
  rw [List.append_nil] at hK0
  unfold mayE at hK hK0
  have h0' := h0 e.snap
  unfold stc at h0'
  have h1' := h1 e.writes
  have h2' := h2 e.writes
  unfold lstW at h1' h2'
  by_cases e1 : 1 ≤ e.id
  case neg =>
    simp only [e1, decide_false, Bool.false_and] at hK0
    simp only [C_prep_May, A_, simprocAttr, ne_eq, (U_prep_May _).1, enc, e1]
    exact hK0
  simp only [C_prep_May, A_, simprocAttr, ne_eq, (U_prep_May _).1, enc, e1]
  refine h0' _ _ _ ?_
  cases e2 : goodS e.snap with
  | false =>
    simp only [e1, e2, decide_true, Bool.true_and, Bool.false_and] at hK0
    simp only [A_, simprocAttr, ne_eq, (U_prep_May _).1]
    exact hK0
  | true =>
  simp only [A_, simprocAttr, ne_eq, (U_prep_May _).1]
  refine h1' _ _ _ ?_
  cases e3 : (decide (1 ≤ e.writes.length) && decide (e.writes.length ≤ 16)) with
  | false =>
    simp only [e1, e2, decide_true, Bool.true_and, e3, Bool.false_and] at hK0
    simp only [A_, simprocAttr, ne_eq, (U_prep_May _).1]
    exact hK0
  | true =>
  simp only [A_, simprocAttr, ne_eq, (U_prep_May _).1]
  refine h2' _ _ _ hl fun G => ?_
  have := hK G
  simp only [e1, e2, decide_true, Bool.true_and, e3] at this
  simp only [A_, simprocAttr, ne_eq, (U_prep_May _).1]
  exact this
set_option maxHeartbeats 8000000 in
theorem prep_Good_spec {C : CallW} (P : Program) {c : Nat → FuncId} (h0 : EntS mayE C (c 0)) (h1 : ∀ s : Stp, FnS C (c 1) [.agg (stc s)] (.bool (goodS s))) (h2 : CmpSS C (c 2)) : ∀ (e : Ent) S H (K : AV → St → Prop), e.writes.length ≤ 9223372036854775807 → (∀ G, K (.bool (goodE e)) ⟨S, H ++ G⟩) → runL C P (C_prep_Good c) [.agg (enc e)] ⟨S, H⟩ K := by
  intro e S H K hl hK
  have h0' := h0 e
  unfold enc at h0'
  have h1' := h1 e.stamp
  unfold stc at h1'
  have h2' := h2 e.stamp e.snap
  unfold stc at h2'
  unfold goodE at hK
  simp only [C_prep_Good, A_, simprocAttr, ne_eq, (U_prep_Good _).1, enc]
  refine h0' _ _ _ hl fun G => ?_
  have hKG := hK G
  cases e1 : mayE e with
  | false =>
    simp only [e1, Bool.false_and] at hKG
    simp only [A_, simprocAttr, ne_eq, (U_prep_Good _).1]
    exact hKG
  | true =>
  simp only [A_, simprocAttr, ne_eq, (U_prep_Good _).1]
  refine h1' _ _ _ ?_
  cases e2 : goodS e.stamp with
  | false =>
    simp only [e1, e2, Bool.and_false, Bool.false_and] at hKG
    simp only [A_, simprocAttr, ne_eq, (U_prep_Good _).1]
    exact hKG
  | true =>
  simp only [A_, simprocAttr, ne_eq, (U_prep_Good _).1]
  refine h2' _ _ _ ?_
  simp only [e1, e2, Bool.and_true, Bool.true_and] at hKG
  by_cases e3 : 0 < cmpS e.stamp e.snap
  · simp only [e3, decide_true] at hKG
    simp only [A_, simprocAttr, ne_eq, (U_prep_Good _).1, e3]
    exact hKG
  · simp only [e3, decide_false] at hKG
    simp only [A_, simprocAttr, ne_eq, (U_prep_Good _).1, e3]
    exact hKG
end Go.AM
namespace Go.AM
open Go
set_option maxRecDepth 20000
set_option linter.unusedSimpArgs false
set_option linter.unusedVariables false

def onlyR (r : Rec) : Rec :=
  if r.kind = 1 then ⟨r.kind, r.id, r.snap, r.stamp, r.writes, false, []⟩
  else if r.kind = 2 ∨ r.kind = 5 then ⟨r.kind, r.id, ⟨0, 0⟩, r.stamp, [], false, []⟩
  else if r.kind = 4 then ⟨r.kind, r.id, ⟨0, 0⟩, if r.yes = true then r.stamp else ⟨0, 0⟩, [], r.yes, r.parts⟩
  else ⟨r.kind, r.id, ⟨0, 0⟩, ⟨0, 0⟩, [], false, []⟩
theorem storeP_stk {S : List (List AV)} {l : List (List AV)} {H : List HObj} {j n off : Nat} {vs : List AV} (hj : j < l.length) (h : off + n ≤ (l.getD j []).length) (hv : vs.length = n) (hn : 2 ≤ n) (hu : AV.under.go (S.length + j) vs = true) : storeL n (.ptr (.stk (S.length + j)) off) (.agg vs) ⟨S ++ l, H⟩ = some ⟨S ++ l.set j ((l.getD j []).take off ++ vs ++ (l.getD j []).drop (off + n)), H⟩ := by
  have e : l[j]? = some (l.getD j []) := by simp [List.getD, hj]
  have hs : splice (l.getD j []) off vs = (l.getD j []).take off ++ vs ++ (l.getD j []).drop (off + n) := by
    unfold splice
    split
    · simp at hv; omega
    · rw [hv]
  simp only [storeL, AV.cells, AV.fit, hv, writeCells, boxOf_stk, app_get, e, Option.bind_some, hs, setBox_stk, app_set, mayHold, hu, h, decide_true, Bool.and_self, if_true, true_and]
  rw [if_pos (by simp; omega)]
theorem storeP_stk0 {S : List (List AV)} {l : List (List AV)} {H : List HObj} {n off : Nat} {vs : List AV} (hj : 0 < l.length) (h : off + n ≤ (l.getD 0 []).length) (hv : vs.length = n) (hn : 2 ≤ n) (hu : AV.under.go S.length vs = true) : storeL n (.ptr (.stk S.length) off) (.agg vs) ⟨S ++ l, H⟩ = some ⟨S ++ l.set 0 ((l.getD 0 []).take off ++ vs ++ (l.getD 0 []).drop (off + n)), H⟩ := storeP_stk (j := 0) hj h hv hn hu
def WkK (K : AV → St → Prop) : AV → St → Prop := fun v s => ∃ b, (b = v ∨ WkL [v.sh] [b]) ∧ K b s
theorem rcc_cell {r : Rec} : ∀ c ∈ rcc r, c.isCell = true := by
  intro c hc
  simp only [rcc, List.mem_cons, List.not_mem_nil, or_false] at hc
  rcases hc with rfl | rfl | rfl | rfl | rfl | rfl | rfl | rfl | rfl <;> rfl
theorem rcc_wk (r : Rec) (x z : AV) (hx : x = .list .sh 18 (r.writes.map wA) ∨ x = .s .nilS ∧ r.writes = []) (hz : z = .list .sh 1 (r.parts.map pI) ∨ z = .s .nilS ∧ r.parts = []) : WkL [(AV.agg [.s (.int .i64 r.kind), .s (.int .i64 r.id), .s (.int .i64 r.snap.t), u8 r.snap.n, .s (.int .i64 r.stamp.t), u8 r.stamp.n, x, .s (.bool r.yes), z]).sh] [.agg (rcc r)] := by
  have hsh : ∀ l, (AV.agg l).sh = .agg l := fun _ => rfl
  rw [hsh]
  refine .agg (.same (.same (.same (.same (.same (.same ?_)))))) rcc_cell .nil
  rcases hx with rfl | ⟨rfl, h1⟩ <;> rcases hz with rfl | ⟨rfl, h2⟩
  · exact .same (.same (.same .nil))
  · rw [h2]; exact .same (.same (.nilS (by omega) .nil))
  · rw [h1]; exact .nilS (by omega) (.same (.same .nil))
  · rw [h1, h2]; exact .nilS (by omega) (.same (.nilS (by omega) .nil))
set_option maxHeartbeats 16000000 in
theorem rec_only_spec {C : CallW} (P : Program) : ∀ (r : Rec) S H (K : AV → St → Prop), K (.agg (rcc (onlyR r))) ⟨S, H⟩ → runL C P C_rec_only [.agg (rcc r)] ⟨S, H⟩ (WkK K) := by
  intro r S H K hK
  unfold onlyR at hK
  by_cases k1 : r.kind = 1
  · rw [if_pos k1] at hK
    have k1' := eq_true k1
    simp only [C_rec_only, A_, simprocAttr, ne_eq, U_rec_only.1, fillL, storeP_stk, storeP_stk0, rcc, k1']
    refine ⟨_, ?_, hK⟩
    exact .inr (rcc_wk ⟨r.kind, r.id, r.snap, r.stamp, r.writes, false, []⟩ _ _ (.inl rfl) (.inr ⟨rfl, rfl⟩))
  rw [if_neg k1] at hK
  by_cases k2 : r.kind = 2
  · rw [if_pos (.inl k2)] at hK
    have k2' := eq_true k2
    simp only [C_rec_only, A_, simprocAttr, ne_eq, U_rec_only.1, fillL, storeP_stk, storeP_stk0, rcc, k1, k2']
    refine ⟨_, ?_, hK⟩
    exact .inr (rcc_wk ⟨r.kind, r.id, ⟨0, 0⟩, r.stamp, [], false, []⟩ _ _ (.inr ⟨rfl, rfl⟩) (.inr ⟨rfl, rfl⟩))
  by_cases k5 : r.kind = 5
  · rw [if_pos (.inr k5)] at hK
    have k5' := eq_true k5
    simp only [C_rec_only, A_, simprocAttr, ne_eq, U_rec_only.1, fillL, storeP_stk, storeP_stk0, rcc, k1, k2, k5']
    refine ⟨_, ?_, hK⟩
    exact .inr (rcc_wk ⟨r.kind, r.id, ⟨0, 0⟩, r.stamp, [], false, []⟩ _ _ (.inr ⟨rfl, rfl⟩) (.inr ⟨rfl, rfl⟩))
  rw [if_neg (by rintro (h | h); exact k2 h; exact k5 h)] at hK
  by_cases k4 : r.kind = 4
  · rw [if_pos k4] at hK
    have k4' := eq_true k4
    cases hy : r.yes with
    | true =>
      rw [hy, if_pos rfl] at hK
      simp only [C_rec_only, A_, simprocAttr, ne_eq, U_rec_only.1, fillL, storeP_stk, storeP_stk0, rcc, k1, k2, k5, k4', hy]
      refine ⟨_, ?_, hK⟩
      exact .inr (rcc_wk ⟨r.kind, r.id, ⟨0, 0⟩, r.stamp, [], true, r.parts⟩ _ _ (.inr ⟨rfl, rfl⟩) (.inl rfl))
    | false =>
      rw [hy, if_neg (by simp)] at hK
      simp only [C_rec_only, A_, simprocAttr, ne_eq, U_rec_only.1, fillL, storeP_stk, storeP_stk0, rcc, k1, k2, k5, k4', hy]
      refine ⟨_, ?_, hK⟩
      exact .inr (rcc_wk ⟨r.kind, r.id, ⟨0, 0⟩, ⟨0, 0⟩, [], false, r.parts⟩ _ _ (.inr ⟨rfl, rfl⟩) (.inl rfl))
  · rw [if_neg k4] at hK
    simp only [C_rec_only, A_, simprocAttr, ne_eq, U_rec_only.1, fillL, storeP_stk, storeP_stk0, rcc, k1, k2, k5, k4]
    refine ⟨_, ?_, hK⟩
    exact .inr (rcc_wk ⟨r.kind, r.id, ⟨0, 0⟩, ⟨0, 0⟩, [], false, []⟩ _ _ (.inr ⟨rfl, rfl⟩) (.inr ⟨rfl, rfl⟩))

def goodRec (r : Rec) : Bool :=
  if r ≠ onlyR r then false
  else if r.kind = 1 then goodE ⟨r.id, r.snap, r.stamp, r.writes⟩
  else if r.kind = 2 then decide (1 ≤ r.id) && goodS r.stamp
  else if r.kind = 3 then decide (1 ≤ r.id)
  else if r.kind = 4 then decide (1 ≤ r.id) && goodS r.stamp && goodParts r.parts
  else if r.kind = 5 then decide (r.id = 0) && goodS r.stamp && decide (r.stamp.n = 0)
  else false
theorem onlyR_ok {r : Rec} (h : okR r) : okR (onlyR r) := by
  unfold onlyR okR at *
  split
  · exact ⟨h.1, by simp⟩
  · split
    · simp
    · split
      · exact ⟨by simp, h.2⟩
      · simp
def OnlyS (C : CallW) (f : FuncId) : Prop := ∀ (r : Rec), FnS C f [.agg (rcc r)] (.agg (rcc (onlyR r)))
def GoodRS (C : CallW) (f : FuncId) : Prop := ∀ (r : Rec) S H (K : AV → St → Prop), okR r → (∀ G, K (.bool (goodRec r)) ⟨S, H ++ G⟩) → C (.fn f) [.agg (rcc r)] ⟨S, H⟩ K
set_option maxHeartbeats 16000000 in
theorem rec_Good_spec {C : CallW} (P : Program) {c : Nat → FuncId} (h0 : OnlyS C (c 0)) (h1 : SameS C (c 1)) (h2 : EntS goodE C (c 2)) (h3 : ∀ s : Stp, FnS C (c 3) [.agg (stc s)] (.bool (goodS s))) (h4 : PartsS C (c 4)) : ∀ (r : Rec) S H (K : AV → St → Prop), okR r → (∀ G, K (.bool (goodRec r)) ⟨S, H ++ G⟩) → runL C P (C_rec_Good c) [.agg (rcc r)] ⟨S, H⟩ K := by
  intro r S H K hr hK
  have hK0 := hK []
  rw [List.append_nil] at hK0
  have h0' := h0 r
  have h1' := h1 r (onlyR r)
  have h2' := h2 ⟨r.id, r.snap, r.stamp, r.writes⟩
  have h3' := h3 r.stamp
  have h4' := h4 r.parts
  have ecut : ∀ q, rcc r = q → q = rcc r := fun _ h => h.symm
  unfold stc at h3'
  unfold lstN at h4'
  unfold enc at h2'
  unfold goodRec at hK hK0
  have hrc : rcc r = [.s (.int .i64 r.kind), .s (.int .i64 r.id), .s (.int .i64 r.snap.t), u8 r.snap.n, .s (.int .i64 r.stamp.t), u8 r.stamp.n, .list .sh 18 (r.writes.map wA), .s (.bool r.yes), .list .sh 1 (r.parts.map pI)] := rfl
  rw [hrc] at h0' h1'
  simp only [C_rec_Good, A_, simprocAttr, ne_eq, (U_rec_Good _).1, rcc]
  refine h0' _ _ _ ?_
  generalize ho : onlyR r = o at *
  have hoc : rcc o = [.s (.int .i64 o.kind), .s (.int .i64 o.id), .s (.int .i64 o.snap.t), u8 o.snap.n, .s (.int .i64 o.stamp.t), u8 o.stamp.n, .list .sh 18 (o.writes.map wA), .s (.bool o.yes), .list .sh 1 (o.parts.map pI)] := rfl
  rw [hoc] at h1'
  simp only [A_, simprocAttr, ne_eq, (U_rec_Good _).1, rcc]
  refine h1' _ _ _ hr (ho ▸ onlyR_ok hr) ?_
  by_cases heq : r = o
  case neg =>
    rw [if_pos heq] at hK0
    simp only [A_, simprocAttr, ne_eq, (U_rec_Good _).1, heq]
    exact hK0
  have heq' := eq_true heq
  rw [if_neg (by simpa using heq)] at hK hK0
  simp only [A_, simprocAttr, ne_eq, (U_rec_Good _).1, heq']
  by_cases k1 : r.kind = 1
  · rw [if_pos k1] at hK
    have k1' := eq_true k1
    simp only [A_, simprocAttr, ne_eq, (U_rec_Good _).1, fillL, k1']
    refine h2' _ _ _ hr.1 fun G => ?_
    simp only [A_, simprocAttr, ne_eq, (U_rec_Good _).1]
    exact hK G
  rw [if_neg k1] at hK hK0
  by_cases k2 : r.kind = 2
  · rw [if_pos k2] at hK0
    have k2' := eq_true k2
    by_cases e1 : 1 ≤ r.id
    · simp only [A_, simprocAttr, ne_eq, (U_rec_Good _).1, k1, k2', e1]
      refine h3' _ _ _ ?_
      simp only [e1, decide_true, Bool.true_and] at hK0
      simp only [A_, simprocAttr, ne_eq, (U_rec_Good _).1]
      exact hK0
    · simp only [e1, decide_false, Bool.false_and] at hK0
      simp only [A_, simprocAttr, ne_eq, (U_rec_Good _).1, k1, k2', e1]
      exact hK0
  rw [if_neg k2] at hK0
  by_cases k3 : r.kind = 3
  · rw [if_pos k3] at hK0
    have k3' := eq_true k3
    by_cases e1 : 1 ≤ r.id
    · simp only [e1, decide_true] at hK0
      simp only [A_, simprocAttr, ne_eq, (U_rec_Good _).1, k1, k2, k3', e1]
      exact hK0
    · simp only [e1, decide_false] at hK0
      simp only [A_, simprocAttr, ne_eq, (U_rec_Good _).1, k1, k2, k3', e1]
      exact hK0
  rw [if_neg k3] at hK0
  by_cases k4 : r.kind = 4
  · rw [if_pos k4] at hK0
    have k4' := eq_true k4
    by_cases e1 : 1 ≤ r.id
    · simp only [A_, simprocAttr, ne_eq, (U_rec_Good _).1, k1, k2, k3, k4', e1]
      refine h3' _ _ _ ?_
      cases e2 : goodS r.stamp with
      | false =>
        simp only [e1, e2, decide_true, Bool.true_and, Bool.false_and] at hK0
        simp only [A_, simprocAttr, ne_eq, (U_rec_Good _).1]
        exact hK0
      | true =>
        simp only [e1, e2, decide_true, Bool.true_and] at hK0
        simp only [A_, simprocAttr, ne_eq, (U_rec_Good _).1]
        refine h4' _ _ _ hr.2 ?_
        simp only [A_, simprocAttr, ne_eq, (U_rec_Good _).1]
        exact hK0
    · simp only [e1, decide_false, Bool.false_and] at hK0
      simp only [A_, simprocAttr, ne_eq, (U_rec_Good _).1, k1, k2, k3, k4', e1]
      exact hK0
  rw [if_neg k4] at hK0
  by_cases k5 : r.kind = 5
  · rw [if_pos k5] at hK0
    have k5' := eq_true k5
    by_cases e1 : r.id = 0
    · have e1' := eq_true e1
      simp only [A_, simprocAttr, ne_eq, (U_rec_Good _).1, k1, k2, k3, k4, k5', e1']
      refine h3' _ _ _ ?_
      cases e2 : goodS r.stamp with
      | false =>
        simp only [e1, e2, decide_true, Bool.true_and, Bool.false_and] at hK0
        simp only [A_, simprocAttr, ne_eq, (U_rec_Good _).1]
        exact hK0
      | true =>
        simp only [e1, e2, decide_true, Bool.true_and] at hK0
        have ez : decide ((r.stamp.n.toNat : Int) = 0) = decide (r.stamp.n = 0) := by simp only [u8_zero]
        simp only [A_, simprocAttr, ne_eq, (U_rec_Good _).1, u8, ez]
        exact hK0
    · simp only [e1, decide_false, Bool.false_and] at hK0
      simp only [A_, simprocAttr, ne_eq, (U_rec_Good _).1, k1, k2, k3, k4, k5', e1]
      exact hK0
  · rw [if_neg k5] at hK0
    simp only [A_, simprocAttr, ne_eq, (U_rec_Good _).1, k1, k2, k3, k4, k5]
    exact hK0
end Go.AM
namespace Go.AM
open Go
set_option maxRecDepth 20000
set_option linter.unusedSimpArgs false
set_option linter.unusedVariables false

def long14 (l : List Wr) : Bool := decide (20 < l.length) || l.any fun w => decide (250 < w.val.length)
theorem law14_long_spec {C : CallW} (hC : LeC C C) (P : Program) : ∀ (l : List Wr) S H (K : AV → St → Prop), l.length ≤ 9223372036854775807 → K (.bool (long14 l)) ⟨S, H⟩ → runL C P C_hourglasslaw14_long [lstW l] ⟨S, H⟩ K := by
  intro l S H K hl hK
  unfold long14 at hK
  by_cases h20 : 20 < l.length
  · have h20' : ((20 : Int) < (l.length : Int)) := by omega
    rw [decide_eq_true h20, Bool.true_or] at hK
    simp only [lstW, C_hourglasslaw14_long, A_, simprocAttr, ne_eq, U_hourglasslaw14_long.1, h20']
    exact hK
  have h20' : ¬ ((20 : Int) < (l.length : Int)) := by omega
  rw [decide_eq_false h20, Bool.false_or] at hK
  simp only [lstW, C_hourglasslaw14_long, A_, simprocAttr, ne_eq, U_hourglasslaw14_long.1, h20']
  refine loop_rule hC (α := Nat) (fun a => l.length - a) (fun a => [.list .sh 18 (l.map wA), .undef, .undef, .s (.int .i64 a), .undef, .undef, .undef, .undef, .undef, .undef, .undef, .undef, .undef, .undef, .undef, .undef, .undef, .undef, .undef, .undef]) (fun _ => S) (fun _ => H) (fun i => i ≤ l.length ∧ (l.any fun w => decide (250 < w.val.length)) = ((l.drop i).any fun w => decide (250 < w.val.length))) 0 ⟨by simp, rfl⟩ rfl (by simp) rfl (fun a _ => by simp [AV.under, AV.under.go]) ?_
  rintro i ⟨hi, hinv⟩ ih
  by_cases h16 : i < l.length
  · have hlt : ((i : Int) < (l.length : Int)) := by omega
    have hw : IntKind.i64.wrap ((i : Int) + 1) = (i : Int) + 1 := wrap_i64 (by omega) (by omega)
    rw [List.drop_eq_getElem_cons h16, List.any_cons] at hinv
    by_cases e : 250 < (l[i]).val.length
    · have e' : ((250 : Int) < ((l[i]).val.length : Int)) := by omega
      rw [decide_eq_true e, Bool.true_or] at hinv
      rw [hinv] at hK
      simp only [A_, simprocAttr, ne_eq, U_hourglasslaw14_long.1, hlt, h16, e']
      exact hK
    · have e' : ¬ ((250 : Int) < ((l[i]).val.length : Int)) := by omega
      rw [decide_eq_false e, Bool.false_or] at hinv
      simp only [A_, simprocAttr, ne_eq, U_hourglasslaw14_long.1, hlt, h16, e', hw]
      exact ih (i + 1) _ _ _ (by omega) ⟨by omega, hinv⟩ rfl (by simp) rfl
  · have hlt : ¬ ((i : Int) < (l.length : Int)) := by omega
    rw [List.drop_of_length_le (by omega), List.any_nil] at hinv
    rw [hinv] at hK
    simp only [A_, simprocAttr, ne_eq, U_hourglasslaw14_long.1, hlt]
    exact hK
def great14 (r : Rec) : Bool := long14 r.writes || decide (12 < r.parts.length)
def Long14S (C : CallW) (f : FuncId) : Prop := ∀ (l : List Wr) S H (K : AV → St → Prop), l.length ≤ 9223372036854775807 → K (.bool (long14 l)) ⟨S, H⟩ → C (.fn f) [lstW l] ⟨S, H⟩ K
theorem law14_great_spec {C : CallW} (P : Program) {c : Nat → FuncId} (h0 : Long14S C (c 0)) : ∀ (r : Rec) S H (K : AV → St → Prop), okR r → K (.bool (great14 r)) ⟨S, H⟩ → runL C P (C_hourglasslaw14_great c) [.agg (rcc r)] ⟨S, H⟩ K := by
  intro r S H K hr hK
  unfold great14 at hK
  have h0' := h0 r.writes
  unfold lstW at h0'
  have hlp : (r.parts.map pI).length = r.parts.length := List.length_map _
  simp only [C_hourglasslaw14_great, A_, simprocAttr, ne_eq, (U_hourglasslaw14_great _).1, rcc]
  refine h0' _ _ _ hr.1 ?_
  cases e : long14 r.writes with
  | true =>
    rw [e, Bool.true_or] at hK
    simp only [A_, simprocAttr, ne_eq, (U_hourglasslaw14_great _).1]
    exact hK
  | false =>
    rw [e, Bool.false_or] at hK
    have : (12 < r.parts.length) = ((12 : Int) < (r.parts.length : Int)) := propext (by omega)
    simp only [this] at hK
    simp only [A_, simprocAttr, ne_eq, (U_hourglasslaw14_great _).1, hlp]
    exact hK
end Go.AM
namespace Go.AM
open Go
set_option maxRecDepth 20000
set_option linter.unusedSimpArgs false
set_option linter.unusedVariables false

/-- What is asked of here. -/
structure okB (r : Rec) : Prop where
  ws : r.writes.length ≤ 20
  vs : ∀ w ∈ r.writes, w.val.length ≤ 250
  ps : r.parts.length ≤ 12
  lo : -9223372036854775808 ≤ r.id
  hi : r.id ≤ 9223372036854775807
theorem okB.ok {r : Rec} (h : okB r) : okR r := ⟨by have := h.ws; omega, by have := h.ps; omega⟩
theorem gparts_mem : ∀ (l : List Int) (p : Int), gparts p l = true → ∀ x ∈ l, 0 ≤ x ∧ x < 8
  | [], _, _ => fun x hx => by simp at hx
  | y :: l, p, h => by
    intro x hx
    rw [gparts] at h
    split at h
    · cases h
    split at h
    · cases h
    split at h
    · cases h
    rcases List.mem_cons.1 hx with rfl | hx
    · omega
    · exact gparts_mem l y h x hx
theorem goodRec_kind {r : Rec} (h : goodRec r = true) : r.kind = 1 ∨ r.kind = 2 ∨ r.kind = 3 ∨ r.kind = 4 ∨ r.kind = 5 := by
  unfold goodRec at h
  split at h; · cases h
  split at h; · exact .inl ‹_›
  split at h; · exact .inr (.inl ‹_›)
  split at h; · exact .inr (.inr (.inl ‹_›))
  split at h; · exact .inr (.inr (.inr (.inl ‹_›)))
  split at h; · exact .inr (.inr (.inr (.inr ‹_›)))
  cases h
theorem goodRec_parts {r : Rec} (h : goodRec r = true) (h4 : r.kind = 4) : ∀ x ∈ r.parts, 0 ≤ x ∧ x < 8 := by
  unfold goodRec at h
  by_cases ho : r ≠ onlyR r
  · rw [if_pos ho] at h; cases h
  rw [if_neg ho] at h
  simp [h4] at h
  have := h.2
  unfold goodParts at this
  rw [Bool.and_eq_true] at this
  exact gparts_mem _ _ this.1
def putP (l : List Int) : List UInt8 := l.flatMap fun n => putN n.toNat
def putB (r : Rec) : List UInt8 := putN r.kind.toNat ++ putN (zig r.id)
def putRec (r : Rec) : List UInt8 :=
  if goodRec r = false then []
  else if r.kind = 1 then putB r ++ putN (packN r.snap) ++ putN (packN r.stamp) ++ putWs r.writes
  else if r.kind = 2 ∨ r.kind = 5 then putB r ++ putN (packN r.stamp)
  else if r.kind = 4 then putB r ++ putN (if r.yes = true then 1 else 0) ++ putN (packN r.stamp) ++ putN r.parts.length ++ putP r.parts
  else putB r
theorem pack_len (s : Stp) : (putN (packN s)).length ≤ 10 := putN_len10 (by have := packN_lt s; omega)
theorem putB_len {r : Rec} (h : okB r) (hk : r.kind.toNat < 100) : (putB r).length ≤ 20 := by
  have h1 := putN_len10 (v := r.kind.toNat) (by omega)
  have h2 := putN_len10 (v := zig r.id) (zig_lt h.lo h.hi)
  unfold putB; simp; omega
def RecPutS (C : CallW) (f : FuncId) : Prop := ∀ (r : Rec) S H (K : AV → St → Prop), okB r → (∀ G, K (.list .sh 1 (bs (putRec r))) ⟨S, H ++ G⟩) → C (.fn f) [.agg (rcc r)] ⟨S, H⟩ K
theorem wk_uniq {K : AV → St → Prop} {b : List UInt8} {s : St} {fl : Fl} (h : K (.list .sh 1 (bs b)) s) : WkK K (.list fl 1 (bs b)) s := by
  cases fl
  · exact ⟨_, .inl rfl, h⟩
  · exact ⟨_, .inr (show WkL [.list .sh 1 _] _ from .same .nil), h⟩
  · exact ⟨_, .inr (show WkL [.list .sh 1 _] _ from .same .nil), h⟩
  · exact ⟨_, .inr (show WkL [.list .full 1 _] _ from .full .nil), h⟩
set_option maxHeartbeats 16000000 in
theorem rec_Put_spec {C : CallW} (hC : LeC C C) (P : Program) {c : Nat → FuncId} (h0 : GoodRS C (c 0)) (h1 : NumS C (c 1)) (h2 : ∀ v : Int, -9223372036854775808 ≤ v → v ≤ 9223372036854775807 → FnS C (c 2) [.s (.int .i64 v)] (.s (.int .u64 (zig v : Nat)))) (h3 : PutS C (c 3)) (h4 : PutStampS C (c 4)) (h5 : PutWS C (c 5)) : ∀ (r : Rec) S H (K : AV → St → Prop), okB r → (∀ G, K (.list .sh 1 (bs (putRec r))) ⟨S, H ++ G⟩) → runL C P (C_rec_Put c) [.agg (rcc r)] ⟨S, H⟩ (WkK K) := by
  intro r S H K hr hK
  have h0' := h0 r
  have hrc : rcc r = [.s (.int .i64 r.kind), .s (.int .i64 r.id), .s (.int .i64 r.snap.t), u8 r.snap.n, .s (.int .i64 r.stamp.t), u8 r.stamp.n, .list .sh 18 (r.writes.map wA), .s (.bool r.yes), .list .sh 1 (r.parts.map pI)] := rfl
  rw [hrc] at h0'
  have h2' := h2 r.id hr.lo hr.hi
  simp only [C_rec_Put, A_, simprocAttr, ne_eq, (U_rec_Put _).1, rcc]
  refine h0' _ _ _ hr.ok fun G => ?_
  unfold putRec at hK
  cases hg : goodRec r with
  | false =>
    have := hK G
    rw [if_pos hg] at this
    simp only [A_, simprocAttr, ne_eq, (U_rec_Put _).1]
    exact ⟨_, .inr (.nilS (by omega) .nil), this⟩
  | true =>
  rw [if_neg (by rw [hg]; simp)] at hK
  have hk := goodRec_kind hg
  have hkn : r.kind = ((r.kind.toNat : Nat) : Int) := by omega
  have hkl : r.kind.toNat < 100 := by omega
  have hbl := putB_len hr hkl
  have h1k : ∀ S H (K : AV → St → Prop), K (.list .uniq 1 (bs ([] ++ putN r.kind.toNat))) ⟨S, H⟩ → C (.fn (c 1)) [.s .nilS, .s (.int .i64 r.kind)] ⟨S, H⟩ K := by
    intro S H K hK
    have := h1 (.s .nilS) [] r.kind.toNat S H K .n (by simp) (by omega) hK
    rwa [← hkn] at this
  simp only [A_, simprocAttr, ne_eq, (U_rec_Put _).1]
  refine h1k _ _ _ ?_
  simp only [A_, simprocAttr, ne_eq, (U_rec_Put _).1]
  refine h2' _ _ _ ?_
  simp only [A_, simprocAttr, ne_eq, (U_rec_Put _).1]
  refine h3 _ (putN r.kind.toNat) (zig r.id) _ _ _ .l (by have := putN_len10 (v := r.kind.toNat) (by omega); omega) (zig_lt hr.lo hr.hi) ?_
  have hpb : putN r.kind.toNat ++ putN (zig r.id) = putB r := rfl
  rw [hpb]
  generalize putB r = b0 at hbl hK ⊢
  have hs1 := pack_len r.snap
  have hs2 := pack_len r.stamp
  have h4a := fun a b => h4 a b r.snap
  have h4b := fun a b => h4 a b r.stamp
  unfold stc at h4a h4b
  have h5' := fun a b => h5 a b r.writes
  unfold lstW at h5'
  by_cases k1 : r.kind = 1
  · rw [if_pos k1] at hK
    have k1' := eq_true k1
    simp only [A_, simprocAttr, ne_eq, (U_rec_Put _).1, k1']
    refine h4a _ b0 _ _ _ .l (by omega) ?_
    simp only [A_, simprocAttr, ne_eq, (U_rec_Put _).1]
    refine h4b _ _ _ _ _ .l (by simp; omega) ?_
    simp only [A_, simprocAttr, ne_eq, (U_rec_Put _).1]
    refine h5' _ (b0 ++ putN (packN r.snap) ++ putN (packN r.stamp)) _ _ _ (by simp only [List.append_assoc]; exact .l) (by simp; omega) (by have := hr.ws; omega) (fun w hw => by have := hr.vs w hw; omega) fun G2 => ?_
    have := hK (G ++ G2)
    simp only [A_, simprocAttr, ne_eq, (U_rec_Put _).1]
    refine wk_uniq ?_
    simpa only [List.append_assoc] using this
  rw [if_neg k1] at hK
  by_cases k2 : r.kind = 2
  · rw [if_pos (.inl k2)] at hK
    have k2' := eq_true k2
    simp only [A_, simprocAttr, ne_eq, (U_rec_Put _).1, k1, k2']
    refine h4b _ b0 _ _ _ .l (by omega) ?_
    simp only [A_, simprocAttr, ne_eq, (U_rec_Put _).1]
    exact wk_uniq (hK G)
  by_cases k5 : r.kind = 5
  · rw [if_pos (.inr k5)] at hK
    have k5' := eq_true k5
    simp only [A_, simprocAttr, ne_eq, (U_rec_Put _).1, k1, k2, k5']
    refine h4b _ b0 _ _ _ .l (by omega) ?_
    simp only [A_, simprocAttr, ne_eq, (U_rec_Put _).1]
    exact wk_uniq (hK G)
  rw [if_neg (by rintro (h | h); exact k2 h; exact k5 h)] at hK
  by_cases k4 : r.kind = 4
  case neg =>
    rw [if_neg k4] at hK
    simp only [A_, simprocAttr, ne_eq, (U_rec_Put _).1, k1, k2, k5, k4]
    exact wk_uniq (hK G)
  rw [if_pos k4] at hK
  have k4' := eq_true k4
  have hpm := goodRec_parts hg k4
  have hpl := hr.ps
  have hlp : (r.parts.map pI).length = r.parts.length := List.length_map _
  have hfl : putP r.parts = putP r.parts := rfl
  have main : ∀ (fl : Nat), fl ≤ 1 → (∀ G, K (.list .sh 1 (bs (b0 ++ putN fl ++ putN (packN r.stamp) ++ putN r.parts.length ++ putP r.parts))) ⟨S, H ++ G⟩) → ∀ i, i ≤ r.parts.length → ((b0 ++ putN fl ++ putN (packN r.stamp) ++ putN r.parts.length ++ putP (r.parts.take i)).length ≤ 1000) := by
    intro fl hfl _ i hi
    have h1 := putN_len10 (v := fl) (by omega)
    have h2 := putN_len10 (v := r.parts.length) (by omega)
    have h3 : ∀ (l : List Int), l.length ≤ 12 → (∀ x ∈ l, 0 ≤ x ∧ x < 8) → (putP l).length ≤ 10 * l.length := by
      intro l
      induction l with
      | nil => intro _ _; simp [putP]
      | cons x l ih =>
        intro hl hx
        have h5 := ih (by simp at hl; omega) (fun y hy => hx y (List.mem_cons_of_mem _ hy))
        have h6 := hx x (List.mem_cons_self ..)
        have h7 := putN_len10 (v := x.toNat) (by omega)
        unfold putP at h5 ⊢
        rw [List.flatMap_cons, List.length_append, List.length_cons]; omega
    have h4 := h3 (r.parts.take i) (by rw [List.length_take]; omega) (fun x hx => hpm x (List.mem_of_mem_take hx))
    rw [List.length_take] at h4
    simp only [List.length_append]
    omega
  cases hy : r.yes with
  | true =>
    rw [hy, if_pos rfl] at hK
    have hlen := main 1 (by omega) hK
    simp only [List.append_assoc] at hlen hK
    simp only [A_, simprocAttr, ne_eq, (U_rec_Put _).1, k1, k2, k5, k4', hy]
    refine h1 _ b0 1 _ _ _ .l (by omega) (by omega) ?_
    simp only [A_, simprocAttr, ne_eq, (U_rec_Put _).1]
    refine h4b _ _ _ _ _ .l (by have := putN_len10 (v := 1) (by omega); simp; omega) ?_
    simp only [A_, simprocAttr, ne_eq, (U_rec_Put _).1, hlp]
    refine h1 _ _ r.parts.length _ _ _ .l (by have := putN_len10 (v := 1) (by omega); simp; omega) (by omega) ?_
    simp only [A_, simprocAttr, ne_eq, (U_rec_Put _).1, hlp]
    refine loop_rule hC (α := Nat) (fun a => r.parts.length - a) (fun a => [.undef, .undef, .undef, .list .uniq 1 (bs (b0 ++ (putN 1 ++ (putN (packN r.stamp) ++ (putN r.parts.length ++ putP (r.parts.take a)))))), .undef, .undef, .undef, .undef, .undef, .undef, .undef, .undef, .undef, .undef, .undef, .undef, .undef, .undef, .undef, .undef, .undef, .undef, .undef, .undef, .undef, .undef, .undef, .undef, .undef, .undef, .undef, .undef, .undef, .undef, .undef, .undef, .undef, .undef, .undef, .undef, .undef, .undef, .undef, .undef, .undef, .undef, .undef, .undef, .undef, .undef, .undef, .undef, .undef, .list .sh 1 (r.parts.map pI), .s (.int .i64 r.parts.length), .s (.int .i64 a), .undef, .undef, .undef, .undef, .undef, .undef, .undef, .undef]) (fun _ => S ++ [rcc r]) (fun _ => H ++ G) (fun a => a ≤ r.parts.length) 0 (by simp) (by simp only [List.take_zero, putP, List.flatMap_nil, List.append_nil]; rfl) (by rw [app_take_add]; simp only [rcc, hy]; rfl) rfl (fun a _ => by simp [AV.under, AV.under.go]) ?_
    intro i hi ih
    have hli := hlen i hi
    by_cases h16 : i < r.parts.length
    · have hlt : ((i : Int) < (r.parts.length : Int)) := by omega
      have hw : IntKind.i64.wrap ((i : Int) + 1) = (i : Int) + 1 := wrap_i64 (by omega) (by omega)
      have hx := ixl_pI h16
      have hb := hpm _ (List.getElem_mem h16)
      have e : r.parts[i] = (((r.parts[i]).toNat : Nat) : Int) := by omega
      have h1i : ∀ (a : AV) (b : List UInt8) S H (K : AV → St → Prop), BA a b → b.length ≤ 1000000000 → K (.list .uniq 1 (bs (b ++ putN (r.parts[i]).toNat))) ⟨S, H⟩ → C (.fn (c 1)) [a, .s (.int .i64 r.parts[i])] ⟨S, H⟩ K := by
        intro a b S H K ha hb2 hK
        have := h1 a b (r.parts[i]).toNat S H K ha hb2 (by omega) hK
        rwa [← e] at this
      have htk : putP (r.parts.take (i + 1)) = putP (r.parts.take i) ++ putN (r.parts[i]).toNat := by
        unfold putP; rw [List.take_succ_eq_append_getElem h16, List.flatMap_append]; simp
      simp only [A_, simprocAttr, ne_eq, (U_rec_Put _).1, hlt, hx]
      refine h1i _ _ _ _ _ .l (by omega) ?_
      simp only [A_, simprocAttr, ne_eq, (U_rec_Put _).1, hw]
      refine ih (i + 1) _ _ _ (by omega) (by omega) ?_ (by rw [app_take_add]; rfl) rfl
      rw [htk]
      simp only [List.append_assoc]
      rfl
    · have hlt : ¬ ((i : Int) < (r.parts.length : Int)) := by omega
      have : i = r.parts.length := by omega
      subst this
      rw [List.take_length]
      simp only [A_, simprocAttr, ne_eq, (U_rec_Put _).1, hlt]
      exact wk_uniq (hK G)
  | false =>
    rw [hy, if_neg (by simp)] at hK
    have hlen := main 0 (by omega) hK
    simp only [List.append_assoc] at hlen hK
    simp only [A_, simprocAttr, ne_eq, (U_rec_Put _).1, k1, k2, k5, k4', hy]
    refine h1 _ b0 0 _ _ _ .l (by omega) (by omega) ?_
    simp only [A_, simprocAttr, ne_eq, (U_rec_Put _).1]
    refine h4b _ _ _ _ _ .l (by have := putN_len10 (v := 0) (by omega); simp; omega) ?_
    simp only [A_, simprocAttr, ne_eq, (U_rec_Put _).1, hlp]
    refine h1 _ _ r.parts.length _ _ _ .l (by have := putN_len10 (v := 0) (by omega); simp; omega) (by omega) ?_
    simp only [A_, simprocAttr, ne_eq, (U_rec_Put _).1, hlp]
    refine loop_rule hC (α := Nat) (fun a => r.parts.length - a) (fun a => [.undef, .undef, .undef, .list .uniq 1 (bs (b0 ++ (putN 0 ++ (putN (packN r.stamp) ++ (putN r.parts.length ++ putP (r.parts.take a)))))), .undef, .undef, .undef, .undef, .undef, .undef, .undef, .undef, .undef, .undef, .undef, .undef, .undef, .undef, .undef, .undef, .undef, .undef, .undef, .undef, .undef, .undef, .undef, .undef, .undef, .undef, .undef, .undef, .undef, .undef, .undef, .undef, .undef, .undef, .undef, .undef, .undef, .undef, .undef, .undef, .undef, .undef, .undef, .undef, .undef, .undef, .undef, .undef, .undef, .list .sh 1 (r.parts.map pI), .s (.int .i64 r.parts.length), .s (.int .i64 a), .undef, .undef, .undef, .undef, .undef, .undef, .undef, .undef]) (fun _ => S ++ [rcc r]) (fun _ => H ++ G) (fun a => a ≤ r.parts.length) 0 (by simp) (by simp only [List.take_zero, putP, List.flatMap_nil, List.append_nil]; rfl) (by rw [app_take_add]; simp only [rcc, hy]; rfl) rfl (fun a _ => by simp [AV.under, AV.under.go]) ?_
    intro i hi ih
    have hli := hlen i hi
    by_cases h16 : i < r.parts.length
    · have hlt : ((i : Int) < (r.parts.length : Int)) := by omega
      have hw : IntKind.i64.wrap ((i : Int) + 1) = (i : Int) + 1 := wrap_i64 (by omega) (by omega)
      have hx := ixl_pI h16
      have hb := hpm _ (List.getElem_mem h16)
      have e : r.parts[i] = (((r.parts[i]).toNat : Nat) : Int) := by omega
      have h1i : ∀ (a : AV) (b : List UInt8) S H (K : AV → St → Prop), BA a b → b.length ≤ 1000000000 → K (.list .uniq 1 (bs (b ++ putN (r.parts[i]).toNat))) ⟨S, H⟩ → C (.fn (c 1)) [a, .s (.int .i64 r.parts[i])] ⟨S, H⟩ K := by
        intro a b S H K ha hb2 hK
        have := h1 a b (r.parts[i]).toNat S H K ha hb2 (by omega) hK
        rwa [← e] at this
      have htk : putP (r.parts.take (i + 1)) = putP (r.parts.take i) ++ putN (r.parts[i]).toNat := by
        unfold putP; rw [List.take_succ_eq_append_getElem h16, List.flatMap_append]; simp
      simp only [A_, simprocAttr, ne_eq, (U_rec_Put _).1, hlt, hx]
      refine h1i _ _ _ _ _ .l (by omega) ?_
      simp only [A_, simprocAttr, ne_eq, (U_rec_Put _).1, hw]
      refine ih (i + 1) _ _ _ (by omega) (by omega) ?_ (by rw [app_take_add]; rfl) rfl
      rw [htk]
      simp only [List.append_assoc]
      rfl
    · have hlt : ¬ ((i : Int) < (r.parts.length : Int)) := by omega
      have : i = r.parts.length := by omega
      subst this
      rw [List.take_length]
      simp only [A_, simprocAttr, ne_eq, (U_rec_Put _).1, hlt]
      exact wk_uniq (hK G)
end Go.AM
namespace Go.AM
open Go
set_option maxRecDepth 20000
set_option linter.unusedSimpArgs false
set_option linter.unusedVariables false

end Go.AM
namespace Go.AM
open Go
set_option maxRecDepth 20000
set_option linter.unusedSimpArgs false
set_option linter.unusedVariables false

end Go.AM
namespace Go.AM
open Go
set_option maxRecDepth 20000
set_option linter.unusedSimpArgs false
set_option linter.unusedVariables false

end Go.AM
/-! The plain law of RecWrites: the two readers of writes answer alike. -/
namespace Go.AM
open Go
set_option linter.unusedVariables false

end Go.AM
namespace Go.AM
open Go
set_option maxRecDepth 20000
set_option linter.unusedSimpArgs false
set_option linter.unusedVariables false

def partsR (m : Nat) : Nat → Rd → List Int × Rd
  | 0, r => ([], r)
  | n + 1, r => (((mostR m r).1 : Int) :: (partsR m n (mostR m r).2).1, (partsR m n (mostR m r).2).2)
/-- What follows a record's kind and number. -/
def bodyR (k : Nat) (id : Int) (r : Rd) : Rec × Rd :=
  if k = 1 then (⟨k, id, (stampR r).1, (stampR (stampR r).2).1, (writesR (stampR (stampR r).2).2).1, false, []⟩, (writesR (stampR (stampR r).2).2).2)
  else if k = 2 ∨ k = 5 then (⟨k, id, ⟨0, 0⟩, (stampR r).1, [], false, []⟩, (stampR r).2)
  else if k = 4 then (⟨k, id, ⟨0, 0⟩, (stampR (mostR 1 r).2).1, [], decide ((mostR 1 r).1 = 1), (partsR 8 (mostR 8 (stampR (mostR 1 r).2).2).1 (mostR 8 (stampR (mostR 1 r).2).2).2).1⟩, (partsR 8 (mostR 8 (stampR (mostR 1 r).2).2).1 (mostR 8 (stampR (mostR 1 r).2).2).2).2)
  else (⟨k, id, ⟨0, 0⟩, ⟨0, 0⟩, [], false, []⟩, r)
def readRec (r : Rd) : Rec × Rd := bodyR (mostR 5 r).1 (zag (numR (mostR 5 r).2).1) (numR (mostR 5 r).2).2
def getRec (b : List UInt8) : Rec × Int := if (readRec (some b)).2 = some [] ∧ goodRec (readRec (some b)).1 = true then ((readRec (some b)).1, 0) else (zRec, 3)
def tupR (x : Rec × Int) : AV := .tup [.agg (rcc x.1), .s (.int .i64 x.2)]
def GetRecS (C : CallW) (f : FuncId) : Prop := ∀ (a : AV) (b : List UInt8) S H (K : AV → St → Prop), BA a b → b.length ≤ 9223372036854775807 → (∀ G, K (tupR (getRec b)) ⟨S, H ++ G⟩) → C (.fn f) [a] ⟨S, H⟩ K
theorem rcc_wkF (r : Rec) (x z : AV) (hx : x = .list .sh 18 (r.writes.map wA) ∨ x = .s .nilS ∧ r.writes = []) (hz : z = .list .sh 1 (r.parts.map pI) ∨ z = .s .nilS ∧ r.parts = []) : WkF [.agg [.s (.int .i64 r.kind), .s (.int .i64 r.id), .s (.int .i64 r.snap.t), u8 r.snap.n, .s (.int .i64 r.stamp.t), u8 r.stamp.n, x, .s (.bool r.yes), z]] [.agg (rcc r)] := .wk (rcc_wk r x z hx hz) .nil

theorem rcc_wkT (r : Rec) (x z e : AV) (hx : x = .list .sh 18 (r.writes.map wA) ∨ x = .s .nilS ∧ r.writes = []) (hz : z = .list .sh 1 (r.parts.map pI) ∨ z = .s .nilS ∧ r.parts = []) : WkL [(AV.tup [.agg [.s (.int .i64 r.kind), .s (.int .i64 r.id), .s (.int .i64 r.snap.t), u8 r.snap.n, .s (.int .i64 r.stamp.t), u8 r.stamp.n, x, .s (.bool r.yes), z], e]).sh] [.tup [.agg (rcc r), e]] := by
  have hsh : ∀ l, (AV.tup l).sh = .tup l := fun _ => rfl
  rw [hsh]
  refine .tup (.agg (.same (.same (.same (.same (.same (.same ?_)))))) rcc_cell (.same .nil)) .nil
  rcases hx with rfl | ⟨rfl, h1⟩ <;> rcases hz with rfl | ⟨rfl, h2⟩
  · exact .same (.same (.same .nil))
  · rw [h2]; exact .same (.same (.nilS (by omega) .nil))
  · rw [h1]; exact .nilS (by omega) (.same (.same .nil))
  · rw [h1, h2]; exact .nilS (by omega) (.same (.nilS (by omega) .nil))
theorem zero_wkT (e : AV) : WkL [(AV.tup [.agg [.s (.int .i64 0), .s (.int .i64 0), .s (.int .i64 0), .s (.int .u8 0), .s (.int .i64 0), .s (.int .u8 0), .s .nilS, .s (.bool false), .s .nilS], e]).sh] [.tup [.agg (rcc zRec), e]] := rcc_wkT zRec _ _ e (.inr ⟨rfl, rfl⟩) (.inr ⟨rfl, rfl⟩)
theorem sgood_len {r : Rd} : (writesR r).1.length ≤ 16 := by unfold writesR; dsimp only; rw [wrsR_len]; exact mostR_le 16 r

def slP (l : List Int) : AV := if l = [] then .s .nilS else .list .own 1 (l.map pI)
theorem app_nilI {e : ET} {a : AV} {σ : St} (h1 : e.c = 1) (h2 : e.bytes = 8) (hu : AV.under 0 a = true) : appendL e false (.s .nilS) (.list .full 1 [a]) σ = some (.list .uniq 1 [a], σ) := by
  have h := elems_list (e := e) (fl := .full) (es := [a]) (σ := σ)
  rw [h1] at h
  simp [appendL, srcL, AV.isSlice, h, AV.under.go, hu, appItems, h1, h2]
theorem app_ownI {e : ET} {x : Int} {l : List Int} {σ : St} (h1 : e.c = 1) (h2 : e.bytes = 8) (hl : l.length ≤ 1000000) : appendL e false (.list .own 1 (l.map pI)) (.list .full 1 [.s (.int .i64 x)]) σ = some (.list .own 1 ((l ++ [x]).map pI), σ) := by
  have h := elems_list (e := e) (fl := .full) (es := [AV.s (.int .i64 x)]) (σ := σ)
  rw [h1] at h
  have hb : 2 * ((l.map pI).length + 1) * 8 ≤ 2 ^ 48 := by simp; omega
  simp [appendL, srcL, AV.isSlice, h, AV.under.go, AV.under, appItems, h1, h2]
  refine ⟨by simpa using hb, rfl⟩
set_option maxHeartbeats 40000000 in
theorem rec_Get_spec {C : CallW} (hC : LeC C C) (hW : WkC C) (P : Program) {c : Nat → FuncId} (h0 : ∀ m : Nat, m < 9223372036854775808 → RdS C (c 0) [.s (.int .i64 m)] fun r => (.s (.int .i64 ((mostR m r).1 : Nat)), (mostR m r).2)) (h1 : RdS C (c 1) [] fun r => (.s (.int .u64 ((numR r).1 : Nat)), (numR r).2)) (h2 : ∀ n : Nat, n < 18446744073709551616 → FnS C (c 2) [.s (.int .u64 n)] (.s (.int .i64 (zag n)))) (h3 : RdS C (c 3) [] fun r => (.agg (stc (stampR r).1), (stampR r).2)) (h4 : WritesS C (c 4)) (h5 : GoodRS C (c 5)) : ∀ (b : List UInt8) S H (K : AV → St → Prop), b.length ≤ 9223372036854775807 → (∀ G, K (tupR (getRec b)) ⟨S, H ++ G⟩) → runL C P (C_rec_Get c) [.list .sh 1 (bs b)] ⟨S, H⟩ (WkK K) := by
  intro b S H K hb hK
  simp only [C_rec_Get, A_, simprocAttr, ne_eq, (U_rec_Get _).1, fillL]
  refine h0 5 (by omega) (S.length + 1) (some b) _ _ _ (by rw [app_get]; rfl) (rok_some hb) ?_
  simp only [A_, simprocAttr, ne_eq, (U_rec_Get _).1, fillL]
  have hr1 : rok (mostR 5 (some b)).2 := mostR_ok (rok_some hb)
  refine h1 (S.length + 1) _ _ _ _ (by rw [app_get]; rfl) hr1 ?_
  simp only [A_, simprocAttr, ne_eq, (U_rec_Get _).1]
  refine h2 _ (numR_lt _) _ _ _ ?_
  have hr2 : rok (numR (mostR 5 (some b)).2).2 := numR_ok hr1
  have hrd : readRec (some b) = bodyR (mostR 5 (some b)).1 (zag (numR (mostR 5 (some b)).2).1) (numR (mostR 5 (some b)).2).2 := rfl
  have hk5 := mostR_le 5 (some b)
  generalize (mostR 5 (some b)).1 = k at hrd hk5 ⊢
  generalize zag (numR (mostR 5 (some b)).2).1 = id at hrd ⊢
  generalize (numR (mostR 5 (some b)).2).2 = r at hrd hr2 ⊢
  unfold bodyR at hrd
  by_cases k2 : k = 2
  · subst k2
    rw [if_neg (by omega), if_pos (.inl rfl)] at hrd
    simp only [A_, simprocAttr, ne_eq, (U_rec_Get _).1]
    refine h3 (S.length + 1) _ _ _ _ (by rw [app_get]; rfl) hr2 ?_
    simp only [A_, simprocAttr, ne_eq, (U_rec_Get _).1, storeP_stk, stc]
    have hx : readRec (some b) = (⟨(2 : Nat), id, ⟨0, 0⟩, (stampR r).1, [], false, []⟩, (stampR r).2) := hrd
    have hbad : ¬ ((stampR r).2 = some [] ∧ goodRec ⟨(2 : Nat), id, ⟨0, 0⟩, (stampR r).1, [], false, []⟩ = true) → getRec b = (zRec, 3) := fun hn => by unfold getRec; rw [hx, if_neg hn]
    have hgood : (stampR r).2 = some [] → goodRec ⟨(2 : Nat), id, ⟨0, 0⟩, (stampR r).1, [], false, []⟩ = true → getRec b = (⟨(2 : Nat), id, ⟨0, 0⟩, (stampR r).1, [], false, []⟩, 0) := fun h1 h2 => by unfold getRec; rw [hx, if_pos ⟨h1, h2⟩]
    clear hx hrd
    cases hq : (stampR r).2 with
    | none =>
      have hKf := hK []
      rw [hbad (by rintro ⟨h, _⟩; rw [hq] at h; cases h)] at hKf
      simp only [A_, simprocAttr, ne_eq, (U_rec_Get _).1, fillL, rdc]
      exact ⟨_, .inr (zero_wkT _), by simpa [tupR] using hKf⟩
    | some l =>
    cases l with
    | cons y l =>
      have hKf := hK []
      rw [hbad (by rintro ⟨h, _⟩; rw [hq] at h; cases h)] at hKf
      have hpos : ((0 : Int) < (((bs (y :: l)).length : Nat) : Int)) := by rw [bs_length]; simp <;> omega
      simp only [A_, simprocAttr, ne_eq, (U_rec_Get _).1, fillL, rdc, hpos]
      exact ⟨_, .inr (zero_wkT _), by simpa [tupR] using hKf⟩
    | nil =>
      have hpos : ¬ ((0 : Int) < (((bs []).length : Nat) : Int)) := by rw [bs_length]; simp
      simp only [A_, simprocAttr, ne_eq, (U_rec_Get _).1, fillL, rdc, hpos]
      refine hW _ _ [.agg (rcc ⟨(2 : Nat), id, ⟨0, 0⟩, (stampR r).1, [], false, []⟩)] _ _ (rcc_wkF ⟨(2 : Nat), id, ⟨0, 0⟩, (stampR r).1, [], false, []⟩ _ _ (.inr ⟨rfl, rfl⟩) (.inr ⟨rfl, rfl⟩)) ?_
      refine h5 _ _ _ _ ⟨by simp, by simp⟩ fun G2 => ?_
      cases hg : goodRec ⟨(2 : Nat), id, ⟨0, 0⟩, (stampR r).1, [], false, []⟩ with
      | false =>
        have hKf := hK ([] ++ G2)
        rw [hbad (by rintro ⟨_, h⟩; rw [hg] at h; cases h)] at hKf
        simp only [A_, simprocAttr, ne_eq, (U_rec_Get _).1, fillL]
        exact ⟨_, .inr (zero_wkT _), by simpa [tupR] using hKf⟩
      | true =>
        have hKf := hK ([] ++ G2)
        rw [hgood hq hg] at hKf
        simp only [A_, simprocAttr, ne_eq, (U_rec_Get _).1]
        exact ⟨_, .inr (rcc_wkT ⟨(2 : Nat), id, ⟨0, 0⟩, (stampR r).1, [], false, []⟩ _ _ _ (.inr ⟨rfl, rfl⟩) (.inr ⟨rfl, rfl⟩)), by simpa [tupR] using hKf⟩
  by_cases k5 : k = 5
  · subst k5
    rw [if_neg (by omega), if_pos (.inr rfl)] at hrd
    simp only [A_, simprocAttr, ne_eq, (U_rec_Get _).1]
    refine h3 (S.length + 1) _ _ _ _ (by rw [app_get]; rfl) hr2 ?_
    simp only [A_, simprocAttr, ne_eq, (U_rec_Get _).1, storeP_stk, stc]
    have hx : readRec (some b) = (⟨(5 : Nat), id, ⟨0, 0⟩, (stampR r).1, [], false, []⟩, (stampR r).2) := hrd
    have hbad : ¬ ((stampR r).2 = some [] ∧ goodRec ⟨(5 : Nat), id, ⟨0, 0⟩, (stampR r).1, [], false, []⟩ = true) → getRec b = (zRec, 3) := fun hn => by unfold getRec; rw [hx, if_neg hn]
    have hgood : (stampR r).2 = some [] → goodRec ⟨(5 : Nat), id, ⟨0, 0⟩, (stampR r).1, [], false, []⟩ = true → getRec b = (⟨(5 : Nat), id, ⟨0, 0⟩, (stampR r).1, [], false, []⟩, 0) := fun h1 h2 => by unfold getRec; rw [hx, if_pos ⟨h1, h2⟩]
    clear hx hrd
    cases hq : (stampR r).2 with
    | none =>
      have hKf := hK []
      rw [hbad (by rintro ⟨h, _⟩; rw [hq] at h; cases h)] at hKf
      simp only [A_, simprocAttr, ne_eq, (U_rec_Get _).1, fillL, rdc]
      exact ⟨_, .inr (zero_wkT _), by simpa [tupR] using hKf⟩
    | some l =>
    cases l with
    | cons y l =>
      have hKf := hK []
      rw [hbad (by rintro ⟨h, _⟩; rw [hq] at h; cases h)] at hKf
      have hpos : ((0 : Int) < (((bs (y :: l)).length : Nat) : Int)) := by rw [bs_length]; simp <;> omega
      simp only [A_, simprocAttr, ne_eq, (U_rec_Get _).1, fillL, rdc, hpos]
      exact ⟨_, .inr (zero_wkT _), by simpa [tupR] using hKf⟩
    | nil =>
      have hpos : ¬ ((0 : Int) < (((bs []).length : Nat) : Int)) := by rw [bs_length]; simp
      simp only [A_, simprocAttr, ne_eq, (U_rec_Get _).1, fillL, rdc, hpos]
      refine hW _ _ [.agg (rcc ⟨(5 : Nat), id, ⟨0, 0⟩, (stampR r).1, [], false, []⟩)] _ _ (rcc_wkF ⟨(5 : Nat), id, ⟨0, 0⟩, (stampR r).1, [], false, []⟩ _ _ (.inr ⟨rfl, rfl⟩) (.inr ⟨rfl, rfl⟩)) ?_
      refine h5 _ _ _ _ ⟨by simp, by simp⟩ fun G2 => ?_
      cases hg : goodRec ⟨(5 : Nat), id, ⟨0, 0⟩, (stampR r).1, [], false, []⟩ with
      | false =>
        have hKf := hK ([] ++ G2)
        rw [hbad (by rintro ⟨_, h⟩; rw [hg] at h; cases h)] at hKf
        simp only [A_, simprocAttr, ne_eq, (U_rec_Get _).1, fillL]
        exact ⟨_, .inr (zero_wkT _), by simpa [tupR] using hKf⟩
      | true =>
        have hKf := hK ([] ++ G2)
        rw [hgood hq hg] at hKf
        simp only [A_, simprocAttr, ne_eq, (U_rec_Get _).1]
        exact ⟨_, .inr (rcc_wkT ⟨(5 : Nat), id, ⟨0, 0⟩, (stampR r).1, [], false, []⟩ _ _ _ (.inr ⟨rfl, rfl⟩) (.inr ⟨rfl, rfl⟩)), by simpa [tupR] using hKf⟩
  by_cases k1 : k = 1
  · subst k1
    rw [if_pos rfl] at hrd
    simp only [A_, simprocAttr, ne_eq, (U_rec_Get _).1]
    refine h3 (S.length + 1) _ _ _ _ (by rw [app_get]; rfl) hr2 ?_
    simp only [A_, simprocAttr, ne_eq, (U_rec_Get _).1, storeP_stk, stc]
    have hr3 : rok (stampR r).2 := stampR_ok hr2
    refine h3 (S.length + 1) _ _ _ _ (by rw [app_get]; rfl) hr3 ?_
    simp only [A_, simprocAttr, ne_eq, (U_rec_Get _).1, storeP_stk, stc]
    have hr4 : rok (stampR (stampR r).2).2 := stampR_ok hr3
    refine h4 (S.length + 1) _ _ _ _ (by rw [app_get]; rfl) hr4 fun G => ?_
    simp only [A_, simprocAttr, ne_eq, (U_rec_Get _).1, lstW]
    have hx : readRec (some b) = (⟨(1 : Nat), id, (stampR r).1, (stampR (stampR r).2).1, (writesR (stampR (stampR r).2).2).1, false, []⟩, (writesR (stampR (stampR r).2).2).2) := hrd
    have hbad : ¬ ((writesR (stampR (stampR r).2).2).2 = some [] ∧ goodRec ⟨(1 : Nat), id, (stampR r).1, (stampR (stampR r).2).1, (writesR (stampR (stampR r).2).2).1, false, []⟩ = true) → getRec b = (zRec, 3) := fun hn => by unfold getRec; rw [hx, if_neg hn]
    have hgood : (writesR (stampR (stampR r).2).2).2 = some [] → goodRec ⟨(1 : Nat), id, (stampR r).1, (stampR (stampR r).2).1, (writesR (stampR (stampR r).2).2).1, false, []⟩ = true → getRec b = (⟨(1 : Nat), id, (stampR r).1, (stampR (stampR r).2).1, (writesR (stampR (stampR r).2).2).1, false, []⟩, 0) := fun h1 h2 => by unfold getRec; rw [hx, if_pos ⟨h1, h2⟩]
    clear hx hrd
    cases hq : (writesR (stampR (stampR r).2).2).2 with
    | none =>
      have hKf := hK G
      rw [hbad (by rintro ⟨h, _⟩; rw [hq] at h; cases h)] at hKf
      simp only [A_, simprocAttr, ne_eq, (U_rec_Get _).1, fillL, rdc]
      exact ⟨_, .inr (zero_wkT _), by simpa [tupR] using hKf⟩
    | some l =>
    cases l with
    | cons y l =>
      have hKf := hK G
      rw [hbad (by rintro ⟨h, _⟩; rw [hq] at h; cases h)] at hKf
      have hpos : ((0 : Int) < (((bs (y :: l)).length : Nat) : Int)) := by rw [bs_length]; simp <;> omega
      simp only [A_, simprocAttr, ne_eq, (U_rec_Get _).1, fillL, rdc, hpos]
      exact ⟨_, .inr (zero_wkT _), by simpa [tupR] using hKf⟩
    | nil =>
      have hpos : ¬ ((0 : Int) < (((bs []).length : Nat) : Int)) := by rw [bs_length]; simp
      simp only [A_, simprocAttr, ne_eq, (U_rec_Get _).1, fillL, rdc, hpos]
      refine hW _ _ [.agg (rcc ⟨(1 : Nat), id, (stampR r).1, (stampR (stampR r).2).1, (writesR (stampR (stampR r).2).2).1, false, []⟩)] _ _ (rcc_wkF ⟨(1 : Nat), id, (stampR r).1, (stampR (stampR r).2).1, (writesR (stampR (stampR r).2).2).1, false, []⟩ _ _ (.inl rfl) (.inr ⟨rfl, rfl⟩)) ?_
      refine h5 _ _ _ _ ⟨Nat.le_trans sgood_len (by omega), by simp⟩ fun G2 => ?_
      cases hg : goodRec ⟨(1 : Nat), id, (stampR r).1, (stampR (stampR r).2).1, (writesR (stampR (stampR r).2).2).1, false, []⟩ with
      | false =>
        have hKf := hK (G ++ G2)
        rw [hbad (by rintro ⟨_, h⟩; rw [hg] at h; cases h)] at hKf
        simp only [A_, simprocAttr, ne_eq, (U_rec_Get _).1, fillL]
        exact ⟨_, .inr (zero_wkT _), by simpa [tupR] using hKf⟩
      | true =>
        have hKf := hK (G ++ G2)
        rw [hgood hq hg] at hKf
        simp only [A_, simprocAttr, ne_eq, (U_rec_Get _).1]
        exact ⟨_, .inr (rcc_wkT ⟨(1 : Nat), id, (stampR r).1, (stampR (stampR r).2).1, (writesR (stampR (stampR r).2).2).1, false, []⟩ _ _ _ (.inl rfl) (.inr ⟨rfl, rfl⟩)), by simpa [tupR] using hKf⟩
  by_cases k4 : k = 4
  case neg =>
    rw [if_neg k1, if_neg (by omega), if_neg k4] at hrd
    have n1 : ¬ ((k : Int) = 1) := by omega
    have n2 : ¬ ((k : Int) = 2) := by omega
    have n5 : ¬ ((k : Int) = 5) := by omega
    have n4 : ¬ ((k : Int) = 4) := by omega
    simp only [A_, simprocAttr, ne_eq, (U_rec_Get _).1, n1, n2, n5, n4]
    have hx : readRec (some b) = (⟨(k : Nat), id, ⟨0, 0⟩, ⟨0, 0⟩, [], false, []⟩, r) := hrd
    have hbad : ¬ (r = some [] ∧ goodRec ⟨(k : Nat), id, ⟨0, 0⟩, ⟨0, 0⟩, [], false, []⟩ = true) → getRec b = (zRec, 3) := fun hn => by unfold getRec; rw [hx, if_neg hn]
    have hgood : r = some [] → goodRec ⟨(k : Nat), id, ⟨0, 0⟩, ⟨0, 0⟩, [], false, []⟩ = true → getRec b = (⟨(k : Nat), id, ⟨0, 0⟩, ⟨0, 0⟩, [], false, []⟩, 0) := fun h1 h2 => by unfold getRec; rw [hx, if_pos ⟨h1, h2⟩]
    clear hx hrd
    cases hq : r with
    | none =>
      have hKf := hK []
      rw [hbad (by rintro ⟨h, _⟩; rw [hq] at h; cases h)] at hKf
      simp only [A_, simprocAttr, ne_eq, (U_rec_Get _).1, fillL, rdc]
      exact ⟨_, .inr (zero_wkT _), by simpa [tupR] using hKf⟩
    | some l =>
    cases l with
    | cons y l =>
      have hKf := hK []
      rw [hbad (by rintro ⟨h, _⟩; rw [hq] at h; cases h)] at hKf
      have hpos : ((0 : Int) < (((bs (y :: l)).length : Nat) : Int)) := by rw [bs_length]; simp <;> omega
      simp only [A_, simprocAttr, ne_eq, (U_rec_Get _).1, fillL, rdc, hpos]
      exact ⟨_, .inr (zero_wkT _), by simpa [tupR] using hKf⟩
    | nil =>
      have hpos : ¬ ((0 : Int) < (((bs []).length : Nat) : Int)) := by rw [bs_length]; simp
      simp only [A_, simprocAttr, ne_eq, (U_rec_Get _).1, fillL, rdc, hpos]
      refine hW _ _ [.agg (rcc ⟨(k : Nat), id, ⟨0, 0⟩, ⟨0, 0⟩, [], false, []⟩)] _ _ (rcc_wkF ⟨(k : Nat), id, ⟨0, 0⟩, ⟨0, 0⟩, [], false, []⟩ _ _ (.inr ⟨rfl, rfl⟩) (.inr ⟨rfl, rfl⟩)) ?_
      refine h5 _ _ _ _ ⟨by simp, by simp⟩ fun G2 => ?_
      cases hg : goodRec ⟨(k : Nat), id, ⟨0, 0⟩, ⟨0, 0⟩, [], false, []⟩ with
      | false =>
        have hKf := hK ([] ++ G2)
        rw [hbad (by rintro ⟨_, h⟩; rw [hg] at h; cases h)] at hKf
        simp only [A_, simprocAttr, ne_eq, (U_rec_Get _).1, fillL]
        exact ⟨_, .inr (zero_wkT _), by simpa [tupR] using hKf⟩
      | true =>
        have hKf := hK ([] ++ G2)
        rw [hgood hq hg] at hKf
        simp only [A_, simprocAttr, ne_eq, (U_rec_Get _).1]
        exact ⟨_, .inr (rcc_wkT ⟨(k : Nat), id, ⟨0, 0⟩, ⟨0, 0⟩, [], false, []⟩ _ _ _ (.inr ⟨rfl, rfl⟩) (.inr ⟨rfl, rfl⟩)), by simpa [tupR] using hKf⟩
  · subst k4
    rw [if_neg (by omega), if_neg (by omega), if_pos rfl] at hrd
    simp only [A_, simprocAttr, ne_eq, (U_rec_Get _).1]
    refine h0 1 (by omega) (S.length + 1) _ _ _ _ (by rw [app_get]; rfl) hr2 ?_
    have hr3 : rok (mostR 1 r).2 := mostR_ok hr2
    have hy : (((mostR 1 r).1 : Int) = 1) = ((mostR 1 r).1 = 1) := propext (by omega)
    simp only [A_, simprocAttr, ne_eq, (U_rec_Get _).1, hy]
    refine h3 (S.length + 1) _ _ _ _ (by rw [app_get]; rfl) hr3 ?_
    have hr4 : rok (stampR (mostR 1 r).2).2 := stampR_ok hr3
    simp only [A_, simprocAttr, ne_eq, (U_rec_Get _).1, storeP_stk, stc]
    refine h0 8 (by omega) (S.length + 1) _ _ _ _ (by rw [app_get]; rfl) hr4 ?_
    have hr5 : rok (mostR 8 (stampR (mostR 1 r).2).2).2 := mostR_ok hr4
    simp only [A_, simprocAttr, ne_eq, (U_rec_Get _).1]
    generalize decide ((mostR 1 r).1 = 1) = yes at hrd ⊢
    generalize (stampR (mostR 1 r).2).1 = st at hrd ⊢
    have hn8 := mostR_le 8 (stampR (mostR 1 r).2).2
    generalize (mostR 8 (stampR (mostR 1 r).2).2).1 = n at hrd hn8 ⊢
    generalize (mostR 8 (stampR (mostR 1 r).2).2).2 = q0 at hrd hr5 ⊢
    clear hr2 hr3 hr4 hy
    refine loop_rule hC (α := Nat × List Int × Rd) (fun a => n - a.1) (fun a => [.undef, .undef, .ptr (.stk S.length) 0, .undef, .ptr (.stk (S.length + 1)) 0, .ptr (.stk (S.length + 2)) 0, .undef, .undef, .undef, .undef, .undef, .undef, .undef, .undef, .undef, .undef, .undef, .undef, .undef, .undef, .undef, .undef, .undef, .undef, .undef, .undef, .undef, .undef, .undef, .undef, .undef, .undef, .undef, .undef, .undef, .undef, .undef, .undef, .undef, .undef, .undef, .undef, .undef, .undef, .undef, .s (.int .i64 n), .s (.int .i64 a.1), .undef, .undef, .undef, .undef, .undef, .undef, .undef, .undef, .undef, .undef, .undef, .undef, .undef, .undef, .undef, .undef, .undef, .undef, .undef, .undef, .undef, .undef, .undef, .undef, .undef, .undef, .undef, .undef]) (fun a => S ++ [[.s (.int .i64 0), .s (.int .i64 0), .s (.int .i64 0), .s (.int .u8 0), .s (.int .i64 0), .s (.int .u8 0), .s .nilS, .s (.bool false), .s .nilS], rdc a.2.2, [.s (.int .i64 4), .s (.int .i64 id), .s (.int .i64 0), .s (.int .u8 0), .s (.int .i64 st.t), u8 st.n, .s .nilS, .s (.bool yes), slP a.2.1]]) (fun a => H) (fun a => a.1 ≤ n ∧ rok a.2.2 ∧ a.2.1.length = a.1 ∧ partsR 8 n q0 = (a.2.1 ++ (partsR 8 (n - a.1) a.2.2).1, (partsR 8 (n - a.1) a.2.2).2)) (0, [], q0) ⟨by simp, hr5, rfl, by simp⟩ rfl (by rw [app_take_add]; rfl) rfl (fun a _ => by simp [AV.under, AV.under.go]) ?_
    rintro ⟨i, acc, q⟩ ⟨hi, hq, hal, hinv⟩ ih
    dsimp only at hi hq hal hinv ih ⊢
    by_cases h16 : i < n
    · have hlt : ((i : Int) < (n : Int)) := by omega
      have hw : IntKind.i64.wrap ((i : Int) + 1) = (i : Int) + 1 := wrap_i64 (by omega) (by omega)
      have hq1 : rok (mostR 8 q).2 := mostR_ok hq
      have ih2 := ih (i + 1, acc ++ [((mostR 8 q).1 : Int)], (mostR 8 q).2)
      have hinv2 : partsR 8 n q0 = ((acc ++ [((mostR 8 q).1 : Int)]) ++ (partsR 8 (n - (i + 1)) (mostR 8 q).2).1, (partsR 8 (n - (i + 1)) (mostR 8 q).2).2) := by
        rw [hinv, show n - i = (n - (i + 1)) + 1 by omega, partsR]
        simp
      by_cases hacc : acc = []
      · subst hacc
        rw [show slP ([] ++ [((mostR 8 q).1 : Int)]) = .list .own 1 [pI ((mostR 8 q).1 : Int)] from rfl] at ih2
        simp only [A_, simprocAttr, ne_eq, (U_rec_Get _).1, hlt, show slP [] = .s .nilS from rfl]
        refine ⟨?_, ?_⟩
        · refine h0 8 (by omega) (S.length + 1) _ _ _ _ (by rw [app_get]; rfl) hq ?_
          simp only [A_, simprocAttr, ne_eq, (U_rec_Get _).1, hw, app_nilI]
          exact ih2 _ _ _ (by dsimp only; omega) ⟨by dsimp only; omega, hq1, by simp [hal], hinv2⟩ rfl (by rw [app_take_add]; rfl) rfl
        · refine h0 8 (by omega) (S.length + 1) _ _ _ _ (by rw [app_get]; rfl) hq ?_
          simp only [A_, simprocAttr, ne_eq, (U_rec_Get _).1, hw, app_nilI]
          exact ih2 _ _ _ (by dsimp only; omega) ⟨by dsimp only; omega, hq1, by simp [hal], hinv2⟩ rfl (by rw [app_take_add]; rfl) rfl
      · rw [show slP (acc ++ [((mostR 8 q).1 : Int)]) = .list .own 1 ((acc ++ [((mostR 8 q).1 : Int)]).map pI) from if_neg (by simp)] at ih2
        have hl8 : acc.length ≤ 1000000 := by omega
        simp only [A_, simprocAttr, ne_eq, (U_rec_Get _).1, hlt, show slP acc = .list .own 1 (acc.map pI) from if_neg hacc]
        refine ⟨?_, ?_⟩
        · refine h0 8 (by omega) (S.length + 1) _ _ _ _ (by rw [app_get]; rfl) hq ?_
          simp only [A_, simprocAttr, ne_eq, (U_rec_Get _).1, hw, app_ownI, hl8]
          exact ih2 _ _ _ (by dsimp only; omega) ⟨by dsimp only; omega, hq1, by simp [hal], hinv2⟩ rfl (by rw [app_take_add]; rfl) rfl
        · refine h0 8 (by omega) (S.length + 1) _ _ _ _ (by rw [app_get]; rfl) hq ?_
          simp only [A_, simprocAttr, ne_eq, (U_rec_Get _).1, hw, app_ownI, hl8]
          exact ih2 _ _ _ (by dsimp only; omega) ⟨by dsimp only; omega, hq1, by simp [hal], hinv2⟩ rfl (by rw [app_take_add]; rfl) rfl
    · have hlt : ¬ ((i : Int) < (n : Int)) := by omega
      have hal8 : acc.length ≤ 8 := by omega
      rw [show n - i = 0 by omega] at hinv
      simp only [partsR, List.append_nil] at hinv
      rw [hinv] at hrd
      dsimp only at hrd
      clear hinv ih
      generalize q = q at *
      by_cases hacc : acc = []
      · subst hacc
        simp only [A_, simprocAttr, ne_eq, (U_rec_Get _).1, hlt, show slP [] = .s .nilS from rfl]
        have hx : readRec (some b) = (⟨(4 : Nat), id, ⟨0, 0⟩, st, [], yes, []⟩, q) := hrd
        have hbad : ¬ (q = some [] ∧ goodRec ⟨(4 : Nat), id, ⟨0, 0⟩, st, [], yes, []⟩ = true) → getRec b = (zRec, 3) := fun hn => by unfold getRec; rw [hx, if_neg hn]
        have hgood : q = some [] → goodRec ⟨(4 : Nat), id, ⟨0, 0⟩, st, [], yes, []⟩ = true → getRec b = (⟨(4 : Nat), id, ⟨0, 0⟩, st, [], yes, []⟩, 0) := fun h1 h2 => by unfold getRec; rw [hx, if_pos ⟨h1, h2⟩]
        clear hx hrd
        cases hq : q with
        | none =>
          have hKf := hK []
          rw [hbad (by rintro ⟨h, _⟩; rw [hq] at h; cases h)] at hKf
          simp only [A_, simprocAttr, ne_eq, (U_rec_Get _).1, fillL, rdc]
          exact ⟨_, .inr (zero_wkT _), by simpa [tupR] using hKf⟩
        | some l =>
        cases l with
        | cons y l =>
          have hKf := hK []
          rw [hbad (by rintro ⟨h, _⟩; rw [hq] at h; cases h)] at hKf
          have hpos : ((0 : Int) < (((bs (y :: l)).length : Nat) : Int)) := by rw [bs_length]; simp <;> omega
          simp only [A_, simprocAttr, ne_eq, (U_rec_Get _).1, fillL, rdc, hpos]
          exact ⟨_, .inr (zero_wkT _), by simpa [tupR] using hKf⟩
        | nil =>
          have hpos : ¬ ((0 : Int) < (((bs []).length : Nat) : Int)) := by rw [bs_length]; simp
          simp only [A_, simprocAttr, ne_eq, (U_rec_Get _).1, fillL, rdc, hpos]
          refine hW _ _ [.agg (rcc ⟨(4 : Nat), id, ⟨0, 0⟩, st, [], yes, []⟩)] _ _ (rcc_wkF ⟨(4 : Nat), id, ⟨0, 0⟩, st, [], yes, []⟩ _ _ (.inr ⟨rfl, rfl⟩) (.inr ⟨rfl, rfl⟩)) ?_
          refine h5 _ _ _ _ ⟨by simp, by simp⟩ fun G2 => ?_
          cases hg : goodRec ⟨(4 : Nat), id, ⟨0, 0⟩, st, [], yes, []⟩ with
          | false =>
            have hKf := hK ([] ++ G2)
            rw [hbad (by rintro ⟨_, h⟩; rw [hg] at h; cases h)] at hKf
            simp only [A_, simprocAttr, ne_eq, (U_rec_Get _).1, fillL]
            exact ⟨_, .inr (zero_wkT _), by simpa [tupR] using hKf⟩
          | true =>
            have hKf := hK ([] ++ G2)
            rw [hgood hq hg] at hKf
            simp only [A_, simprocAttr, ne_eq, (U_rec_Get _).1]
            exact ⟨_, .inr (rcc_wkT ⟨(4 : Nat), id, ⟨0, 0⟩, st, [], yes, []⟩ _ _ _ (.inr ⟨rfl, rfl⟩) (.inr ⟨rfl, rfl⟩)), by simpa [tupR] using hKf⟩
      · simp only [A_, simprocAttr, ne_eq, (U_rec_Get _).1, hlt, show slP acc = .list .own 1 (acc.map pI) from if_neg hacc]
        have hx : readRec (some b) = (⟨(4 : Nat), id, ⟨0, 0⟩, st, [], yes, acc⟩, q) := hrd
        have hbad : ¬ (q = some [] ∧ goodRec ⟨(4 : Nat), id, ⟨0, 0⟩, st, [], yes, acc⟩ = true) → getRec b = (zRec, 3) := fun hn => by unfold getRec; rw [hx, if_neg hn]
        have hgood : q = some [] → goodRec ⟨(4 : Nat), id, ⟨0, 0⟩, st, [], yes, acc⟩ = true → getRec b = (⟨(4 : Nat), id, ⟨0, 0⟩, st, [], yes, acc⟩, 0) := fun h1 h2 => by unfold getRec; rw [hx, if_pos ⟨h1, h2⟩]
        clear hx hrd
        cases hq : q with
        | none =>
          have hKf := hK []
          rw [hbad (by rintro ⟨h, _⟩; rw [hq] at h; cases h)] at hKf
          simp only [A_, simprocAttr, ne_eq, (U_rec_Get _).1, fillL, rdc]
          exact ⟨_, .inr (zero_wkT _), by simpa [tupR] using hKf⟩
        | some l =>
        cases l with
        | cons y l =>
          have hKf := hK []
          rw [hbad (by rintro ⟨h, _⟩; rw [hq] at h; cases h)] at hKf
          have hpos : ((0 : Int) < (((bs (y :: l)).length : Nat) : Int)) := by rw [bs_length]; simp <;> omega
          simp only [A_, simprocAttr, ne_eq, (U_rec_Get _).1, fillL, rdc, hpos]
          exact ⟨_, .inr (zero_wkT _), by simpa [tupR] using hKf⟩
        | nil =>
          have hpos : ¬ ((0 : Int) < (((bs []).length : Nat) : Int)) := by rw [bs_length]; simp
          simp only [A_, simprocAttr, ne_eq, (U_rec_Get _).1, fillL, rdc, hpos]
          refine hW _ _ [.agg (rcc ⟨(4 : Nat), id, ⟨0, 0⟩, st, [], yes, acc⟩)] _ _ (rcc_wkF ⟨(4 : Nat), id, ⟨0, 0⟩, st, [], yes, acc⟩ _ _ (.inr ⟨rfl, rfl⟩) (.inl rfl)) ?_
          refine h5 _ _ _ _ ⟨by simp, by simp; omega⟩ fun G2 => ?_
          cases hg : goodRec ⟨(4 : Nat), id, ⟨0, 0⟩, st, [], yes, acc⟩ with
          | false =>
            have hKf := hK ([] ++ G2)
            rw [hbad (by rintro ⟨_, h⟩; rw [hg] at h; cases h)] at hKf
            simp only [A_, simprocAttr, ne_eq, (U_rec_Get _).1, fillL]
            exact ⟨_, .inr (zero_wkT _), by simpa [tupR] using hKf⟩
          | true =>
            have hKf := hK ([] ++ G2)
            rw [hgood hq hg] at hKf
            simp only [A_, simprocAttr, ne_eq, (U_rec_Get _).1]
            exact ⟨_, .inr (rcc_wkT ⟨(4 : Nat), id, ⟨0, 0⟩, st, [], yes, acc⟩ _ _ _ (.inr ⟨rfl, rfl⟩) (.inl rfl)), by simpa [tupR] using hKf⟩
end Go.AM
namespace Go.AM
open Go
set_option maxRecDepth 20000
set_option linter.unusedSimpArgs false
set_option linter.unusedVariables false

end Go.AM
/-! Plain laws of records: the two readers answer alike; what was put is read back. -/
namespace Go.AM
open Go
set_option linter.unusedVariables false
set_option linter.unusedSimpArgs false

/-! the two readers -/
/-! reading on -/
/-- What was read is read alike with more behind it. -/
def Loc {α : Type} (f : Rd → α × Rd) : Prop := ∀ r q, (f r).2 = some q → ∃ b, r = some b ∧ ∀ c, f (some (b ++ c)) = ((f r).1, some (q ++ c))
theorem getG_loc : ∀ (b : List UInt8) (i acc v n : Nat) (c : List UInt8), getG i acc b = some (v, n) → getG i acc (b ++ c) = some (v, n)
  | [], i, acc, v, n, c, h => by simp [getG] at h
  | x :: b, i, acc, v, n, c, h => by
    rw [List.cons_append, getG_cons]
    rw [getG_cons] at h
    split
    · rename_i h1; rw [if_pos h1] at h; cases h
    · rename_i h1
      rw [if_neg h1] at h
      split
      · rename_i h2; rw [if_pos h2] at h; exact h
      · rename_i h2
        rw [if_neg h2] at h
        split
        · rename_i h3; rw [if_pos h3] at h; cases h
        · rename_i h3
          rw [if_neg h3] at h
          exact getG_loc b _ _ _ _ c h
theorem getN_loc {b : List UInt8} (h : (getN b).2 ≠ 0) (c : List UInt8) : getN (b ++ c) = getN b := by
  unfold getN at *
  cases hg : getG 0 0 b with
  | none => rw [hg] at h; simp at h
  | some p => rw [getG_loc b 0 0 p.1 p.2 c hg]
theorem numR_loc : Loc numR := by
  intro r q h
  cases r with
  | none => cases h
  | some b =>
    refine ⟨b, rfl, fun c => ?_⟩
    rw [numR_some] at h ⊢
    rw [numR_some]
    by_cases h0 : (getN b).2 = 0
    · rw [if_pos h0] at h; cases h
    · rw [if_neg h0] at h
      have hb := (getN_bound b).2.1
      rw [getN_loc h0, if_neg h0, if_neg h0, List.drop_append_of_le_length hb]
      cases h; rfl
theorem mostR_loc (m : Nat) : Loc (mostR m) := by
  intro r q h
  unfold mostR at h ⊢
  by_cases h1 : m < (numR r).1
  · rw [if_pos h1] at h; cases h
  · rw [if_neg h1] at h ⊢
    obtain ⟨b, hb, hc⟩ := numR_loc r q h
    refine ⟨b, hb, fun c => ?_⟩
    rw [hc c, if_neg h1]
theorem textR_loc (n : Nat) : Loc (textR n) := by
  intro r q h
  cases r with
  | none => cases h
  | some b =>
    refine ⟨b, rfl, fun c => ?_⟩
    rw [textR_some] at h ⊢
    rw [textR_some]
    by_cases h0 : b.length < n
    · rw [if_pos h0] at h; cases h
    · rw [if_neg h0] at h
      rw [if_neg h0, if_neg (by simp; omega), List.take_append_of_le_length (by omega), List.drop_append_of_le_length (by omega)]
      cases h; rfl
theorem keyR_loc : Loc keyR := by
  intro r q h
  obtain ⟨b, hb, hc⟩ := textR_loc 16 r q h
  refine ⟨b, hb, fun c => ?_⟩
  unfold keyR
  rw [hc c]
theorem stampR_loc : Loc stampR := by
  intro r q h
  unfold stampR at h ⊢
  by_cases h1 : (unpackS (numR r).1).2 = true
  · rw [if_pos h1] at h ⊢
    obtain ⟨b, hb, hc⟩ := numR_loc r q h
    refine ⟨b, hb, fun c => ?_⟩
    rw [hc c, if_pos h1]
  · rw [if_neg h1] at h; cases h
theorem Loc.dead {α : Type} {f : Rd → α × Rd} (h : Loc f) : (f none).2 = none := by
  cases hq : (f none).2 with
  | none => rfl
  | some q => obtain ⟨b, hb, _⟩ := h none q hq; cases hb
/-- One reader behind another. -/
theorem Loc.bind {α β : Type} {f : Rd → α × Rd} {g : α → Rd → β × Rd} (hf : Loc f) (hg : ∀ a, Loc (g a)) : Loc fun r => g (f r).1 (f r).2 := by
  intro r q h
  obtain ⟨b1, hb1, hc1⟩ := hg _ _ q h
  obtain ⟨b, hb, hc⟩ := hf r b1 hb1
  refine ⟨b, hb, fun c => ?_⟩
  dsimp only
  rw [hc c, hc1 c]
theorem Loc.map {α β : Type} {f : Rd → α × Rd} (hf : Loc f) (g : α → β) : Loc fun r => (g (f r).1, (f r).2) := by
  intro r q h
  obtain ⟨b, hb, hc⟩ := hf r q h
  exact ⟨b, hb, fun c => by dsimp only; rw [hc c]⟩
theorem wrR_loc : Loc wrR := by
  have h := keyR_loc.bind (g := fun k r => (fun r => (fun y r => (fun n r => (fun r => ((⟨k, (textR n r).1, decide (y = 1)⟩ : Wr), (textR n r).2)) r) (mostR 200 r).1 (mostR 200 r).2) (mostR 1 r).1 (mostR 1 r).2) r)
    fun k => (mostR_loc 1).bind fun y => (mostR_loc 200).bind fun n => (textR_loc n).map fun t => (⟨k, t, decide (y = 1)⟩ : Wr)
  exact h
theorem retR_loc {α : Type} (a : α) : Loc fun r : Rd => (a, r) := by
  intro r q h
  cases r with
  | none => cases h
  | some b => exact ⟨b, rfl, fun c => by cases h; rfl⟩
theorem wrsR_loc : ∀ n, Loc (wrsR n)
  | 0 => retR_loc []
  | n + 1 => by
    have := wrR_loc.bind (g := fun w r => (w :: (wrsR n r).1, (wrsR n r).2)) fun w => (wrsR_loc n).map fun l => w :: l
    intro r q h
    exact this r q h
theorem writesR_loc : Loc writesR := by
  intro r q h
  have h0 := (mostR_loc 16).bind wrsR_loc
  unfold writesR at h ⊢
  dsimp only at h ⊢
  split at h
  · rename_i hs
    obtain ⟨b, hb, hc⟩ := h0 r q h
    refine ⟨b, hb, fun c => ?_⟩
    have e := hc c
    dsimp only at e
    rw [e, if_pos hs]
  · cases h
theorem partsR_loc (m : Nat) : ∀ n, Loc (partsR m n)
  | 0 => retR_loc []
  | n + 1 => by
    have := (mostR_loc m).bind (g := fun (x : Nat) r => (((x : Int) :: (partsR m n r).1 : List Int), (partsR m n r).2)) fun (x : Nat) => (partsR_loc m n).map fun l => ((x : Int) :: l : List Int)
    intro r q h
    exact this r q h
theorem bodyR_loc (k : Nat) (id : Int) : Loc (bodyR k id) := by
  by_cases k1 : k = 1
  · have h := stampR_loc.bind (g := fun a r => (fun b r => ((⟨(k : Int), id, a, b, (writesR r).1, false, []⟩ : Rec), (writesR r).2)) (stampR r).1 (stampR r).2) fun a => stampR_loc.bind fun b => writesR_loc.map fun w => (⟨(k : Int), id, a, b, w, false, []⟩ : Rec)
    intro r q hq
    have e : ∀ r, bodyR k id r = (fun r => (fun a r => (fun b r => ((⟨(k : Int), id, a, b, (writesR r).1, false, []⟩ : Rec), (writesR r).2)) (stampR r).1 (stampR r).2) (stampR r).1 (stampR r).2) r := fun r => by unfold bodyR; rw [if_pos k1]
    rw [e] at hq
    obtain ⟨b, hb, hc⟩ := h r q hq
    exact ⟨b, hb, fun c => by rw [e, e]; exact hc c⟩
  by_cases k2 : k = 2 ∨ k = 5
  · have h := stampR_loc.map fun a => (⟨(k : Int), id, ⟨0, 0⟩, a, [], false, []⟩ : Rec)
    intro r q hq
    have e : ∀ r, bodyR k id r = (⟨(k : Int), id, ⟨0, 0⟩, (stampR r).1, [], false, []⟩, (stampR r).2) := fun r => by unfold bodyR; rw [if_neg k1, if_pos k2]
    rw [e] at hq
    obtain ⟨b, hb, hc⟩ := h r q hq
    exact ⟨b, hb, fun c => by rw [e, e]; exact hc c⟩
  by_cases k4 : k = 4
  · have h := (mostR_loc 1).bind (g := fun y r => (fun a r => (fun n r => ((⟨(k : Int), id, ⟨0, 0⟩, a, [], decide (y = 1), (partsR 8 n r).1⟩ : Rec), (partsR 8 n r).2)) (mostR 8 r).1 (mostR 8 r).2) (stampR r).1 (stampR r).2) fun y => stampR_loc.bind fun a => (mostR_loc 8).bind fun n => (partsR_loc 8 n).map fun l => (⟨(k : Int), id, ⟨0, 0⟩, a, [], decide (y = 1), l⟩ : Rec)
    intro r q hq
    have e : ∀ r, bodyR k id r = (fun r => (fun y r => (fun a r => (fun n r => ((⟨(k : Int), id, ⟨0, 0⟩, a, [], decide (y = 1), (partsR 8 n r).1⟩ : Rec), (partsR 8 n r).2)) (mostR 8 r).1 (mostR 8 r).2) (stampR r).1 (stampR r).2) (mostR 1 r).1 (mostR 1 r).2) r := fun r => by unfold bodyR; rw [if_neg k1, if_neg k2, if_pos k4]
    rw [e] at hq
    obtain ⟨b, hb, hc⟩ := h r q hq
    exact ⟨b, hb, fun c => by rw [e, e]; exact hc c⟩
  · intro r q hq
    have e : ∀ r, bodyR k id r = (⟨(k : Int), id, ⟨0, 0⟩, ⟨0, 0⟩, [], false, []⟩, r) := fun r => by unfold bodyR; rw [if_neg k1, if_neg k2, if_neg k4]
    rw [e] at hq
    obtain ⟨b, hb, hc⟩ := retR_loc (⟨(k : Int), id, ⟨0, 0⟩, ⟨0, 0⟩, [], false, []⟩ : Rec) r q hq
    exact ⟨b, hb, fun c => by rw [e, e]; exact hc c⟩
theorem readRec_loc : Loc readRec := by
  have h := (mostR_loc 5).bind (g := fun k r => (fun i r => bodyR k (zag i) r) (numR r).1 (numR r).2) fun k => numR_loc.bind fun i => bodyR_loc k (zag i)
  exact h
theorem getRec_more {b : List UInt8} (h : (readRec (some b)).2 = some []) {c : List UInt8} (hc : c ≠ []) : (getRec (b ++ c)).2 = 3 := by
  obtain ⟨b', hb, hl⟩ := readRec_loc (some b) [] h
  cases hb
  unfold getRec
  rw [if_neg]
  rw [hl c]
  rintro ⟨h, _⟩
  exact hc (by simpa using h)
theorem getRec_cut {b : List UInt8} (h : (readRec (some b)).2 = some []) {n : Nat} (hn : n < b.length) : (getRec (b.take n)).2 = 3 := by
  unfold getRec
  rw [if_neg]
  rintro ⟨h1, _⟩
  obtain ⟨b', hb, hl⟩ := readRec_loc (some (b.take n)) [] h1
  cases hb
  have e := hl (b.drop n)
  rw [List.take_append_drop] at e
  rw [e] at h
  have := congrArg (fun o : Rd => (o.getD []).length) h
  simp at this
  omega
end Go.AM
/-! What was put is read back. -/
namespace Go.AM
open Go
set_option linter.unusedVariables false
set_option linter.unusedSimpArgs false

theorem getG_put : ∀ (m v i acc : Nat) (c : List UInt8), v ≤ m → i ≤ 9 → v < 2 ^ (64 - 7 * i) → (0 < i → 0 < v) → getG i acc (putN v ++ c) = some (acc + v * 2 ^ (7 * i), i + (putN v).length)
  | m, v, i, acc, c, hm, hi, hv, hp => by
    by_cases h : v < 128
    · rw [putN_lt h, List.cons_append, List.nil_append, getG_cons]
      have ht : (UInt8.ofNat v).toNat = v := by simp; omega
      rw [ht, if_neg, if_pos h, if_neg]
      · rw [Nat.mod_eq_of_lt h]; rfl
      · rintro ⟨h1, h2⟩
        have := congrArg UInt8.toNat h1
        rw [ht] at this
        have := hp h2
        simp at *; omega
      · rintro ⟨rfl, h2⟩; simp at hv; omega
    · have hi8 : i ≤ 8 := by
        rcases Nat.lt_or_ge i 9 with h1 | h1
        · omega
        · have : i = 9 := by omega
          subst this; simp at hv; omega
      rw [putN_ge h, List.cons_append, getG_cons]
      have ht : (UInt8.ofNat (v % 128 + 128)).toNat = v % 128 + 128 := by simp; omega
      rw [ht, if_neg (by omega), if_neg (by omega), if_neg (by omega)]
      have hpw : 2 ^ (64 - 7 * i) = 128 * 2 ^ (64 - 7 * (i + 1)) := by
        rw [show 64 - 7 * i = 7 + (64 - 7 * (i + 1)) by omega, Nat.pow_add]
      have hq : v / 128 < 2 ^ (64 - 7 * (i + 1)) := by
        rw [hpw] at hv
        exact Nat.div_lt_of_lt_mul hv
      cases m with
      | zero => omega
      | succ m =>
        rw [getG_put m (v / 128) (i + 1) _ c (by omega) (by omega) hq (by omega)]
        have e : 2 ^ (7 * (i + 1)) = 128 * 2 ^ (7 * i) := by rw [show 7 * (i + 1) = 7 + 7 * i by omega, Nat.pow_add]
        rw [e, show (v % 128 + 128) % 128 = v % 128 by omega, List.length_cons]
        have : v = v % 128 + 128 * (v / 128) := (Nat.mod_add_div v 128).symm
        congr 2
        · generalize 2 ^ (7 * i) = p
          rw [Nat.add_assoc]
          congr 1
          conv => rhs; rw [this]
          rw [Nat.add_mul, Nat.mul_comm 128 (v / 128), Nat.mul_assoc]
        · omega
theorem getN_put {v : Nat} (h : v < 18446744073709551616) (c : List UInt8) : getN (putN v ++ c) = (v, (putN v).length) := by
  unfold getN
  rw [getG_put v v 0 0 c (Nat.le_refl _) (by omega) (by simpa using h) (by omega)]
  simp
theorem putN_pos (v : Nat) : (putN v).length ≠ 0 := by
  by_cases h : v < 128
  · rw [putN_lt h]; simp
  · rw [putN_ge h]; simp
theorem numR_put {v : Nat} (h : v < 18446744073709551616) (c : List UInt8) : numR (some (putN v ++ c)) = (v, some c) := by
  rw [numR_some, getN_put h]
  dsimp only
  rw [if_neg (putN_pos v)]
  simp
theorem mostR_put {v m : Nat} (h : v ≤ m) (hm : m < 18446744073709551616) (c : List UInt8) : mostR m (some (putN v ++ c)) = (v, some c) := by
  unfold mostR
  rw [numR_put (by omega)]
  dsimp only
  rw [if_neg (by omega)]
theorem textR_put {n : Nat} {t : List UInt8} (h : t.length = n) (c : List UInt8) : textR n (some (t ++ c)) = (t, some c) := by
  subst h
  rw [textR_some, if_neg (by simp)]
  simp
theorem padK_key (k : Key) : padK k.b = k := by
  apply Key.ext'
  show padB k.b = k.b
  unfold padB
  rw [k.h]
  simp [List.take_of_length_le (Nat.le_of_eq k.h)]
theorem keyR_put (k : Key) (c : List UInt8) : keyR (some (k.b ++ c)) = (k, some c) := by
  unfold keyR
  rw [textR_put k.h, padK_key]
theorem stampR_put {s : Stp} (h : goodS s = true) (c : List UInt8) : stampR (some (putN (packN s) ++ c)) = (s, some c) := by
  have h1 := packN_lt s
  unfold stampR
  rw [numR_put (by omega)]
  dsimp only
  rw [unpack_pack h, if_pos rfl]
theorem putW_eq (w : Wr) (c : List UInt8) : putW w ++ c = w.key.b ++ (putN (if w.gone = true then 1 else 0) ++ (putN w.val.length ++ (w.val ++ c))) := by
  unfold putW
  have : putN (if w.gone = true then 1 else 0) = [if w.gone = true then 1 else 0] := by
    cases w.gone <;> · rw [putN_lt (by simp)]; rfl
  rw [this]
  simp [List.append_assoc]
theorem wrR_put {w : Wr} (h : w.val.length ≤ 200) (c : List UInt8) : wrR (some (putW w ++ c)) = (w, some c) := by
  rw [putW_eq]
  unfold wrR
  rw [keyR_put]
  dsimp only
  rw [mostR_put (by split <;> omega) (by omega)]
  dsimp only
  rw [mostR_put h (by omega)]
  dsimp only
  rw [textR_put rfl]
  cases w with
  | mk k v g => cases g <;> rfl
theorem wrsR_put : ∀ (l : List Wr) (c : List UInt8), (∀ w ∈ l, w.val.length ≤ 200) → wrsR l.length (some (l.flatMap putW ++ c)) = (l, some c)
  | [], c, _ => rfl
  | w :: l, c, h => by
    rw [List.length_cons, wrsR, List.flatMap_cons, List.append_assoc, wrR_put (h w (List.mem_cons_self ..))]
    dsimp only
    rw [wrsR_put l c fun x hx => h x (List.mem_cons_of_mem _ hx)]
theorem sgood_vals : ∀ (l : List Wr) (seen : List Key), sgood seen l = true → ∀ w ∈ l, w.val.length ≤ 200
  | [], _, _, w, hw => by cases hw
  | x :: l, seen, h, w, hw => by
    rw [sgood] at h
    split at h
    · cases h
    split at h
    · cases h
    split at h
    · cases h
    split at h
    · cases h
    rcases List.mem_cons.1 hw with rfl | hw
    · omega
    · exact sgood_vals l _ h w hw
theorem writesR_put {l : List Wr} (h : sgood [] l = true) (hl : l.length ≤ 16) (c : List UInt8) : writesR (some (putWs l ++ c)) = (l, some c) := by
  unfold writesR putWs
  rw [List.append_assoc, mostR_put hl (by omega)]
  dsimp only
  rw [wrsR_put l c (sgood_vals l [] h)]
  dsimp only
  rw [if_pos h]
theorem partsR_put : ∀ (l : List Int) (c : List UInt8), (∀ x ∈ l, 0 ≤ x ∧ x < 8) → partsR 8 l.length (some (putP l ++ c)) = (l, some c)
  | [], c, _ => rfl
  | x :: l, c, h => by
    have hx := h x (List.mem_cons_self ..)
    show partsR 8 (l.length + 1) (some ((putN x.toNat ++ putP l) ++ c)) = _
    rw [partsR, List.append_assoc, mostR_put (by omega) (by omega)]
    dsimp only
    rw [partsR_put l c fun y hy => h y (List.mem_cons_of_mem _ hy)]
    dsimp only
    rw [show ((x.toNat : Nat) : Int) = x by omega]
theorem gparts_len : ∀ (l : List Int) (p : Int), gparts p l = true → p ≤ 7 → (l.length : Int) + p ≤ 7
  | [], p, _, hp => by simp; omega
  | x :: l, p, h, hp => by
    rw [gparts] at h
    split at h
    · cases h
    split at h
    · cases h
    split at h
    · cases h
    have := gparts_len l x h (by omega)
    simp; omega
theorem readRec_put {r : Rec} (h : goodRec r = true) (ho : okB r) : readRec (some (putRec r)) = (r, some []) := by
  have hz := zig_lt ho.lo ho.hi
  have h0 := h
  unfold goodRec at h
  split at h
  · cases h
  rename_i hn
  have hr : r = onlyR r := Classical.not_not.1 hn
  obtain ⟨kind, id, snap, stamp, ws, yes, ps⟩ := r
  unfold putRec
  rw [if_neg (by rw [h0]; simp)]
  unfold readRec
  dsimp only at *
  by_cases k1 : kind = 1
  · subst k1
    rw [if_pos rfl] at h ⊢
    unfold onlyR at hr
    simp only [if_true, Rec.mk.injEq, true_and] at hr
    obtain ⟨rfl, rfl⟩ := hr
    unfold goodE mayE at h
    simp only [Bool.and_eq_true, decide_eq_true_eq] at h
    obtain ⟨⟨⟨⟨⟨⟨a1, a2⟩, a3⟩, a4⟩, a5⟩, a6⟩, a7⟩ := h
    unfold putB
    simp only [List.append_assoc]
    rw [mostR_put (v := (1 : Int).toNat) (by decide) (by omega)]
    dsimp only
    rw [numR_put hz]
    dsimp only
    unfold bodyR
    rw [if_pos (by decide), zag_zig, stampR_put a2]
    dsimp only
    rw [stampR_put a6]
    dsimp only
    rw [← List.append_nil (putWs ws), writesR_put a5 a4]
    rfl
  rw [if_neg k1] at h
  rw [if_neg k1]
  by_cases k2 : kind = 2
  · subst k2
    rw [if_pos rfl] at h
    rw [if_pos (.inl rfl)]
    unfold onlyR at hr
    simp at hr
    obtain ⟨rfl, rfl, rfl, rfl⟩ := hr
    simp only [Bool.and_eq_true, decide_eq_true_eq] at h
    unfold putB
    simp only [List.append_assoc]
    rw [mostR_put (v := (2 : Int).toNat) (by decide) (by omega)]
    dsimp only
    rw [numR_put hz]
    dsimp only
    unfold bodyR
    rw [if_neg (by decide), if_pos (.inl (by decide)), zag_zig, ← List.append_nil (putN (packN stamp)), stampR_put h.2]
    rfl
  rw [if_neg k2] at h
  by_cases k3 : kind = 3
  · subst k3
    rw [if_neg (by omega), if_neg (by omega)]
    unfold onlyR at hr
    simp at hr
    obtain ⟨rfl, rfl, rfl, rfl, rfl⟩ := hr
    unfold putB
    rw [mostR_put (v := (3 : Int).toNat) (by decide) (by omega)]
    dsimp only
    rw [← List.append_nil (putN (zig id)), numR_put hz]
    dsimp only
    unfold bodyR
    rw [if_neg (by decide), if_neg (by decide), if_neg (by decide), zag_zig]
    rfl
  rw [if_neg k3] at h
  by_cases k4 : kind = 4
  · subst k4
    rw [if_pos rfl] at h
    rw [if_neg (by omega), if_pos rfl]
    unfold onlyR at hr
    simp at hr
    obtain ⟨rfl, _, rfl⟩ := hr
    simp only [Bool.and_eq_true, decide_eq_true_eq] at h
    obtain ⟨⟨a1, a2⟩, a3⟩ := h
    unfold goodParts at a3
    simp only [Bool.and_eq_true, decide_eq_true_eq] at a3
    have hm := gparts_mem _ _ a3.1
    have hl := gparts_len _ _ a3.1 (by omega)
    unfold putB
    simp only [List.append_assoc]
    rw [mostR_put (v := (4 : Int).toNat) (by decide) (by omega)]
    dsimp only
    rw [numR_put hz]
    dsimp only
    unfold bodyR
    rw [if_neg (by decide), if_neg (by decide), if_pos (by decide), zag_zig, mostR_put (by split <;> omega) (by omega)]
    dsimp only
    rw [stampR_put a2]
    dsimp only
    rw [mostR_put (by omega) (by omega)]
    dsimp only
    rw [← List.append_nil (putP ps), partsR_put ps [] hm]
    cases yes <;> rfl
  rw [if_neg k4] at h
  by_cases k5 : kind = 5
  · subst k5
    rw [if_pos (.inr rfl)]
    rw [if_pos rfl] at h
    unfold onlyR at hr
    simp at hr
    obtain ⟨rfl, rfl, rfl, rfl⟩ := hr
    simp only [Bool.and_eq_true, decide_eq_true_eq] at h
    unfold putB
    simp only [List.append_assoc]
    rw [mostR_put (v := (5 : Int).toNat) (by decide) (by omega)]
    dsimp only
    rw [numR_put hz]
    dsimp only
    unfold bodyR
    rw [if_neg (by decide), if_pos (.inr (by decide)), zag_zig, ← List.append_nil (putN (packN stamp)), stampR_put h.1.2]
    rfl
  rw [if_neg k5] at h
  cases h
theorem getRec_put {r : Rec} (h : goodRec r = true) (ho : okB r) : getRec (putRec r) = (r, 0) := by
  unfold getRec
  rw [readRec_put h ho, if_pos ⟨rfl, h⟩]
theorem putRec_inj {r q : Rec} (h : goodRec r = true) (ho : okB r) (h2 : goodRec q = true) (ho2 : okB q) (e : putRec r = putRec q) : r = q := by
  have := getRec_put h ho
  rw [e, getRec_put h2 ho2] at this
  exact (Prod.ext_iff.1 this).1.symm
end Go.AM
namespace Go.AM
open Go
set_option maxRecDepth 20000
set_option linter.unusedSimpArgs false
set_option linter.unusedVariables false

def awR : Rec := ⟨3, 1, ⟨0, 0⟩, ⟨0, 0⟩, [], false, []⟩
theorem aw_good : goodRec awR = true := by decide
theorem aw_ok : okB awR := ⟨by simp [awR], by simp [awR], by simp [awR], by simp [awR], by simp [awR]⟩
theorem aw_put : putRec awR = [3, 2] := by
  unfold putRec
  rw [if_neg (by rw [aw_good]; simp), if_neg (by simp [awR]), if_neg (by simp [awR]), if_neg (by simp [awR])]
  unfold putB
  rw [putN_lt (by simp [awR]), putN_lt (by simp [awR, zig])]
  rfl
theorem aw_get : getRec [3, 2] = (awR, 0) := by rw [← aw_put]; exact getRec_put aw_good aw_ok
def Awake14S (C : CallW) (f : FuncId) : Prop := ∀ S H (K : AV → St → Prop), (∀ G, K (.bool true) ⟨S, H ++ G⟩) → C (.fn f) [] ⟨S, H⟩ K
theorem aw_rcc : rcc awR = [.s (.int .i64 3), .s (.int .i64 1), .s (.int .i64 0), .s (.int .u8 0), .s (.int .i64 0), .s (.int .u8 0), .list .sh 18 [], .s (.bool false), .list .sh 1 []] := rfl
theorem awA : WkL [(AV.agg [.s (.int .i64 3), .s (.int .i64 1), .s (.int .i64 0), .s (.int .u8 0), .s (.int .i64 0), .s (.int .u8 0), .s .nilS, .s (.bool false), .s .nilS]).sh] [.agg (rcc awR)] := rcc_wk awR _ _ (.inr ⟨rfl, rfl⟩) (.inr ⟨rfl, rfl⟩)
set_option maxHeartbeats 8000000 in
theorem law14_awake_spec {C : CallW} (hW : WkC C) (P : Program) {c : Nat → FuncId} (h0 : GetRecS C (c 0)) (h1 : RecPutS C (c 1)) (h2 : SameS C (c 2)) (h3 : GoodRS C (c 3)) : ∀ S H (K : AV → St → Prop), (∀ G, K (.bool true) ⟨S, H ++ G⟩) → runL C P (C_hourglasslaw14_awake c) [] ⟨S, H⟩ K := by
  intro S H K hK
  simp only [C_hourglasslaw14_awake, A_, simprocAttr, ne_eq, (U_hourglasslaw14_awake _).1, fillL]
  refine h0 _ [3, 2] _ _ _ (.inl ⟨.full, rfl⟩) (by simp) fun G => ?_
  rw [aw_get]
  simp only [tupR, aw_rcc, A_, simprocAttr, ne_eq, (U_hourglasslaw14_awake _).1, fillL]
  refine hW _ _ [.agg (rcc awR)] _ _ (.wk awA .nil) ?_
  refine h1 _ _ _ _ aw_ok fun G2 => ?_
  rw [aw_put]
  simp only [A_, simprocAttr, ne_eq, (U_hourglasslaw14_awake _).1, conv_bs]
  refine hW _ _ [.agg (rcc awR), .agg (rcc awR)] _ _ (.same (.wk awA .nil)) ?_
  refine h2 _ _ _ _ _ aw_ok.ok aw_ok.ok ?_
  simp only [A_, simprocAttr, ne_eq, (U_hourglasslaw14_awake _).1]
  refine hW _ _ [.agg (rcc awR)] _ _ (.wk awA .nil) ?_
  refine h3 _ _ _ _ aw_ok.ok fun G3 => ?_
  rw [aw_good]
  simp only [A_, simprocAttr, ne_eq, (U_hourglasslaw14_awake _).1]
  simpa using hK (G ++ (G2 ++ G3))
theorem long14_false {l : List Wr} (h : long14 l = false) : l.length ≤ 20 ∧ ∀ w ∈ l, w.val.length ≤ 250 := by
  unfold long14 at h
  simp only [Bool.or_eq_false_iff, decide_eq_false_iff_not] at h
  refine ⟨by omega, fun w hw => ?_⟩
  have := List.any_eq_false.1 h.2 w hw
  simp at this
  omega
end Go.AM
namespace Go.AM
open Go
set_option maxRecDepth 20000
set_option linter.unusedSimpArgs false
set_option linter.unusedVariables false

def Great14S (C : CallW) (f : FuncId) : Prop := ∀ (r : Rec) S H (K : AV → St → Prop), okR r → K (.bool (great14 r)) ⟨S, H⟩ → C (.fn f) [.agg (rcc r)] ⟨S, H⟩ K
/-- A record as it comes. -/
structure inR (r : Rec) : Prop where
  ok : okR r
  lo : -9223372036854775808 ≤ r.id
  hi : r.id ≤ 9223372036854775807
theorem great_ok {r : Rec} (h : inR r) (hg : great14 r = false) : okB r := by
  unfold great14 at hg
  rw [Bool.or_eq_false_iff] at hg
  obtain ⟨h1, h2⟩ := long14_false hg.1
  have h3 : r.parts.length ≤ 12 := by have := hg.2; simp only [decide_eq_false_iff_not] at this; omega
  exact ⟨h1, h2, h3, h.lo, h.hi⟩
end Go.AM
namespace Go.AM
open Go
set_option maxRecDepth 20000
set_option linter.unusedSimpArgs false
set_option linter.unusedVariables false

theorem app_bs0 {d : List UInt8} {fl2 : Fl} {σ : St} (hd : d ≠ []) (hb : d.length ≤ 1000000000000) : appendL eB false (.list .full 1 []) (.list fl2 1 (bs d)) σ = some (.list .uniq 1 (bs d), σ) := by
  have he : elemsL eB (.list fl2 1 (bs d)) σ = some (bs d) := by simp [elemsL]
  have hne : (bs d).isEmpty = false := by cases d with
    | nil => exact absurd rfl hd
    | cons x d => rfl
  have hl : (bs d).length ≤ 2 ^ 48 := by rw [bs_length]; omega
  simp only [appendL, srcL, AV.isSlice, he, if_true, Option.bind_some, under_bs, appItems, ne_eq, not_true_eq_false, if_false, hne, Bool.false_eq_true, List.isEmpty_nil, Nat.mul_one, hl]
theorem slc_cut {l : List UInt8} {n : Nat} {k : IntKind} (h : n ≤ l.length) : sliceL (.sl 1) (.list .sh 1 (bs l)) none (some (.s (.int k (n : Int)))) none = some (.list .sh 1 (bs (l.take n))) := by
  have h2 : n ≤ (bs l).length := by rw [bs_length]; exact h
  simp only [sliceL, bound, reduceCtorEq, if_false, Int.toNat_natCast, Nat.zero_le, h2, and_self, and_true, if_true, List.drop_zero, Int.natCast_nonneg, false_and]
  rw [bs_take]
theorem putRec_len {r : Rec} (h : okB r) (hg : goodRec r = true) : putRec r ≠ [] := by
  intro e
  have := readRec_put hg h
  rw [e] at this
  have h1 : readRec (some ([] : List UInt8)) = (readRec (some [])) := rfl
  have h2 := congrArg Prod.snd this
  unfold readRec at h2
  have hm : mostR 5 (some ([] : List UInt8)) = (0, none) := rfl
  rw [hm] at h2
  have hn : numR none = (0, none) := rfl
  rw [hn] at h2
  simp [bodyR] at h2
theorem putWs_le {l : List Wr} (h1 : l.length ≤ 20) (h2 : ∀ w ∈ l, w.val.length ≤ 250) : (putWs l).length ≤ 10000 := by
  have h3 := putN_len10 (v := l.length) (by omega)
  have : ∀ l : List Wr, (∀ w ∈ l, w.val.length ≤ 250) → (l.flatMap putW).length ≤ 280 * l.length := by
    intro l
    induction l with
    | nil => intro _; simp
    | cons w l ih =>
      intro h
      have h1 := ih fun x hx => h x (List.mem_cons_of_mem _ hx)
      have h2 := h w (List.mem_cons_self ..)
      have h3 := putN_len10 (v := w.val.length) (by omega)
      have hk := w.key.h
      have h4 : (putW w).length = 17 + (putN w.val.length).length + w.val.length := by
        unfold putW
        simp only [List.length_append, List.length_cons, hk]
        omega
      rw [List.flatMap_cons, List.length_append, List.length_cons]
      omega
  have := this l h2
  unfold putWs
  rw [List.length_append]
  omega
theorem putP_le : ∀ l : List Int, (∀ x ∈ l, 0 ≤ x ∧ x < 8) → (putP l).length ≤ 10 * l.length
  | [], _ => by simp [putP]
  | x :: l, h => by
    have h1 := putP_le l fun y hy => h y (List.mem_cons_of_mem _ hy)
    have hx := h x (List.mem_cons_self ..)
    have h2 := putN_len10 (v := x.toNat) (by omega)
    show (putN x.toNat ++ putP l).length ≤ _
    rw [List.length_append, List.length_cons]
    omega
theorem putRec_le {r : Rec} (h : okB r) : (putRec r).length ≤ 1000000 := by
  have hw := putWs_le h.ws h.vs
  have h1 := pack_len r.snap
  have h2 := pack_len r.stamp
  have h3 := putN_len10 (v := r.parts.length) (by have := h.ps; omega)
  unfold putRec
  split
  · simp
  rename_i hg
  have hg : goodRec r = true := by simpa using hg
  by_cases hk : r.kind.toNat < 100
  · have hb := putB_len h hk
    split
    · simp only [List.length_append]; omega
    split
    · simp only [List.length_append]; omega
    split
    · rename_i k4
      have hp := putP_le r.parts (by
        unfold goodRec at hg
        split at hg
        · cases hg
        simp only [k4] at hg
        simp at hg
        have := hg.2
        unfold goodParts at this
        rw [Bool.and_eq_true] at this
        exact gparts_mem _ _ this.1)
      have h5 : (putN (if r.yes = true then 1 else 0)).length ≤ 10 := putN_len10 (by split <;> omega)
      have := h.ps
      simp only [List.length_append]; omega
    · omega
  · exfalso
    unfold goodRec at hg
    rw [if_neg (by omega : ¬ r.kind = 1), if_neg (by omega : ¬ r.kind = 2), if_neg (by omega : ¬ r.kind = 3), if_neg (by omega : ¬ r.kind = 4), if_neg (by omega : ¬ r.kind = 5)] at hg
    split at hg <;> cases hg
set_option maxHeartbeats 40000000 in
theorem law14_RecBack_spec {C : CallW} (P : Program) {c : Nat → FuncId} (h0 : Awake14S C (c 0)) (h1 : Great14S C (c 1)) (h2 : GoodRS C (c 2)) (h3 : RecPutS C (c 3)) (h4 : GetRecS C (c 4)) (h5 : SameS C (c 5)) : ∀ (r q : Rec) (cut : Int) (more : UInt8) S H (K : AV → St → Prop), inR r → inR q → (∀ G, K (.bool true) ⟨S, H ++ G⟩) → runL C P (C_hourglasslaw14_RecBack c) [.agg (rcc r), .agg (rcc q), .s (.int .i64 cut), u8 more] ⟨S, H⟩ K := by
  intro r q cut more S H K hr hq hK
  rw [show u8 more = .s (.int .u8 more.toNat) from rfl]
  simp only [rcc, C_hourglasslaw14_RecBack, A_, simprocAttr, ne_eq, (U_hourglasslaw14_RecBack _).1]
  refine h0 _ _ _ fun G => ?_
  simp only [A_, simprocAttr, ne_eq, (U_hourglasslaw14_RecBack _).1]
  refine h1 r _ _ _ hr.ok ?_
  cases hg : great14 r with
  | true =>
    simp only [A_, simprocAttr, ne_eq, (U_hourglasslaw14_RecBack _).1]
    exact hK _
  | false =>
  simp only [A_, simprocAttr, ne_eq, (U_hourglasslaw14_RecBack _).1]
  refine h1 q _ _ _ hq.ok ?_
  cases hg2 : great14 q with
  | true =>
    simp only [A_, simprocAttr, ne_eq, (U_hourglasslaw14_RecBack _).1]
    exact hK _
  | false =>
  have okr := great_ok hr hg
  have okq := great_ok hq hg2
  simp only [A_, simprocAttr, ne_eq, (U_hourglasslaw14_RecBack _).1]
  refine h2 r _ _ _ hr.ok fun G1 => ?_
  cases hgr : goodRec r with
  | false =>
    simp only [A_, simprocAttr, ne_eq, (U_hourglasslaw14_RecBack _).1]
    simpa using hK (G ++ G1)
  | true =>
  simp only [A_, simprocAttr, ne_eq, (U_hourglasslaw14_RecBack _).1]
  refine h3 r _ _ _ okr fun G2 => ?_
  have hgp := getRec_put hgr okr
  have hne := putRec_len okr hgr
  have hrp := readRec_put hgr okr
  have hlen := putRec_le okr
  have hinj : goodRec q = true → decide (putRec r = putRec q) = decide (r = q) := fun h => by
    by_cases e : r = q
    · subst e; simp
    · rw [decide_eq_false e, decide_eq_false fun e2 => e (putRec_inj hgr okr h okq e2)]
  generalize putRec r = b at *
  have hrp2 : (readRec (some b)).2 = some [] := by rw [hrp]
  simp only [A_, simprocAttr, ne_eq, (U_hourglasslaw14_RecBack _).1]
  refine h4 _ b _ _ _ .l (by omega) fun G3 => ?_
  rw [hgp]
  have h5' := h5 r r
  have h5q := h5 r q
  have h2q := h2 q
  have h3q := h3 q
  have h4b := h4 (.list .uniq 1 (bs (b ++ [more]))) (b ++ [more])
  unfold rcc at h5' h5q h2q h3q
  simp only [tupR, rcc, A_, simprocAttr, ne_eq, (U_hourglasslaw14_RecBack _).1]
  refine h5' _ _ _ hr.ok hr.ok ?_
  simp only [A_, simprocAttr, ne_eq, (U_hourglasslaw14_RecBack _).1]
  refine h2q _ _ _ hq.ok fun G4 => ?_
  have hbl := bs_length b
  have hmore := getRec_more hrp2 (c := [more]) (by simp)
  have hap1 : ∀ σ, appendL ⟨1, false, 1, (.s (.int .u8 0))⟩ false (.list .full 1 []) (.list .sh 1 (bs b)) σ = some (.list .uniq 1 (bs b), σ) := fun σ => app_bs0 hne (by omega)
  have hap2 : ∀ σ, appendL ⟨1, false, 1, (.s (.int .u8 0))⟩ false (.list .uniq 1 (bs b)) (.list .full 1 [.s (.int .u8 more.toNat)]) σ = some (.list .uniq 1 (bs (b ++ [more])), σ) := fun σ => app_b1 (.inl rfl) (by omega)
  cases hgq : goodRec q with
  | false =>
    simp only [A_, simprocAttr, ne_eq, (U_hourglasslaw14_RecBack _).1, conv_bs, hap1, hap2]
    refine h4b _ _ _ .l (by simp; omega) fun G6 => ?_
    obtain ⟨xm, hxm⟩ : ∃ xm, getRec (b ++ [more]) = (xm, 3) := ⟨_, Prod.ext rfl hmore⟩
    rw [hxm]
    simp only [tupR, rcc, A_, simprocAttr, ne_eq, (U_hourglasslaw14_RecBack _).1]
    by_cases hc0 : cut < 0
    · have hc0' := eq_true hc0
      simp only [A_, simprocAttr, ne_eq, (U_hourglasslaw14_RecBack _).1, hc0']
      simpa using hK (G ++ (G1 ++ (G2 ++ (G3 ++ (G4 ++ G6)))))
    obtain ⟨n, rfl⟩ : ∃ n : Nat, cut = n := ⟨cut.toNat, by omega⟩
    by_cases hc1 : n < b.length
    case neg =>
      have hc1' : ((b.length : Int) ≤ (n : Int)) := by omega
      simp only [A_, simprocAttr, ne_eq, (U_hourglasslaw14_RecBack _).1, hc0, hbl, hc1']
      simpa using hK (G ++ (G1 ++ (G2 ++ (G3 ++ (G4 ++ G6)))))
    have hc1' : ¬ ((b.length : Int) ≤ (n : Int)) := by omega
    have hsl := slc_cut (l := b) (n := n) (k := .i64) (by omega)
    simp only [A_, simprocAttr, ne_eq, (U_hourglasslaw14_RecBack _).1, hc0, hbl, hc1', hsl]
    refine h4 _ (b.take n) _ _ _ .l (by simp; omega) fun G7 => ?_
    obtain ⟨xc, hxc⟩ : ∃ xc, getRec (b.take n) = (xc, 3) := ⟨_, Prod.ext rfl (getRec_cut hrp2 hc1)⟩
    rw [hxc]
    simp only [tupR, rcc, A_, simprocAttr, ne_eq, (U_hourglasslaw14_RecBack _).1]
    simpa using hK (G ++ (G1 ++ (G2 ++ (G3 ++ (G4 ++ (G6 ++ G7))))))
  | true =>
    simp only [A_, simprocAttr, ne_eq, (U_hourglasslaw14_RecBack _).1, conv_bs]
    refine h3q _ _ _ okq fun G5 => ?_
    simp only [A_, simprocAttr, ne_eq, (U_hourglasslaw14_RecBack _).1, conv_bs]
    refine h5q _ _ _ hr.ok hq.ok ?_
    rw [hinj hgq]
    simp only [A_, simprocAttr, ne_eq, (U_hourglasslaw14_RecBack _).1, conv_bs, hap1, hap2]
    refine h4b _ _ _ .l (by simp; omega) fun G6 => ?_
    obtain ⟨xm, hxm⟩ : ∃ xm, getRec (b ++ [more]) = (xm, 3) := ⟨_, Prod.ext rfl hmore⟩
    rw [hxm]
    simp only [tupR, rcc, A_, simprocAttr, ne_eq, (U_hourglasslaw14_RecBack _).1]
    by_cases hc0 : cut < 0
    · have hc0' := eq_true hc0
      simp only [A_, simprocAttr, ne_eq, (U_hourglasslaw14_RecBack _).1, hc0']
      simpa using hK (G ++ (G1 ++ (G2 ++ (G3 ++ (G4 ++ (G5 ++ G6))))))
    obtain ⟨n, rfl⟩ : ∃ n : Nat, cut = n := ⟨cut.toNat, by omega⟩
    by_cases hc1 : n < b.length
    case neg =>
      have hc1' : ((b.length : Int) ≤ (n : Int)) := by omega
      simp only [A_, simprocAttr, ne_eq, (U_hourglasslaw14_RecBack _).1, hc0, hbl, hc1']
      simpa using hK (G ++ (G1 ++ (G2 ++ (G3 ++ (G4 ++ (G5 ++ G6))))))
    have hc1' : ¬ ((b.length : Int) ≤ (n : Int)) := by omega
    have hsl := slc_cut (l := b) (n := n) (k := .i64) (by omega)
    simp only [A_, simprocAttr, ne_eq, (U_hourglasslaw14_RecBack _).1, hc0, hbl, hc1', hsl]
    refine h4 _ (b.take n) _ _ _ .l (by simp; omega) fun G7 => ?_
    obtain ⟨xc, hxc⟩ : ∃ xc, getRec (b.take n) = (xc, 3) := ⟨_, Prod.ext rfl (getRec_cut hrp2 hc1)⟩
    rw [hxc]
    simp only [tupR, rcc, A_, simprocAttr, ne_eq, (U_hourglasslaw14_RecBack _).1]
    simpa using hK (G ++ (G1 ++ (G2 ++ (G3 ++ (G4 ++ (G5 ++ (G6 ++ G7)))))))
end Go.AM
namespace Go.AM
open Go
set_option maxRecDepth 20000
set_option linter.unusedSimpArgs false
set_option linter.unusedVariables false

structure VSt where
  best : Wr
  top : Stp
  found : Bool
end Go.AM
namespace Go.AM
open Go
set_option maxRecDepth 20000
set_option linter.unusedSimpArgs false
set_option linter.unusedVariables false

end Go.AM
namespace Go.AM
open Go
set_option maxRecDepth 20000
set_option linter.unusedSimpArgs false
set_option linter.unusedVariables false

end Go.AM
/-! What chapter 24's faults hang on: plain law. -/
namespace Go.AM
open Go
set_option linter.unusedVariables false

/-! what a key was -/
end Go.AM
namespace Go.AM
open Go
set_option maxRecDepth 20000
set_option linter.unusedSimpArgs false
set_option linter.unusedVariables false

def ofV (id snap t : Int) (s v : List UInt8) : AV := .agg [.s (.int .i64 id), .s (.int .i64 snap), u8 0, .s (.int .i64 t), u8 0, .s (.bool true), .s .nilS, .list .full 18 [.agg (wc ⟨(keyOf s).1, v, false⟩)]]
end Go.AM
namespace Go.AM
open Go
set_option maxRecDepth 20000
set_option linter.unusedSimpArgs false
set_option linter.unusedVariables false

end Go.AM
namespace Go.AM
open Go
set_option maxRecDepth 20000
set_option linter.unusedSimpArgs false
set_option linter.unusedVariables false

end Go.AM
/-! Arguments as they are read, told as the machine's values. -/
namespace Go.AM
open Go
set_option linter.unusedVariables false

section
variable {H : Type} {enc : TypeId × Value → H} {P : Program} {w : World} {sp : Nat → Bool} {held : Bool}

theorem of_each {α β : Type} {f : β → α} : ∀ (l : List α), (∀ x ∈ l, ∃ b, x = f b) → ∃ bs : List β, l = bs.map f
  | [], _ => ⟨[], rfl⟩
  | x :: l, h => by
    obtain ⟨b, rfl⟩ := h x List.mem_cons_self
    obtain ⟨bs, rfl⟩ := of_each l fun y hy => h y (List.mem_cons_of_mem _ hy)
    exact ⟨b :: bs, rfl⟩

theorem trodAll_stays {W W' : World} (hl : laidOutB P = true) (hb : RowKit.Below W.heap.size W W') : ∀ {ts : List TypeId} {vs : List Value} {ds : List (DataW H)} {ps : List MemPlace}, (∀ t ∈ ts, P.readableRec t = true ∧ t < P.types.size) →
    DataW.TrodAll enc P W 0 (fun _ => true) true ts vs ds ps → DataW.TrodAll enc P W' 0 (fun b => decide (b < W.heap.size)) true ts vs ds ps
  | [], [], [], _, _, h => h
  | t :: ts, v :: vs, d :: ds, ps, ht, ⟨p, q, h1, h2, e⟩ => by
    obtain ⟨n, hn⟩ := h1
    exact ⟨p, q, RowKit.Below.trod hl (ht t List.mem_cons_self).1 (ht t List.mem_cons_self).2 ⟨n, hn⟩ hb (DataW.trod_lt n _ _ _ hn), trodAll_stays hl hb (fun t h => ht t (List.mem_cons_of_mem _ h)) h2, e⟩
  | [], [], _ :: _, _, _, h => h.elim
  | [], _ :: _, _, _, _, h => h.elim
  | _ :: _, [], _, _, _, h => h.elim
  | _ :: _, _ :: _, [], _, _, h => h.elim

end
end Go.AM
/-! Whatever datum is an argument, told as the machine's value. -/
namespace Go.AM
open Go
set_option linter.unusedVariables false

section
variable {H : Type} {enc : TypeId × Value → H} {P : Program} {w : World} {sp : Nat → Bool} {held : Bool}

/-- Types of plain data: numbers, texts, truths, structs, arrays, slices of such. -/
def contig (P : Program) : List Field → Nat → Nat → Bool
  | [], o, tot => o == tot
  | f :: l, o, tot => f.offset == o && contig P l (o + P.cellsOf f.type) tot
def plainT (P : Program) : Nat → TypeId → Bool
  | 0, _ => false
  | d + 1, t => match P.underlying t with
    | some .bool | some (.int _) | some .string => true
    | some (.slice e) => decide (0 < P.cellsOf e) && (isAgg P e || P.cellsOf e == 1) && plainT P d e
    | some (.struct fs) => contig P fs.toList 0 (P.cellsOf t) && fs.toList.all fun f => plainT P d f.type
    | some (.array m e) => P.cellsOf t == m * P.cellsOf e && plainT P d e
    | _ => false

/-- The cells of such. -/
def shp (P : Program) : Nat → TypeId → List AV → Prop
  | 0, _, _ => False
  | d + 1, t, as => match P.underlying t with
    | some .bool => ∃ b, as = [.s (.bool b)]
    | some (.int k) => ∃ i, as = [.s (.int k i)] ∧ (Lit.int k i).wf = true
    | some .string => ∃ l, as = [.s (.str l)] ∧ l.length ≤ maxLen
    | some (.slice e) => ∃ es : List AV, as = [.list .sh (P.cellsOf e) es] ∧ es.length ≤ maxLen ∧ ∀ x ∈ es, shp P d e x.cells ∧ (isAgg P e = true → x = .agg x.cells) ∧ (isAgg P e = false → x.cells = [x])
    | some (.struct fs) => fs.toList.foldr (fun f (Q : List AV → Prop) as => ∃ a b, as = a ++ b ∧ shp P d f.type a ∧ Q b) (fun as => as = []) as
    | some (.array m e) => ∃ ps : List (List AV), ps.length = m ∧ as = ps.flatten ∧ ∀ p ∈ ps, shp P d e p
    | _ => False

/-- Cells that stand for values: whole, low. -/
structure Tells (w : World) (as : List AV) (cs : List Value) : Prop where
  vl : VL G.none w as cs
  cell : ∀ c ∈ as, c.isCell = true
  low : AV.under.go 0 as = true

theorem Tells.nil : Tells w [] [] := ⟨.nil, (fun _ h => by cases h), rfl⟩
theorem Tells.app {a b : List AV} {c d : List Value} (h : Tells w a c) (h' : Tells w b d) : Tells w (a ++ b) (c ++ d) :=
  ⟨h.vl.app h'.vl, fun x hx => (List.mem_append.1 hx).elim (h.cell x) (h'.cell x), by rw [under_app', h.low, h'.low]; rfl⟩
theorem Tells.flat : ∀ {ps : List (List AV)} {qs : List (List Value)}, ps.length = qs.length → (∀ (i : Nat) (p : List AV) (q : List Value), ps[i]? = some p → qs[i]? = some q → Tells w p q) → Tells w ps.flatten qs.flatten
  | [], [], _, _ => .nil
  | [], _ :: _, h, _ => by simp at h
  | _ :: _, [], h, _ => by simp at h
  | p :: ps, q :: qs, h, hall => by
    rw [List.flatten_cons, List.flatten_cons]
    exact (hall 0 p q rfl rfl).app (Tells.flat (by simpa using h) fun i a b ha hb => hall (i + 1) a b (by simpa using ha) (by simpa using hb))
theorem Tells.sc (x : Sc) : Tells w [.s x] [x.toV] := ⟨.sc x .nil, fun c hc => by rw [List.mem_singleton.1 hc]; rfl, rfl⟩

theorem lies_flat {b c : Nat} : ∀ (qs : List (List Value)) (off : Nat), (∀ i q, qs[i]? = some q → w.cells? 0 ⟨b, off + i * c, none⟩ c = some q) → ∀ j v, qs.flatten[j]? = some v → w.cell? ⟨b, off + j, none⟩ = some v
  | [], off, _, j, v, h => by simp at h
  | q :: qs, off, hall, j, v, h => by
    have hk := hall 0 q rfl
    rw [Nat.zero_mul, Nat.add_zero] at hk
    have hs := World.cells?_some hk
    rw [List.flatten_cons] at h
    by_cases hj : j < c
    · rw [List.getElem?_append_left (by omega)] at h
      have := hs.2.2 j hj
      rw [Addr.add_lit] at this
      rw [this]; exact h
    · rw [List.getElem?_append_right (by omega), hs.2.1] at h
      have := lies_flat qs (off + c) (fun i q hi => by
        have := hall (i + 1) q (by simpa using hi)
        rw [show off + c + i * c = off + (i + 1) * c by rw [Nat.add_mul]; omega]
        exact this) (j - c) v h
      rwa [show off + c + (j - c) = off + j by omega] at this

theorem choose_list {β : Type} {n : Nat} {p : Nat → β → Prop} (h : ∀ i, i < n → ∃ b, p i b) : ∃ l : List β, l.length = n ∧ ∀ i b, l[i]? = some b → p i b := by
  induction n with
  | zero => exact ⟨[], rfl, fun i b h => by simp at h⟩
  | succ n ih =>
    obtain ⟨l, hl, hall⟩ := ih fun i hi => h i (by omega)
    obtain ⟨b, hb⟩ := h n (by omega)
    refine ⟨l ++ [b], by simp [hl], fun i c hc => ?_⟩
    by_cases hi : i < l.length
    · rw [List.getElem?_append_left hi] at hc; exact hall i c hc
    · rw [List.getElem?_append_right (by omega)] at hc
      have : i = n := by
        have := (List.getElem?_eq_some_iff.1 hc).1
        simp at this; omega
      subst this
      rw [hl, Nat.sub_self] at hc
      injection hc with hc; subst hc; exact hb

/-- An element of a slice. -/
def elemA (ag : Bool) (as : List AV) : AV := match ag with
  | true => .agg as
  | false => as.getD 0 .undef
theorem elemA_cells {w : World} {ag : Bool} {as : List AV} {cs : List Value} (h : Tells w as cs) (hl : ag = true ∨ as.length = 1) : (elemA ag as).cells = as := by
  cases ag with
  | true => rfl
  | false =>
    obtain ⟨a, rfl⟩ := List.length_eq_one_iff.1 (hl.resolve_left (by simp))
    have hc := h.cell a (by simp)
    show a.cells = [a]
    cases a <;> simp [AV.isCell] at hc <;> rfl
theorem elemA_low {w : World} {ag : Bool} {as : List AV} {cs : List Value} (h : Tells w as cs) (hl : ag = true ∨ as.length = 1) : AV.under 0 (elemA ag as) = true := by
  cases ag with
  | true => exact h.low
  | false =>
    obtain ⟨a, rfl⟩ := List.length_eq_one_iff.1 (hl.resolve_left (by simp))
    have := h.low
    simpa [elemA, AV.under.go] using this

theorem trod_struct_shp {d m tot : Nat} {cs : List Value} (ih : ∀ t, plainT P d t = true → ∀ N cs x, DataW.trod enc P w 0 sp held N t cs = some x → ∃ as, shp P d t as ∧ Tells w as cs) (htot : cs.length = tot) :
    ∀ (l : List Field) (o : Nat), contig P l o tot = true → (l.all fun f => plainT P d f.type) = true → (∀ f ∈ l, ∃ x, DataW.trod enc P w 0 sp held m f.type ((cs.drop f.offset).take (P.cellsOf f.type)) = some x) →
    ∃ as, l.foldr (fun f (Q : List AV → Prop) as => ∃ a b, as = a ++ b ∧ shp P d f.type a ∧ Q b) (fun as => as = []) as ∧ Tells w as (cs.drop o)
  | [], o, hc, _, _ => by
    have : o = tot := by simpa [contig] using hc
    subst this
    rw [List.drop_of_length_le (by omega)]
    exact ⟨[], rfl, .nil⟩
  | f :: l, o, hc, hp, hall => by
    simp only [contig, Bool.and_eq_true, beq_iff_eq] at hc
    simp only [List.all_cons, Bool.and_eq_true] at hp
    obtain ⟨x, hx⟩ := hall f List.mem_cons_self
    obtain ⟨a, ha, hta⟩ := ih _ hp.1 _ _ _ hx
    obtain ⟨b, hb, htb⟩ := trod_struct_shp ih htot l _ hc.2 hp.2 fun g hg => hall g (List.mem_cons_of_mem _ hg)
    refine ⟨a ++ b, ⟨a, b, rfl, ha, hb⟩, ?_⟩
    rw [hc.1] at hta
    have : cs.drop o = (cs.drop o).take (P.cellsOf f.type) ++ cs.drop (o + P.cellsOf f.type) := by
      rw [← List.drop_drop, List.take_append_drop]
    rw [this]
    exact hta.app htb

theorem flat_parts {c : Nat} : ∀ (m : Nat) (cs : List Value), cs.length = m * c → ((List.range m).map fun i => (cs.drop (i * c)).take c).flatten = cs
  | 0, cs, h => by simp at h; subst h; rfl
  | m + 1, cs, h => by
    rw [List.range_succ_eq_map, List.map_cons, List.map_map, List.flatten_cons, Nat.zero_mul, List.drop_zero]
    have := flat_parts (c := c) m (cs.drop c) (by rw [List.length_drop, h, Nat.add_mul]; omega)
    have e : ((fun i => (cs.drop (i * c)).take c) ∘ Nat.succ) = fun i => ((cs.drop c).drop (i * c)).take c := by
      funext i
      simp only [Function.comp, List.drop_drop, Nat.succ_eq_add_one, Nat.add_mul, Nat.one_mul]
      rw [Nat.add_comm c]
    rw [e, this, List.take_append_drop]

/-- Whatever datum of such a type is read is a value of the machine. -/
theorem trod_shp : ∀ (d : Nat) (t : TypeId), plainT P d t = true → ∀ (N : Nat) (cs : List Value) (x : DataW H × List MemPlace), DataW.trod enc P w 0 sp held N t cs = some x → ∃ as, shp P d t as ∧ Tells w as cs
  | 0, t, h, _, _, _, _ => by simp [plainT] at h
  | d + 1, t, h, N, cs, x, hx => by
    have ih := trod_shp d
    unfold plainT at h
    unfold shp
    cases hu : P.underlying t with
    | none => rw [hu] at h; cases h
    | some D =>
      rw [hu] at h
      cases D with
      | bool =>
        obtain ⟨b, rfl, _⟩ := DataW.trod_bool hu hx
        exact ⟨_, ⟨b, rfl⟩, .sc (.bool b)⟩
      | int k =>
        obtain ⟨n, rfl, _, hw⟩ := DataW.trod_int hu hx
        exact ⟨_, ⟨n, rfl, hw⟩, .sc (.int k n)⟩
      | string =>
        obtain ⟨s, rfl, _, hl⟩ := DataW.trod_string hu hx
        refine ⟨_, ⟨s.data.toList, rfl, by simpa using hl⟩, ?_⟩
        have := Tells.sc (w := w) (.str s.data.toList)
        simpa [Sc.toV] using this
      | slice e =>
        simp only [Bool.and_eq_true, decide_eq_true_eq, Bool.or_eq_true, beq_iff_eq] at h
        obtain ⟨⟨hpos, hag⟩, hpe⟩ := h
        rcases DataW.trod_slice hu hx with ⟨rfl, _⟩ | ⟨a, len, cap, elems, rest, n, _, rfl, _, _, hle, hcap, hlen, hel, _, _⟩
        · exact ⟨_, ⟨[], rfl, Nat.zero_le _, fun _ h => by cases h⟩, ⟨.lnil hpos .nil, fun c hc => by rw [List.mem_singleton.1 hc]; rfl, rfl⟩⟩
        · have each : ∀ i, i < len → ∃ z : List Value × List AV, w.cells? 0 (a.add (i * P.cellsOf e)) (P.cellsOf e) = some z.1 ∧ shp P d e z.2 ∧ Tells w z.2 z.1 := fun i hi => by
            have h1 := hel i hi
            rw [List.getElem?_eq_getElem (by omega)] at h1
            obtain ⟨q, hq, hq2⟩ := Option.bind_eq_some_iff.1 h1
            obtain ⟨as, h2, h3⟩ := ih e hpe _ _ _ hq2
            exact ⟨(q, as), hq, h2, h3⟩
          obtain ⟨l, hl, hall⟩ := choose_list each
          have hin : ∀ z ∈ l, (∃ i, w.cells? 0 (a.add (i * P.cellsOf e)) (P.cellsOf e) = some z.1) ∧ shp P d e z.2 ∧ Tells w z.2 z.1 := fun z hz => by
            obtain ⟨i, hi⟩ := List.getElem?_of_mem hz
            exact ⟨⟨i, (hall i z hi).1⟩, (hall i z hi).2⟩
          have hone : ∀ z ∈ l, z.2.length = P.cellsOf e := fun z hz => by
            obtain ⟨⟨i, h1⟩, _, h2⟩ := hin z hz
            rw [← h2.vl.length]; exact (World.cells?_some h1).2.1
          have hag' : ∀ z ∈ l, isAgg P e = true ∨ z.2.length = 1 := fun z hz => hag.imp id fun h => by rw [hone z hz, h]
          let es : List AV := l.map fun z => elemA (isAgg P e) z.2
          have hcells : es.flatMap AV.cells = (l.map (·.2)).flatten := by
            have : ∀ (l' : List (List Value × List AV)), (∀ z ∈ l', z ∈ l) → (l'.map fun z => elemA (isAgg P e) z.2).flatMap AV.cells = (l'.map (·.2)).flatten := by
              intro l'
              induction l' with
              | nil => intro _; rfl
              | cons z l' ihl =>
                intro hs
                rw [List.map_cons, List.flatMap_cons, List.map_cons, List.flatten_cons, ihl fun y hy => hs y (List.mem_cons_of_mem _ hy)]
                have hz := hs z List.mem_cons_self
                rw [elemA_cells (hin z hz).2.2 (hag' z hz)]
            exact this l fun _ h => h
          have hspot : es = [] ∨ a.spot = none := by
            by_cases h0 : len = 0
            · left; apply List.length_eq_zero_iff.1; simp [es, hl, h0]
            · right
              obtain ⟨z, hz, _⟩ := each 0 (by omega)
              have h1 := (World.cells?_some hz).2.2 0 hpos
              have h2 : (a.add (0 * P.cellsOf e)).add 0 = a := by simp [Addr.add]
              rw [h2, List.getElem?_eq_getElem (by rw [(World.cells?_some hz).2.1]; exact hpos)] at h1
              unfold World.cell? at h1
              split at h1
              · split at h1
                · cases h1
                · rename_i h3; simpa using h3
              · cases h1
          have htell : Tells w (l.map (·.2)).flatten (l.map (·.1)).flatten := Tells.flat (by simp) fun i p q hp hq => by
            rw [List.getElem?_map] at hp hq
            cases hz : l[i]? with
            | none => rw [hz] at hp; cases hp
            | some z =>
              rw [hz] at hp hq
              injection hp with hp; injection hq with hq; subst hp; subst hq
              exact (hall i z hz).2.2
          refine ⟨_, ⟨es, rfl, by simp [es, hl]; omega, fun y hy => ?_⟩, ⟨?_, fun c hc => by rw [List.mem_singleton.1 hc]; rfl, rfl⟩⟩
          · obtain ⟨z, hz, rfl⟩ := List.mem_map.1 hy
            rw [elemA_cells (hin z hz).2.2 (hag' z hz)]
            refine ⟨(hin z hz).2.1, fun h => by rw [h]; rfl, fun h => ?_⟩
            obtain ⟨a, ha⟩ := List.length_eq_one_iff.1 ((hag' z hz).resolve_left (by rw [h]; simp))
            rw [ha, h]; rfl
          · refine .list (xs := (l.map (·.1)).flatten) (.inl rfl) (by simp [es, hl]) hle hpos hspot (fun y hy => ?_) ?_ (by rw [hcells]; exact htell.vl) (fun i v hv => ⟨?_, fun h => (show False from h)⟩) .nil
            · obtain ⟨z, hz, rfl⟩ := List.mem_map.1 hy
              rw [elemA_cells (hin z hz).2.2 (hag' z hz)]
              exact ⟨hone z hz, (hin z hz).2.2.cell⟩
            · refine under_mem.2 fun y hy => ?_
              obtain ⟨z, hz, rfl⟩ := List.mem_map.1 hy
              exact elemA_low (hin z hz).2.2 (hag' z hz)
            · rcases hspot with h0 | h0
              · have : l = [] := by simpa [es] using h0
                rw [this] at hv; simp at hv
              · obtain ⟨ab, ao, as⟩ := a
                dsimp only at h0; subst h0
                refine lies_flat (c := P.cellsOf e) _ ao (fun j q hq => ?_) i v hv
                rw [List.getElem?_map] at hq
                cases hz : l[j]? with
                | none => rw [hz] at hq; cases hq
                | some z =>
                  rw [hz] at hq
                  injection hq with hq; subst hq
                  have := (hall j z hz).1
                  rwa [Addr.add_lit] at this
      | struct fs =>
        simp only [Bool.and_eq_true] at h
        obtain ⟨xs, n, _, _, hl, hxl, hf⟩ := DataW.trod_struct hu hx
        obtain ⟨as, h1, h2⟩ := trod_struct_shp (m := n) ih hl fs.toList 0 h.1 h.2 fun f hm => by
          obtain ⟨i, hi⟩ := List.getElem?_of_mem hm
          have hi' : fs[i]? = some f := by simpa using hi
          have := hf i f hi'
          have hlt := (Array.getElem?_eq_some_iff.1 hi').1
          rw [List.getElem?_eq_getElem (by omega)] at this
          exact ⟨_, this⟩
        exact ⟨as, h1, by simpa using h2⟩
      | array m e =>
        simp only [Bool.and_eq_true, beq_iff_eq] at h
        obtain ⟨xs, n, _, _, hl, hxl, hf⟩ := DataW.trod_array hu hx
        obtain ⟨ps, hpl, hall⟩ := choose_list (n := m) (p := fun i as => shp P d e as ∧ Tells w as ((cs.drop (i * P.cellsOf e)).take (P.cellsOf e))) fun i hi => by
          have := hf i hi
          rw [List.getElem?_eq_getElem (by omega)] at this
          exact ih e h.2 _ _ _ this
        refine ⟨ps.flatten, ⟨ps, hpl, rfl, fun p hp => ?_⟩, ?_⟩
        · obtain ⟨i, hi⟩ := List.getElem?_of_mem hp
          exact (hall i p hi).1
        · rw [← flat_parts (c := P.cellsOf e) m cs (by rw [hl, h.1])]
          refine Tells.flat (by simp [hpl]) fun i p q hp hq => ?_
          have hlt : i < m := by have := (List.getElem?_eq_some_iff.1 hp).1; omega
          have : q = (cs.drop (i * P.cellsOf e)).take (P.cellsOf e) := by
            rw [List.getElem?_map, List.getElem?_range hlt] at hq
            injection hq with hq; exact hq.symm
          subst this
          exact (hall i p hp).2
      | _ => cases h

/-- An argument of such a type. -/
def argA (ag : Bool) (as : List AV) : AV := elemA ag as
theorem trod_arg {d : Nat} {t : TypeId} {v : Value} {D : DataW H} {ps : List MemPlace} (hp : plainT P d t = true) (hok : Value.okWide P w .any 0 t v) (h : DataW.Trod enc P w 0 sp held t v D ps) :
    ∃ as, shp P d t as ∧ V G.none w (argA (isAgg P t) as) v := by
  obtain ⟨n, hn⟩ := h
  obtain ⟨as, h1, h2⟩ := trod_shp d t hp n _ _ hn
  refine ⟨as, h1, ?_⟩
  cases hu : P.underlying t with
  | none =>
    cases d with
    | zero => simp [plainT] at hp
    | succ d => rw [plainT, hu] at hp; cases hp
  | some D =>
    have scalar : isAgg P t = false → (∀ xs, v ≠ .agg xs) → V G.none w (argA (isAgg P t) as) v := fun hf hv => by
      rw [hf]
      have e : v.cells.toList = [v] := by
        cases v <;> first | rfl | exact (hv _ rfl).elim
      rw [e] at h2
      obtain ⟨a, as', rfl, h3, h4⟩ : ∃ a as', as = a :: as' ∧ V G.none w a v ∧ VL G.none w as' [] := by
        cases as with
        | nil => have := h2.vl.length; simp at this
        | cons a as' =>
          obtain ⟨v', vs', hh, h3, h4⟩ := h2.vl.cons_left
          injection hh with hh1 hh2; subst hh1; subst hh2
          exact ⟨a, as', rfl, h3, h4⟩
      exact h3
    cases D with
    | struct fs =>
      simp only [Value.okWide, hu] at hok
      obtain ⟨cs, rfl, _, _⟩ := hok
      rw [show isAgg P t = true by simp [isAgg, hu]]
      exact .agg h2.cell (by simpa [Value.cells] using h2.vl) .nil
    | array m e =>
      simp only [Value.okWide, hu] at hok
      obtain ⟨cs, rfl, _, _⟩ := hok
      rw [show isAgg P t = true by simp [isAgg, hu]]
      exact .agg h2.cell (by simpa [Value.cells] using h2.vl) .nil
    | _ =>
      refine scalar (by simp [isAgg, hu]) fun xs hv => ?_
      subst hv
      simp [Value.okWide, Cell.okWide, Cell.ok, hu] at hok
end
end Go.AM
/-! Data of this program's types. -/
namespace Go.AM
open Go
set_option linter.unusedVariables false

section
variable {P : Program}

def parts (P : Program) (d : Nat) : List TypeId → List AV → Prop
  | [], as => as = []
  | u :: ts, as => ∃ a b, as = a ++ b ∧ shp P d u a ∧ parts P d ts b
theorem parts_of {d : Nat} : ∀ {fs : List Field} {as : List AV}, fs.foldr (fun f (Q : List AV → Prop) as => ∃ a b, as = a ++ b ∧ shp P d f.type a ∧ Q b) (fun as => as = []) as → parts P d (fs.map (·.type)) as
  | [], _, h => h
  | f :: fs, as, h => by
    obtain ⟨a, b, h1, h2, h3⟩ := h
    exact ⟨a, b, h1, h2, parts_of h3⟩
theorem shp_struct {d : Nat} {t : TypeId} {fs : Array Field} {ts : List TypeId} {as : List AV} (ht : P.underlying t = some (.struct fs)) (hts : fs.toList.map (·.type) = ts) (h : shp P (d + 1) t as) : parts P d ts as := by
  unfold shp at h
  rw [ht] at h
  subst hts
  exact parts_of h
theorem shp_int {d : Nat} {t : TypeId} {k : IntKind} {as : List AV} (ht : P.underlying t = some (.int k)) (h : shp P (d + 1) t as) : ∃ i, as = [.s (.int k i)] ∧ (Lit.int k i).wf = true := by
  unfold shp at h; rw [ht] at h; exact h
theorem shp_bool {d : Nat} {t : TypeId} {as : List AV} (ht : P.underlying t = some .bool) (h : shp P (d + 1) t as) : ∃ b, as = [.s (.bool b)] := by
  unfold shp at h; rw [ht] at h; exact h
theorem shp_str {d : Nat} {t : TypeId} {as : List AV} (ht : P.underlying t = some .string) (h : shp P (d + 1) t as) : ∃ l, as = [.s (.str l)] ∧ l.length ≤ maxLen := by
  unfold shp at h; rw [ht] at h; exact h
theorem shp_u8 {d : Nat} {t : TypeId} {as : List AV} (ht : P.underlying t = some (.int .u8)) (h : shp P (d + 1) t as) : ∃ b : UInt8, as = [u8 b] := by
  obtain ⟨i, rfl, hw⟩ := shp_int ht h
  have := bounds_u8 hw
  refine ⟨UInt8.ofNat i.toNat, ?_⟩
  have : ((UInt8.ofNat i.toNat).toNat : Int) = i := by rw [UInt8.toNat_ofNat']; omega
  show _ = [AV.s (.int .u8 _)]
  rw [this]
theorem shp_key {d : Nat} {t u : TypeId} {as : List AV} (ht : P.underlying t = some (.array 16 u)) (hu : P.underlying u = some (.int .u8)) (h : shp P (d + 2) t as) : ∃ k : Key, as = bs k.b := by
  unfold shp at h; rw [ht] at h
  obtain ⟨ps, hl, rfl, hall⟩ := h
  obtain ⟨l, rfl⟩ := of_each (f := fun b => [u8 b]) ps fun p hp => shp_u8 hu (hall p hp)
  refine ⟨⟨l, by simpa using hl⟩, ?_⟩
  show _ = l.map u8
  clear hl hall
  induction l with
  | nil => rfl
  | cons b l ih => simp only [List.map_cons, List.flatten_cons, ih]; rfl
/-- A struct of a key, a text, a truth. -/
theorem shp_wr {d : Nat} {t tk u ts tb : TypeId} {fs : Array Field} {as : List AV} (ht : P.underlying t = some (.struct fs)) (hf : fs.toList.map (·.type) = [tk, ts, tb]) (hk : P.underlying tk = some (.array 16 u)) (hu : P.underlying u = some (.int .u8)) (hs : P.underlying ts = some .string) (hb : P.underlying tb = some .bool)
    (h : shp P (d + 3) t as) : ∃ w : Wr, as = wc w := by
  obtain ⟨a, r, rfl, h1, a2, r2, rfl, h2, a3, r3, rfl, h3, rfl⟩ := shp_struct ht hf h
  obtain ⟨k, rfl⟩ := shp_key hk hu h1
  obtain ⟨l, rfl, _⟩ := shp_str hs h2
  obtain ⟨b, rfl⟩ := shp_bool hb h3
  exact ⟨⟨k, l, b⟩, rfl⟩
end
end Go.AM
/-! Stamps and transactions, as they are read. -/
namespace Go.AM
open Go
set_option linter.unusedVariables false
section
variable {P : Program}
theorem shp_stamp {d : Nat} {t ti tn : TypeId} {fs : Array Field} {as : List AV} (ht : P.underlying t = some (.struct fs)) (hf : fs.toList.map (·.type) = [ti, tn]) (hi : P.underlying ti = some (.int .i64)) (hn : P.underlying tn = some (.int .u8)) (h : shp P (d + 2) t as) : ∃ s : Stp, as = stc s := by
  obtain ⟨a, r, rfl, h1, a2, r2, rfl, h2, rfl⟩ := shp_struct ht hf h
  obtain ⟨i, rfl, _⟩ := shp_int hi h1
  obtain ⟨b, rfl⟩ := shp_u8 hn h2
  exact ⟨⟨i, b⟩, rfl⟩
end
end Go.AM
/-! Reading arguments: slices whose elements are told of, bounded numbers. -/
namespace Go.AM
open Go
set_option linter.unusedVariables false
variable {P : Program}
theorem wT {α : Type} {p : α → Prop} (h : ∃ x, p x) : ∃ x, p x ∧ True := h.imp fun _ e => ⟨e, trivial⟩
theorem of_eachQ {α : Type} {f : α → AV} {Q : α → Prop} : ∀ (es : List AV), (∀ x ∈ es, ∃ a, x = f a ∧ Q a) → ∃ l : List α, es = l.map f ∧ ∀ a ∈ l, Q a
  | [], _ => ⟨[], rfl, fun a h => by cases h⟩
  | x :: es, h => by
    obtain ⟨a, rfl, hq⟩ := h x (List.mem_cons_self ..)
    obtain ⟨l, rfl, hl⟩ := of_eachQ es fun y hy => h y (List.mem_cons_of_mem _ hy)
    exact ⟨a :: l, rfl, fun b hb => by rcases List.mem_cons.1 hb with rfl | hb; exact hq; exact hl b hb⟩
theorem shp_sliceQ {d : Nat} {t e : TypeId} {c : Nat} {as : List AV} {α : Type} (f : α → AV) (Q : α → Prop) (ht : P.underlying t = some (.slice e)) (hc : P.cellsOf e = c) (he : ∀ x : AV, shp P d e x.cells → (isAgg P e = true → x = .agg x.cells) → (isAgg P e = false → x.cells = [x]) → ∃ a, x = f a ∧ Q a) (h : shp P (d + 1) t as) :
    ∃ l : List α, as = [.list .sh c (l.map f)] ∧ l.length ≤ 9223372036854775807 ∧ ∀ a ∈ l, Q a := by
  subst hc
  unfold shp at h; rw [ht] at h
  obtain ⟨es, rfl, hl, hall⟩ := h
  obtain ⟨l, rfl, hq⟩ := of_eachQ (f := f) es fun x hx => he x (hall x hx).1 (hall x hx).2.1 (hall x hx).2.2
  refine ⟨l, rfl, ?_, hq⟩
  rw [List.length_map] at hl
  unfold maxLen at hl; omega
theorem shp_i64 {d : Nat} {t : TypeId} {as : List AV} (ht : P.underlying t = some (.int .i64)) (h : shp P (d + 1) t as) : ∃ i : Int, as = [.s (.int .i64 i)] ∧ -9223372036854775808 ≤ i ∧ i ≤ 9223372036854775807 := by
  obtain ⟨i, rfl, hw⟩ := shp_int ht h
  refine ⟨i, rfl, ?_⟩
  unfold Lit.wf at hw
  rw [Bool.and_eq_true] at hw
  have h1 := of_decide_eq_true hw.1
  have h2 := of_decide_eq_true hw.2
  simp [IntKind.min, IntKind.max, IntKind.signed, IntKind.bits] at h1 h2
  omega
end Go.AM
