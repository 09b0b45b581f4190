import Derived.Test.YtokgblddddfhnaaM11
import Derived.Test.YtokgblddddfhnaaM10
import Derived.Test.YtokgblddddfhnaaM7
import Derived.OpenShut
import Derived.Carry
import Derived.ChangeOld
set_option linter.unusedSimpArgs false
set_option linter.unusedVariables false
namespace Go.AM
open Go
theorem bool_eq (r : Rd) : (boolR r).1 = decide ((mostR 1 r).1 = 1) ∧ (boolR r).2 = (mostR 1 r).2 := by rw [bool_most]; exact ⟨rfl, rfl⟩
theorem mostR_n (n : Nat) : mostR n none = (0, none) := by unfold mostR numR; simp
theorem keyR_n : (keyR none).2 = none := rfl
theorem wr_alike (r : Rd) : wrR r = wrQ r ∨ ((wrR r).2 = none ∧ ((wrQ r).2 = none ∨ 200 < (wrQ r).1.val.length)) := by
  obtain ⟨h1, h2⟩ := bool_eq (keyR r).2
  unfold wrR wrQ
  rw [h1, h2]
  generalize (mostR 1 (keyR r).2).2 = q
  by_cases h : 200 < (numR q).1
  · right
    have hm : mostR 200 q = (0, none) := by unfold mostR; rw [if_pos h]
    rw [hm]
    refine ⟨rfl, ?_⟩
    dsimp only
    generalize hq : (numR q).2 = p
    cases p with
    | none => left; rfl
    | some b =>
      rw [textR_some]
      by_cases hl : b.length < (numR q).1
      · left; rw [if_pos hl]
      · right; rw [if_neg hl]; simp; omega
  · left
    have hm : mostR 200 q = numR q := by unfold mostR; rw [if_neg h]
    rw [hm]
theorem wrsR_n : ∀ (n : Nat), (wrsR n none).2 = none
  | 0 => rfl
  | n + 1 => by
    rw [wrsR]
    have : (wrR none).2 = none := by
      unfold wrR
      rw [keyR_n, mostR_n, mostR_n]
      rfl
    rw [this]; exact wrsR_n n
def outW (seen : List Key) (x : List Wr × Rd) : Option (List Wr × List UInt8) := if sgood seen x.1 = true then x.2.map fun q => (x.1, q) else none
theorem sgood_cons (seen : List Key) (w : Wr) (l : List Wr) : sgood seen (w :: l) = (sgood seen [w] && sgood (seen ++ [w.key]) l) := by
  simp only [sgood]
  split
  · rfl
  split
  · rfl
  split
  · rfl
  split
  · rfl
  rfl
theorem outW_none (seen : List Key) (l : List Wr) : outW seen (l, none) = none := by unfold outW; split <;> rfl
theorem outW_cons (seen : List Key) (w : Wr) (x : List Wr × Rd) : outW seen (w :: x.1, x.2) = if sgood seen [w] = true then (outW (seen ++ [w.key]) x).map fun p => (w :: p.1, p.2) else none := by
  unfold outW
  rw [sgood_cons]
  cases sgood seen [w] <;> cases sgood (seen ++ [w.key]) x.1 <;> cases x.2 <;> simp
theorem out_alike : ∀ (n : Nat) (seen : List Key) (r : Rd), outW seen (wrsR n r) = outW seen (wrsQ n r)
  | 0, seen, r => rfl
  | n + 1, seen, none => by
    have h : (wrsR (n + 1) none) = ((wrsR (n + 1) none).1, none) := Prod.ext rfl (wrsR_n (n + 1))
    rw [h, outW_none, wrsQ_none, outW_none]
  | n + 1, seen, some b => by
    rw [wrsR, wrsQ, outW_cons, outW_cons]
    rcases wr_alike (some b) with h | ⟨h1, h2⟩
    · rw [h, out_alike n]
    · have e1 : outW (seen ++ [(wrR (some b)).1.key]) (wrsR n (wrR (some b)).2) = none := by
        rw [h1]
        have h : (wrsR n none) = ((wrsR n none).1, none) := Prod.ext rfl (wrsR_n n)
        rw [h, outW_none]
      rw [e1]
      have l : (if sgood seen [(wrR (some b)).1] = true then Option.map (fun p : List Wr × List UInt8 => ((wrR (some b)).1 :: p.1, p.2)) none else none) = none := by split <;> rfl
      rw [l]
      rcases h2 with h2 | h2
      · rw [h2, wrsQ_none, outW_none]; split <;> rfl
      · have : sgood seen [(wrQ (some b)).1] = false := by
          simp only [sgood, h2, if_true]
          split
          · rfl
          split <;> rfl
        rw [this]; simp
theorem wrsQ_len : ∀ (n : Nat) (r : Rd), (wrsQ n r).1.length ≤ n
  | 0, r => by simp [wrsQ]
  | n + 1, none => by simp [wrsQ]
  | n + 1, some b => by rw [wrsQ, List.length_cons]; have := wrsQ_len n (wrQ (some b)).2; omega
end Go.AM
namespace Go.AM
open Go
set_option maxRecDepth 20000
theorem sgood_len {r : Rd} : (writesR r).1.length ≤ 16 := by unfold writesR; dsimp only; rw [wrsR_len]; exact mostR_le 16 r
end Go.AM
namespace Go.AM
open Go
set_option maxRecDepth 20000
theorem writesQ_len {r : Rd} : (writesQ r).1.length ≤ 16 := by unfold writesQ; dsimp only; have := wrsQ_len (mostR 16 r).1 (mostR 16 r).2; have := mostR_le 16 r; omega
end Go.AM
namespace Go.AM
open Go
theorem outW_some {l : List Wr} {r : Rd} {p : List Wr × List UInt8} (h : outW [] (l, r) = some p) : sgood [] l = true ∧ r = some p.2 ∧ l = p.1 := by
  unfold outW at h
  dsimp only at h
  split at h
  · rename_i h1
    cases r with
    | none => cases h
    | some q => cases h; exact ⟨h1, rfl, rfl⟩
  · cases h
theorem outW_no {l : List Wr} {r : Rd} (h : outW [] (l, r) = none) : sgood [] l = false ∨ r = none := by
  unfold outW at h
  dsimp only at h
  split at h
  · right
    cases r with
    | none => rfl
    | some q => cases h
  · rename_i h1; left; simpa using h1
theorem writes_alike (r : Rd) : writesR r = writesQ r ∨ ((writesR r).2 = none ∧ (writesQ r).2 = none) := by
  have ha := out_alike (mostR 16 r).1 [] (mostR 16 r).2
  have hl : (wrsQ (mostR 16 r).1 (mostR 16 r).2).1.length ≤ 16 := Nat.le_trans (wrsQ_len _ _) (mostR_le 16 _)
  unfold writesR writesQ
  generalize wrsR (mostR 16 r).1 (mostR 16 r).2 = x at ha ⊢
  generalize wrsQ (mostR 16 r).1 (mostR 16 r).2 = y at ha hl ⊢
  obtain ⟨lx, rx⟩ := x
  obtain ⟨ly, ry⟩ := y
  have hm : mayW 0 ly = sgood [] ly := by unfold mayW; rw [decide_eq_true (Nat.zero_le _), decide_eq_true hl]; simp
  dsimp only
  rw [hm]
  cases ho : outW [] (ly, ry) with
  | none =>
    right
    rw [ho] at ha
    constructor
    · rcases outW_no ha with h | h
      · rw [h]; simp
      · rw [h]; split <;> rfl
    · rcases outW_no ho with h | h
      · rw [h]; simp
      · rw [h]; split <;> rfl
  | some p =>
    left
    rw [ho] at ha
    obtain ⟨a1, a2, a3⟩ := outW_some ha
    obtain ⟨b1, b2, b3⟩ := outW_some ho
    rw [a1, a2, a3, b1, b2, b3]
def Loc {α : Type} (f : Rd → α × Rd) : Prop := ∀ r q, (f r).2 = some q → ∃ b, r = some b ∧ ∀ c, f (some (b ++ c)) = ((f r).1, some (q ++ c))
theorem getG_loc : ∀ (b : List UInt8) (i acc v n : Nat) (c : List UInt8), getG i acc b = some (v, n) → getG i acc (b ++ c) = some (v, n)
  | [], i, acc, v, n, c, h => by simp [getG] at h
  | x :: b, i, acc, v, n, c, h => by
    rw [List.cons_append, getG_cons]
    rw [getG_cons] at h
    split
    · rename_i h1; rw [if_pos h1] at h; cases h
    · rename_i h1
      rw [if_neg h1] at h
      split
      · rename_i h2; rw [if_pos h2] at h; exact h
      · rename_i h2
        rw [if_neg h2] at h
        split
        · rename_i h3; rw [if_pos h3] at h; cases h
        · rename_i h3
          rw [if_neg h3] at h
          exact getG_loc b _ _ _ _ c h
theorem getN_loc {b : List UInt8} (h : (getN b).2 ≠ 0) (c : List UInt8) : getN (b ++ c) = getN b := by
  unfold getN at *
  cases hg : getG 0 0 b with
  | none => rw [hg] at h; simp at h
  | some p => rw [getG_loc b 0 0 p.1 p.2 c hg]
theorem numR_loc : Loc numR := by
  intro r q h
  cases r with
  | none => cases h
  | some b =>
    refine ⟨b, rfl, fun c => ?_⟩
    rw [numR_some] at h ⊢
    rw [numR_some]
    by_cases h0 : (getN b).2 = 0
    · rw [if_pos h0] at h; cases h
    · rw [if_neg h0] at h
      have hb := (getN_bound b).2.1
      rw [getN_loc h0, if_neg h0, if_neg h0, List.drop_append_of_le_length hb]
      cases h; rfl
theorem mostR_loc (m : Nat) : Loc (mostR m) := by
  intro r q h
  unfold mostR at h ⊢
  by_cases h1 : m < (numR r).1
  · rw [if_pos h1] at h; cases h
  · rw [if_neg h1] at h ⊢
    obtain ⟨b, hb, hc⟩ := numR_loc r q h
    refine ⟨b, hb, fun c => ?_⟩
    rw [hc c, if_neg h1]
theorem textR_loc (n : Nat) : Loc (textR n) := by
  intro r q h
  cases r with
  | none => cases h
  | some b =>
    refine ⟨b, rfl, fun c => ?_⟩
    rw [textR_some] at h ⊢
    rw [textR_some]
    by_cases h0 : b.length < n
    · rw [if_pos h0] at h; cases h
    · rw [if_neg h0] at h
      rw [if_neg h0, if_neg (by simp; omega), List.take_append_of_le_length (by omega), List.drop_append_of_le_length (by omega)]
      cases h; rfl
theorem keyR_loc : Loc keyR := by
  intro r q h
  obtain ⟨b, hb, hc⟩ := textR_loc 16 r q h
  refine ⟨b, hb, fun c => ?_⟩
  unfold keyR
  rw [hc c]
theorem Loc.dead {α : Type} {f : Rd → α × Rd} (h : Loc f) : (f none).2 = none := by
  cases hq : (f none).2 with
  | none => rfl
  | some q => obtain ⟨b, hb, _⟩ := h none q hq; cases hb
theorem Loc.bind {α β : Type} {f : Rd → α × Rd} {g : α → Rd → β × Rd} (hf : Loc f) (hg : ∀ a, Loc (g a)) : Loc fun r => g (f r).1 (f r).2 := by
  intro r q h
  obtain ⟨b1, hb1, hc1⟩ := hg _ _ q h
  obtain ⟨b, hb, hc⟩ := hf r b1 hb1
  refine ⟨b, hb, fun c => ?_⟩
  dsimp only
  rw [hc c, hc1 c]
theorem Loc.map {α β : Type} {f : Rd → α × Rd} (hf : Loc f) (g : α → β) : Loc fun r => (g (f r).1, (f r).2) := by
  intro r q h
  obtain ⟨b, hb, hc⟩ := hf r q h
  exact ⟨b, hb, fun c => by dsimp only; rw [hc c]⟩
theorem retR_loc {α : Type} (a : α) : Loc fun r : Rd => (a, r) := by
  intro r q h
  cases r with
  | none => cases h
  | some b => exact ⟨b, rfl, fun c => by cases h; rfl⟩
end Go.AM
namespace Go.AM
open Go
theorem getG_put : ∀ (m v i acc : Nat) (c : List UInt8), v ≤ m → i ≤ 9 → v < 2 ^ (64 - 7 * i) → (0 < i → 0 < v) → getG i acc (putN v ++ c) = some (acc + v * 2 ^ (7 * i), i + (putN v).length)
  | m, v, i, acc, c, hm, hi, hv, hp => by
    by_cases h : v < 128
    · rw [putN_lt h, List.cons_append, List.nil_append, getG_cons]
      have ht : (UInt8.ofNat v).toNat = v := by simp; omega
      rw [ht, if_neg, if_pos h, if_neg]
      · rw [Nat.mod_eq_of_lt h]; rfl
      · rintro ⟨h1, h2⟩
        have := congrArg UInt8.toNat h1
        rw [ht] at this
        have := hp h2
        simp at *; omega
      · rintro ⟨rfl, h2⟩; simp at hv; omega
    · have hi8 : i ≤ 8 := by
        rcases Nat.lt_or_ge i 9 with h1 | h1
        · omega
        · have : i = 9 := by omega
          subst this; simp at hv; omega
      rw [putN_ge h, List.cons_append, getG_cons]
      have ht : (UInt8.ofNat (v % 128 + 128)).toNat = v % 128 + 128 := by simp; omega
      rw [ht, if_neg (by omega), if_neg (by omega), if_neg (by omega)]
      have hpw : 2 ^ (64 - 7 * i) = 128 * 2 ^ (64 - 7 * (i + 1)) := by
        rw [show 64 - 7 * i = 7 + (64 - 7 * (i + 1)) by omega, Nat.pow_add]
      have hq : v / 128 < 2 ^ (64 - 7 * (i + 1)) := by
        rw [hpw] at hv
        exact Nat.div_lt_of_lt_mul hv
      cases m with
      | zero => omega
      | succ m =>
        rw [getG_put m (v / 128) (i + 1) _ c (by omega) (by omega) hq (by omega)]
        have e : 2 ^ (7 * (i + 1)) = 128 * 2 ^ (7 * i) := by rw [show 7 * (i + 1) = 7 + 7 * i by omega, Nat.pow_add]
        rw [e, show (v % 128 + 128) % 128 = v % 128 by omega, List.length_cons]
        have : v = v % 128 + 128 * (v / 128) := (Nat.mod_add_div v 128).symm
        congr 2
        · generalize 2 ^ (7 * i) = p
          rw [Nat.add_assoc]
          congr 1
          conv => rhs; rw [this]
          rw [Nat.add_mul, Nat.mul_comm 128 (v / 128), Nat.mul_assoc]
        · omega
theorem getN_put {v : Nat} (h : v < 18446744073709551616) (c : List UInt8) : getN (putN v ++ c) = (v, (putN v).length) := by
  unfold getN
  rw [getG_put v v 0 0 c (Nat.le_refl _) (by omega) (by simpa using h) (by omega)]
  simp
theorem putN_pos (v : Nat) : (putN v).length ≠ 0 := by
  by_cases h : v < 128
  · rw [putN_lt h]; simp
  · rw [putN_ge h]; simp
theorem numR_put {v : Nat} (h : v < 18446744073709551616) (c : List UInt8) : numR (some (putN v ++ c)) = (v, some c) := by
  rw [numR_some, getN_put h]
  dsimp only
  rw [if_neg (putN_pos v)]
  simp
theorem mostR_put {v m : Nat} (h : v ≤ m) (hm : m < 18446744073709551616) (c : List UInt8) : mostR m (some (putN v ++ c)) = (v, some c) := by
  unfold mostR
  rw [numR_put (by omega)]
  dsimp only
  rw [if_neg (by omega)]
theorem textR_put {n : Nat} {t : List UInt8} (h : t.length = n) (c : List UInt8) : textR n (some (t ++ c)) = (t, some c) := by
  subst h
  rw [textR_some, if_neg (by simp)]
  simp
theorem padK_key (k : Key) : padK k.b = k := by
  apply Key.ext'
  show padB k.b = k.b
  unfold padB
  rw [k.h]
  simp [List.take_of_length_le (Nat.le_of_eq k.h)]
theorem keyR_put (k : Key) (c : List UInt8) : keyR (some (k.b ++ c)) = (k, some c) := by
  unfold keyR
  rw [textR_put k.h, padK_key]
theorem stampR_put {s : Stp} (h : goodS s = true) (c : List UInt8) : stampR (some (putN (packN s) ++ c)) = (s, some c) := by
  have h1 := packN_lt s
  unfold stampR
  rw [numR_put (by omega)]
  dsimp only
  rw [unpack_pack h, if_pos rfl]
theorem putW_eq (w : Wr) (c : List UInt8) : putW w ++ c = w.key.b ++ (putN (if w.gone = true then 1 else 0) ++ (putN w.val.length ++ (w.val ++ c))) := by
  unfold putW
  have : putN (if w.gone = true then 1 else 0) = [if w.gone = true then 1 else 0] := by
    cases w.gone <;> · rw [putN_lt (by simp)]; rfl
  rw [this]
  simp [List.append_assoc]
theorem wrR_put {w : Wr} (h : w.val.length ≤ 200) (c : List UInt8) : wrR (some (putW w ++ c)) = (w, some c) := by
  rw [putW_eq]
  unfold wrR
  rw [keyR_put]
  dsimp only
  rw [mostR_put (by split <;> omega) (by omega)]
  dsimp only
  rw [mostR_put h (by omega)]
  dsimp only
  rw [textR_put rfl]
  cases w with
  | mk k v g => cases g <;> rfl
theorem wrsR_put : ∀ (l : List Wr) (c : List UInt8), (∀ w ∈ l, w.val.length ≤ 200) → wrsR l.length (some (l.flatMap putW ++ c)) = (l, some c)
  | [], c, _ => rfl
  | w :: l, c, h => by
    rw [List.length_cons, wrsR, List.flatMap_cons, List.append_assoc, wrR_put (h w (List.mem_cons_self ..))]
    dsimp only
    rw [wrsR_put l c fun x hx => h x (List.mem_cons_of_mem _ hx)]
theorem sgood_vals : ∀ (l : List Wr) (seen : List Key), sgood seen l = true → ∀ w ∈ l, w.val.length ≤ 200
  | [], _, _, w, hw => by cases hw
  | x :: l, seen, h, w, hw => by
    rw [sgood] at h
    split at h
    · cases h
    split at h
    · cases h
    split at h
    · cases h
    split at h
    · cases h
    rcases List.mem_cons.1 hw with rfl | hw
    · omega
    · exact sgood_vals l _ h w hw
theorem writesR_put {l : List Wr} (h : sgood [] l = true) (hl : l.length ≤ 16) (c : List UInt8) : writesR (some (putWs l ++ c)) = (l, some c) := by
  unfold writesR putWs
  rw [List.append_assoc, mostR_put hl (by omega)]
  dsimp only
  rw [wrsR_put l c (sgood_vals l [] h)]
  dsimp only
  rw [if_pos h]
end Go.AM
namespace Go.AM
open Go
set_option maxRecDepth 20000
def WritesEqS (C : CallW) (f : FuncId) : Prop := ∀ (a b : List Wr) S H (K : AV → St → Prop), a.length ≤ 9223372036854775807 → b.length ≤ 9223372036854775807 → K (.bool (decide (a = b))) ⟨S, H⟩ → C (.fn f) [lstW a, lstW b] ⟨S, H⟩ K
end Go.AM
namespace Go.AM
open Go
set_option maxRecDepth 20000
structure inR (r : Rec) : Prop where
  ok : okR r
  lo : -9223372036854775808 ≤ r.id
  hi : r.id ≤ 9223372036854775807
end Go.AM
namespace Go.AM
open Go
set_option maxRecDepth 20000
theorem putWs_le {l : List Wr} (h1 : l.length ≤ 20) (h2 : ∀ w ∈ l, w.val.length ≤ 250) : (putWs l).length ≤ 10000 := by
  have h3 := putN_len10 (v := l.length) (by omega)
  have : ∀ l : List Wr, (∀ w ∈ l, w.val.length ≤ 250) → (l.flatMap putW).length ≤ 280 * l.length := by
    intro l
    induction l with
    | nil => intro _; simp
    | cons w l ih =>
      intro h
      have h1 := ih fun x hx => h x (List.mem_cons_of_mem _ hx)
      have h2 := h w (List.mem_cons_self ..)
      have h3 := putN_len10 (v := w.val.length) (by omega)
      have hk := w.key.h
      have h4 : (putW w).length = 17 + (putN w.val.length).length + w.val.length := by
        unfold putW
        simp only [List.length_append, List.length_cons, hk]
        omega
      rw [List.flatMap_cons, List.length_append, List.length_cons]
      omega
  have := this l h2
  unfold putWs
  rw [List.length_append]
  omega
end Go.AM
namespace Go.AM
open Go
structure It where
  key : Key
  val : List UInt8
  deriving DecidableEq
def itc (x : It) : List AV := bs x.key.b ++ [.s (.str x.val)]
def itA (x : It) : AV := .agg (itc x)
theorem itc_length (x : It) : (itc x).length = 17 := by simp [itc, kc_length]
theorem itA_under {n : Nat} {x : It} : AV.under n (itA x) = true := by simp [itA, itc, AV.under, under_app', under_bs, AV.under.go]
theorem itc_under {n : Nat} {x : It} : AV.under.go n (itc x) = true := by simp [itc, AV.under, under_app', under_bs, AV.under.go]
theorem itA_low {n : Nat} : ∀ {l : List It}, AV.under.go n (l.map itA) = true
  | [] => rfl
  | k :: l => by simp only [List.map_cons, AV.under.go, itA_under, itA_low (l := l), Bool.and_self]
theorem look_itc (x : It) : (itc x).map AV.look = itc x := by simp [itc, map_look_bs]; rfl
theorem ixl_it {l : List It} {i c : Nat} {k : IntKind} (h : i < l.length) (hc : c ≠ 0) : indexAddrL (.sl c) (.list .sh c (l.map itA)) (.s (.int k (i : Int))) = some (.rop (itc l[i])) := ixl_map h hc
theorem beq_itc (a b : It) : AV.beq.go (itc a) (itc b) = decide (a = b) := by
  rw [itc, itc, beq_app_k, beq_kk]
  cases a; cases b
  simp [AV.beq.go, AV.beq, It.mk.injEq, Bool.decide_and, Bool.and_assoc]
theorem fits_itc (w : It) : fitsL (lk ++ [.str]) (itc w) = true := by rw [itc, fits_kr]; rfl
theorem take_itc (w : It) : (itc w).take 17 = itc w := List.take_of_length_le (Nat.le_of_eq (itc_length w))
theorem take_itk (w : It) : (itc w).take 16 = bs w.key.b := take_kc _ _
theorem drop_itc (w : It) : (itc w).drop 16 = [.s (.str w.val)] := drop_kc _ _
theorem get_itc16 (x : It) : (itc x)[16]? = some (.s (.str x.val)) := by rw [itc, get_kc16]; rfl
theorem IT_ : type_of% @get_itc16 ∧ type_of% @itc_length ∧ type_of% @itc_under ∧ type_of% @itA_low ∧ type_of% @look_itc ∧ type_of% @beq_itc ∧ type_of% @fits_itc ∧ type_of% @ixl_it ∧ type_of% @take_itc ∧ type_of% @take_itk ∧ type_of% @drop_itc := ⟨@get_itc16, @itc_length, @itc_under, @itA_low, @look_itc, @beq_itc, @fits_itc, @ixl_it, @take_itc, @take_itk, @drop_itc⟩
def lstIt (l : List It) : AV := .list .sh 17 (l.map itA)
structure Msg where
  kind : Int
  frm : Int
  tto : Int
  id : Int
  num : Int
  stp : Stp
  key : Key
  unt : Key
  writes : List Wr
  items : List It
  val : List UInt8
  found : Bool
  yes : Bool
  err : Int
  deriving DecidableEq
def msc (m : Msg) : List AV := [.s (.int .i64 m.kind), .s (.int .i64 m.frm), .s (.int .i64 m.tto), .s (.int .i64 m.id), .s (.int .i64 m.num), .s (.int .i64 m.stp.t), u8 m.stp.n] ++ (bs m.key.b ++ (bs m.unt.b ++ [.list .sh 18 (m.writes.map wA), .list .sh 17 (m.items.map itA), .s (.str m.val), .s (.bool m.found), .s (.bool m.yes), .s (.int .i64 m.err)]))
theorem get_kcG {k : Key} {r : List AV} {n : Nat} (h : 16 ≤ n) : (bs k.b ++ r)[n]? = r[n - 16]? := by rw [List.getElem?_append_right (by rw [kc_length]; exact h), kc_length]
theorem set_kcG {k : Key} {r : List AV} {n : Nat} {x : AV} (h : 16 ≤ n) : (bs k.b ++ r).set n x = bs k.b ++ r.set (n - 16) x := by rw [List.set_append_right _ _ (by rw [kc_length]; exact h), kc_length]
theorem drop_kcG {k : Key} {r : List AV} {n : Nat} (h : 16 ≤ n) : (bs k.b ++ r).drop n = r.drop (n - 16) := by rw [List.drop_append, kc_length, List.drop_of_length_le (by rw [kc_length]; exact h), List.nil_append]
theorem take_kcG {k : Key} {r : List AV} {n : Nat} (h : 16 ≤ n) : (bs k.b ++ r).take n = bs k.b ++ r.take (n - 16) := by rw [List.take_append, kc_length, List.take_of_length_le (by rw [kc_length]; exact h)]
theorem KG_ : type_of% @get_kcG ∧ type_of% @set_kcG ∧ type_of% @drop_kcG ∧ type_of% @take_kcG := ⟨@get_kcG, @set_kcG, @drop_kcG, @take_kcG⟩
def okM (m : Msg) : Prop := m.writes.length ≤ 9223372036854775807 ∧ m.items.length ≤ 9223372036854775807 ∧ m.val.length ≤ 9223372036854775807 ∧ (∀ x ∈ m.items, x.val.length ≤ 9223372036854775807)
def gits : Option Key → List It → Bool
  | _, [] => true
  | p, x :: l => if goodK x.key = false then false else if 200 < x.val.length then false else if (match p with | some k => decide (0 ≤ cmpK k x.key) | none => false) = true then false else gits (some x.key) l
theorem gits_cons {p : Option Key} {x : It} {l : List It} : gits p (x :: l) = if goodK x.key = false then false else if 200 < x.val.length then false else if (match p with | some k => decide (0 ≤ cmpK k x.key) | none => false) = true then false else gits (some x.key) l := rfl
theorem gits_nil {p : Option Key} : gits p [] = true := by cases p <;> rfl
def goodIts (l : List It) : Bool := gits none l && decide (l.length ≤ 200)
def nodeB (n : Int) : Bool := decide (0 ≤ n) && decide (n ≤ 255)
def goodM (m : Msg) : Bool := if m.kind < 1 then false else if 11 < m.kind then false else if nodeB m.frm = false then false else if nodeB m.tto = false then false else if m.id < 0 then false else if goodS m.stp = false then false
  else if 200 < m.val.length then false else if m.err < 0 then false else if 12 < m.err then false else decide (m.writes.length ≤ 16) && sgood [] m.writes && goodIts m.items
end Go.AM
namespace Go.AM
open Go
set_option maxRecDepth 20000
def EqItS (C : CallW) (f : FuncId) : Prop := ∀ (a b : List It) S H (K : AV → St → Prop), a.length ≤ 9223372036854775807 → b.length ≤ 9223372036854775807 → K (.bool (decide (a = b))) ⟨S, H⟩ → C (.fn f) [lstIt a, lstIt b] ⟨S, H⟩ K
theorem Equal_Item_spec {C : CallW} (hC : LeC C C) (P : Program) : ∀ (a b : List It) S H (K : AV → St → Prop), a.length ≤ 9223372036854775807 → b.length ≤ 9223372036854775807 → K (.bool (decide (a = b))) ⟨S, H⟩ → runL C P C_slices_Equal_Item [lstIt a, lstIt b] ⟨S, H⟩ K := by
  intro a b S H K ha hb hK
  by_cases hl : a.length = b.length
  case neg =>
    have hl' : ¬ ((a.length : Int) = (b.length : Int)) := by omega
    rw [decide_eq_false (fun e => hl (by rw [e]))] at hK
    simp only [lstIt, C_slices_Equal_Item, A_, simprocAttr, ne_eq, U_slices_Equal_Item.1, hl']
    exact hK
  have hl' := eq_true (show ((a.length : Int) = (b.length : Int)) by omega)
  simp only [lstIt, C_slices_Equal_Item, A_, simprocAttr, ne_eq, U_slices_Equal_Item.1, hl']
  refine loop_rule hC (α := Nat) (fun i => a.length - i) (fun i => [.list .sh 17 (a.map itA), .list .sh 17 (b.map itA), .undef, .undef, .undef, .undef, .undef, .undef, .undef, .undef, .undef, .undef, .s (.int .i64 a.length), .s (.int .i64 i), .undef, .undef, .undef, .undef, .undef, .undef, .undef, .undef, .undef, .undef, .undef, .undef]) (fun _ => S) (fun _ => H) (fun i => i ≤ a.length ∧ decide (a = b) = decide (a.drop i = b.drop i)) 0 ⟨by simp, by simp⟩ rfl (by simp) rfl (fun a _ => by simp [AV.under, AV.under.go]) ?_
  rintro i ⟨hi, hinv⟩ ih
  by_cases h16 : i < a.length
  · have hlt : ((i : Int) < (a.length : Int)) := by omega
    have h16' : i < b.length := by omega
    have hw : IntKind.i64.wrap ((i : Int) + 1) = (i : Int) + 1 := wrap_i64 (by omega) (by omega)
    rw [List.drop_eq_getElem_cons h16, List.drop_eq_getElem_cons h16'] at hinv
    by_cases he : a[i] = b[i]
    · have he' := eq_true he
      rw [he] at hinv
      simp only [List.cons.injEq, true_and] at hinv
      simp only [A_, simprocAttr, ne_eq, U_slices_Equal_Item.1, IT_, hlt, h16, h16', he', hw]
      exact ih (i + 1) _ _ _ (by omega) ⟨by omega, hinv⟩ rfl (by simp) rfl
    · simp only [List.cons.injEq, he, false_and, decide_false] at hinv
      rw [hinv] at hK
      simp only [A_, simprocAttr, ne_eq, U_slices_Equal_Item.1, IT_, hlt, h16, h16', he]
      exact hK
  · have hlt : ¬ ((i : Int) < (a.length : Int)) := by omega
    rw [List.drop_of_length_le (by omega), List.drop_of_length_le (by omega), decide_eq_true rfl] at hinv
    rw [hinv] at hK
    simp only [A_, simprocAttr, ne_eq, U_slices_Equal_Item.1, hlt]
    exact hK
theorem ref10_Items_spec {C : CallW} (hC : LeC C C) (P : Program) : ∀ (a b : List It) S H (K : AV → St → Prop), a.length ≤ 9223372036854775807 → b.length ≤ 9223372036854775807 → K (.bool (decide (a = b))) ⟨S, H⟩ → runL C P C_hourglassref10_Items [lstIt a, lstIt b] ⟨S, H⟩ K := by
  intro a b S H K ha hb hK
  by_cases hl : a.length = b.length
  case neg =>
    have hl' : ¬ ((a.length : Int) = (b.length : Int)) := by omega
    rw [decide_eq_false (fun e => hl (by rw [e]))] at hK
    simp only [lstIt, C_hourglassref10_Items, A_, simprocAttr, ne_eq, U_hourglassref10_Items.1, hl']
    exact hK
  have hl' := eq_true (show ((a.length : Int) = (b.length : Int)) by omega)
  simp only [lstIt, C_hourglassref10_Items, A_, simprocAttr, ne_eq, U_hourglassref10_Items.1, hl']
  refine loop_rule hC (α := Nat) (fun i => a.length - i) (fun i => [.list .sh 17 (a.map itA), .list .sh 17 (b.map itA), .undef, .undef, .undef, .s (.int .i64 i), .undef, .undef, .undef, .undef, .undef, .undef, .undef, .undef, .undef, .undef, .undef, .undef, .undef, .undef, .undef, .undef, .undef, .undef, .undef, .undef]) (fun _ => S) (fun _ => H) (fun i => i ≤ a.length ∧ decide (a = b) = decide (a.drop i = b.drop i)) 0 ⟨by simp, by simp⟩ rfl (by simp) rfl (fun a _ => by simp [AV.under, AV.under.go]) ?_
  rintro i ⟨hi, hinv⟩ ih
  by_cases h16 : i < a.length
  · have hlt : ((i : Int) < (a.length : Int)) := by omega
    have h16' : i < b.length := by omega
    have hw : IntKind.i64.wrap ((i : Int) + 1) = (i : Int) + 1 := wrap_i64 (by omega) (by omega)
    rw [List.drop_eq_getElem_cons h16, List.drop_eq_getElem_cons h16'] at hinv
    by_cases he : a[i] = b[i]
    · have he' := eq_true he
      rw [he] at hinv
      simp only [List.cons.injEq, true_and] at hinv
      simp only [A_, simprocAttr, ne_eq, U_hourglassref10_Items.1, IT_, hlt, h16, h16', he', hw]
      exact ih (i + 1) _ _ _ (by omega) ⟨by omega, hinv⟩ rfl (by simp) rfl
    · simp only [List.cons.injEq, he, false_and, decide_false] at hinv
      rw [hinv] at hK
      simp only [A_, simprocAttr, ne_eq, U_hourglassref10_Items.1, IT_, hlt, h16, h16', he]
      exact hK
  · have hlt : ¬ ((i : Int) < (a.length : Int)) := by omega
    rw [List.drop_of_length_le (by omega), List.drop_of_length_le (by omega), decide_eq_true rfl] at hinv
    rw [hinv] at hK
    simp only [A_, simprocAttr, ne_eq, U_hourglassref10_Items.1, hlt]
    exact hK
theorem msg_node_spec {C : CallW} (P : Program) : ∀ (n : Int) S H (K : AV → St → Prop), K (.bool (nodeB n)) ⟨S, H⟩ → runL C P C_msg_node [.s (.int .i64 n)] ⟨S, H⟩ K := by
  intro n S H K hK
  unfold nodeB at hK
  by_cases h1 : 0 ≤ n
  · rw [decide_eq_true h1, Bool.true_and] at hK
    simp only [C_msg_node, A_, simprocAttr, ne_eq, U_msg_node.1, h1]
    exact hK
  · rw [decide_eq_false h1, Bool.false_and] at hK
    simp only [C_msg_node, A_, simprocAttr, ne_eq, U_msg_node.1, h1]
    exact hK
theorem msg_num_spec {C : CallW} (P : Program) {c : Nat → FuncId} (h0 : PutS C (c 0)) : ∀ (b : List UInt8) (v : Nat) S H (K : AV → St → Prop), b.length ≤ 1000000000 → v < 9223372036854775808 → K (.list .uniq 1 (bs (b ++ putN v))) ⟨S, H⟩ → runL C P (C_msg_num c) [.list .sh 1 (bs b), .s (.int .i64 v)] ⟨S, H⟩ K := by
  intro b v S H K hb hv hK
  have hw := wrap_u64n (n := v) (by omega)
  simp only [C_msg_num, A_, simprocAttr, ne_eq, (U_msg_num _).1, convL, hw]
  refine h0 _ b v _ _ _ .l hb (by omega) ?_
  simp only [A_, simprocAttr, ne_eq, (U_msg_num _).1]
  exact hK
theorem msg_text_spec {C : CallW} (P : Program) {c : Nat → FuncId} (h0 : NumS C (c 0)) : ∀ (b s : List UInt8) S H (K : AV → St → Prop), b.length ≤ 1000000000 → s.length ≤ 1000000000 → K (.list .uniq 1 (bs (b ++ (putN s.length ++ s)))) ⟨S, H⟩ → runL C P (C_msg_text c) [.list .sh 1 (bs b), .s (.str s)] ⟨S, H⟩ K := by
  intro b s S H K hb hs hK
  simp only [C_msg_text, A_, simprocAttr, ne_eq, (U_msg_text _).1]
  refine h0 _ b s.length _ _ _ .l hb (by omega) ?_
  have hl := putN_len10 (v := s.length) (by omega)
  have hap : ∀ σ, appendL ⟨1, false, 1, (.s (.int .u8 0))⟩ true (.list .uniq 1 (bs (b ++ putN s.length))) (.s (.str s)) σ = some (.list .uniq 1 (bs ((b ++ putN s.length) ++ s)), σ) := fun σ => app_bstr (by simp; omega)
  simp only [A_, simprocAttr, ne_eq, (U_msg_text _).1, hap]
  exact hK
end Go.AM
namespace Go.AM
open Go
set_option maxRecDepth 20000
def prevIt (l : List It) (i : Nat) : Option Key := if h : 0 < i ∧ i ≤ l.length then some (l[i - 1]'(by omega)).key else none
theorem prevIt_0 {l : List It} : prevIt l 0 = none := by unfold prevIt; rw [dif_neg (by omega)]
theorem prevIt_s {l : List It} {i : Nat} (h : i < l.length) : prevIt l (i + 1) = some (l[i]).key := by unfold prevIt; rw [dif_pos ⟨by omega, by omega⟩]; simp
theorem prevIt_p {l : List It} {i : Nat} (h : 0 < i) (h2 : i ≤ l.length) : prevIt l i = some (l[i - 1]'(by omega)).key := by unfold prevIt; rw [dif_pos ⟨h, h2⟩]
def GoodItsS (C : CallW) (f : FuncId) : Prop := ∀ (l : List It) S H (K : AV → St → Prop), l.length ≤ 9223372036854775807 → K (.bool (goodIts l)) ⟨S, H⟩ → C (.fn f) [lstIt l] ⟨S, H⟩ K
set_option maxHeartbeats 8000000 in
theorem msg_goodItems_spec {C : CallW} (hC : LeC C C) (P : Program) {c : Nat → FuncId} (h0 : BoolK goodK C (c 0)) (h1 : KCmp C (c 1)) : ∀ (l : List It) S H (K : AV → St → Prop), l.length ≤ 9223372036854775807 → K (.bool (goodIts l)) ⟨S, H⟩ → runL C P (C_msg_goodItems c) [lstIt l] ⟨S, H⟩ K := by
  intro l S H K hl hK
  unfold goodIts at hK
  simp only [lstIt, C_msg_goodItems, A_, simprocAttr, ne_eq, (U_msg_goodItems _).1, IT_]
  refine loop_rule hC (α := Nat) (fun a => l.length - a) (fun a => [.list .sh 17 (l.map itA), .undef, .undef, .undef, .undef, .list .sh 17 (l.map itA), .s (.int .i64 l.length), .s (.int .i64 a), .undef, .undef, .undef, .undef, .undef, .undef, .undef, .undef, .undef, .undef, .undef, .undef, .undef, .undef, .undef, .undef, .undef, .undef, .undef, .undef, .undef, .undef, .undef, .undef, .undef, .undef, .undef, .undef, .undef, .undef, .undef, .undef, .undef, .undef]) (fun _ => S) (fun _ => H) (fun i => i ≤ l.length ∧ gits none l = gits (prevIt l i) (l.drop i)) 0 ⟨by simp, by rw [prevIt_0]; rfl⟩ rfl (by simp) rfl (fun a _ => by simp [AV.under, AV.under.go]) ?_
  rintro i ⟨hi, hinv⟩ ih
  by_cases h16 : i < l.length
  · have hlt : ((i : Int) < (l.length : Int)) := by omega
    have hw : IntKind.i64.wrap ((i : Int) + 1) = (i : Int) + 1 := wrap_i64 (by omega) (by omega)
    rw [List.drop_eq_getElem_cons h16, gits_cons] at hinv
    simp only [A_, simprocAttr, ne_eq, (U_msg_goodItems _).1, IT_, hlt, h16]
    refine h0 _ _ _ _ ?_
    cases hg : goodK (l[i]).key with
    | false =>
      rw [if_pos hg] at hinv
      rw [hinv, Bool.false_and] at hK
      simp only [A_, simprocAttr, ne_eq, (U_msg_goodItems _).1, IT_]
      exact hK
    | true =>
    rw [if_neg (by rw [hg]; simp)] at hinv
    by_cases e3 : 200 < (l[i]).val.length
    · have e3' : ((200 : Int) < ((l[i]).val.length : Int)) := by omega
      rw [if_pos e3] at hinv
      rw [hinv, Bool.false_and] at hK
      simp only [A_, simprocAttr, ne_eq, (U_msg_goodItems _).1, IT_, e3']
      exact hK
    have e3' : ¬ ((200 : Int) < ((l[i]).val.length : Int)) := by omega
    rw [if_neg e3] at hinv
    by_cases hi0 : 0 < i
    · have hi0' : ((0 : Int) < (i : Int)) := by omega
      have hw1 : IntKind.i64.wrap ((i : Int) - 1) = ((i - 1 : Nat) : Int) := by rw [wrap_i64 (by omega) (by omega)]; omega
      have h17 : i - 1 < l.length := by omega
      rw [prevIt_p hi0 (by omega)] at hinv
      dsimp only at hinv
      simp only [A_, simprocAttr, ne_eq, (U_msg_goodItems _).1, IT_, e3', hi0', hw1, h17]
      refine h1 _ _ _ _ _ ?_
      by_cases e4 : 0 ≤ Lib.compareBytes (l[i - 1]).key.b (l[i]).key.b
      · rw [if_pos (show decide (0 ≤ cmpK (l[i - 1]).key (l[i]).key) = true from decide_eq_true e4)] at hinv
        rw [hinv, Bool.false_and] at hK
        simp only [A_, simprocAttr, ne_eq, (U_msg_goodItems _).1, IT_, e4]
        exact hK
      · rw [if_neg (show ¬ decide (0 ≤ cmpK (l[i - 1]).key (l[i]).key) = true from by rw [decide_eq_true_iff]; exact e4)] at hinv
        simp only [A_, simprocAttr, ne_eq, (U_msg_goodItems _).1, IT_, e4, hw]
        exact ih (i + 1) _ _ _ (by omega) ⟨by omega, by rw [prevIt_s h16]; exact hinv⟩ rfl (by simp) rfl
    · have hi0' : ¬ ((0 : Int) < (i : Int)) := by omega
      have : prevIt l i = none := by rw [show i = 0 by omega, prevIt_0]
      rw [this, if_neg (by simp)] at hinv
      simp only [A_, simprocAttr, ne_eq, (U_msg_goodItems _).1, IT_, e3', hi0', hw]
      exact ih (i + 1) _ _ _ (by omega) ⟨by omega, by rw [prevIt_s h16]; exact hinv⟩ rfl (by simp) rfl
  · have hlt : ¬ ((i : Int) < (l.length : Int)) := by omega
    rw [List.drop_of_length_le (by omega), gits_nil] at hinv
    rw [hinv, Bool.true_and] at hK
    by_cases e : l.length ≤ 200
    · have e' : ((l.length : Int) ≤ 200) := by omega
      rw [decide_eq_true e] at hK
      simp only [A_, simprocAttr, ne_eq, (U_msg_goodItems _).1, IT_, hlt, e']
      exact hK
    · have e' : ¬ ((l.length : Int) ≤ 200) := by omega
      rw [decide_eq_false e] at hK
      simp only [A_, simprocAttr, ne_eq, (U_msg_goodItems _).1, IT_, hlt, e']
      exact hK
def GoodMS (C : CallW) (f : FuncId) : Prop := ∀ (m : Msg) S H (K : AV → St → Prop), okM m → (∀ G, K (.bool (goodM m)) ⟨S, H ++ G⟩) → C (.fn f) [.agg (msc m)] ⟨S, H⟩ K
set_option maxHeartbeats 16000000 in
theorem msg_Good_spec {C : CallW} (P : Program) {c : Nat → FuncId} (h0 : ∀ n : Int, FnS C (c 0) [.s (.int .i64 n)] (.bool (nodeB n))) (h1 : ∀ s : Stp, FnS C (c 1) [.agg (stc s)] (.bool (goodS s))) (h2 : GoodWS C (c 2)) (h3 : GoodItsS C (c 3)) : ∀ (m : Msg) S H (K : AV → St → Prop), okM m → (∀ G, K (.bool (goodM m)) ⟨S, H ++ G⟩) → runL C P (C_msg_Good c) [.agg (msc m)] ⟨S, H⟩ K := by
  intro m S H K hm hK
  unfold goodM at hK
  have hK0 := hK []
  rw [List.append_nil] at hK0
  have h1' := h1 m.stp
  have h2' := h2 m.writes
  have h3' := h3 m.items
  unfold stc at h1'
  unfold lstW at h2'
  unfold lstIt at h3'
  by_cases a1 : m.kind < 1
  · rw [if_pos a1] at hK0
    simp only [msc, C_msg_Good, A_, simprocAttr, ne_eq, (U_msg_Good _).1, KG_, a1]
    exact hK0
  by_cases a2 : 11 < m.kind
  · rw [if_neg a1, if_pos a2] at hK0
    simp only [msc, C_msg_Good, A_, simprocAttr, ne_eq, (U_msg_Good _).1, KG_, a1, a2]
    exact hK0
  rw [if_neg a1, if_neg a2] at hK0
  simp only [if_neg a1, if_neg a2] at hK
  simp only [msc, C_msg_Good, A_, simprocAttr, ne_eq, (U_msg_Good _).1, KG_, a1, a2]
  refine h0 _ _ _ _ ?_
  cases a3 : nodeB m.frm with
  | false =>
    rw [if_pos a3] at hK0
    simp only [A_, simprocAttr, ne_eq, (U_msg_Good _).1, KG_]
    exact hK0
  | true =>
  rw [if_neg (by rw [a3]; simp)] at hK0
  rw [a3] at hK
  simp only [A_, simprocAttr, ne_eq, (U_msg_Good _).1, KG_]
  refine h0 _ _ _ _ ?_
  cases a4 : nodeB m.tto with
  | false =>
    rw [if_pos a4] at hK0
    simp only [A_, simprocAttr, ne_eq, (U_msg_Good _).1, KG_]
    exact hK0
  | true =>
  rw [if_neg (by rw [a4]; simp)] at hK0
  rw [a4] at hK
  by_cases a5 : m.id < 0
  · rw [if_pos a5] at hK0
    simp only [A_, simprocAttr, ne_eq, (U_msg_Good _).1, KG_, a5]
    exact hK0
  rw [if_neg a5] at hK0
  simp only [if_neg a5] at hK
  simp only [A_, simprocAttr, ne_eq, (U_msg_Good _).1, KG_, a5]
  refine h1' _ _ _ ?_
  cases a6 : goodS m.stp with
  | false =>
    rw [if_pos a6] at hK0
    simp only [A_, simprocAttr, ne_eq, (U_msg_Good _).1, KG_]
    exact hK0
  | true =>
  rw [if_neg (by rw [a6]; simp)] at hK0
  rw [a6] at hK
  by_cases a7 : 200 < m.val.length
  · have a7' : ((200 : Int) < (m.val.length : Int)) := by omega
    rw [if_pos a7] at hK0
    simp only [A_, simprocAttr, ne_eq, (U_msg_Good _).1, KG_, a7']
    exact hK0
  have a7' : ¬ ((200 : Int) < (m.val.length : Int)) := by omega
  rw [if_neg a7] at hK0
  by_cases a8 : m.err < 0
  · rw [if_pos a8] at hK0
    simp only [A_, simprocAttr, ne_eq, (U_msg_Good _).1, KG_, a7', a8]
    exact hK0
  rw [if_neg a8] at hK0
  by_cases a9 : 12 < m.err
  · rw [if_pos a9] at hK0
    simp only [A_, simprocAttr, ne_eq, (U_msg_Good _).1, KG_, a7', a8, a9]
    exact hK0
  rw [if_neg a9] at hK0
  simp only [if_neg a7, if_neg a8, if_neg a9, Bool.true_eq_false, if_false] at hK
  by_cases b1 : m.writes.length ≤ 16
  case neg =>
    have b1' : ¬ ((m.writes.length : Int) ≤ 16) := by omega
    rw [decide_eq_false b1, Bool.false_and, Bool.false_and] at hK0
    simp only [A_, simprocAttr, ne_eq, (U_msg_Good _).1, KG_, a7', a8, a9, b1']
    exact hK0
  have b1' : ((m.writes.length : Int) ≤ 16) := by omega
  rw [decide_eq_true b1] at hK
  simp only [Bool.true_and] at hK
  simp only [A_, simprocAttr, ne_eq, (U_msg_Good _).1, KG_, a7', a8, a9, b1']
  refine h2' _ _ _ hm.1 fun G => ?_
  have hKG := hK G
  cases b2 : sgood [] m.writes with
  | false =>
    rw [b2, Bool.false_and] at hKG
    simp only [A_, simprocAttr, ne_eq, (U_msg_Good _).1, KG_]
    exact hKG
  | true =>
  rw [b2, Bool.true_and] at hKG
  simp only [A_, simprocAttr, ne_eq, (U_msg_Good _).1, KG_]
  refine h3' _ _ _ hm.2.1 ?_
  simp only [A_, simprocAttr, ne_eq, (U_msg_Good _).1, KG_]
  exact hKG
end Go.AM
namespace Go.AM
open Go
set_option maxRecDepth 20000
def brc (m : Msg) : List AV := [.s (.int .i64 m.kind), .s (.int .i64 m.frm), .s (.int .i64 m.tto), .s (.int .i64 m.id), .s (.int .i64 m.num), .s (.int .i64 m.stp.t), u8 m.stp.n] ++ (bs m.key.b ++ (bs m.unt.b ++ [.s (.str m.val), .s (.bool m.found), .s (.bool m.yes), .s (.int .i64 m.err)]))
theorem brc_length (m : Msg) : (brc m).length = 43 := by simp [brc, kc_length]
theorem brc_under {n : Nat} {m : Msg} : AV.under.go n (brc m) = true := by simp [brc, under_app', under_bs, AV.under, AV.under.go, under_u8]
theorem brc_look (m : Msg) : (brc m).map AV.look = brc m := by simp [brc, map_look_bs, look_u8]; exact ⟨rfl, rfl, rfl, rfl, rfl, rfl, rfl, rfl, rfl, rfl⟩
theorem brc_take (m : Msg) : (brc m).take 43 = brc m := List.take_of_length_le (Nat.le_of_eq (brc_length m))
def bareEq (a b : Msg) : Bool := decide (a.kind = b.kind ∧ a.frm = b.frm ∧ a.tto = b.tto ∧ a.id = b.id ∧ a.num = b.num ∧ a.stp = b.stp ∧ a.key = b.key ∧ a.unt = b.unt ∧ a.val = b.val ∧ a.found = b.found ∧ a.yes = b.yes ∧ a.err = b.err)
theorem brc_beq (a b : Msg) : AV.beq.go (brc a) (brc b) = bareEq a b := by
  have e1 := beq_app_k a.unt b.unt
  have e2 := beq_app_k a.key b.key
  simp only [brc, List.cons_append, List.nil_append, AV.beq.go, AV.beq, e1, e2, beq_kk, u8_inj, Bool.and_true, Sc.int.injEq, Sc.str.injEq, Sc.bool.injEq, true_and]
  unfold bareEq
  have : ∀ x y : Stp, (x = y) = (x.t = y.t ∧ x.n = y.n) := fun x y => by cases x; cases y; simp [Stp.mk.injEq]
  simp only [this, Bool.decide_and, Bool.and_assoc]
abbrev brL : List LK := ([.int .i64, .int .i64, .int .i64, .int .i64, .int .i64, .int .i64] ++ lk ++ lk ++ [.int .u8, .str, .bool, .bool, .int .i64])
theorem brL_eq : brL = [.int .i64, .int .i64, .int .i64, .int .i64, .int .i64, .int .i64, .int .u8] ++ (lk ++ (lk ++ [.str, .bool, .bool, .int .i64])) := rfl
theorem brc_fits (m : Msg) : fitsL brL (brc m) = true := by
  rw [brL_eq]
  simp only [brc, List.cons_append, List.nil_append, fitsL, fits_kr, LK.fits, Bool.and_true, decide_true, Bool.true_and, u8]
theorem brc_bin {a b : Msg} : binL .eql (.leaf brL) (.agg (brc a)) (.agg (brc b)) = some (.s (.bool (bareEq a b))) := by
  simp only [binL, brc_fits, and_self, if_true, cellsEq, brc_beq]
abbrev brZ : List AV := ([(.s (.int .i64 0)), (.s (.int .i64 0)), (.s (.int .i64 0)), (.s (.int .i64 0)), (.s (.int .i64 0)), (.s (.int .i64 0))] ++ bs key0.b ++ bs key0.b ++ [(.s (.int .u8 0)), (.s (.str [])), (.s (.bool false)), (.s (.bool false)), (.s (.int .i64 0))])
theorem brZ_length : brZ.length = 43 := rfl
theorem brc_fill (m : Msg) : fillL brZ [(0, 1, .s (.int .i64 m.kind)), (1, 1, .s (.int .i64 m.frm)), (2, 1, .s (.int .i64 m.tto)), (3, 1, .s (.int .i64 m.id)), (4, 1, .s (.int .i64 m.num)), (5, 2, .agg [.s (.int .i64 m.stp.t), u8 m.stp.n]), (7, 16, .agg (bs m.key.b)), (23, 16, .agg (bs m.unt.b)), (39, 1, .s (.str m.val)), (40, 1, .s (.bool m.found)), (41, 1, .s (.bool m.yes)), (42, 1, .s (.int .i64 m.err))] = some (brc m) := by
  have hz : brZ = [(.s (.int .i64 0)), (.s (.int .i64 0)), (.s (.int .i64 0)), (.s (.int .i64 0)), (.s (.int .i64 0)), (.s (.int .i64 0)), (.s (.int .u8 0))] ++ (bs key0.b ++ (bs key0.b ++ [(.s (.str [])), (.s (.bool false)), (.s (.bool false)), (.s (.int .i64 0))])) := rfl
  rw [hz]
  have hf : ∀ x : UInt8, (u8 x).fit = true := fun _ => rfl
  simp [fillL, AV.cells, AV.fit, kc_length, take_kcG, drop_kcG, brc]
def PlainS (C : CallW) (f : FuncId) : Prop := ∀ (m : Msg), FnS C f [.agg (msc m)] (.agg (brc m))
set_option maxHeartbeats 16000000 in
theorem msg_plain_spec {C : CallW} (P : Program) : ∀ (m : Msg) S H (K : AV → St → Prop), K (.agg (brc m)) ⟨S, H⟩ → runL C P C_msg_plain [.agg (msc m)] ⟨S, H⟩ K := by
  intro m S H K hK
  have hfill := brc_fill m
  have hl := brc_length m
  have hzl := brZ_length
  simp only [List.cons_append, List.nil_append, List.append_assoc, brZ] at hfill hzl
  simp only [msc, C_msg_plain, A_, simprocAttr, ne_eq, U_msg_plain.1, KG_, hfill, List.append_assoc, hl, hzl, brc_under, brc_take, brc_look]
  exact hK
theorem stp_same {a b : Stp} (h : a = b) : (decide (a.t = b.t) && decide (a.n = b.n)) = true := by subst h; simp
theorem stp_ne {a b : Stp} (h : ¬ a = b) : (decide (a.t = b.t) && decide (a.n = b.n)) = false := by rw [stp_beq2]; exact decide_eq_false h
def SameMS (C : CallW) (f : FuncId) : Prop := ∀ (a b : Msg) S H (K : AV → St → Prop), okM a → okM b → K (.bool (decide (a = b))) ⟨S, H⟩ → C (.fn f) [.agg (msc a), .agg (msc b)] ⟨S, H⟩ K
theorem same_eq (a b : Msg) : (decide (a.writes = b.writes) && (decide (a.items = b.items) && bareEq a b)) = decide (a = b) := by
  unfold bareEq
  cases a; cases b
  simp only [Msg.mk.injEq, ← Bool.decide_and]
  apply decide_eq_decide.2
  constructor
  · rintro ⟨h1, h2, h3, h4, h5, h6, h7, h8, h9, h10, h11, h12, h13, h14⟩
    exact ⟨h3, h4, h5, h6, h7, h8, h9, h10, h1, h2, h11, h12, h13, h14⟩
  · rintro ⟨h3, h4, h5, h6, h7, h8, h9, h10, h1, h2, h11, h12, h13, h14⟩
    exact ⟨h1, h2, h3, h4, h5, h6, h7, h8, h9, h10, h11, h12, h13, h14⟩
set_option maxHeartbeats 16000000 in
theorem msg_Same_spec {C : CallW} (P : Program) {c : Nat → FuncId} (h0 : EqWS C (c 0)) (h1 : EqItS C (c 1)) (h2 : PlainS C (c 2)) : ∀ (a b : Msg) S H (K : AV → St → Prop), okM a → okM b → K (.bool (decide (a = b))) ⟨S, H⟩ → runL C P (C_msg_Same c) [.agg (msc a), .agg (msc b)] ⟨S, H⟩ K := by
  intro a b S H K ha hb hK
  rw [← same_eq] at hK
  have h0' := h0 a.writes b.writes
  have h1' := h1 a.items b.items
  have h2a := h2 a
  have h2b := h2 b
  have hbin := @brc_bin a b
  simp only [brL, List.cons_append, List.nil_append, List.append_assoc] at hbin
  unfold lstW at h0'
  unfold lstIt at h1'
  unfold msc at h2a h2b
  simp only [List.cons_append, List.nil_append] at h2a h2b
  simp only [msc, C_msg_Same, A_, simprocAttr, ne_eq, (U_msg_Same _).1, KG_]
  refine h0' _ _ _ ha.1 hb.1 ?_
  simp only [A_, simprocAttr, ne_eq, (U_msg_Same _).1, KG_]
  refine h1' _ _ _ ha.2.1 hb.2.1 ?_
  cases e1 : decide (a.writes = b.writes) with
  | false =>
    rw [e1, Bool.false_and] at hK
    simp only [A_, simprocAttr, ne_eq, (U_msg_Same _).1, KG_]
    exact hK
  | true =>
  rw [e1, Bool.true_and] at hK
  cases e2 : decide (a.items = b.items) with
  | false =>
    rw [e2, Bool.false_and] at hK
    simp only [A_, simprocAttr, ne_eq, (U_msg_Same _).1, KG_]
    exact hK
  | true =>
  rw [e2, Bool.true_and] at hK
  simp only [A_, simprocAttr, ne_eq, (U_msg_Same _).1, KG_]
  refine h2a _ _ _ ?_
  simp only [A_, simprocAttr, ne_eq, (U_msg_Same _).1, KG_]
  refine h2b _ _ _ ?_
  simp only [A_, simprocAttr, ne_eq, (U_msg_Same _).1, KG_, List.append_assoc, hbin]
  exact hK
set_option maxHeartbeats 32000000 in
theorem ref19_Same_spec {C : CallW} (P : Program) {c : Nat → FuncId} (h0 : EqWS C (c 0)) (h1 : EqItS C (c 1)) : ∀ (a b : Msg) S H (K : AV → St → Prop), okM a → okM b → K (.bool (decide (a = b))) ⟨S, H⟩ → runL C P (C_hourglassref19_Same c) [.agg (msc a), .agg (msc b)] ⟨S, H⟩ K := by
  intro a b S H K ha hb hK
  have h0' := h0 a.writes b.writes
  have h1' := h1 a.items b.items
  unfold lstW at h0'
  unfold lstIt at h1'
  by_cases e_kind : a.kind = b.kind
  case neg =>
    rw [decide_eq_false fun e => e_kind (by rw [e])] at hK
    simp only [msc, C_hourglassref19_Same, A_, simprocAttr, ne_eq, (U_hourglassref19_Same _).1, KG_, e_kind]
    exact hK
  have e_kind' := eq_true e_kind
  by_cases e_frm : a.frm = b.frm
  case neg =>
    rw [decide_eq_false fun e => e_frm (by rw [e])] at hK
    simp only [msc, C_hourglassref19_Same, A_, simprocAttr, ne_eq, (U_hourglassref19_Same _).1, KG_, e_kind', e_frm]
    exact hK
  have e_frm' := eq_true e_frm
  by_cases e_tto : a.tto = b.tto
  case neg =>
    rw [decide_eq_false fun e => e_tto (by rw [e])] at hK
    simp only [msc, C_hourglassref19_Same, A_, simprocAttr, ne_eq, (U_hourglassref19_Same _).1, KG_, e_kind', e_frm', e_tto]
    exact hK
  have e_tto' := eq_true e_tto
  by_cases e_id : a.id = b.id
  case neg =>
    rw [decide_eq_false fun e => e_id (by rw [e])] at hK
    simp only [msc, C_hourglassref19_Same, A_, simprocAttr, ne_eq, (U_hourglassref19_Same _).1, KG_, e_kind', e_frm', e_tto', e_id]
    exact hK
  have e_id' := eq_true e_id
  by_cases e_num : a.num = b.num
  case neg =>
    rw [decide_eq_false fun e => e_num (by rw [e])] at hK
    simp only [msc, C_hourglassref19_Same, A_, simprocAttr, ne_eq, (U_hourglassref19_Same _).1, KG_, e_kind', e_frm', e_tto', e_id', e_num]
    exact hK
  have e_num' := eq_true e_num
  by_cases e_stp : a.stp = b.stp
  case neg =>
    rw [decide_eq_false fun e => e_stp (by rw [e])] at hK
    have e_stp' := stp_ne e_stp
    simp only [msc, C_hourglassref19_Same, A_, simprocAttr, ne_eq, (U_hourglassref19_Same _).1, KG_, e_kind', e_frm', e_tto', e_id', e_num', e_stp']
    exact hK
  have e_stp' := stp_same e_stp
  by_cases e_key : a.key = b.key
  case neg =>
    rw [decide_eq_false fun e => e_key (by rw [e])] at hK
    simp only [msc, C_hourglassref19_Same, A_, simprocAttr, ne_eq, (U_hourglassref19_Same _).1, KG_, e_kind', e_frm', e_tto', e_id', e_num', e_stp', e_key]
    exact hK
  have e_key' := eq_true e_key
  by_cases e_unt : a.unt = b.unt
  case neg =>
    rw [decide_eq_false fun e => e_unt (by rw [e])] at hK
    simp only [msc, C_hourglassref19_Same, A_, simprocAttr, ne_eq, (U_hourglassref19_Same _).1, KG_, e_kind', e_frm', e_tto', e_id', e_num', e_stp', e_key', e_unt]
    exact hK
  have e_unt' := eq_true e_unt
  simp only [msc, C_hourglassref19_Same, A_, simprocAttr, ne_eq, (U_hourglassref19_Same _).1, KG_, e_kind', e_frm', e_tto', e_id', e_num', e_stp', e_key', e_unt']
  refine h0' _ _ _ ha.1 hb.1 ?_
  by_cases e_writes : a.writes = b.writes
  case neg =>
    rw [decide_eq_false fun e => e_writes (by rw [e])] at hK
    rw [decide_eq_false e_writes]
    simp only [A_, simprocAttr, ne_eq, (U_hourglassref19_Same _).1, KG_]
    exact hK
  rw [decide_eq_true e_writes]
  simp only [A_, simprocAttr, ne_eq, (U_hourglassref19_Same _).1, KG_]
  refine h1' _ _ _ ha.2.1 hb.2.1 ?_
  by_cases e_items : a.items = b.items
  case neg =>
    rw [decide_eq_false fun e => e_items (by rw [e])] at hK
    rw [decide_eq_false e_items]
    simp only [A_, simprocAttr, ne_eq, (U_hourglassref19_Same _).1, KG_]
    exact hK
  rw [decide_eq_true e_items]
  by_cases e_val : a.val = b.val
  case neg =>
    rw [decide_eq_false fun e => e_val (by rw [e])] at hK
    simp only [A_, simprocAttr, ne_eq, (U_hourglassref19_Same _).1, KG_, e_val]
    exact hK
  have e_val' := eq_true e_val
  by_cases e_found : a.found = b.found
  case neg =>
    rw [decide_eq_false fun e => e_found (by rw [e])] at hK
    simp only [A_, simprocAttr, ne_eq, (U_hourglassref19_Same _).1, KG_, e_val', e_found]
    exact hK
  have e_found' := eq_true e_found
  by_cases e_yes : a.yes = b.yes
  case neg =>
    rw [decide_eq_false fun e => e_yes (by rw [e])] at hK
    simp only [A_, simprocAttr, ne_eq, (U_hourglassref19_Same _).1, KG_, e_val', e_found', e_yes]
    exact hK
  have e_yes' := eq_true e_yes
  by_cases e_err : a.err = b.err
  case neg =>
    rw [decide_eq_false fun e => e_err (by rw [e])] at hK
    simp only [A_, simprocAttr, ne_eq, (U_hourglassref19_Same _).1, KG_, e_val', e_found', e_yes', e_err]
    exact hK
  have e_err' := eq_true e_err
  have hab : a = b := by cases a; cases b; simp_all
  rw [decide_eq_true hab] at hK
  simp only [A_, simprocAttr, ne_eq, (U_hourglassref19_Same _).1, KG_, e_val', e_found', e_yes', e_err']
  exact hK
end Go.AM
namespace Go.AM
open Go
set_option maxRecDepth 20000
structure okMB (m : Msg) : Prop where
  ws : m.writes.length ≤ 20
  vs : ∀ w ∈ m.writes, w.val.length ≤ 250
  is : m.items.length ≤ 20
  iv : ∀ w ∈ m.items, w.val.length ≤ 250
  vl : m.val.length ≤ 250
  il : -9223372036854775808 ≤ m.id
  ih : m.id ≤ 9223372036854775807
  nl : -9223372036854775808 ≤ m.num
  nh : m.num ≤ 9223372036854775807
theorem okMB.ok {m : Msg} (h : okMB m) : okM m := ⟨by have := h.ws; omega, by have := h.is; omega, by have := h.vl; omega, fun x hx => by have := h.iv x hx; omega⟩
def flB (f y : Bool) : UInt8 := match f, y with
  | false, false => 0
  | true, false => 1
  | false, true => 2
  | true, true => 3
def putIt (x : It) : List UInt8 := x.key.b ++ (putN x.val.length ++ x.val)
def hd2 (m : Msg) : List UInt8 := putN m.kind.toNat ++ (putN m.frm.toNat ++ (putN m.tto.toNat ++ (putN m.id.toNat ++ (putN (zig m.num) ++ putN (packN m.stp)))))
def tlB (m : Msg) : List UInt8 := putN m.val.length ++ (m.val ++ (flB m.found m.yes :: putN m.err.toNat))
def putM (m : Msg) : List UInt8 := if goodM m = false then [] else hd2 m ++ (m.key.b ++ (m.unt.b ++ (putWs m.writes ++ (putN m.items.length ++ (m.items.flatMap putIt ++ tlB m)))))
structure goodMp (m : Msg) : Prop where
  k1 : 1 ≤ m.kind
  k2 : m.kind ≤ 11
  f1 : 0 ≤ m.frm
  f2 : m.frm ≤ 255
  t1 : 0 ≤ m.tto
  t2 : m.tto ≤ 255
  i1 : 0 ≤ m.id
  s1 : goodS m.stp = true
  v1 : m.val.length ≤ 200
  e1 : 0 ≤ m.err
  e2 : m.err ≤ 12
  w1 : m.writes.length ≤ 16
  w2 : sgood [] m.writes = true
  g1 : gits none m.items = true
  g2 : m.items.length ≤ 200
theorem goodM_p {m : Msg} (h : goodM m = true) : goodMp m := by
  unfold goodM at h
  split at h
  · cases h
  split at h
  · cases h
  split at h
  · cases h
  split at h
  · cases h
  split at h
  · cases h
  split at h
  · cases h
  split at h
  · cases h
  split at h
  · cases h
  split at h
  · cases h
  rename_i a1 a2 a3 a4 a5 a6 a7 a8 a9
  unfold goodIts at h
  simp only [Bool.and_eq_true, decide_eq_true_eq] at h
  unfold nodeB at a3 a4
  simp at a3 a4
  exact ⟨by omega, by omega, by omega, by omega, by omega, by omega, by omega, by simpa using a6, by omega, by omega, by omega, h.1.1, h.1.2, h.2.1, h.2.2⟩
theorem goodM_i {m : Msg} (h : goodMp m) : goodM m = true := by
  unfold goodM goodIts nodeB
  rw [if_neg (by have := h.k1; omega), if_neg (by have := h.k2; omega), if_neg (by simp; exact ⟨h.f1, h.f2⟩), if_neg (by simp; exact ⟨h.t1, h.t2⟩), if_neg (by have := h.i1; omega), if_neg (by rw [h.s1]; simp), if_neg (by have := h.v1; omega), if_neg (by have := h.e1; omega), if_neg (by have := h.e2; omega)]
  simp only [Bool.and_eq_true, decide_eq_true_eq]
  exact ⟨⟨h.w1, h.w2⟩, h.g1, h.g2⟩
theorem putIt_len {x : It} (h : x.val.length ≤ 250) : (putIt x).length ≤ 280 := by
  have := putN_len10 (v := x.val.length) (by omega)
  unfold putIt
  simp [x.key.h]; omega
theorem putIts_len : ∀ (l : List It), (∀ w ∈ l, w.val.length ≤ 250) → (l.flatMap putIt).length ≤ 280 * l.length
  | [], _ => by simp
  | x :: l, h => by
    have h1 := putIts_len l fun y hy => h y (List.mem_cons_of_mem _ hy)
    have h2 := putIt_len (h x (List.mem_cons_self ..))
    rw [List.flatMap_cons, List.length_append, List.length_cons]
    omega
theorem flatIt_take {l : List It} {i : Nat} (h : i < l.length) : (l.take (i + 1)).flatMap putIt = (l.take i).flatMap putIt ++ putIt l[i] := by
  rw [List.take_succ_eq_append_getElem h, List.flatMap_append]; simp
theorem itc_last {S : List (List AV)} {H G : List HObj} {x : It} : storeL 17 (.ptr (.heap (H.length + G.length)) 0) (.agg (itc x)) ⟨S, H ++ (G ++ [.cells (bs key0.b ++ [.s (.str [])])])⟩ = some ⟨S, H ++ (G ++ [.cells (itc x)])⟩ := storeL_last (by simp [kc_length]) (itc_length x) (by omega) itc_under
theorem elems_keyM {σ : St} {r : Ref} {k : Key} {off : Nat} {pre rest : List AV} (h : boxOf σ r = some (pre ++ (bs k.b ++ rest))) (ho : pre.length = off) : elemsL eB (.row r off 16 16) σ = some (bs k.b) := by
  unfold elemsL
  have hl : off + 16 * 1 ≤ (pre ++ (bs k.b ++ rest)).length := by simp [kc_length]; omega
  have e : (false || (1 : Nat) == 1) = true := rfl
  simp only [eB, e, if_true, readCells, h, Option.bind_some, Nat.mul_one] at hl ⊢
  rw [if_pos ⟨hl, .inl (by omega)⟩]
  have : (((pre ++ (bs k.b ++ rest)).drop off).take 16).map AV.look = bs k.b := by rw [← ho, List.drop_left, take_kc, map_look_bs]
  simp only [Option.map_some, this]
  rw [group_any rfl rfl 16 _ (kc_length k)]
def NumKS (C : CallW) (f : FuncId) : Prop := ∀ (a : AV) (b : List UInt8) (v : Int) S H (K : AV → St → Prop), BA a b → b.length ≤ 1000000000 → 0 ≤ v → v < 9223372036854775808 → K (.list .uniq 1 (bs (b ++ putN v.toNat))) ⟨S, H⟩ → C (.fn f) [a, .s (.int .i64 v)] ⟨S, H⟩ K
theorem numK {C : CallW} {f : FuncId} (h : NumS C f) : NumKS C f := fun a b v S H K ha hb h0 h1 hK => by
  have := h a b v.toNat S H K ha hb (by omega) hK
  rwa [show ((v.toNat : Nat) : Int) = v by omega] at this
def PutMS (C : CallW) (f : FuncId) : Prop := ∀ (m : Msg) S H (K : AV → St → Prop), okMB m → (∀ G, K (.list .sh 1 (bs (putM m))) ⟨S, H ++ G⟩) → C (.fn f) [.agg (msc m)] ⟨S, H⟩ K
set_option maxHeartbeats 40000000 in
theorem msg_Put_spec {C : CallW} (hC : LeC C C) (P : Program) {c : Nat → FuncId} (h0 : GoodMS C (c 0)) (h1' : NumS C (c 1)) (h2 : ∀ s : Stp, FnS C (c 2) [.agg (stc s)] (.tup [.s (.int .u64 (packN s : Nat)), .s (.int .i64 (if goodS s = true then 0 else 1))])) (h3 : PutS C (c 3)) (h4 : ∀ v : Int, -9223372036854775808 ≤ v → v ≤ 9223372036854775807 → FnS C (c 4) [.s (.int .i64 v)] (.s (.int .u64 (zig v : Nat)))) (h5 : PutWS C (c 5)) (h6 : TxtS C (c 6)) :
    ∀ (m : Msg) S H (K : AV → St → Prop), okMB m → (∀ G, K (.list .sh 1 (bs (putM m))) ⟨S, H ++ G⟩) → runL C P (C_msg_Put c) [.agg (msc m)] ⟨S, H⟩ (WkK K) := by
  intro m S H K hm hK
  have h1 := numK h1'
  have h0' := h0 m
  have h2' := h2 m.stp
  have h4' := h4 m.num hm.nl hm.nh
  have h5' := fun a b => h5 a b m.writes
  unfold stc at h2'
  unfold lstW at h5'
  unfold msc at h0'
  simp only [List.cons_append, List.nil_append] at h0'
  simp only [msc, C_msg_Put, A_, simprocAttr, ne_eq, (U_msg_Put _).1, KG_]
  refine h0' _ _ _ hm.ok fun G => ?_
  unfold putM at hK
  cases hg : goodM m with
  | false =>
    have := hK ([.cells (msc m)] ++ G)
    rw [if_pos hg] at this
    simp only [A_, simprocAttr, ne_eq, (U_msg_Put _).1]
    exact ⟨.list .sh 1 (bs []), .inr (.nilS (by omega) .nil), by simpa [msc] using this⟩
  | true =>
  rw [if_neg (by rw [hg]; simp)] at hK
  have hp := goodM_p hg
  have p1 := putN_len10 (v := m.kind.toNat) (by have := hp.k2; omega)
  have p2 := putN_len10 (v := m.frm.toNat) (by have := hp.f2; omega)
  have p3 := putN_len10 (v := m.tto.toNat) (by have := hp.t2; omega)
  have p4 := putN_len10 (v := m.id.toNat) (by have := hm.ih; omega)
  have p5 := putN_len10 (v := zig m.num) (zig_lt hm.nl hm.nh)
  have p6 := pack_len m.stp
  simp only [A_, simprocAttr, ne_eq, (U_msg_Put _).1, KG_]
  refine h1 _ [] m.kind _ _ _ .n (by simp) (by have := hp.k1; omega) (by have := hp.k2; omega) ?_
  simp only [A_, simprocAttr, ne_eq, (U_msg_Put _).1, KG_]
  refine h1 _ _ m.frm _ _ _ .l (by first | omega | (simp only [List.length_append, List.length_nil]; omega)) hp.f1 (by have := hp.f2; omega) ?_
  simp only [A_, simprocAttr, ne_eq, (U_msg_Put _).1, KG_]
  refine h1 _ _ m.tto _ _ _ .l (by first | omega | (simp only [List.length_append, List.length_nil]; omega)) hp.t1 (by have := hp.t2; omega) ?_
  simp only [A_, simprocAttr, ne_eq, (U_msg_Put _).1, KG_]
  refine h2' _ _ _ ?_
  have hid : IntKind.u64.wrap m.id = ((m.id.toNat : Nat) : Int) := by rw [show m.id = ((m.id.toNat : Nat) : Int) by have := hp.i1; omega, wrap_u64n (by have := hm.ih; omega)]; simp
  simp only [A_, simprocAttr, ne_eq, (U_msg_Put _).1, KG_, convL, hid]
  refine h3 _ _ m.id.toNat _ _ _ .l (by first | omega | (simp only [List.length_append, List.length_nil]; omega)) (by have := hm.ih; omega) ?_
  simp only [A_, simprocAttr, ne_eq, (U_msg_Put _).1, KG_]
  refine h4' _ _ _ ?_
  simp only [A_, simprocAttr, ne_eq, (U_msg_Put _).1, KG_]
  refine h3 _ _ (zig m.num) _ _ _ .l (by first | omega | (simp only [List.length_append, List.length_nil]; omega)) (zig_lt hm.nl hm.nh) ?_
  simp only [A_, simprocAttr, ne_eq, (U_msg_Put _).1, KG_]
  refine h3 _ _ (packN m.stp) _ _ _ .l (by first | omega | (simp only [List.length_append, List.length_nil]; omega)) (by have := packN_lt m.stp; omega) ?_
  have hhd : putN m.kind.toNat ++ (putN m.frm.toNat ++ (putN m.tto.toNat ++ (putN m.id.toNat ++ putN (zig m.num)))) ++ putN (packN m.stp) = hd2 m := by simp only [hd2, List.append_assoc]
  rw [hhd]
  have hhl : (hd2 m).length ≤ 60 := by unfold hd2; simp only [List.length_append]; omega
  generalize hd2 m = b0 at hhl hK ⊢
  have hk := m.key.h
  have hu := m.unt.h
  have hsl7 : ∀ off, sliceL (.arr 16 1) (.ptr (.heap H.length) off) none none none = some (.row (.heap H.length) off 16 16) := fun off => by simp [sliceL, bound]
  have hcells : ∀ (X : List HObj), boxOf ⟨S, H ++ (HObj.cells (AV.s (.int .i64 m.kind) :: AV.s (.int .i64 m.frm) :: AV.s (.int .i64 m.tto) :: AV.s (.int .i64 m.id) :: AV.s (.int .i64 m.num) :: AV.s (.int .i64 m.stp.t) :: u8 m.stp.n :: (bs m.key.b ++ (bs m.unt.b ++ [.list .sh 18 (m.writes.map wA), .list .sh 17 (m.items.map itA), .s (.str m.val), .s (.bool m.found), .s (.bool m.yes), .s (.int .i64 m.err)]))) :: X)⟩ (.heap H.length) = some (msc m) := fun X => by rw [boxOf_heap, app_get0]; rfl
  have happ1 : ∀ (X : List HObj), appendL ⟨1, false, 1, (.s (.int .u8 0))⟩ false (.list .uniq 1 (bs b0)) (.row (.heap H.length) 7 16 16) ⟨S, H ++ (HObj.cells (AV.s (.int .i64 m.kind) :: AV.s (.int .i64 m.frm) :: AV.s (.int .i64 m.tto) :: AV.s (.int .i64 m.id) :: AV.s (.int .i64 m.num) :: AV.s (.int .i64 m.stp.t) :: u8 m.stp.n :: (bs m.key.b ++ (bs m.unt.b ++ [.list .sh 18 (m.writes.map wA), .list .sh 17 (m.items.map itA), .s (.str m.val), .s (.bool m.found), .s (.bool m.yes), .s (.int .i64 m.err)]))) :: X)⟩ = some (.list .uniq 1 (bs (b0 ++ m.key.b)), _) := fun X => app_bu2 (b := b0) (d := m.key.b) rfl (elems_keyM (pre := [.s (.int .i64 m.kind), .s (.int .i64 m.frm), .s (.int .i64 m.tto), .s (.int .i64 m.id), .s (.int .i64 m.num), .s (.int .i64 m.stp.t), u8 m.stp.n]) (hcells X) rfl) (by omega)
  have happ2 : ∀ (X : List HObj), appendL ⟨1, false, 1, (.s (.int .u8 0))⟩ false (.list .uniq 1 (bs (b0 ++ m.key.b))) (.row (.heap H.length) 23 16 16) ⟨S, H ++ (HObj.cells (AV.s (.int .i64 m.kind) :: AV.s (.int .i64 m.frm) :: AV.s (.int .i64 m.tto) :: AV.s (.int .i64 m.id) :: AV.s (.int .i64 m.num) :: AV.s (.int .i64 m.stp.t) :: u8 m.stp.n :: (bs m.key.b ++ (bs m.unt.b ++ [.list .sh 18 (m.writes.map wA), .list .sh 17 (m.items.map itA), .s (.str m.val), .s (.bool m.found), .s (.bool m.yes), .s (.int .i64 m.err)]))) :: X)⟩ = some (.list .uniq 1 (bs (b0 ++ m.key.b ++ m.unt.b)), _) := fun X => app_bu2 (b := b0 ++ m.key.b) (d := m.unt.b) rfl (elems_keyM (pre := [.s (.int .i64 m.kind), .s (.int .i64 m.frm), .s (.int .i64 m.tto), .s (.int .i64 m.id), .s (.int .i64 m.num), .s (.int .i64 m.stp.t), u8 m.stp.n] ++ bs m.key.b) (by rw [hcells X]; unfold msc; rw [← List.append_assoc]) (by simp [kc_length])) (by rw [List.length_append]; omega)
  simp only [A_, simprocAttr, ne_eq, (U_msg_Put _).1, KG_, hsl7, happ1, happ2]
  have hwv : ∀ w ∈ m.writes, w.val.length ≤ 100000 := fun w hw => by have := hm.vs w hw; omega
  refine h5' _ (b0 ++ m.key.b ++ m.unt.b) _ _ _ (by simp only [List.append_assoc]; exact .l) (by simp only [List.length_append]; omega) (by have := hm.ws; omega) hwv fun G2 => ?_
  have hlist : b0 ++ m.key.b ++ m.unt.b ++ putWs m.writes = b0 ++ (m.key.b ++ (m.unt.b ++ putWs m.writes)) := by simp only [List.append_assoc]
  rw [hlist]
  have hwl := putWs_le hm.ws hm.vs
  have pil := putN_len10 (v := m.items.length) (by have := hm.is; omega)
  have hil := hm.is
  have hl1 : (b0 ++ (m.key.b ++ (m.unt.b ++ putWs m.writes))).length ≤ 20000 := by simp only [List.length_append]; omega
  have hK2 : ∀ X, K (.list .sh 1 (bs ((b0 ++ (m.key.b ++ (m.unt.b ++ putWs m.writes))) ++ (putN m.items.length ++ (m.items.flatMap putIt ++ tlB m))))) ⟨S, H ++ X⟩ := fun X => by
    have := hK X
    simpa only [List.append_assoc] using this
  clear happ1 happ2 hlist
  generalize b0 ++ (m.key.b ++ (m.unt.b ++ putWs m.writes)) = b1 at hl1 hK2 ⊢
  simp only [A_, simprocAttr, ne_eq, (U_msg_Put _).1, KG_]
  refine h1 _ b1 ((m.items.length : Nat) : Int) _ _ _ .l (by omega) (by omega) (by omega) ?_
  rw [Int.toNat_natCast]
  simp only [A_, simprocAttr, ne_eq, (U_msg_Put _).1, KG_]
  have hX0 : ∀ (G' Y : List HObj), ((HObj.cells (AV.s (.int .i64 m.kind) :: AV.s (.int .i64 m.frm) :: AV.s (.int .i64 m.tto) :: AV.s (.int .i64 m.id) :: AV.s (.int .i64 m.num) :: AV.s (.int .i64 m.stp.t) :: u8 m.stp.n :: (bs m.key.b ++ (bs m.unt.b ++ [.list .sh 18 (m.writes.map wA), .list .sh 17 (m.items.map itA), .s (.str m.val), .s (.bool m.found), .s (.bool m.yes), .s (.int .i64 m.err)]))) :: G') ++ Y)[0]? = some (HObj.cells (AV.s (.int .i64 m.kind) :: AV.s (.int .i64 m.frm) :: AV.s (.int .i64 m.tto) :: AV.s (.int .i64 m.id) :: AV.s (.int .i64 m.num) :: AV.s (.int .i64 m.stp.t) :: u8 m.stp.n :: (bs m.key.b ++ (bs m.unt.b ++ [.list .sh 18 (m.writes.map wA), .list .sh 17 (m.items.map itA), .s (.str m.val), .s (.bool m.found), .s (.bool m.yes), .s (.int .i64 m.err)])))) := fun _ _ => rfl
  generalize hXe : (HObj.cells (AV.s (.int .i64 m.kind) :: AV.s (.int .i64 m.frm) :: AV.s (.int .i64 m.tto) :: AV.s (.int .i64 m.id) :: AV.s (.int .i64 m.num) :: AV.s (.int .i64 m.stp.t) :: u8 m.stp.n :: (bs m.key.b ++ (bs m.unt.b ++ [.list .sh 18 (m.writes.map wA), .list .sh 17 (m.items.map itA), .s (.str m.val), .s (.bool m.found), .s (.bool m.yes), .s (.int .i64 m.err)]))) :: (G ++ G2)) = X
  have hX := hX0 (G ++ G2)
  rw [hXe] at hX
  clear hX0 hXe hcells
  refine loop_rule hC (α := Nat × List HObj) (fun a => m.items.length - a.1) (fun a => [.undef, .ptr (.heap H.length) 0, .undef, .list .uniq 1 (bs (b1 ++ (putN m.items.length ++ (m.items.take a.1).flatMap putIt))), .undef, .undef, .undef, .undef, .undef, .undef, .undef, .undef, .undef, .undef, .undef, .undef, .undef, .undef, .undef, .undef, .undef, .undef, .undef, .undef, .undef, .undef, .undef, .undef, .undef, .undef, .undef, .undef, .undef, .undef, .undef, .undef, .undef, .undef, .undef, .undef, .undef, .undef, .undef, .undef, .undef, .undef, .undef, .undef, .undef, .undef, .undef, .undef, .undef, .undef, .list .sh 17 (m.items.map itA), .s (.int .i64 m.items.length), .s (.int .i64 a.1), .undef, .undef, .undef, .undef, .undef, .undef, .undef, .undef, .undef, .undef, .undef, .undef, .undef, .undef, .undef, .undef, .undef, .undef, .undef, .undef, .undef, .undef, .undef, .undef, .undef, .undef, .undef, .undef, .undef]) (fun _ => S) (fun a => H ++ (X ++ a.2)) (fun a => a.1 ≤ m.items.length) (0, []) (by simp) (by simp [keep, zm]) (by simp) (by simp) (fun a _ => by simp [AV.under, AV.under.go]) ?_
  rintro ⟨i, Y⟩ hi ih
  dsimp only at hi ih ⊢
  have hcl : (b1 ++ (putN m.items.length ++ (m.items.take i).flatMap putIt)).length ≤ 40000 := by
    have := putIts_len (m.items.take i) (fun w hw => hm.iv w (List.mem_of_mem_take hw))
    rw [List.length_take] at this
    have h3 : 280 * min i m.items.length ≤ 280 * 20 := Nat.mul_le_mul_left _ (by omega)
    simp only [List.length_append]
    omega
  by_cases h16 : i < m.items.length
  · have hlt : ((i : Int) < (m.items.length : Int)) := by omega
    have hw : IntKind.i64.wrap ((i : Int) + 1) = (i : Int) + 1 := wrap_i64 (by omega) (by omega)
    have hvi := hm.iv m.items[i] (List.getElem_mem h16)
    have hki := (m.items[i]).key.h
    have hnext : b1 ++ (putN m.items.length ++ (m.items.take (i + 1)).flatMap putIt) = (b1 ++ (putN m.items.length ++ (m.items.take i).flatMap putIt)) ++ ((m.items[i]).key.b ++ (putN (m.items[i]).val.length ++ (m.items[i]).val)) := by
      rw [flatIt_take h16, putIt]; simp only [List.append_assoc]
    have ih2 := ih (i + 1, Y ++ [.cells (itc m.items[i])])
    dsimp only at ih2
    rw [hnext] at ih2
    generalize b1 ++ (putN m.items.length ++ (m.items.take i).flatMap putIt) = cur at hcl ih2 ⊢
    have hst := itc_last (S := S) (H := H) (G := X ++ Y) (x := m.items[i])
    simp only [List.length_append, List.append_assoc] at hst
    have hb1 : boxOf ⟨S, H ++ (X ++ (Y ++ [HObj.cells (itc m.items[i])]))⟩ (.heap (H.length + (X.length + Y.length))) = some (itc m.items[i]) := by
      rw [boxOf_heap, app_get, app_get, List.getElem?_append_right (Nat.le_refl _)]; simp [cellsOf?]
    have hbx : (H ++ (X ++ (Y ++ [HObj.cells (itc m.items[i])])))[H.length + (X.length + Y.length)]? = some (.cells (itc m.items[i])) := by
      rw [app_get, app_get, List.getElem?_append_right (Nat.le_refl _)]; simp
    have hslx : sliceL (.arr 16 1) (.ptr (.heap (H.length + (X.length + Y.length))) 0) none none none = some (.row (.heap (H.length + (X.length + Y.length))) 0 16 16) := by simp [sliceL, bound]
    have happ := app_bu2 (b := cur) (d := (m.items[i]).key.b) (x := .row (.heap (H.length + (X.length + Y.length))) 0 16 16) (σ := ⟨S, H ++ (X ++ (Y ++ [HObj.cells (itc m.items[i])]))⟩) rfl (elems_key (rest := [.s (.str (m.items[i]).val)]) (by rw [hb1]; rfl)) (by omega)
    simp only [eB] at happ
    simp only [A_, simprocAttr, ne_eq, (U_msg_Put _).1, IT_, hlt, h16, hst, happ, hslx, hbx]
    refine h6 _ (cur ++ (m.items[i]).key.b) (m.items[i]).val _ _ _ .l (by simp only [List.length_append]; omega) (by omega) ?_
    simp only [A_, simprocAttr, ne_eq, (U_msg_Put _).1, hw]
    exact ih2 _ _ _ (by omega) (by omega) rfl (by simp) (by simp)
  · have hlt : ¬ ((i : Int) < (m.items.length : Int)) := by omega
    have hti : m.items.take i = m.items := List.take_of_length_le (by omega)
    rw [hti] at hcl ⊢
    generalize hcur : b1 ++ (putN m.items.length ++ m.items.flatMap putIt) = cur at hcl ⊢
    have or01 : IntKind.u8.wrap (((BitVec.ofInt IntKind.u8.bits 0 ||| BitVec.ofInt IntKind.u8.bits 1).toNat : Nat) : Int) = 1 := by decide
    have or02 : IntKind.u8.wrap (((BitVec.ofInt IntKind.u8.bits 0 ||| BitVec.ofInt IntKind.u8.bits 2).toNat : Nat) : Int) = 2 := by decide
    have or12 : IntKind.u8.wrap (((BitVec.ofInt IntKind.u8.bits 1 ||| BitVec.ofInt IntKind.u8.bits 2).toNat : Nat) : Int) = 3 := by decide
    have hvl := hm.vl
    have pvl := putN_len10 (v := m.val.length) (by omega)
    cases hf : m.found <;> cases hy : m.yes
    · have hap : ∀ σ, appendL ⟨1, false, 1, (.s (.int .u8 0))⟩ false (.list .uniq 1 (bs (cur ++ (putN m.val.length ++ m.val)))) (.list .full 1 [.s (.int .u8 0)]) σ = some (.list .uniq 1 (bs (cur ++ (putN m.val.length ++ m.val) ++ [0])), σ) := fun σ => app_b1 (c := 0) (.inl rfl) (by simp only [List.length_append]; omega)
      simp only [A_, simprocAttr, ne_eq, (U_msg_Put _).1, KG_, hlt, hX, hf, hy, or01, or02, or12]
      refine h6 _ cur m.val _ _ _ .l (by omega) (by omega) ?_
      simp only [A_, simprocAttr, ne_eq, (U_msg_Put _).1, KG_, hX, hap]
      refine h1 _ _ m.err _ _ _ .l (by simp only [List.length_append, List.length_cons, List.length_nil]; omega) hp.e1 (by have := hp.e2; omega) ?_
      simp only [A_, simprocAttr, ne_eq, (U_msg_Put _).1, KG_]
      refine wk_uniq ?_
      have := hK2 (X ++ Y)
      rw [tlB, hf, hy] at this
      rw [← hcur]
      simpa only [flB, List.append_assoc, List.cons_append, List.nil_append] using this
    · have hap : ∀ σ, appendL ⟨1, false, 1, (.s (.int .u8 0))⟩ false (.list .uniq 1 (bs (cur ++ (putN m.val.length ++ m.val)))) (.list .full 1 [.s (.int .u8 2)]) σ = some (.list .uniq 1 (bs (cur ++ (putN m.val.length ++ m.val) ++ [2])), σ) := fun σ => app_b1 (c := 2) (.inl rfl) (by simp only [List.length_append]; omega)
      simp only [A_, simprocAttr, ne_eq, (U_msg_Put _).1, KG_, hlt, hX, hf, hy, or01, or02, or12]
      refine h6 _ cur m.val _ _ _ .l (by omega) (by omega) ?_
      simp only [A_, simprocAttr, ne_eq, (U_msg_Put _).1, KG_, hX, hap]
      refine h1 _ _ m.err _ _ _ .l (by simp only [List.length_append, List.length_cons, List.length_nil]; omega) hp.e1 (by have := hp.e2; omega) ?_
      simp only [A_, simprocAttr, ne_eq, (U_msg_Put _).1, KG_]
      refine wk_uniq ?_
      have := hK2 (X ++ Y)
      rw [tlB, hf, hy] at this
      rw [← hcur]
      simpa only [flB, List.append_assoc, List.cons_append, List.nil_append] using this
    · have hap : ∀ σ, appendL ⟨1, false, 1, (.s (.int .u8 0))⟩ false (.list .uniq 1 (bs (cur ++ (putN m.val.length ++ m.val)))) (.list .full 1 [.s (.int .u8 1)]) σ = some (.list .uniq 1 (bs (cur ++ (putN m.val.length ++ m.val) ++ [1])), σ) := fun σ => app_b1 (c := 1) (.inl rfl) (by simp only [List.length_append]; omega)
      simp only [A_, simprocAttr, ne_eq, (U_msg_Put _).1, KG_, hlt, hX, hf, hy, or01, or02, or12]
      refine h6 _ cur m.val _ _ _ .l (by omega) (by omega) ?_
      simp only [A_, simprocAttr, ne_eq, (U_msg_Put _).1, KG_, hX, hap]
      refine h1 _ _ m.err _ _ _ .l (by simp only [List.length_append, List.length_cons, List.length_nil]; omega) hp.e1 (by have := hp.e2; omega) ?_
      simp only [A_, simprocAttr, ne_eq, (U_msg_Put _).1, KG_]
      refine wk_uniq ?_
      have := hK2 (X ++ Y)
      rw [tlB, hf, hy] at this
      rw [← hcur]
      simpa only [flB, List.append_assoc, List.cons_append, List.nil_append] using this
    · have hap : ∀ σ, appendL ⟨1, false, 1, (.s (.int .u8 0))⟩ false (.list .uniq 1 (bs (cur ++ (putN m.val.length ++ m.val)))) (.list .full 1 [.s (.int .u8 3)]) σ = some (.list .uniq 1 (bs (cur ++ (putN m.val.length ++ m.val) ++ [3])), σ) := fun σ => app_b1 (c := 3) (.inl rfl) (by simp only [List.length_append]; omega)
      simp only [A_, simprocAttr, ne_eq, (U_msg_Put _).1, KG_, hlt, hX, hf, hy, or01, or02, or12]
      refine h6 _ cur m.val _ _ _ .l (by omega) (by omega) ?_
      simp only [A_, simprocAttr, ne_eq, (U_msg_Put _).1, KG_, hX, hap]
      refine h1 _ _ m.err _ _ _ .l (by simp only [List.length_append, List.length_cons, List.length_nil]; omega) hp.e1 (by have := hp.e2; omega) ?_
      simp only [A_, simprocAttr, ne_eq, (U_msg_Put _).1, KG_]
      refine wk_uniq ?_
      have := hK2 (X ++ Y)
      rw [tlB, hf, hy] at this
      rw [← hcur]
      simpa only [flB, List.append_assoc, List.cons_append, List.nil_append] using this
end Go.AM
namespace Go.AM
open Go
def bnd {α β : Type} (f : Rd → α × Rd) (g : α → Rd → β × Rd) : Rd → β × Rd := fun r => g (f r).1 (f r).2
def ret {α : Type} (a : α) : Rd → α × Rd := fun r => (a, r)
theorem bnd_eq {α β : Type} {f : Rd → α × Rd} {g : α → Rd → β × Rd} {r : Rd} {a : α} {q : Rd} (h : f r = (a, q)) : bnd f g r = g a q := by unfold bnd; rw [h]
def itR : Rd → It × Rd := bnd keyR fun k => bnd (bnd (mostR 200) textR) fun v => ret ⟨k, v⟩
def itQ : Rd → It × Rd := bnd keyR fun k => bnd (bnd numR textR) fun v => ret ⟨k, v⟩
def itsR : Nat → Rd → List It × Rd
  | 0, r => ([], r)
  | n + 1, r => ((itR r).1 :: (itsR n (itR r).2).1, (itsR n (itR r).2).2)
def itsQ : Nat → Rd → List It × Rd
  | 0, r => ([], r)
  | _ + 1, none => ([], none)
  | n + 1, some b => ((itQ (some b)).1 :: (itsQ n (itQ (some b)).2).1, (itsQ n (itQ (some b)).2).2)
theorem itsQ_none (n : Nat) : itsQ n none = ([], none) := by cases n <;> rfl
def tailR (f : List It → List UInt8 → Nat → Nat → Msg) : Rd → Msg × Rd :=
  bnd (mostR 200) fun n => bnd (itsR n) fun is => bnd (bnd (mostR 200) textR) fun v => bnd (mostR 3) fun fl => bnd (mostR 12) fun er => ret (f is v fl er)
def mkM (k fr to : Nat) (id num : Int) (st : Stp) (ke un : Key) (ws : List Wr) (is : List It) (v : List UInt8) (fl er : Nat) : Msg := ⟨k, fr, to, id, num, st, ke, un, ws, is, v, decide (fl % 2 = 1), decide (fl / 2 % 2 = 1), er⟩
def readM : Rd → Msg × Rd :=
  bnd (mostR 11) fun k => bnd (mostR 255) fun fr => bnd (mostR 255) fun to => bnd numR fun id => bnd numR fun nm => bnd stampR fun st => bnd keyR fun ke => bnd keyR fun un => bnd writesR fun ws =>
    tailR (mkM k fr to (IntKind.i64.wrap id) (zag nm) st ke un ws)
def zMsg : Msg := ⟨0, 0, 0, 0, 0, ⟨0, 0⟩, key0, key0, [], [], [], false, false, 0⟩
def getM (b : List UInt8) : Msg × Int := if (readM (some b)).2 = some [] ∧ goodM (readM (some b)).1 = true then ((readM (some b)).1, 0) else (zMsg, 3)
def tailQ (f : List It → List UInt8 → Nat → Nat → Msg) : Rd → (Msg × UInt8) × Rd :=
  bnd (mostR 200) fun n => bnd (itsQ n) fun is => bnd (bnd numR textR) fun v => bnd byteR fun fl => bnd (mostR 12) fun er => ret (f is v fl.toNat er, fl)
def readMQ : Rd → (Nat × Msg × UInt8) × Rd :=
  bnd (mostR 11) fun k => bnd (mostR 255) fun fr => bnd (mostR 255) fun to => bnd numR fun id => bnd numR fun nm => bnd stampR fun st => bnd keyR fun ke => bnd keyR fun un => bnd writesQ fun ws =>
    bnd (tailQ (mkM k fr to id (zag nm) st ke un ws)) fun x => ret (id, x.1, x.2)
def outQ (x : (Nat × Msg × UInt8) × Rd) : Msg × Bool := if x.1.1 < 9223372036854775808 ∧ x.1.2.2.toNat ≤ 3 ∧ x.2 = some [] ∧ goodM x.1.2.1 = true then (x.1.2.1, true) else (zMsg, false)
def getMQ (b : List UInt8) : Msg × Bool := outQ (readMQ (some b))
end Go.AM
namespace Go.AM
open Go
set_option maxRecDepth 20000
def tupM (x : Msg × Int) : AV := .tup [.agg (msc x.1), .s (.int .i64 x.2)]
def GetMS (C : CallW) (f : FuncId) : Prop := ∀ (a : AV) (b : List UInt8) S H (K : AV → St → Prop), BA a b → b.length ≤ 9223372036854775807 → (∀ G, K (tupM (getM b)) ⟨S, H ++ G⟩) → C (.fn f) [a] ⟨S, H⟩ K
theorem msc_cell {m : Msg} : ∀ c ∈ msc m, c.isCell = true := by
  intro c hc
  simp only [msc, List.cons_append, List.nil_append, List.mem_cons, List.mem_append, List.not_mem_nil, or_false] at hc
  rcases hc with rfl | rfl | rfl | rfl | rfl | rfl | rfl | h | h | rfl | rfl | rfl | rfl | rfl | rfl
  case inr.inr.inr.inr.inr.inr.inr.inl => exact u8_isCell c h
  case inr.inr.inr.inr.inr.inr.inr.inr.inl => exact u8_isCell c h
  all_goals rfl
def mbx (m : Msg) (x z : AV) : List AV := AV.s (.int .i64 m.kind) :: AV.s (.int .i64 m.frm) :: AV.s (.int .i64 m.tto) :: AV.s (.int .i64 m.id) :: AV.s (.int .i64 m.num) :: AV.s (.int .i64 m.stp.t) :: u8 m.stp.n :: (bs m.key.b ++ (bs m.unt.b ++ [x, z, .s (.str m.val), .s (.bool m.found), .s (.bool m.yes), .s (.int .i64 m.err)]))
theorem WkL.pre : ∀ (l : List AV) {a b : List AV}, WkL a b → WkL (l ++ a) (l ++ b)
  | [], _, _, h => h
  | _ :: l, _, _, h => .same (WkL.pre l h)
theorem mbx_wk0 (m : Msg) (x z : AV) (hx : x = .list .sh 18 (m.writes.map wA) ∨ x = .s .nilS ∧ m.writes = []) (hz : z = .list .sh 17 (m.items.map itA) ∨ z = .s .nilS ∧ m.items = []) : WkL (mbx m x z) (msc m) := by
  refine .same (.same (.same (.same (.same (.same (.same ?_))))))
  refine WkL.pre _ (WkL.pre _ ?_)
  rcases hx with rfl | ⟨rfl, h1⟩ <;> rcases hz with rfl | ⟨rfl, h2⟩
  · exact WkL.refl _
  · rw [h2]; exact .same (.nilS (by omega) (WkL.refl _))
  · rw [h1]; exact .nilS (by omega) (WkL.refl _)
  · rw [h1, h2]; exact .nilS (by omega) (.nilS (by omega) (WkL.refl _))
theorem mbx_wkF (m : Msg) (x z : AV) (hx : x = .list .sh 18 (m.writes.map wA) ∨ x = .s .nilS ∧ m.writes = []) (hz : z = .list .sh 17 (m.items.map itA) ∨ z = .s .nilS ∧ m.items = []) : WkF [.agg (mbx m x z)] [.agg (msc m)] := .wk (show WkL [(AV.agg (mbx m x z)).sh] [.agg (msc m)] from WkL.agg (mbx_wk0 m x z hx hz) msc_cell .nil) .nil
theorem mbx_wkT (m : Msg) (x z e : AV) (hx : x = .list .sh 18 (m.writes.map wA) ∨ x = .s .nilS ∧ m.writes = []) (hz : z = .list .sh 17 (m.items.map itA) ∨ z = .s .nilS ∧ m.items = []) : WkL [(AV.tup [.agg (mbx m x z), e]).sh] [.tup [.agg (msc m), e]] := by
  have hsh : ∀ l, (AV.tup l).sh = .tup l := fun _ => rfl
  rw [hsh]
  exact .tup (.agg (mbx_wk0 m x z hx hz) msc_cell (.same .nil)) .nil
theorem zmsg_wkT (e : AV) : WkL [(AV.tup [.agg (mbx zMsg (.s .nilS) (.s .nilS)), e]).sh] [.tup [.agg (msc zMsg), e]] := mbx_wkT zMsg _ _ e (.inr ⟨rfl, rfl⟩) (.inr ⟨rfl, rfl⟩)
theorem zm_eq : (AV.s (.int .i64 0)) :: (AV.s (.int .i64 0)) :: (AV.s (.int .i64 0)) :: (AV.s (.int .i64 0)) :: (AV.s (.int .i64 0)) :: (AV.s (.int .i64 0)) :: (bs key0.b ++ (bs key0.b ++ [(.s (.int .u8 0)), (.s .nilS), (.s .nilS), (.s (.str [])), (.s (.bool false)), (.s (.bool false)), (.s (.int .i64 0))])) = (AV.s (.int .i64 0)) :: (AV.s (.int .i64 0)) :: (AV.s (.int .i64 0)) :: (AV.s (.int .i64 0)) :: (AV.s (.int .i64 0)) :: (AV.s (.int .i64 0)) :: u8 0 :: (bs key0.b ++ (bs key0.b ++ [(.s .nilS), (.s .nilS), (.s (.str [])), (.s (.bool false)), (.s (.bool false)), (.s (.int .i64 0))])) := rfl
theorem app_nilT {e : ET} {k : Key} {v : List UInt8} {σ : St} (h1 : e.c = 17) (h2 : e.bytes = 32) : appendL e false (.s .nilS) (.list .full 17 [.agg (bs k.b ++ [.s (.str v)])]) σ = some (.list .uniq 17 [itA ⟨k, v⟩], σ) := by
  have h := elems_list (e := e) (fl := .full) (es := [itA ⟨k, v⟩]) (σ := σ)
  rw [h1] at h
  have hu : AV.under 0 (itA ⟨k, v⟩) = true := itA_under
  show appendL e false (.s .nilS) (.list .full 17 [itA ⟨k, v⟩]) σ = _
  simp [appendL, srcL, AV.isSlice, h, AV.under.go, hu, appItems, h1, h2]
theorem app_ownT {e : ET} {k : Key} {v : List UInt8} {l : List It} {σ : St} (h1 : e.c = 17) (h2 : e.bytes = 32) (hl : l.length ≤ 1000000) : appendL e false (.list .own 17 (l.map itA)) (.list .full 17 [.agg (bs k.b ++ [.s (.str v)])]) σ = some (.list .own 17 ((l ++ [(⟨k, v⟩ : It)]).map itA), σ) := by
  have h := elems_list (e := e) (fl := .full) (es := [itA ⟨k, v⟩]) (σ := σ)
  rw [h1] at h
  have hu : AV.under 0 (itA ⟨k, v⟩) = true := itA_under
  have hb : 2 * ((l.map itA).length + 1) * 32 ≤ 2 ^ 48 := by simp; omega
  show appendL e false (.list .own 17 (l.map itA)) (.list .full 17 [itA ⟨k, v⟩]) σ = _
  simp [appendL, srcL, AV.isSlice, h, AV.under.go, hu, appItems, h1, h2]
  simpa using hb
theorem itsR_vals : ∀ (n : Nat) (r : Rd) (x : It), x ∈ (itsR n r).1 → x.val.length ≤ 200
  | 0, r, x, h => by cases h
  | n + 1, r, x, h => by
    rw [itsR] at h
    rcases List.mem_cons.1 h with rfl | h
    · have := textR_len (mostR 200 (keyR r).2).1 (mostR 200 (keyR r).2).2
      have h2 := mostR_le 200 (keyR r).2
      show (textR (mostR 200 (keyR r).2).1 (mostR 200 (keyR r).2).2).1.length ≤ 200
      omega
    · exact itsR_vals n _ x h
def slT (l : List It) : AV := if l = [] then .s .nilS else .list .own 17 (l.map itA)
theorem and1 : ∀ n : Nat, n ≤ 3 → (IntKind.i64.wrap (((BitVec.ofInt IntKind.i64.bits (n : Int) &&& BitVec.ofInt IntKind.i64.bits 1).toNat : Nat) : Int) = 0) = ¬ (n % 2 = 1) := by decide
theorem and2 : ∀ n : Nat, n ≤ 3 → (IntKind.i64.wrap (((BitVec.ofInt IntKind.i64.bits (n : Int) &&& BitVec.ofInt IntKind.i64.bits 2).toNat : Nat) : Int) = 0) = ¬ (n / 2 % 2 = 1) := by decide
set_option maxHeartbeats 40000000 in
theorem msg_Get_spec {C : CallW} (hC : LeC C C) (hW : WkC C) (P : Program) {c : Nat → FuncId} (h0 : ∀ m : Nat, m < 9223372036854775808 → RdS C (c 0) [.s (.int .i64 m)] fun r => (.s (.int .i64 ((mostR m r).1 : Nat)), (mostR m r).2)) (h1 : RdS C (c 1) [] fun r => (.s (.int .u64 ((numR r).1 : Nat)), (numR r).2)) (h2 : ∀ n : Nat, n < 18446744073709551616 → FnS C (c 2) [.s (.int .u64 n)] (.s (.int .i64 (zag n)))) (h3 : RdS C (c 3) [] fun r => (.agg (stc (stampR r).1), (stampR r).2)) (h4 : RdS C (c 4) [] fun r => (.agg (bs (keyR r).1.b), (keyR r).2)) (h5 : WritesS C (c 5)) (h6 : ∀ n : Nat, RdS C (c 6) [.s (.int .i64 n)] fun r => (.s (.str (textR n r).1), (textR n r).2)) (h7 : GoodMS C (c 7)) : ∀ (b : List UInt8) S H (K : AV → St → Prop), b.length ≤ 9223372036854775807 → (∀ G, K (tupM (getM b)) ⟨S, H ++ G⟩) → runL C P (C_msg_Get c) [.list .sh 1 (bs b)] ⟨S, H⟩ (WkK K) := by
  intro b S H K hb hK
  simp only [C_msg_Get, A_, simprocAttr, ne_eq, (U_msg_Get _).1, fillL, zm_eq]
  have hr0 : rok (some b) := rok_some hb
  have hrd : readM (some b) = readM (some b) := rfl
  conv at hrd => rhs; unfold readM
  refine h0 11 (by omega) (S.length + 1) (some b) _ _ _ (by rw [app_get]; rfl) hr0 ?_
  obtain ⟨v1, r1, e1⟩ : ∃ k r, mostR 11 (some b) = (k, r) := ⟨_, _, rfl⟩
  have hr1 : rok r1 := by have := mostR_ok (r := (some b)) (m := 11) hr0; rw [e1] at this; exact this
  rw [bnd_eq e1] at hrd
  simp only [e1, A_, simprocAttr, ne_eq, (U_msg_Get _).1, KG_, fillL, storeP_stk, List.append_assoc]
  refine h0 255 (by omega) (S.length + 1) r1 _ _ _ (by rw [app_get]; rfl) hr1 ?_
  obtain ⟨v2, r2, e2⟩ : ∃ k r, mostR 255 r1 = (k, r) := ⟨_, _, rfl⟩
  have hr2 : rok r2 := by have := mostR_ok (r := r1) (m := 255) hr1; rw [e2] at this; exact this
  rw [bnd_eq e2] at hrd
  simp only [e2, A_, simprocAttr, ne_eq, (U_msg_Get _).1, KG_, fillL, storeP_stk, List.append_assoc]
  refine h0 255 (by omega) (S.length + 1) r2 _ _ _ (by rw [app_get]; rfl) hr2 ?_
  obtain ⟨v3, r3, e3⟩ : ∃ k r, mostR 255 r2 = (k, r) := ⟨_, _, rfl⟩
  have hr3 : rok r3 := by have := mostR_ok (r := r2) (m := 255) hr2; rw [e3] at this; exact this
  rw [bnd_eq e3] at hrd
  simp only [e3, A_, simprocAttr, ne_eq, (U_msg_Get _).1, KG_, fillL, storeP_stk, List.append_assoc]
  refine h1 (S.length + 1) r3 _ _ _ (by rw [app_get]; rfl) hr3 ?_
  obtain ⟨v4, r4, e4⟩ : ∃ k r, numR r3 = (k, r) := ⟨_, _, rfl⟩
  have hr4 : rok r4 := by have := numR_ok (r := r3) hr3; rw [e4] at this; exact this
  rw [bnd_eq e4] at hrd
  simp only [e4, convL, A_, simprocAttr, ne_eq, (U_msg_Get _).1, KG_, fillL, storeP_stk, List.append_assoc]
  refine h1 (S.length + 1) r4 _ _ _ (by rw [app_get]; rfl) hr4 ?_
  obtain ⟨v5, r5, e5⟩ : ∃ k r, numR r4 = (k, r) := ⟨_, _, rfl⟩
  have hr5 : rok r5 := by have := numR_ok (r := r4) hr4; rw [e5] at this; exact this
  rw [bnd_eq e5] at hrd
  have hn5 : v5 < 18446744073709551616 := by have := numR_lt r4; rw [e5] at this; exact this
  simp only [e5, A_, simprocAttr, ne_eq, (U_msg_Get _).1, KG_, fillL, storeP_stk, List.append_assoc]
  refine h2 v5 hn5 _ _ _ ?_
  simp only [A_, simprocAttr, ne_eq, (U_msg_Get _).1, KG_, fillL, storeP_stk, List.append_assoc]
  refine h3 (S.length + 1) r5 _ _ _ (by rw [app_get]; rfl) hr5 ?_
  obtain ⟨v6, r6, e6⟩ : ∃ k r, stampR r5 = (k, r) := ⟨_, _, rfl⟩
  have hr6 : rok r6 := by have := stampR_ok (r := r5) hr5; rw [e6] at this; exact this
  rw [bnd_eq e6] at hrd
  simp only [e6, stc, A_, simprocAttr, ne_eq, (U_msg_Get _).1, KG_, fillL, storeP_stk, List.append_assoc]
  refine h4 (S.length + 1) r6 _ _ _ (by rw [app_get]; rfl) hr6 ?_
  obtain ⟨v7, r7, e7⟩ : ∃ k r, keyR r6 = (k, r) := ⟨_, _, rfl⟩
  have hr7 : rok r7 := by have := keyR_ok (r := r6) hr6; rw [e7] at this; exact this
  rw [bnd_eq e7] at hrd
  simp only [e7, A_, simprocAttr, ne_eq, (U_msg_Get _).1, KG_, fillL, storeP_stk, List.append_assoc]
  refine h4 (S.length + 1) r7 _ _ _ (by rw [app_get]; rfl) hr7 ?_
  obtain ⟨v8, r8, e8⟩ : ∃ k r, keyR r7 = (k, r) := ⟨_, _, rfl⟩
  have hr8 : rok r8 := by have := keyR_ok (r := r7) hr7; rw [e8] at this; exact this
  rw [bnd_eq e8] at hrd
  simp only [e8, A_, simprocAttr, ne_eq, (U_msg_Get _).1, KG_, fillL, storeP_stk, List.append_assoc]
  refine h5 (S.length + 1) r8 _ _ _ (by rw [app_get]; rfl) hr8 fun G => ?_
  obtain ⟨ws, r9, e9⟩ : ∃ k r, writesR r8 = (k, r) := ⟨_, _, rfl⟩
  have hr9 : rok r9 := by have := writesR_ok hr8; rw [e9] at this; exact this
  have hwl : ws.length ≤ 16 := by have := sgood_len (r := r8); rw [e9] at this; exact this
  rw [bnd_eq e9] at hrd
  simp only [e9, lstW, A_, simprocAttr, ne_eq, (U_msg_Get _).1, KG_, fillL, storeP_stk, List.append_assoc]
  unfold tailR at hrd
  refine h0 200 (by omega) (S.length + 1) r9 _ _ _ (by rw [app_get]; rfl) hr9 ?_
  obtain ⟨n, r10, e10⟩ : ∃ k r, mostR 200 r9 = (k, r) := ⟨_, _, rfl⟩
  have hr10 : rok r10 := by have := mostR_ok (m := 200) (r := r9) hr9; rw [e10] at this; exact this
  have hn : n ≤ 200 := by have := mostR_le 200 r9; rw [e10] at this; exact this
  rw [bnd_eq e10] at hrd
  simp only [e10, A_, simprocAttr, ne_eq, (U_msg_Get _).1, KG_, fillL, storeP_stk, List.append_assoc]
  refine loop_rule hC (α := Nat × List It × Rd) (fun a => n - a.1) (fun a => [.undef, .undef, .ptr (.stk S.length) 0, .undef, .ptr (.stk (S.length + 1)) 0, .ptr (.stk (S.length + 2)) 0, .undef, .undef, .undef, .undef, .undef, .undef, .undef, .undef, .undef, .undef, .undef, .undef, .undef, .undef, .undef, .undef, .undef, .undef, .undef, .undef, .undef, .undef, .undef, .undef, .undef, .undef, .undef, .undef, .undef, .undef, .undef, .undef, .undef, .undef, .undef, .s (.int .i64 n), .s (.int .i64 a.1), .undef, .undef, .undef, .undef, .undef, .undef, .undef, .undef, .undef, .undef, .undef, .undef, .undef, .undef, .undef, .undef, .undef, .undef, .undef, .undef, .undef, .undef, .undef, .undef, .undef, .undef, .undef, .undef, .undef, .undef, .undef, .undef, .undef, .undef, .undef, .undef, .undef, .undef, .undef, .undef, .undef, .undef, .undef, .undef, .undef, .undef, .undef, .undef, .undef, .undef, .undef, .undef, .undef]) (fun a => S ++ [mbx zMsg (.s .nilS) (.s .nilS), rdc a.2.2, mbx (mkM v1 v2 v3 (IntKind.i64.wrap v4) (zag v5) v6 v7 v8 ws [] [] 0 0) (.list .sh 18 (ws.map wA)) (slT a.2.1)]) (fun a => H ++ G) (fun a => a.1 ≤ n ∧ rok a.2.2 ∧ a.2.1.length = a.1 ∧ itsR n r10 = (a.2.1 ++ (itsR (n - a.1) a.2.2).1, (itsR (n - a.1) a.2.2).2)) (0, [], r10) ⟨by simp, hr10, rfl, by simp⟩ (by simp [keep, zm]) (by rw [app_take_add]; rfl) rfl (fun a _ => by simp [AV.under, AV.under.go]) ?_
  rintro ⟨i, acc, q⟩ ⟨hi, hq, hal, hinv⟩ ih
  dsimp only at hi hq hal hinv ih ⊢
  by_cases h16 : i < n
  · have hlt : ((i : Int) < (n : Int)) := by omega
    have hw : IntKind.i64.wrap ((i : Int) + 1) = (i : Int) + 1 := wrap_i64 (by omega) (by omega)
    obtain ⟨k, q1, f1⟩ : ∃ k r, keyR q = (k, r) := ⟨_, _, rfl⟩
    have hq1 : rok q1 := by have := keyR_ok (r := q) hq; rw [f1] at this; exact this
    obtain ⟨m, q2, f2⟩ : ∃ k r, mostR 200 q1 = (k, r) := ⟨_, _, rfl⟩
    have hq2 : rok q2 := by have := mostR_ok (m := 200) (r := q1) hq1; rw [f2] at this; exact this
    obtain ⟨v, q3, f3⟩ : ∃ k r, textR m q2 = (k, r) := ⟨_, _, rfl⟩
    have hq3 : rok q3 := by have := textR_ok (n := m) (r := q2) hq2; rw [f3] at this; exact this
    have hit : itR q = (⟨k, v⟩, q3) := by
      unfold itR
      rw [bnd_eq f1, bnd_eq (g := fun v => ret (⟨k, v⟩ : It)) (show bnd (mostR 200) textR q1 = (v, q3) by rw [bnd_eq f2, f3])]; rfl
    have ih2 := ih (i + 1, acc ++ [⟨k, v⟩], q3)
    have hinv2 : itsR n r10 = ((acc ++ [(⟨k, v⟩ : It)]) ++ (itsR (n - (i + 1)) q3).1, (itsR (n - (i + 1)) q3).2) := by
      rw [hinv, show n - i = (n - (i + 1)) + 1 by omega, itsR, hit]
      simp
    have hl8 : acc.length ≤ 1000000 := by omega
    by_cases hacc : acc = []
    · subst hacc
      rw [show slT ([] ++ [(⟨k, v⟩ : It)]) = .list .own 17 [itA ⟨k, v⟩] from rfl] at ih2
      simp only [mbx, A_, simprocAttr, ne_eq, (U_msg_Get _).1, KG_, fillL, storeP_stk, List.append_assoc, hlt, show slT [] = .s .nilS from rfl]
      refine h4 (S.length + 1) q _ _ _ (by rw [app_get]; rfl) hq ?_
      simp only [f1, A_, simprocAttr, ne_eq, (U_msg_Get _).1, KG_, fillL, storeP_stk, List.append_assoc, hlt]
      refine h0 200 (by omega) (S.length + 1) q1 _ _ _ (by rw [app_get]; rfl) hq1 ?_
      simp only [f2, A_, simprocAttr, ne_eq, (U_msg_Get _).1, KG_, fillL, storeP_stk, List.append_assoc]
      refine h6 m (S.length + 1) q2 _ _ _ (by rw [app_get]; rfl) hq2 ?_
      simp only [f3, A_, simprocAttr, ne_eq, (U_msg_Get _).1, KG_, fillL, storeP_stk, List.append_assoc, app_nilT, hl8, hw]
      exact ih2 _ _ _ (by dsimp only; omega) ⟨by dsimp only; omega, hq3, by simp [hal], hinv2⟩ (by simp [keep, zm]) (by rw [app_take_add]; rfl) rfl
    · rw [show slT (acc ++ [(⟨k, v⟩ : It)]) = .list .own 17 ((acc ++ [(⟨k, v⟩ : It)]).map itA) from if_neg (by simp)] at ih2
      simp only [mbx, A_, simprocAttr, ne_eq, (U_msg_Get _).1, KG_, fillL, storeP_stk, List.append_assoc, hlt, show slT acc = .list .own 17 (acc.map itA) from if_neg hacc]
      refine h4 (S.length + 1) q _ _ _ (by rw [app_get]; rfl) hq ?_
      simp only [f1, A_, simprocAttr, ne_eq, (U_msg_Get _).1, KG_, fillL, storeP_stk, List.append_assoc, hlt]
      refine h0 200 (by omega) (S.length + 1) q1 _ _ _ (by rw [app_get]; rfl) hq1 ?_
      simp only [f2, A_, simprocAttr, ne_eq, (U_msg_Get _).1, KG_, fillL, storeP_stk, List.append_assoc]
      refine h6 m (S.length + 1) q2 _ _ _ (by rw [app_get]; rfl) hq2 ?_
      simp only [f3, A_, simprocAttr, ne_eq, (U_msg_Get _).1, KG_, fillL, storeP_stk, List.append_assoc, app_ownT, hl8, hw]
      exact ih2 _ _ _ (by dsimp only; omega) ⟨by dsimp only; omega, hq3, by simp [hal], hinv2⟩ (by simp [keep, zm]) (by rw [app_take_add]; rfl) rfl
  · have hlt : ¬ ((i : Int) < (n : Int)) := by omega
    have hal2 : acc.length ≤ 200 := by omega
    rw [show n - i = 0 by omega] at hinv
    simp only [itsR, List.append_nil] at hinv
    rw [bnd_eq hinv] at hrd
    have hivl : ∀ x ∈ acc, x.val.length ≤ 200 := fun x hx => itsR_vals n r10 x (by rw [hinv]; exact hx)
    clear hinv ih
    obtain ⟨m, q2, f2⟩ : ∃ k r, mostR 200 q = (k, r) := ⟨_, _, rfl⟩
    have hq2 : rok q2 := by have := mostR_ok (m := 200) (r := q) hq; rw [f2] at this; exact this
    have hm200 : m ≤ 200 := by have := mostR_le 200 q; rw [f2] at this; exact this
    obtain ⟨v, q3, f3⟩ : ∃ k r, textR m q2 = (k, r) := ⟨_, _, rfl⟩
    have hq3 : rok q3 := by have := textR_ok (n := m) (r := q2) hq2; rw [f3] at this; exact this
    have hv200 : v.length ≤ 200 := by have := textR_len m q2; rw [f3] at this; dsimp only at this; omega
    obtain ⟨fl, q4, f4⟩ : ∃ k r, mostR 3 q3 = (k, r) := ⟨_, _, rfl⟩
    have hq4 : rok q4 := by have := mostR_ok (m := 3) (r := q3) hq3; rw [f4] at this; exact this
    have hfl : fl ≤ 3 := by have := mostR_le 3 q3; rw [f4] at this; exact this
    obtain ⟨er, q5, f5⟩ : ∃ k r, mostR 12 q4 = (k, r) := ⟨_, _, rfl⟩
    rw [bnd_eq (show bnd (mostR 200) textR q = (v, q3) by rw [bnd_eq f2, f3]), bnd_eq f4, bnd_eq f5, ret] at hrd
    have hn1 := and1 fl hfl
    have hn2 := and2 fl hfl
    have hbad : ¬ (q5 = some [] ∧ goodM (mkM v1 v2 v3 (IntKind.i64.wrap v4) (zag v5) v6 v7 v8 ws acc v fl er) = true) → getM b = (zMsg, 3) := fun hn => by unfold getM; rw [hrd, if_neg hn]
    have hgood : q5 = some [] → goodM (mkM v1 v2 v3 (IntKind.i64.wrap v4) (zag v5) v6 v7 v8 ws acc v fl er) = true → getM b = (mkM v1 v2 v3 (IntKind.i64.wrap v4) (zag v5) v6 v7 v8 ws acc v fl er, 0) := fun h1 h2 => by unfold getM; rw [hrd, if_pos ⟨h1, h2⟩]
    have hok : okM (mkM v1 v2 v3 (IntKind.i64.wrap v4) (zag v5) v6 v7 v8 ws acc v fl er) := ⟨by simp only [mkM]; omega, by simp only [mkM]; omega, by simp only [mkM]; omega, fun x hx => by have := hivl x hx; omega⟩
    clear hrd
    by_cases hacc : acc = []
    · rw [show slT acc = .s .nilS from if_pos hacc]
      simp only [mbx, A_, simprocAttr, ne_eq, (U_msg_Get _).1, KG_, fillL, storeP_stk, List.append_assoc, hlt]
      refine h0 200 (by omega) (S.length + 1) q _ _ _ (by rw [app_get]; rfl) hq ?_
      simp only [f2, A_, simprocAttr, ne_eq, (U_msg_Get _).1, KG_, fillL, storeP_stk, List.append_assoc]
      refine h6 m (S.length + 1) q2 _ _ _ (by rw [app_get]; rfl) hq2 ?_
      simp only [f3, A_, simprocAttr, ne_eq, (U_msg_Get _).1, KG_, fillL, storeP_stk, List.append_assoc]
      refine h0 3 (by omega) (S.length + 1) q3 _ _ _ (by rw [app_get]; rfl) hq3 ?_
      simp only [f4, A_, simprocAttr, ne_eq, (U_msg_Get _).1, KG_, fillL, storeP_stk, List.append_assoc, hn1, hn2, decide_not, Bool.not_not]
      refine h0 12 (by omega) (S.length + 1) q4 _ _ _ (by rw [app_get]; rfl) hq4 ?_
      simp only [f5, A_, simprocAttr, ne_eq, (U_msg_Get _).1, KG_, fillL, storeP_stk, List.append_assoc]
      cases q5 with
      | none =>
        have hKf := hK G
        rw [hbad (by rintro ⟨h, _⟩; cases h)] at hKf
        simp only [A_, simprocAttr, ne_eq, (U_msg_Get _).1, KG_, fillL, storeP_stk, List.append_assoc, rdc]
        exact ⟨_, .inr (zmsg_wkT _), by simpa [tupM] using hKf⟩
      | some l =>
      cases l with
      | cons y l =>
        have hKf := hK G
        rw [hbad (by rintro ⟨h, _⟩; cases h)] at hKf
        have hpos : ((0 : Int) < (((bs (y :: l)).length : Nat) : Int)) := by rw [bs_length]; simp <;> omega
        simp only [A_, simprocAttr, ne_eq, (U_msg_Get _).1, KG_, fillL, storeP_stk, List.append_assoc, rdc, hpos]
        exact ⟨_, .inr (zmsg_wkT _), by simpa [tupM] using hKf⟩
      | nil =>
        have hpos : ¬ ((0 : Int) < (((bs []).length : Nat) : Int)) := by rw [bs_length]; simp
        simp only [A_, simprocAttr, ne_eq, (U_msg_Get _).1, KG_, fillL, storeP_stk, List.append_assoc, rdc, hpos]
        refine hW _ _ [.agg (msc (mkM v1 v2 v3 (IntKind.i64.wrap v4) (zag v5) v6 v7 v8 ws acc v fl er))] _ _ (mbx_wkF (mkM v1 v2 v3 (IntKind.i64.wrap v4) (zag v5) v6 v7 v8 ws acc v fl er) _ _ (.inl rfl) (.inr ⟨rfl, hacc⟩)) ?_
        refine h7 _ _ _ _ hok fun G2 => ?_
        cases hg : goodM (mkM v1 v2 v3 (IntKind.i64.wrap v4) (zag v5) v6 v7 v8 ws acc v fl er) with
        | false =>
          have hKf := hK (G ++ G2)
          rw [hbad (by rintro ⟨_, h⟩; rw [hg] at h; cases h)] at hKf
          simp only [A_, simprocAttr, ne_eq, (U_msg_Get _).1, KG_, fillL, storeP_stk, List.append_assoc]
          exact ⟨_, .inr (zmsg_wkT _), by simpa [tupM] using hKf⟩
        | true =>
          have hKf := hK (G ++ G2)
          rw [hgood rfl hg] at hKf
          simp only [A_, simprocAttr, ne_eq, (U_msg_Get _).1, KG_, fillL, storeP_stk, List.append_assoc]
          exact ⟨_, .inr (mbx_wkT (mkM v1 v2 v3 (IntKind.i64.wrap v4) (zag v5) v6 v7 v8 ws acc v fl er) _ _ _ (.inl rfl) (.inr ⟨rfl, hacc⟩)), by simpa [tupM] using hKf⟩
    · rw [show slT acc = .list .own 17 (acc.map itA) from if_neg hacc]
      simp only [mbx, A_, simprocAttr, ne_eq, (U_msg_Get _).1, KG_, fillL, storeP_stk, List.append_assoc, hlt]
      refine h0 200 (by omega) (S.length + 1) q _ _ _ (by rw [app_get]; rfl) hq ?_
      simp only [f2, A_, simprocAttr, ne_eq, (U_msg_Get _).1, KG_, fillL, storeP_stk, List.append_assoc]
      refine h6 m (S.length + 1) q2 _ _ _ (by rw [app_get]; rfl) hq2 ?_
      simp only [f3, A_, simprocAttr, ne_eq, (U_msg_Get _).1, KG_, fillL, storeP_stk, List.append_assoc]
      refine h0 3 (by omega) (S.length + 1) q3 _ _ _ (by rw [app_get]; rfl) hq3 ?_
      simp only [f4, A_, simprocAttr, ne_eq, (U_msg_Get _).1, KG_, fillL, storeP_stk, List.append_assoc, hn1, hn2, decide_not, Bool.not_not]
      refine h0 12 (by omega) (S.length + 1) q4 _ _ _ (by rw [app_get]; rfl) hq4 ?_
      simp only [f5, A_, simprocAttr, ne_eq, (U_msg_Get _).1, KG_, fillL, storeP_stk, List.append_assoc]
      cases q5 with
      | none =>
        have hKf := hK G
        rw [hbad (by rintro ⟨h, _⟩; cases h)] at hKf
        simp only [A_, simprocAttr, ne_eq, (U_msg_Get _).1, KG_, fillL, storeP_stk, List.append_assoc, rdc]
        exact ⟨_, .inr (zmsg_wkT _), by simpa [tupM] using hKf⟩
      | some l =>
      cases l with
      | cons y l =>
        have hKf := hK G
        rw [hbad (by rintro ⟨h, _⟩; cases h)] at hKf
        have hpos : ((0 : Int) < (((bs (y :: l)).length : Nat) : Int)) := by rw [bs_length]; simp <;> omega
        simp only [A_, simprocAttr, ne_eq, (U_msg_Get _).1, KG_, fillL, storeP_stk, List.append_assoc, rdc, hpos]
        exact ⟨_, .inr (zmsg_wkT _), by simpa [tupM] using hKf⟩
      | nil =>
        have hpos : ¬ ((0 : Int) < (((bs []).length : Nat) : Int)) := by rw [bs_length]; simp
        simp only [A_, simprocAttr, ne_eq, (U_msg_Get _).1, KG_, fillL, storeP_stk, List.append_assoc, rdc, hpos]
        refine hW _ _ [.agg (msc (mkM v1 v2 v3 (IntKind.i64.wrap v4) (zag v5) v6 v7 v8 ws acc v fl er))] _ _ (mbx_wkF (mkM v1 v2 v3 (IntKind.i64.wrap v4) (zag v5) v6 v7 v8 ws acc v fl er) _ _ (.inl rfl) (.inl rfl)) ?_
        refine h7 _ _ _ _ hok fun G2 => ?_
        cases hg : goodM (mkM v1 v2 v3 (IntKind.i64.wrap v4) (zag v5) v6 v7 v8 ws acc v fl er) with
        | false =>
          have hKf := hK (G ++ G2)
          rw [hbad (by rintro ⟨_, h⟩; rw [hg] at h; cases h)] at hKf
          simp only [A_, simprocAttr, ne_eq, (U_msg_Get _).1, KG_, fillL, storeP_stk, List.append_assoc]
          exact ⟨_, .inr (zmsg_wkT _), by simpa [tupM] using hKf⟩
        | true =>
          have hKf := hK (G ++ G2)
          rw [hgood rfl hg] at hKf
          simp only [A_, simprocAttr, ne_eq, (U_msg_Get _).1, KG_, fillL, storeP_stk, List.append_assoc]
          exact ⟨_, .inr (mbx_wkT (mkM v1 v2 v3 (IntKind.i64.wrap v4) (zag v5) v6 v7 v8 ws acc v fl er) _ _ _ (.inl rfl) (.inl rfl)), by simpa [tupM] using hKf⟩
end Go.AM
namespace Go.AM
open Go
set_option maxRecDepth 20000
def GoodMQS (C : CallW) (f : FuncId) : Prop := ∀ (m : Msg) S H (K : AV → St → Prop), okM m → K (.bool (goodM m)) ⟨S, H⟩ → C (.fn f) [.agg (msc m)] ⟨S, H⟩ K
theorem goodM_no {m : Msg} (h : ¬ goodMp m) : goodM m = false := by
  cases hg : goodM m with
  | false => rfl
  | true => exact absurd (goodM_p hg) h
set_option maxHeartbeats 40000000 in
theorem ref19_Good_spec {C : CallW} (hC : LeC C C) (P : Program) {c : Nat → FuncId} (h0 : ∀ s : Stp, FnS C (c 0) [.agg (stc s)] (.bool (goodS s))) (h1 : MayWS C (c 1)) (h2 : BoolK goodR C (c 2)) (h3 : KCmp C (c 3)) : ∀ (m : Msg) S H (K : AV → St → Prop), okM m → K (.bool (goodM m)) ⟨S, H⟩ → runL C P (C_hourglassref19_Good c) [.agg (msc m)] ⟨S, H⟩ K := by
  intro m S H K hm hK
  have bad : ¬ goodMp m → K (.bool false) ⟨S, H⟩ := fun h => by rw [goodM_no h] at hK; exact hK
  have h0' := h0 m.stp
  have h1' := h1 m.writes 0
  unfold stc at h0'
  unfold lstW at h1'
  have hl3 := hm.2.1
  have hl4 := hm.2.2.1
  simp only [C_hourglassref19_Good, msc, A_, simprocAttr, ne_eq, (U_hourglassref19_Good _).1, KG_]
  by_cases a1 : m.kind < 1
  · simp only [A_, simprocAttr, ne_eq, (U_hourglassref19_Good _).1, KG_, a1]
    exact bad fun h => by have := h.k1; omega
  simp only [A_, simprocAttr, ne_eq, (U_hourglassref19_Good _).1, KG_, a1]
  by_cases a2 : 11 < m.kind
  · simp only [A_, simprocAttr, ne_eq, (U_hourglassref19_Good _).1, KG_, a2]
    exact bad fun h => by have := h.k2; omega
  simp only [A_, simprocAttr, ne_eq, (U_hourglassref19_Good _).1, KG_, a2]
  by_cases a3 : m.frm < 0
  · simp only [A_, simprocAttr, ne_eq, (U_hourglassref19_Good _).1, KG_, a3]
    exact bad fun h => by have := h.f1; omega
  simp only [A_, simprocAttr, ne_eq, (U_hourglassref19_Good _).1, KG_, a3]
  by_cases a4 : 255 < m.frm
  · simp only [A_, simprocAttr, ne_eq, (U_hourglassref19_Good _).1, KG_, a4]
    exact bad fun h => by have := h.f2; omega
  simp only [A_, simprocAttr, ne_eq, (U_hourglassref19_Good _).1, KG_, a4]
  by_cases a5 : m.tto < 0
  · simp only [A_, simprocAttr, ne_eq, (U_hourglassref19_Good _).1, KG_, a5]
    exact bad fun h => by have := h.t1; omega
  simp only [A_, simprocAttr, ne_eq, (U_hourglassref19_Good _).1, KG_, a5]
  by_cases a6 : 255 < m.tto
  · simp only [A_, simprocAttr, ne_eq, (U_hourglassref19_Good _).1, KG_, a6]
    exact bad fun h => by have := h.t2; omega
  simp only [A_, simprocAttr, ne_eq, (U_hourglassref19_Good _).1, KG_, a6]
  by_cases a7 : m.id < 0
  · simp only [A_, simprocAttr, ne_eq, (U_hourglassref19_Good _).1, KG_, a7]
    exact bad fun h => by have := h.i1; omega
  simp only [A_, simprocAttr, ne_eq, (U_hourglassref19_Good _).1, KG_, a7]
  refine h0' _ _ _ ?_
  cases a8 : goodS m.stp with
  | false =>
    simp only [A_, simprocAttr, ne_eq, (U_hourglassref19_Good _).1, KG_]
    exact bad fun h => by have := h.s1; rw [a8] at this; cases this
  | true =>
  simp only [A_, simprocAttr, ne_eq, (U_hourglassref19_Good _).1, KG_]
  refine h1' _ _ _ hm.1 ?_
  cases a9 : mayW 0 m.writes with
  | false =>
    simp only [A_, simprocAttr, ne_eq, (U_hourglassref19_Good _).1, KG_]
    exact bad fun h => by
      unfold mayW at a9
      rw [h.w2, decide_eq_true h.w1] at a9
      simp at a9
  | true =>
  simp only [A_, simprocAttr, ne_eq, (U_hourglassref19_Good _).1, KG_]
  by_cases b1 : 200 < m.items.length
  · have b1' : ((200 : Int) < (m.items.length : Int)) := by omega
    simp only [A_, simprocAttr, ne_eq, (U_hourglassref19_Good _).1, KG_, b1']
    exact bad fun h => by have := h.g2; omega
  have b1' : ¬ ((200 : Int) < (m.items.length : Int)) := by omega
  simp only [A_, simprocAttr, ne_eq, (U_hourglassref19_Good _).1, KG_, b1']
  by_cases b2 : 200 < m.val.length
  · have b2' : ((200 : Int) < (m.val.length : Int)) := by omega
    simp only [A_, simprocAttr, ne_eq, (U_hourglassref19_Good _).1, KG_, b2']
    exact bad fun h => by have := h.v1; omega
  have b2' : ¬ ((200 : Int) < (m.val.length : Int)) := by omega
  simp only [A_, simprocAttr, ne_eq, (U_hourglassref19_Good _).1, KG_, b2']
  by_cases b3 : m.err < 0
  · simp only [A_, simprocAttr, ne_eq, (U_hourglassref19_Good _).1, KG_, b3]
    exact bad fun h => by have := h.e1; omega
  simp only [A_, simprocAttr, ne_eq, (U_hourglassref19_Good _).1, KG_, b3]
  by_cases b4 : 12 < m.err
  · simp only [A_, simprocAttr, ne_eq, (U_hourglassref19_Good _).1, KG_, b4]
    exact bad fun h => by have := h.e2; omega
  simp only [A_, simprocAttr, ne_eq, (U_hourglassref19_Good _).1, KG_, b4]
  have hw16 : m.writes.length ≤ 16 ∧ sgood [] m.writes = true := by
    unfold mayW at a9
    simp only [Bool.and_eq_true, decide_eq_true_eq] at a9
    exact ⟨a9.1.2, a9.2⟩
  have hit : goodM m = gits none m.items := by
    cases hg : gits none m.items with
    | false => exact goodM_no fun h => by have := h.g1; rw [hg] at this; cases this
    | true => exact goodM_i ⟨by omega, by omega, by omega, by omega, by omega, by omega, by omega, a8, by omega, by omega, by omega, hw16.1, hw16.2, hg, by omega⟩
  rw [hit] at hK
  clear bad hit
  refine loop_rule hC (α := Nat) (fun a => m.items.length - a) (fun a => [.undef, .ptr (.stk S.length) 0, .undef, .s (.int .i64 a), .undef, .undef, .undef, .undef, .undef, .undef, .undef, .undef, .undef, .undef, .undef, .undef, .undef, .undef, .undef, .undef, .undef, .undef, .undef, .undef, .undef, .undef, .undef, .undef, .undef, .undef, .undef, .undef, .undef, .undef, .undef, .undef, .undef, .undef, .undef, .undef, .undef, .undef, .undef, .undef, .undef, .undef, .undef, .undef, .undef, .undef, .undef, .undef, .undef, .undef, .undef, .undef, .undef, .undef, .undef, .undef, .undef, .undef, .undef, .undef, .undef, .undef, .undef, .undef, .undef, .undef, .undef, .undef, .undef, .undef, .undef, .undef, .undef, .undef, .undef, .undef, .undef, .undef, .undef, .undef, .undef, .undef, .undef, .undef, .undef, .undef, .undef, .undef, .undef, .undef, .undef, .undef, .undef, .undef, .undef, .undef, .undef, .undef, .undef, .undef, .undef, .undef, .undef, .undef, .undef, .undef, .undef, .undef, .undef, .undef, .undef, .undef, .undef]) (fun _ => S ++ [msc m]) (fun _ => H) (fun i => i ≤ m.items.length ∧ gits none m.items = gits (prevIt m.items i) (m.items.drop i)) 0 ⟨by simp, by rw [prevIt_0]; rfl⟩ (by simp [keep, zm]) (by rw [app_take_add]; rfl) rfl (fun a _ => by simp [AV.under, AV.under.go]) ?_
  rintro i ⟨hi, hinv⟩ ih
  by_cases h16 : i < m.items.length
  · have hlt : ((i : Int) < (m.items.length : Int)) := by omega
    have hw : IntKind.i64.wrap ((i : Int) + 1) = (i : Int) + 1 := wrap_i64 (by omega) (by omega)
    rw [List.drop_eq_getElem_cons h16, gits_cons] at hinv
    simp only [msc, A_, simprocAttr, ne_eq, (U_hourglassref19_Good _).1, KG_, IT_, hlt, h16]
    refine h2 _ _ _ _ ?_
    rw [goodRK]
    cases hg : goodK (m.items[i]).key with
    | false =>
      rw [if_pos hg] at hinv
      rw [hinv] at hK
      simp only [A_, simprocAttr, ne_eq, (U_hourglassref19_Good _).1, KG_, IT_]
      exact hK
    | true =>
    rw [if_neg (by rw [hg]; simp)] at hinv
    by_cases e3 : 200 < (m.items[i]).val.length
    · have e3' : ((200 : Int) < ((m.items[i]).val.length : Int)) := by omega
      rw [if_pos e3] at hinv
      rw [hinv] at hK
      simp only [A_, simprocAttr, ne_eq, (U_hourglassref19_Good _).1, KG_, IT_, h16, e3']
      exact hK
    have e3' : ¬ ((200 : Int) < ((m.items[i]).val.length : Int)) := by omega
    rw [if_neg e3] at hinv
    by_cases hi0 : 0 < i
    · have hi0' : ((0 : Int) < (i : Int)) := by omega
      have hw1 : IntKind.i64.wrap ((i : Int) - 1) = ((i - 1 : Nat) : Int) := by rw [wrap_i64 (by omega) (by omega)]; omega
      have h17 : i - 1 < m.items.length := by omega
      rw [prevIt_p hi0 (by omega)] at hinv
      dsimp only at hinv
      simp only [A_, simprocAttr, ne_eq, (U_hourglassref19_Good _).1, KG_, IT_, h16, e3', hi0', hw1, h17]
      refine h3 _ _ _ _ _ ?_
      have hfl : cmpK (m.items[i - 1]).key (m.items[i]).key = - cmpK (m.items[i]).key (m.items[i - 1]).key := cmp_flip _ _
      by_cases e4 : Lib.compareBytes (m.items[i]).key.b (m.items[i - 1]).key.b ≤ 0
      · have e5 : cmpK (m.items[i]).key (m.items[i - 1]).key ≤ 0 := e4
        rw [if_pos (decide_eq_true (show 0 ≤ cmpK (m.items[i - 1]).key (m.items[i]).key by omega))] at hinv
        rw [hinv] at hK
        simp only [A_, simprocAttr, ne_eq, (U_hourglassref19_Good _).1, KG_, IT_, e4]
        exact hK
      · have e5 : ¬ cmpK (m.items[i]).key (m.items[i - 1]).key ≤ 0 := e4
        rw [if_neg (by rw [decide_eq_true_iff]; omega)] at hinv
        simp only [A_, simprocAttr, ne_eq, (U_hourglassref19_Good _).1, KG_, IT_, e4, hw]
        exact ih (i + 1) _ _ _ (by omega) ⟨by omega, by rw [prevIt_s h16]; exact hinv⟩ (by simp [keep, zm]) (by rw [app_take_add]; rfl) rfl
    · have hi0' : ¬ ((0 : Int) < (i : Int)) := by omega
      have : prevIt m.items i = none := by rw [show i = 0 by omega, prevIt_0]
      rw [this, if_neg (by simp)] at hinv
      simp only [A_, simprocAttr, ne_eq, (U_hourglassref19_Good _).1, KG_, IT_, e3', hi0', hw, h16]
      exact ih (i + 1) _ _ _ (by omega) ⟨by omega, by rw [prevIt_s h16]; exact hinv⟩ (by simp [keep, zm]) (by rw [app_take_add]; rfl) rfl
  · have hlt : ¬ ((i : Int) < (m.items.length : Int)) := by omega
    rw [List.drop_of_length_le (by omega), gits_nil] at hinv
    rw [hinv] at hK
    simp only [msc, A_, simprocAttr, ne_eq, (U_hourglassref19_Good _).1, KG_, IT_, hlt]
    exact hK
end Go.AM
namespace Go.AM
open Go
set_option maxRecDepth 20000
def tupMb (x : Msg × Bool) : AV := .tup [.agg (msc x.1), .s (.bool x.2)]
def GetMQS (C : CallW) (f : FuncId) : Prop := ∀ (a : AV) (b : List UInt8) S H (K : AV → St → Prop), BA a b → b.length ≤ 9223372036854775807 → K (tupMb (getMQ b)) ⟨S, H⟩ → C (.fn f) [a] ⟨S, H⟩ K
theorem and81 : ∀ n : Nat, n < 256 → (IntKind.u8.wrap (((BitVec.ofInt IntKind.u8.bits (n : Int) &&& BitVec.ofInt IntKind.u8.bits 1).toNat : Nat) : Int) = 1) = (n % 2 = 1) := by decide
theorem and82 : ∀ n : Nat, n < 256 → (IntKind.u8.wrap (((BitVec.ofInt IntKind.u8.bits (n : Int) &&& BitVec.ofInt IntKind.u8.bits 2).toNat : Nat) : Int) = 2) = (n / 2 % 2 = 1) := by decide
theorem itsQ_vals (B : List UInt8) (hB : B.length ≤ 9223372036854775807) : ∀ (n : Nat) (r : Rd), (∀ q, r = some q → q.length ≤ B.length) → ∀ (x : It), x ∈ (itsQ n r).1 → x.val.length ≤ 9223372036854775807
  | 0, r, _, x, h => by cases h
  | n + 1, none, _, x, h => by cases h
  | n + 1, some b, hr, x, h => by
    rw [itsQ] at h
    have h1 : restLe (some b) (itQ (some b)).2 := ((textR_le 16 _).trans (numR_le _)).trans (textR_le _ _)
    rcases List.mem_cons.1 h with rfl | h
    · show (textR (numR (keyR (some b)).2).1 (numR (keyR (some b)).2).2).1.length ≤ _
      have h2 : restLe (some b) (numR (keyR (some b)).2).2 := (textR_le 16 _).trans (numR_le _)
      cases hq : (numR (keyR (some b)).2).2 with
      | none => exact Nat.zero_le _
      | some q =>
        obtain ⟨p, hp, hl⟩ := h2 q hq
        cases hp
        have := hr b rfl
        rw [textR_some]
        split
        · exact Nat.zero_le _
        · simp only [List.length_take]; omega
    · refine itsQ_vals B hB n _ (fun q hq => ?_) x h
      obtain ⟨p, hp, hl⟩ := h1 q hq
      cases hp
      have := hr b rfl
      omega
set_option maxHeartbeats 40000000 in
theorem ref19_Get_spec {C : CallW} (hC : LeC C C) (hW : WkC C) (P : Program) {c : Nat → FuncId} (h0 : ∀ m : Nat, m < 9223372036854775808 → RfS C (c 0) [.s (.int .u64 m)] fun r => (.s (.int .i64 ((mostR m r).1 : Nat)), (mostR m r).2)) (h1 : RfS C (c 1) [] fun r => (.s (.int .u64 ((numR r).1 : Nat)), (numR r).2)) (h2 : ∀ n : Nat, n < 18446744073709551616 → FnS C (c 2) [.s (.int .u64 n)] (.s (.int .i64 (zag n)))) (h3 : RfS C (c 3) [] fun r => (.agg (stc (stampR r).1), (stampR r).2)) (h4 : RfS C (c 4) [] fun r => (.agg (bs (keyR r).1.b), (keyR r).2)) (h5 : WritesQS C (c 5)) (h6 : RfS C (c 6) [] fun r => (.s (.str (textR (numR r).1 (numR r).2).1), (textR (numR r).1 (numR r).2).2)) (h7 : RfS C (c 7) [] fun r => (.s (.int .u8 (byteR r).1.toNat), (byteR r).2)) (h8 : EndS C (c 8)) (h9 : GoodMQS C (c 9)) : ∀ (b : List UInt8) S H (K : AV → St → Prop), b.length ≤ 9223372036854775807 → K (tupMb (getMQ b)) ⟨S, H⟩ → runL C P (C_hourglassref19_Get c) [.list .sh 1 (bs b)] ⟨S, H⟩ (WkK K) := by
  intro b S H K hb hK
  simp only [C_hourglassref19_Get, A_, simprocAttr, ne_eq, (U_hourglassref19_Get _).1, KG_, fillL, storeP_stk, List.append_assoc, zm_eq]
  have h00 : rfA b 0 false = some b := by rw [rfA_f, List.drop_zero]
  have hrd : readMQ (some b) = readMQ (rfA b 0 false) := by rw [h00]
  conv at hrd => rhs; unfold readMQ
  clear h00
  have hp0 : 0 ≤ b.length := Nat.zero_le _
  refine h0 11 (by omega) (S.length + 1) b 0 false _ _ _ (by rw [app_get]; rfl) hp0 hb fun p1 bad1 hp1 g1 => ?_
  obtain ⟨v1, e1⟩ : ∃ v, mostR 11 (rfA b 0 false) = (v, rfA b p1 bad1) := ⟨_, Prod.ext rfl g1.symm⟩
  clear g1
  rw [bnd_eq e1] at hrd
  simp only [e1, A_, simprocAttr, ne_eq, (U_hourglassref19_Get _).1, KG_, fillL, storeP_stk, List.append_assoc]
  refine h0 255 (by omega) (S.length + 1) b p1 bad1 _ _ _ (by rw [app_get]; rfl) hp1 hb fun p2 bad2 hp2 g2 => ?_
  obtain ⟨v2, e2⟩ : ∃ v, mostR 255 (rfA b p1 bad1) = (v, rfA b p2 bad2) := ⟨_, Prod.ext rfl g2.symm⟩
  clear g2
  rw [bnd_eq e2] at hrd
  simp only [e2, A_, simprocAttr, ne_eq, (U_hourglassref19_Get _).1, KG_, fillL, storeP_stk, List.append_assoc]
  refine h0 255 (by omega) (S.length + 1) b p2 bad2 _ _ _ (by rw [app_get]; rfl) hp2 hb fun p3 bad3 hp3 g3 => ?_
  obtain ⟨v3, e3⟩ : ∃ v, mostR 255 (rfA b p2 bad2) = (v, rfA b p3 bad3) := ⟨_, Prod.ext rfl g3.symm⟩
  clear g3
  rw [bnd_eq e3] at hrd
  simp only [e3, A_, simprocAttr, ne_eq, (U_hourglassref19_Get _).1, KG_, fillL, storeP_stk, List.append_assoc, zm_eq]
  refine h1 (S.length + 1) b p3 bad3 _ _ _ (by rw [app_get]; rfl) hp3 hb fun p4 bad4 hp4 g4 => ?_
  obtain ⟨v4, e4⟩ : ∃ v, numR (rfA b p3 bad3) = (v, rfA b p4 bad4) := ⟨_, Prod.ext rfl g4.symm⟩
  clear g4
  rw [bnd_eq e4] at hrd
  simp only [e4, A_, simprocAttr, ne_eq, (U_hourglassref19_Get _).1, KG_, fillL, storeP_stk, List.append_assoc]
  refine h1 (S.length + 1) b p4 bad4 _ _ _ (by rw [app_get]; rfl) hp4 hb fun p5 bad5 hp5 g5 => ?_
  obtain ⟨v5, e5⟩ : ∃ v, numR (rfA b p4 bad4) = (v, rfA b p5 bad5) := ⟨_, Prod.ext rfl g5.symm⟩
  clear g5
  rw [bnd_eq e5] at hrd
  have hn5 : v5 < 18446744073709551616 := by have := numR_lt (rfA b p4 bad4); rw [e5] at this; exact this
  simp only [e5, A_, simprocAttr, ne_eq, (U_hourglassref19_Get _).1, KG_, fillL, storeP_stk, List.append_assoc]
  refine h2 v5 hn5 _ _ _ ?_
  simp only [A_, simprocAttr, ne_eq, (U_hourglassref19_Get _).1, KG_, fillL, storeP_stk, List.append_assoc]
  refine h3 (S.length + 1) b p5 bad5 _ _ _ (by rw [app_get]; rfl) hp5 hb fun p6 bad6 hp6 g6 => ?_
  obtain ⟨v6, e6⟩ : ∃ v, stampR (rfA b p5 bad5) = (v, rfA b p6 bad6) := ⟨_, Prod.ext rfl g6.symm⟩
  clear g6
  rw [bnd_eq e6] at hrd
  simp only [e6, stc, A_, simprocAttr, ne_eq, (U_hourglassref19_Get _).1, KG_, fillL, storeP_stk, List.append_assoc]
  refine h4 (S.length + 1) b p6 bad6 _ _ _ (by rw [app_get]; rfl) hp6 hb fun p7 bad7 hp7 g7 => ?_
  obtain ⟨v7, e7⟩ : ∃ v, keyR (rfA b p6 bad6) = (v, rfA b p7 bad7) := ⟨_, Prod.ext rfl g7.symm⟩
  clear g7
  rw [bnd_eq e7] at hrd
  simp only [e7, A_, simprocAttr, ne_eq, (U_hourglassref19_Get _).1, KG_, fillL, storeP_stk, List.append_assoc]
  refine h4 (S.length + 1) b p7 bad7 _ _ _ (by rw [app_get]; rfl) hp7 hb fun p8 bad8 hp8 g8 => ?_
  obtain ⟨v8, e8⟩ : ∃ v, keyR (rfA b p7 bad7) = (v, rfA b p8 bad8) := ⟨_, Prod.ext rfl g8.symm⟩
  clear g8
  rw [bnd_eq e8] at hrd
  simp only [e8, A_, simprocAttr, ne_eq, (U_hourglassref19_Get _).1, KG_, fillL, storeP_stk, List.append_assoc]
  refine h5 (S.length + 1) b p8 bad8 _ _ _ (by rw [app_get]; rfl) hp8 hb fun p9 bad9 hp9 g9 => ?_
  obtain ⟨v9, e9⟩ : ∃ v, writesQ (rfA b p8 bad8) = (v, rfA b p9 bad9) := ⟨_, Prod.ext rfl g9.symm⟩
  clear g9
  rw [bnd_eq e9] at hrd
  have hwl : v9.length ≤ 16 := by have := writesQ_len (r := rfA b p8 bad8); rw [e9] at this; exact this
  simp only [e9, lstW, A_, simprocAttr, ne_eq, (U_hourglassref19_Get _).1, KG_, fillL, storeP_stk, List.append_assoc]
  refine h0 200 (by omega) (S.length + 1) b p9 bad9 _ _ _ (by rw [app_get]; rfl) hp9 hb fun p10 bad10 hp10 g10 => ?_
  obtain ⟨v10, e10⟩ : ∃ v, mostR 200 (rfA b p9 bad9) = (v, rfA b p10 bad10) := ⟨_, Prod.ext rfl g10.symm⟩
  clear g10
  have ht : tailQ (mkM v1 v2 v3 v4 (zag v5) v6 v7 v8 v9) (rfA b p9 bad9) = tailQ (mkM v1 v2 v3 v4 (zag v5) v6 v7 v8 v9) (rfA b p9 bad9) := rfl
  conv at ht => rhs; unfold tailQ
  rw [bnd_eq e10] at ht
  have hn : v10 ≤ 200 := by have := mostR_le 200 (rfA b p9 bad9); rw [e10] at this; exact this
  simp only [e10, A_, simprocAttr, ne_eq, (U_hourglassref19_Get _).1, KG_, fillL, storeP_stk, List.append_assoc]
  refine loop_rule hC (α := Nat × List It × Nat × Bool) (fun a => v10 - a.1) (fun a => [.undef, .undef, .ptr (.stk S.length) 0, .undef, .ptr (.stk (S.length + 1)) 0, .ptr (.stk (S.length + 2)) 0, .s (.int .u64 v4), .s (.int .i64 v10), .s (.int .i64 a.1), .undef, .undef, .undef, .undef, .undef, .undef, .undef, .undef, .undef, .undef, .undef, .undef, .undef, .undef, .undef, .undef, .undef, .undef, .undef, .undef, .undef, .undef, .undef, .undef, .undef, .undef, .undef, .undef, .undef, .undef, .undef, .undef, .undef, .undef, .undef, .undef, .undef, .undef, .undef, .undef, .undef, .undef, .undef, .undef, .undef, .undef, .undef, .undef, .undef, .undef, .undef, .undef, .undef, .undef, .undef, .undef, .undef, .undef, .undef, .undef, .undef, .undef, .undef, .undef, .undef, .undef, .undef, .undef, .undef, .undef, .undef, .undef, .undef, .undef, .undef, .undef, .undef, .undef, .undef, .undef, .undef, .undef, .undef, .undef, .undef, .undef, .undef, .undef, .undef, .undef, .undef, .undef]) (fun a => S ++ [mbx zMsg (.s .nilS) (.s .nilS), rfc b a.2.2.1 a.2.2.2, mbx (mkM v1 v2 v3 0 (zag v5) v6 v7 v8 v9 [] [] 0 0) (.list .sh 18 (v9.map wA)) (slT a.2.1)]) (fun a => H) (fun a => a.1 ≤ v10 ∧ a.2.2.1 ≤ b.length ∧ a.2.1.length = a.1 ∧ itsQ v10 (rfA b p10 bad10) = (a.2.1 ++ (itsQ (v10 - a.1) (rfA b a.2.2.1 a.2.2.2)).1, (itsQ (v10 - a.1) (rfA b a.2.2.1 a.2.2.2)).2)) (0, [], p10, bad10) ⟨by simp, hp10, rfl, by simp⟩ (by simp [keep, zm]) (by rw [app_take_add]; rfl) rfl (fun a _ => by simp [AV.under, AV.under.go]) ?_
  rintro ⟨i, acc, p, bad⟩ ⟨hi, hp, hal, hinv⟩ ih
  dsimp only at hi hp hal hinv ih ⊢
  by_cases h16 : i < v10 ∧ bad = false
  · obtain ⟨h16, rfl⟩ := h16
    have hlt : ((i : Int) < (v10 : Int)) := by omega
    have hw : IntKind.i64.wrap ((i : Int) + 1) = (i : Int) + 1 := wrap_i64 (by omega) (by omega)
    have hl8 : acc.length ≤ 1000000 := by omega
    by_cases hacc : acc = []
    · subst hacc
      simp only [mbx, rfc, A_, simprocAttr, ne_eq, (U_hourglassref19_Get _).1, KG_, fillL, storeP_stk, List.append_assoc, hlt, show slT [] = .s .nilS from rfl]
      refine h4 (S.length + 1) b p false _ _ _ (by rw [app_get]; rfl) hp hb fun q1 c1 hq1 g1 => ?_
      obtain ⟨k, f1⟩ : ∃ v, keyR (rfA b p false) = (v, rfA b q1 c1) := ⟨_, Prod.ext rfl g1.symm⟩
      clear g1
      simp only [f1, A_, simprocAttr, ne_eq, (U_hourglassref19_Get _).1, KG_, fillL, storeP_stk, List.append_assoc, hlt]
      refine h6 (S.length + 1) b q1 c1 _ _ _ (by rw [app_get]; rfl) hq1 hb fun q2 c2 hq2 g2 => ?_
      obtain ⟨v, f2⟩ : ∃ v, bnd numR textR (rfA b q1 c1) = (v, rfA b q2 c2) := ⟨_, Prod.ext rfl g2.symm⟩
      clear g2
      have f2' : (textR (numR (rfA b q1 c1)).1 (numR (rfA b q1 c1)).2).1 = v := congrArg Prod.fst f2
      have hit : itQ (some (b.drop p)) = (⟨k, v⟩, rfA b q2 c2) := by
        rw [← rfA_f, itQ, bnd_eq f1, bnd_eq (g := fun v => ret (⟨k, v⟩ : It)) f2]; rfl
      have ih2 := ih (i + 1, [] ++ [⟨k, v⟩], q2, c2)
      have hinv2 : itsQ v10 (rfA b p10 bad10) = (([] ++ [(⟨k, v⟩ : It)]) ++ (itsQ (v10 - (i + 1)) (rfA b q2 c2)).1, (itsQ (v10 - (i + 1)) (rfA b q2 c2)).2) := by
        rw [hinv, show v10 - i = (v10 - (i + 1)) + 1 by omega, rfA_f, itsQ, hit]
        simp
      rw [show slT ([] ++ [(⟨k, v⟩ : It)]) = .list .own 17 [itA ⟨k, v⟩] from rfl] at ih2
      simp only [f2', A_, simprocAttr, ne_eq, (U_hourglassref19_Get _).1, KG_, fillL, storeP_stk, List.append_assoc, app_nilT, hl8, hw]
      exact ih2 _ _ _ (by dsimp only; omega) ⟨by dsimp only; omega, hq2, by simp [hal], hinv2⟩ (by simp [keep, zm]) (by rw [app_take_add]; rfl) rfl
    · simp only [mbx, rfc, A_, simprocAttr, ne_eq, (U_hourglassref19_Get _).1, KG_, fillL, storeP_stk, List.append_assoc, hlt, show slT acc = .list .own 17 (acc.map itA) from if_neg hacc]
      refine h4 (S.length + 1) b p false _ _ _ (by rw [app_get]; rfl) hp hb fun q1 c1 hq1 g1 => ?_
      obtain ⟨k, f1⟩ : ∃ v, keyR (rfA b p false) = (v, rfA b q1 c1) := ⟨_, Prod.ext rfl g1.symm⟩
      clear g1
      simp only [f1, A_, simprocAttr, ne_eq, (U_hourglassref19_Get _).1, KG_, fillL, storeP_stk, List.append_assoc, hlt]
      refine h6 (S.length + 1) b q1 c1 _ _ _ (by rw [app_get]; rfl) hq1 hb fun q2 c2 hq2 g2 => ?_
      obtain ⟨v, f2⟩ : ∃ v, bnd numR textR (rfA b q1 c1) = (v, rfA b q2 c2) := ⟨_, Prod.ext rfl g2.symm⟩
      clear g2
      have f2' : (textR (numR (rfA b q1 c1)).1 (numR (rfA b q1 c1)).2).1 = v := congrArg Prod.fst f2
      have hit : itQ (some (b.drop p)) = (⟨k, v⟩, rfA b q2 c2) := by
        rw [← rfA_f, itQ, bnd_eq f1, bnd_eq (g := fun v => ret (⟨k, v⟩ : It)) f2]; rfl
      have ih2 := ih (i + 1, acc ++ [⟨k, v⟩], q2, c2)
      have hinv2 : itsQ v10 (rfA b p10 bad10) = ((acc ++ [(⟨k, v⟩ : It)]) ++ (itsQ (v10 - (i + 1)) (rfA b q2 c2)).1, (itsQ (v10 - (i + 1)) (rfA b q2 c2)).2) := by
        rw [hinv, show v10 - i = (v10 - (i + 1)) + 1 by omega, rfA_f, itsQ, hit]
        simp
      rw [show slT (acc ++ [(⟨k, v⟩ : It)]) = .list .own 17 ((acc ++ [(⟨k, v⟩ : It)]).map itA) from if_neg (by simp)] at ih2
      simp only [f2', A_, simprocAttr, ne_eq, (U_hourglassref19_Get _).1, KG_, fillL, storeP_stk, List.append_assoc, app_ownT, hl8, hw]
      exact ih2 _ _ _ (by dsimp only; omega) ⟨by dsimp only; omega, hq2, by simp [hal], hinv2⟩ (by simp [keep, zm]) (by rw [app_take_add]; rfl) rfl
  · have hend : itsQ (v10 - i) (rfA b p bad) = ([], rfA b p bad) := by
      cases hb2 : bad with
      | true => rw [rfA_t, itsQ_none]
      | false =>
        have h17 : v10 - i = 0 := by
          have : ¬ i < v10 := fun h => h16 ⟨h, hb2⟩
          omega
        rw [h17]; rfl
    rw [hend] at hinv
    simp only [List.append_nil] at hinv
    rw [bnd_eq hinv] at ht
    have hal2 : acc.length ≤ 200 := by omega
    have hivl : ∀ x ∈ acc, x.val.length ≤ 9223372036854775807 := fun x hx => itsQ_vals b hb v10 (rfA b p10 bad10) (fun q hq => by
      cases bad10 with
      | true => cases hq
      | false => rw [rfA_f] at hq; cases hq; simp) x (by rw [hinv]; exact hx)
    clear hinv hend ih
    by_cases hacc : acc = []
    · rw [show slT acc = .s .nilS from if_pos hacc]
      have tail : ∀ x41 x42 x43 x44 x45 x46 x47 x48 x49 x50 : AV, runC C P false (y6k16 c) [] [.undef, .undef, .ptr (.stk S.length) 0, .undef, .ptr (.stk (S.length + 1)) 0, .ptr (.stk (S.length + 2)) 0, .s (.int .u64 v4), .s (.int .i64 v10), .s (.int .i64 i), .undef, .undef, .undef, .undef, .undef, .undef, .undef, .undef, .undef, .undef, .undef, .undef, .undef, .undef, .undef, .undef, .undef, .undef, .undef, .undef, .undef, .undef, .undef, .undef, .undef, .undef, .undef, .undef, .undef, .undef, .undef, .undef, x41, x42, x43, x44, x45, x46, x47, x48, x49, x50, .undef, .undef, .undef, .undef, .undef, .undef, .undef, .undef, .undef, .undef, .undef, .undef, .undef, .undef, .undef, .undef, .undef, .undef, .undef, .undef, .undef, .undef, .undef, .undef, .undef, .undef, .undef, .undef, .undef, .undef, .undef, .undef, .undef, .undef, .undef, .undef, .undef, .undef, .undef, .undef, .undef, .undef, .undef, .undef, .undef, .undef, .undef, .undef, .undef, .undef] ⟨S ++ [mbx zMsg (.s .nilS) (.s .nilS), rfc b p bad, mbx (mkM v1 v2 v3 0 (zag v5) v6 v7 v8 v9 [] [] 0 0) (.list .sh 18 (v9.map wA)) (.s .nilS)], H⟩ (fin S.length [.many 2 45, .t 3] (WkK K)) := by
        intro x41 x42 x43 x44 x45 x46 x47 x48 x49 x50
        simp only [mbx, A_, simprocAttr, ne_eq, (U_hourglassref19_Get _).1, KG_, fillL, storeP_stk, List.append_assoc]
        refine h6 (S.length + 1) b p bad _ _ _ (by rw [app_get]; rfl) hp hb fun p2 bad2 hp2 g2 => ?_
        obtain ⟨v, f2⟩ : ∃ v, bnd numR textR (rfA b p bad) = (v, rfA b p2 bad2) := ⟨_, Prod.ext rfl g2.symm⟩
        clear g2
        have f2' : (textR (numR (rfA b p bad)).1 (numR (rfA b p bad)).2).1 = v := congrArg Prod.fst f2
        have hvl : v.length ≤ 9223372036854775807 := by
          rw [← f2']
          cases hq : (numR (rfA b p bad)).2 with
          | none => exact Nat.zero_le _
          | some q =>
            obtain ⟨r, hr, hl⟩ := numR_le (rfA b p bad) q hq
            have hr2 : r.length ≤ b.length := by
              cases bad with
              | true => cases hr
              | false => rw [rfA_f] at hr; cases hr; simp
            rw [textR_some]
            split
            · exact Nat.zero_le _
            · simp only [List.length_take]; omega
        simp only [f2', A_, simprocAttr, ne_eq, (U_hourglassref19_Get _).1, KG_, fillL, storeP_stk, List.append_assoc]
        refine h7 (S.length + 1) b p2 bad2 _ _ _ (by rw [app_get]; rfl) hp2 hb fun p3 bad3 hp3 g3 => ?_
        obtain ⟨fl, f3⟩ : ∃ v, byteR (rfA b p2 bad2) = (v, rfA b p3 bad3) := ⟨_, Prod.ext rfl g3.symm⟩
        clear g3
        have hfl := fl.toNat_lt
        have ha1 := and81 fl.toNat hfl
        have ha2 := and82 fl.toNat hfl
        simp only [f3, A_, simprocAttr, ne_eq, (U_hourglassref19_Get _).1, KG_, fillL, storeP_stk, List.append_assoc, ha1, ha2]
        refine h0 12 (by omega) (S.length + 1) b p3 bad3 _ _ _ (by rw [app_get]; rfl) hp3 hb fun p4 bad4 hp4 g4 => ?_
        obtain ⟨er, f4⟩ : ∃ v, mostR 12 (rfA b p3 bad3) = (v, rfA b p4 bad4) := ⟨_, Prod.ext rfl g4.symm⟩
        clear g4
        rw [bnd_eq f2, bnd_eq f3, bnd_eq f4, ret] at ht
        rw [bnd_eq ht, ret] at hrd
        dsimp only at hrd
        have hq : getMQ b = if v4 < 9223372036854775808 ∧ fl.toNat ≤ 3 ∧ rfA b p4 bad4 = some [] ∧ goodM (mkM v1 v2 v3 v4 (zag v5) v6 v7 v8 v9 acc v fl.toNat er) = true then ((mkM v1 v2 v3 v4 (zag v5) v6 v7 v8 v9 acc v fl.toNat er), true) else (zMsg, false) := by unfold getMQ outQ; rw [hrd]
        clear hrd ht
        rw [hq] at hK
        clear hq
        have hok : okM (mkM v1 v2 v3 v4 (zag v5) v6 v7 v8 v9 acc v fl.toNat er) := ⟨by simp only [mkM]; omega, by simp only [mkM]; omega, by simp only [mkM]; omega, hivl⟩
        by_cases k1 : v4 < 9223372036854775808
        case neg =>
          have k1' : ((9223372036854775808 : Int) ≤ (v4 : Int)) := by omega
          rw [if_neg (fun h => k1 h.1)] at hK
          simp only [f4, A_, simprocAttr, ne_eq, (U_hourglassref19_Get _).1, KG_, fillL, storeP_stk, List.append_assoc, k1']
          exact ⟨_, .inr (zmsg_wkT _), hK⟩
        have k1' : ¬ ((9223372036854775808 : Int) ≤ (v4 : Int)) := by omega
        by_cases k2 : fl.toNat ≤ 3
        case neg =>
          have k2' : ((3 : Int) < (fl.toNat : Int)) := by omega
          rw [if_neg (fun h => k2 h.2.1)] at hK
          simp only [f4, A_, simprocAttr, ne_eq, (U_hourglassref19_Get _).1, KG_, fillL, storeP_stk, List.append_assoc, k1', k2']
          exact ⟨_, .inr (zmsg_wkT _), hK⟩
        have k2' : ¬ ((3 : Int) < (fl.toNat : Int)) := by omega
        simp only [f4, A_, simprocAttr, ne_eq, (U_hourglassref19_Get _).1, KG_, fillL, storeP_stk, List.append_assoc, k1', k2']
        refine h8 (S.length + 1) b p4 bad4 _ _ _ (by rw [app_get]; rfl) hp4 ?_
        by_cases k3 : rfA b p4 bad4 = some []
        case neg =>
          rw [if_neg (fun h => k3 h.2.2.1)] at hK
          rw [decide_eq_false k3]
          simp only [A_, simprocAttr, ne_eq, (U_hourglassref19_Get _).1, KG_, fillL, storeP_stk, List.append_assoc]
          exact ⟨_, .inr (zmsg_wkT _), hK⟩
        rw [decide_eq_true k3]
        have hwi : IntKind.i64.wrap (v4 : Int) = (v4 : Int) := wrap_i64 (by omega) (by omega)
        simp only [A_, simprocAttr, ne_eq, (U_hourglassref19_Get _).1, KG_, fillL, storeP_stk, List.append_assoc, convL, hwi]
        refine hW _ _ [.agg (msc (mkM v1 v2 v3 v4 (zag v5) v6 v7 v8 v9 acc v fl.toNat er))] _ _ (mbx_wkF (mkM v1 v2 v3 v4 (zag v5) v6 v7 v8 v9 acc v fl.toNat er) _ _ (.inl rfl) (.inr ⟨rfl, hacc⟩)) ?_
        refine h9 _ _ _ _ hok ?_
        cases hg : goodM (mkM v1 v2 v3 v4 (zag v5) v6 v7 v8 v9 acc v fl.toNat er) with
        | false =>
          rw [if_neg (by rintro ⟨_, _, _, h⟩; rw [hg] at h; cases h)] at hK
          simp only [A_, simprocAttr, ne_eq, (U_hourglassref19_Get _).1, KG_, fillL, storeP_stk, List.append_assoc]
          exact ⟨_, .inr (zmsg_wkT _), hK⟩
        | true =>
          rw [if_pos ⟨k1, k2, k3, hg⟩] at hK
          simp only [A_, simprocAttr, ne_eq, (U_hourglassref19_Get _).1, KG_, fillL, storeP_stk, List.append_assoc]
          exact ⟨_, .inr (mbx_wkT (mkM v1 v2 v3 v4 (zag v5) v6 v7 v8 v9 acc v fl.toNat er) _ _ _ (.inl rfl) (.inr ⟨rfl, hacc⟩)), hK⟩
      simp only [mbx, rfc, A_, simprocAttr, ne_eq, (U_hourglassref19_Get _).1, KG_, fillL, storeP_stk, List.append_assoc] at tail
      by_cases hiv : i < v10
      · have hlt : ((i : Int) < (v10 : Int)) := by omega
        have hbt : bad = true := by cases hb2 : bad with | true => rfl | false => exact absurd ⟨hiv, hb2⟩ h16
        simp only [mbx, rfc, A_, simprocAttr, ne_eq, (U_hourglassref19_Get _).1, KG_, fillL, storeP_stk, List.append_assoc, hlt, hbt] at tail ⊢
        exact tail _ _ _ _ _ _ _ _ _ _
      · have hlt : ¬ ((i : Int) < (v10 : Int)) := by omega
        simp only [mbx, rfc, A_, simprocAttr, ne_eq, (U_hourglassref19_Get _).1, KG_, fillL, storeP_stk, List.append_assoc, hlt]
        exact tail _ _ _ _ _ _ _ _ _ _
    · rw [show slT acc = .list .own 17 (acc.map itA) from if_neg hacc]
      have tail : ∀ x41 x42 x43 x44 x45 x46 x47 x48 x49 x50 : AV, runC C P false (y6k16 c) [] [.undef, .undef, .ptr (.stk S.length) 0, .undef, .ptr (.stk (S.length + 1)) 0, .ptr (.stk (S.length + 2)) 0, .s (.int .u64 v4), .s (.int .i64 v10), .s (.int .i64 i), .undef, .undef, .undef, .undef, .undef, .undef, .undef, .undef, .undef, .undef, .undef, .undef, .undef, .undef, .undef, .undef, .undef, .undef, .undef, .undef, .undef, .undef, .undef, .undef, .undef, .undef, .undef, .undef, .undef, .undef, .undef, .undef, x41, x42, x43, x44, x45, x46, x47, x48, x49, x50, .undef, .undef, .undef, .undef, .undef, .undef, .undef, .undef, .undef, .undef, .undef, .undef, .undef, .undef, .undef, .undef, .undef, .undef, .undef, .undef, .undef, .undef, .undef, .undef, .undef, .undef, .undef, .undef, .undef, .undef, .undef, .undef, .undef, .undef, .undef, .undef, .undef, .undef, .undef, .undef, .undef, .undef, .undef, .undef, .undef, .undef, .undef, .undef, .undef, .undef] ⟨S ++ [mbx zMsg (.s .nilS) (.s .nilS), rfc b p bad, mbx (mkM v1 v2 v3 0 (zag v5) v6 v7 v8 v9 [] [] 0 0) (.list .sh 18 (v9.map wA)) (.list .own 17 (acc.map itA))], H⟩ (fin S.length [.many 2 45, .t 3] (WkK K)) := by
        intro x41 x42 x43 x44 x45 x46 x47 x48 x49 x50
        simp only [mbx, A_, simprocAttr, ne_eq, (U_hourglassref19_Get _).1, KG_, fillL, storeP_stk, List.append_assoc]
        refine h6 (S.length + 1) b p bad _ _ _ (by rw [app_get]; rfl) hp hb fun p2 bad2 hp2 g2 => ?_
        obtain ⟨v, f2⟩ : ∃ v, bnd numR textR (rfA b p bad) = (v, rfA b p2 bad2) := ⟨_, Prod.ext rfl g2.symm⟩
        clear g2
        have f2' : (textR (numR (rfA b p bad)).1 (numR (rfA b p bad)).2).1 = v := congrArg Prod.fst f2
        have hvl : v.length ≤ 9223372036854775807 := by
          rw [← f2']
          cases hq : (numR (rfA b p bad)).2 with
          | none => exact Nat.zero_le _
          | some q =>
            obtain ⟨r, hr, hl⟩ := numR_le (rfA b p bad) q hq
            have hr2 : r.length ≤ b.length := by
              cases bad with
              | true => cases hr
              | false => rw [rfA_f] at hr; cases hr; simp
            rw [textR_some]
            split
            · exact Nat.zero_le _
            · simp only [List.length_take]; omega
        simp only [f2', A_, simprocAttr, ne_eq, (U_hourglassref19_Get _).1, KG_, fillL, storeP_stk, List.append_assoc]
        refine h7 (S.length + 1) b p2 bad2 _ _ _ (by rw [app_get]; rfl) hp2 hb fun p3 bad3 hp3 g3 => ?_
        obtain ⟨fl, f3⟩ : ∃ v, byteR (rfA b p2 bad2) = (v, rfA b p3 bad3) := ⟨_, Prod.ext rfl g3.symm⟩
        clear g3
        have hfl := fl.toNat_lt
        have ha1 := and81 fl.toNat hfl
        have ha2 := and82 fl.toNat hfl
        simp only [f3, A_, simprocAttr, ne_eq, (U_hourglassref19_Get _).1, KG_, fillL, storeP_stk, List.append_assoc, ha1, ha2]
        refine h0 12 (by omega) (S.length + 1) b p3 bad3 _ _ _ (by rw [app_get]; rfl) hp3 hb fun p4 bad4 hp4 g4 => ?_
        obtain ⟨er, f4⟩ : ∃ v, mostR 12 (rfA b p3 bad3) = (v, rfA b p4 bad4) := ⟨_, Prod.ext rfl g4.symm⟩
        clear g4
        rw [bnd_eq f2, bnd_eq f3, bnd_eq f4, ret] at ht
        rw [bnd_eq ht, ret] at hrd
        dsimp only at hrd
        have hq : getMQ b = if v4 < 9223372036854775808 ∧ fl.toNat ≤ 3 ∧ rfA b p4 bad4 = some [] ∧ goodM (mkM v1 v2 v3 v4 (zag v5) v6 v7 v8 v9 acc v fl.toNat er) = true then ((mkM v1 v2 v3 v4 (zag v5) v6 v7 v8 v9 acc v fl.toNat er), true) else (zMsg, false) := by unfold getMQ outQ; rw [hrd]
        clear hrd ht
        rw [hq] at hK
        clear hq
        have hok : okM (mkM v1 v2 v3 v4 (zag v5) v6 v7 v8 v9 acc v fl.toNat er) := ⟨by simp only [mkM]; omega, by simp only [mkM]; omega, by simp only [mkM]; omega, hivl⟩
        by_cases k1 : v4 < 9223372036854775808
        case neg =>
          have k1' : ((9223372036854775808 : Int) ≤ (v4 : Int)) := by omega
          rw [if_neg (fun h => k1 h.1)] at hK
          simp only [f4, A_, simprocAttr, ne_eq, (U_hourglassref19_Get _).1, KG_, fillL, storeP_stk, List.append_assoc, k1']
          exact ⟨_, .inr (zmsg_wkT _), hK⟩
        have k1' : ¬ ((9223372036854775808 : Int) ≤ (v4 : Int)) := by omega
        by_cases k2 : fl.toNat ≤ 3
        case neg =>
          have k2' : ((3 : Int) < (fl.toNat : Int)) := by omega
          rw [if_neg (fun h => k2 h.2.1)] at hK
          simp only [f4, A_, simprocAttr, ne_eq, (U_hourglassref19_Get _).1, KG_, fillL, storeP_stk, List.append_assoc, k1', k2']
          exact ⟨_, .inr (zmsg_wkT _), hK⟩
        have k2' : ¬ ((3 : Int) < (fl.toNat : Int)) := by omega
        simp only [f4, A_, simprocAttr, ne_eq, (U_hourglassref19_Get _).1, KG_, fillL, storeP_stk, List.append_assoc, k1', k2']
        refine h8 (S.length + 1) b p4 bad4 _ _ _ (by rw [app_get]; rfl) hp4 ?_
        by_cases k3 : rfA b p4 bad4 = some []
        case neg =>
          rw [if_neg (fun h => k3 h.2.2.1)] at hK
          rw [decide_eq_false k3]
          simp only [A_, simprocAttr, ne_eq, (U_hourglassref19_Get _).1, KG_, fillL, storeP_stk, List.append_assoc]
          exact ⟨_, .inr (zmsg_wkT _), hK⟩
        rw [decide_eq_true k3]
        have hwi : IntKind.i64.wrap (v4 : Int) = (v4 : Int) := wrap_i64 (by omega) (by omega)
        simp only [A_, simprocAttr, ne_eq, (U_hourglassref19_Get _).1, KG_, fillL, storeP_stk, List.append_assoc, convL, hwi]
        refine hW _ _ [.agg (msc (mkM v1 v2 v3 v4 (zag v5) v6 v7 v8 v9 acc v fl.toNat er))] _ _ (mbx_wkF (mkM v1 v2 v3 v4 (zag v5) v6 v7 v8 v9 acc v fl.toNat er) _ _ (.inl rfl) (.inl rfl)) ?_
        refine h9 _ _ _ _ hok ?_
        cases hg : goodM (mkM v1 v2 v3 v4 (zag v5) v6 v7 v8 v9 acc v fl.toNat er) with
        | false =>
          rw [if_neg (by rintro ⟨_, _, _, h⟩; rw [hg] at h; cases h)] at hK
          simp only [A_, simprocAttr, ne_eq, (U_hourglassref19_Get _).1, KG_, fillL, storeP_stk, List.append_assoc]
          exact ⟨_, .inr (zmsg_wkT _), hK⟩
        | true =>
          rw [if_pos ⟨k1, k2, k3, hg⟩] at hK
          simp only [A_, simprocAttr, ne_eq, (U_hourglassref19_Get _).1, KG_, fillL, storeP_stk, List.append_assoc]
          exact ⟨_, .inr (mbx_wkT (mkM v1 v2 v3 v4 (zag v5) v6 v7 v8 v9 acc v fl.toNat er) _ _ _ (.inl rfl) (.inl rfl)), hK⟩
      simp only [mbx, rfc, A_, simprocAttr, ne_eq, (U_hourglassref19_Get _).1, KG_, fillL, storeP_stk, List.append_assoc] at tail
      by_cases hiv : i < v10
      · have hlt : ((i : Int) < (v10 : Int)) := by omega
        have hbt : bad = true := by cases hb2 : bad with | true => rfl | false => exact absurd ⟨hiv, hb2⟩ h16
        simp only [mbx, rfc, A_, simprocAttr, ne_eq, (U_hourglassref19_Get _).1, KG_, fillL, storeP_stk, List.append_assoc, hlt, hbt] at tail ⊢
        exact tail _ _ _ _ _ _ _ _ _ _
      · have hlt : ¬ ((i : Int) < (v10 : Int)) := by omega
        simp only [mbx, rfc, A_, simprocAttr, ne_eq, (U_hourglassref19_Get _).1, KG_, fillL, storeP_stk, List.append_assoc, hlt]
        exact tail _ _ _ _ _ _ _ _ _ _
end Go.AM
namespace Go.AM
open Go
set_option maxRecDepth 20000
theorem slc_itc {x : It} : sliceL (.arr 16 1) (.rop (itc x)) none none none = some (.list .sh 1 (bs x.key.b)) := by
  have h : 16 ≤ (itc x).length := by rw [itc_length]; omega
  have e : ((itc x).take 16).drop 0 = bs x.key.b := by rw [List.drop_zero, itc, take_kc]
  simp only [sliceL, bound, h, e]
  simp
def PutMQS (C : CallW) (f : FuncId) : Prop := ∀ (m : Msg) S H (K : AV → St → Prop), okMB m → (∀ G, K (.list .sh 1 (bs (putM m))) ⟨S, H ++ G⟩) → C (.fn f) [.agg (msc m)] ⟨S, H⟩ K
set_option maxHeartbeats 40000000 in
theorem ref19_Put_spec {C : CallW} (hC : LeC C C) (P : Program) {c : Nat → FuncId} (h0 : GoodMQS C (c 0)) (h1 : PutS C (c 1)) (h2 : ∀ v : Int, -9223372036854775808 ≤ v → v ≤ 9223372036854775807 → FnS C (c 2) [.s (.int .i64 v)] (.s (.int .u64 (zig v : Nat)))) (h3 : PutStampS C (c 3)) (h4 : PutWQS C (c 4)) (h5 : TxtS C (c 5)) : ∀ (m : Msg) S H (K : AV → St → Prop), okMB m → (∀ G, K (.list .sh 1 (bs (putM m))) ⟨S, H ++ G⟩) → runL C P (C_hourglassref19_Put c) [.agg (msc m)] ⟨S, H⟩ (WkK K) := by
  intro m S H K hm hK
  have h0' := h0 m
  have h2' := h2 m.num hm.nl hm.nh
  have h3' := fun a b => h3 a b m.stp
  have h4' := fun a b => h4 a b m.writes
  unfold stc at h3'
  unfold lstW at h4'
  unfold msc at h0'
  simp only [List.cons_append, List.nil_append] at h0'
  simp only [msc, C_hourglassref19_Put, A_, simprocAttr, ne_eq, (U_hourglassref19_Put _).1, KG_]
  refine h0' _ _ _ hm.ok ?_
  unfold putM at hK
  cases hg : goodM m with
  | false =>
    rw [if_pos hg] at hK
    simp only [A_, simprocAttr, ne_eq, (U_hourglassref19_Put _).1, KG_]
    exact ⟨.list .sh 1 (bs []), .inr (.nilS (by omega) .nil), hK _⟩
  | true =>
  rw [if_neg (by rw [hg]; simp)] at hK
  have hp := goodM_p hg
  have p1 := putN_len10 (v := m.kind.toNat) (by have := hp.k2; omega)
  have p2 := putN_len10 (v := m.frm.toNat) (by have := hp.f2; omega)
  have p3 := putN_len10 (v := m.tto.toNat) (by have := hp.t2; omega)
  have p4 := putN_len10 (v := m.id.toNat) (by have := hm.ih; omega)
  have p5 := putN_len10 (v := zig m.num) (zig_lt hm.nl hm.nh)
  have p6 := pack_len m.stp
  have cu : ∀ x : Int, 0 ≤ x → x ≤ 9223372036854775807 → IntKind.u64.wrap x = ((x.toNat : Nat) : Int) := fun x a b => by rw [show x = ((x.toNat : Nat) : Int) by omega, wrap_u64n (by omega)]; simp
  have ck := cu m.kind (by have := hp.k1; omega) (by have := hp.k2; omega)
  have cf := cu m.frm hp.f1 (by have := hp.f2; omega)
  have ct := cu m.tto hp.t1 (by have := hp.t2; omega)
  have ci := cu m.id hp.i1 hm.ih
  have ce := cu m.err hp.e1 (by have := hp.e2; omega)
  have cl : IntKind.u64.wrap (m.items.length : Int) = (m.items.length : Int) := wrap_u64n (by have := hm.is; omega)
  simp only [A_, simprocAttr, ne_eq, (U_hourglassref19_Put _).1, KG_, convL, ck, cf, ct]
  refine h1 _ [] m.kind.toNat _ _ _ .n (by simp) (by have := hp.k2; omega) ?_
  simp only [A_, simprocAttr, ne_eq, (U_hourglassref19_Put _).1, KG_]
  refine h1 _ _ m.frm.toNat _ _ _ .l (by first | omega | (simp only [List.length_append, List.length_nil]; omega)) (by have := hp.f2; omega) ?_
  simp only [A_, simprocAttr, ne_eq, (U_hourglassref19_Put _).1, KG_]
  refine h1 _ _ m.tto.toNat _ _ _ .l (by first | omega | (simp only [List.length_append, List.length_nil]; omega)) (by have := hp.t2; omega) ?_
  simp only [A_, simprocAttr, ne_eq, (U_hourglassref19_Put _).1, KG_, convL, ci]
  refine h1 _ _ m.id.toNat _ _ _ .l (by first | omega | (simp only [List.length_append, List.length_nil]; omega)) (by have := hm.ih; omega) ?_
  simp only [A_, simprocAttr, ne_eq, (U_hourglassref19_Put _).1, KG_]
  refine h2' _ _ _ ?_
  simp only [A_, simprocAttr, ne_eq, (U_hourglassref19_Put _).1, KG_]
  refine h1 _ _ (zig m.num) _ _ _ .l (by first | omega | (simp only [List.length_append, List.length_nil]; omega)) (zig_lt hm.nl hm.nh) ?_
  simp only [A_, simprocAttr, ne_eq, (U_hourglassref19_Put _).1, KG_]
  have hsl7 : ∀ off, sliceL (.arr 16 1) (.ptr (.heap H.length) off) none none none = some (.row (.heap H.length) off 16 16) := fun off => by simp [sliceL, bound]
  simp only [A_, simprocAttr, ne_eq, (U_hourglassref19_Put _).1, KG_, hsl7]
  refine h3' _ _ _ _ _ .l (by first | omega | (simp only [List.length_append, List.length_nil]; omega)) ?_
  have hhd : putN m.kind.toNat ++ (putN m.frm.toNat ++ (putN m.tto.toNat ++ (putN m.id.toNat ++ putN (zig m.num)))) ++ putN (packN m.stp) = hd2 m := by simp only [hd2, List.append_assoc]
  rw [hhd]
  have hhl : (hd2 m).length ≤ 60 := by unfold hd2; simp only [List.length_append]; omega
  generalize hd2 m = b0 at hhl hK ⊢
  have hk := m.key.h
  have hu := m.unt.h
  have hcells : boxOf ⟨S, H ++ [HObj.cells (AV.s (.int .i64 m.kind) :: AV.s (.int .i64 m.frm) :: AV.s (.int .i64 m.tto) :: AV.s (.int .i64 m.id) :: AV.s (.int .i64 m.num) :: AV.s (.int .i64 m.stp.t) :: u8 m.stp.n :: (bs m.key.b ++ (bs m.unt.b ++ [.list .sh 18 (m.writes.map wA), .list .sh 17 (m.items.map itA), .s (.str m.val), .s (.bool m.found), .s (.bool m.yes), .s (.int .i64 m.err)])))]⟩ (.heap H.length) = some (msc m) := by rw [boxOf_heap, app_get0]; rfl
  have happ1 : appendL ⟨1, false, 1, (.s (.int .u8 0))⟩ false (.list .uniq 1 (bs b0)) (.row (.heap H.length) 7 16 16) ⟨S, H ++ [HObj.cells (AV.s (.int .i64 m.kind) :: AV.s (.int .i64 m.frm) :: AV.s (.int .i64 m.tto) :: AV.s (.int .i64 m.id) :: AV.s (.int .i64 m.num) :: AV.s (.int .i64 m.stp.t) :: u8 m.stp.n :: (bs m.key.b ++ (bs m.unt.b ++ [.list .sh 18 (m.writes.map wA), .list .sh 17 (m.items.map itA), .s (.str m.val), .s (.bool m.found), .s (.bool m.yes), .s (.int .i64 m.err)])))]⟩ = some (.list .uniq 1 (bs (b0 ++ m.key.b)), _) := app_bu2 (b := b0) (d := m.key.b) rfl (elems_keyM (pre := [.s (.int .i64 m.kind), .s (.int .i64 m.frm), .s (.int .i64 m.tto), .s (.int .i64 m.id), .s (.int .i64 m.num), .s (.int .i64 m.stp.t), u8 m.stp.n]) hcells rfl) (by omega)
  have happ2 : appendL ⟨1, false, 1, (.s (.int .u8 0))⟩ false (.list .uniq 1 (bs (b0 ++ m.key.b))) (.row (.heap H.length) 23 16 16) ⟨S, H ++ [HObj.cells (AV.s (.int .i64 m.kind) :: AV.s (.int .i64 m.frm) :: AV.s (.int .i64 m.tto) :: AV.s (.int .i64 m.id) :: AV.s (.int .i64 m.num) :: AV.s (.int .i64 m.stp.t) :: u8 m.stp.n :: (bs m.key.b ++ (bs m.unt.b ++ [.list .sh 18 (m.writes.map wA), .list .sh 17 (m.items.map itA), .s (.str m.val), .s (.bool m.found), .s (.bool m.yes), .s (.int .i64 m.err)])))]⟩ = some (.list .uniq 1 (bs (b0 ++ m.key.b ++ m.unt.b)), _) := app_bu2 (b := b0 ++ m.key.b) (d := m.unt.b) rfl (elems_keyM (pre := [.s (.int .i64 m.kind), .s (.int .i64 m.frm), .s (.int .i64 m.tto), .s (.int .i64 m.id), .s (.int .i64 m.num), .s (.int .i64 m.stp.t), u8 m.stp.n] ++ bs m.key.b) (by rw [hcells]; unfold msc; rw [← List.append_assoc]) (by simp [kc_length])) (by rw [List.length_append]; omega)
  simp only [A_, simprocAttr, ne_eq, (U_hourglassref19_Put _).1, KG_, hsl7, happ1, happ2, convL, cl, len_map']
  have hwv : ∀ w ∈ m.writes, w.val.length ≤ 100000 := fun w hw => by have := hm.vs w hw; omega
  refine h4' _ (b0 ++ m.key.b ++ m.unt.b) _ _ _ (by simp only [List.append_assoc]; exact .l) (by simp only [List.length_append]; omega) (by have := hm.ws; omega) hwv ?_
  have hlist : b0 ++ m.key.b ++ m.unt.b ++ putWs m.writes = b0 ++ (m.key.b ++ (m.unt.b ++ putWs m.writes)) := by simp only [List.append_assoc]
  rw [hlist]
  have hwl := putWs_le hm.ws hm.vs
  have pil := putN_len10 (v := m.items.length) (by have := hm.is; omega)
  have hil := hm.is
  have hl1 : (b0 ++ (m.key.b ++ (m.unt.b ++ putWs m.writes))).length ≤ 20000 := by simp only [List.length_append]; omega
  have hK2 : K (.list .sh 1 (bs ((b0 ++ (m.key.b ++ (m.unt.b ++ putWs m.writes))) ++ (putN m.items.length ++ (m.items.flatMap putIt ++ tlB m))))) ⟨S, H ++ [HObj.cells (AV.s (.int .i64 m.kind) :: AV.s (.int .i64 m.frm) :: AV.s (.int .i64 m.tto) :: AV.s (.int .i64 m.id) :: AV.s (.int .i64 m.num) :: AV.s (.int .i64 m.stp.t) :: u8 m.stp.n :: (bs m.key.b ++ (bs m.unt.b ++ [.list .sh 18 (m.writes.map wA), .list .sh 17 (m.items.map itA), .s (.str m.val), .s (.bool m.found), .s (.bool m.yes), .s (.int .i64 m.err)])))]⟩ := by
    have := hK [HObj.cells (AV.s (.int .i64 m.kind) :: AV.s (.int .i64 m.frm) :: AV.s (.int .i64 m.tto) :: AV.s (.int .i64 m.id) :: AV.s (.int .i64 m.num) :: AV.s (.int .i64 m.stp.t) :: u8 m.stp.n :: (bs m.key.b ++ (bs m.unt.b ++ [.list .sh 18 (m.writes.map wA), .list .sh 17 (m.items.map itA), .s (.str m.val), .s (.bool m.found), .s (.bool m.yes), .s (.int .i64 m.err)])))]
    simpa only [List.append_assoc] using this
  clear happ1 happ2 hlist hcells
  generalize b0 ++ (m.key.b ++ (m.unt.b ++ putWs m.writes)) = b1 at hl1 hK2 ⊢
  simp only [A_, simprocAttr, ne_eq, (U_hourglassref19_Put _).1, KG_, convL, cl]
  refine h1 _ b1 m.items.length _ _ _ .l (by omega) (by omega) ?_
  simp only [A_, simprocAttr, ne_eq, (U_hourglassref19_Put _).1, KG_]
  refine loop_rule hC (α := Nat) (fun a => m.items.length - a) (fun a => [.undef, .ptr (.heap H.length) 0, .undef, .list .uniq 1 (bs (b1 ++ (putN m.items.length ++ (m.items.take a).flatMap putIt))), .s (.int .i64 a), .undef, .undef, .undef, .undef, .undef, .undef, .undef, .undef, .undef, .undef, .undef, .undef, .undef, .undef, .undef, .undef, .undef, .undef, .undef, .undef, .undef, .undef, .undef, .undef, .undef, .undef, .undef, .undef, .undef, .undef, .undef, .undef, .undef, .undef, .undef, .undef, .undef, .undef, .undef, .undef, .undef, .undef, .undef, .undef, .undef, .undef, .undef, .undef, .undef, .undef, .undef, .undef, .undef, .undef, .undef, .undef, .undef, .undef, .undef, .undef, .undef, .undef, .undef, .undef, .undef, .undef, .undef, .undef, .undef, .undef, .undef, .undef, .undef, .undef, .undef, .undef, .undef, .undef, .undef, .undef, .undef, .undef, .undef, .undef]) (fun _ => S) (fun a => H ++ [HObj.cells (AV.s (.int .i64 m.kind) :: AV.s (.int .i64 m.frm) :: AV.s (.int .i64 m.tto) :: AV.s (.int .i64 m.id) :: AV.s (.int .i64 m.num) :: AV.s (.int .i64 m.stp.t) :: u8 m.stp.n :: (bs m.key.b ++ (bs m.unt.b ++ [.list .sh 18 (m.writes.map wA), .list .sh 17 (m.items.map itA), .s (.str m.val), .s (.bool m.found), .s (.bool m.yes), .s (.int .i64 m.err)])))]) (fun a => a ≤ m.items.length) 0 (by simp) (by simp [keep, zm]) (by simp) (by simp) (fun a _ => by simp [AV.under, AV.under.go]) ?_
  rintro i hi ih
  have hcl : (b1 ++ (putN m.items.length ++ (m.items.take i).flatMap putIt)).length ≤ 40000 := by
    have := putIts_len (m.items.take i) (fun w hw => hm.iv w (List.mem_of_mem_take hw))
    rw [List.length_take] at this
    have h3 : 280 * min i m.items.length ≤ 280 * 20 := Nat.mul_le_mul_left _ (by omega)
    simp only [List.length_append]
    omega
  by_cases h16 : i < m.items.length
  · have hlt : ((i : Int) < (m.items.length : Int)) := by omega
    have hw : IntKind.i64.wrap ((i : Int) + 1) = (i : Int) + 1 := wrap_i64 (by omega) (by omega)
    have hvi := hm.iv m.items[i] (List.getElem_mem h16)
    have hki := (m.items[i]).key.h
    have hnext : b1 ++ (putN m.items.length ++ (m.items.take (i + 1)).flatMap putIt) = (b1 ++ (putN m.items.length ++ (m.items.take i).flatMap putIt)) ++ ((m.items[i]).key.b ++ (putN (m.items[i]).val.length ++ (m.items[i]).val)) := by
      rw [flatIt_take h16, putIt]; simp only [List.append_assoc]
    have ih2 := ih (i + 1)
    dsimp only at ih2
    rw [hnext] at ih2
    generalize b1 ++ (putN m.items.length ++ (m.items.take i).flatMap putIt) = cur at hcl ih2 ⊢
    have happ := fun σ => app_bu (b := cur) (d := (m.items[i]).key.b) (fl2 := .sh) (σ := σ) (by omega)
    simp only [eB] at happ
    simp only [A_, simprocAttr, ne_eq, (U_hourglassref19_Put _).1, KG_, IT_, hlt, h16, slc_itc, happ]
    refine h5 _ (cur ++ (m.items[i]).key.b) (m.items[i]).val _ _ _ .l (by simp only [List.length_append]; omega) (by omega) ?_
    simp only [A_, simprocAttr, ne_eq, (U_hourglassref19_Put _).1, KG_, hw]
    exact ih2 _ _ _ (by omega) (by omega) rfl (by simp) (by simp)
  · have hlt : ¬ ((i : Int) < (m.items.length : Int)) := by omega
    have hti : m.items.take i = m.items := List.take_of_length_le (by omega)
    rw [hti] at hcl ⊢
    generalize hcur : b1 ++ (putN m.items.length ++ m.items.flatMap putIt) = cur at hcl ⊢
    have hvl := hm.vl
    have pvl := putN_len10 (v := m.val.length) (by omega)
    have w02 : IntKind.u8.wrap (0 + 2) = 2 := by decide
    have w12 : IntKind.u8.wrap (1 + 2) = 3 := by decide
    have w2 : IntKind.u8.wrap 2 = 2 := by decide
    have w3 : IntKind.u8.wrap 3 = 3 := by decide
    cases hf : m.found <;> cases hy : m.yes
    · have hap : ∀ σ, appendL ⟨1, false, 1, (.s (.int .u8 0))⟩ false (.list .uniq 1 (bs (cur ++ (putN m.val.length ++ m.val)))) (.list .full 1 [.s (.int .u8 0)]) σ = some (.list .uniq 1 (bs (cur ++ (putN m.val.length ++ m.val) ++ [0])), σ) := fun σ => app_b1 (c := 0) (.inl rfl) (by simp only [List.length_append]; omega)
      simp only [A_, simprocAttr, ne_eq, (U_hourglassref19_Put _).1, KG_, hlt, hf, hy]
      refine h5 _ cur m.val _ _ _ .l (by omega) (by omega) ?_
      simp only [A_, simprocAttr, ne_eq, (U_hourglassref19_Put _).1, KG_, hf, hy, hap, w02, w12, w2, w3, convL, ce]
      refine h1 _ _ m.err.toNat _ _ _ .l (by simp only [List.length_append, List.length_cons, List.length_nil]; omega) (by have := hp.e2; omega) ?_
      simp only [A_, simprocAttr, ne_eq, (U_hourglassref19_Put _).1, KG_]
      refine wk_uniq ?_
      have := hK2
      rw [tlB, hf, hy] at this
      rw [← hcur]
      simpa only [flB, List.append_assoc, List.cons_append, List.nil_append] using this
    · have hap : ∀ σ, appendL ⟨1, false, 1, (.s (.int .u8 0))⟩ false (.list .uniq 1 (bs (cur ++ (putN m.val.length ++ m.val)))) (.list .full 1 [.s (.int .u8 2)]) σ = some (.list .uniq 1 (bs (cur ++ (putN m.val.length ++ m.val) ++ [2])), σ) := fun σ => app_b1 (c := 2) (.inl rfl) (by simp only [List.length_append]; omega)
      simp only [A_, simprocAttr, ne_eq, (U_hourglassref19_Put _).1, KG_, hlt, hf, hy]
      refine h5 _ cur m.val _ _ _ .l (by omega) (by omega) ?_
      simp only [A_, simprocAttr, ne_eq, (U_hourglassref19_Put _).1, KG_, hf, hy, hap, w02, w12, w2, w3, convL, ce]
      refine h1 _ _ m.err.toNat _ _ _ .l (by simp only [List.length_append, List.length_cons, List.length_nil]; omega) (by have := hp.e2; omega) ?_
      simp only [A_, simprocAttr, ne_eq, (U_hourglassref19_Put _).1, KG_]
      refine wk_uniq ?_
      have := hK2
      rw [tlB, hf, hy] at this
      rw [← hcur]
      simpa only [flB, List.append_assoc, List.cons_append, List.nil_append] using this
    · have hap : ∀ σ, appendL ⟨1, false, 1, (.s (.int .u8 0))⟩ false (.list .uniq 1 (bs (cur ++ (putN m.val.length ++ m.val)))) (.list .full 1 [.s (.int .u8 1)]) σ = some (.list .uniq 1 (bs (cur ++ (putN m.val.length ++ m.val) ++ [1])), σ) := fun σ => app_b1 (c := 1) (.inl rfl) (by simp only [List.length_append]; omega)
      simp only [A_, simprocAttr, ne_eq, (U_hourglassref19_Put _).1, KG_, hlt, hf, hy]
      refine h5 _ cur m.val _ _ _ .l (by omega) (by omega) ?_
      simp only [A_, simprocAttr, ne_eq, (U_hourglassref19_Put _).1, KG_, hf, hy, hap, w02, w12, w2, w3, convL, ce]
      refine h1 _ _ m.err.toNat _ _ _ .l (by simp only [List.length_append, List.length_cons, List.length_nil]; omega) (by have := hp.e2; omega) ?_
      simp only [A_, simprocAttr, ne_eq, (U_hourglassref19_Put _).1, KG_]
      refine wk_uniq ?_
      have := hK2
      rw [tlB, hf, hy] at this
      rw [← hcur]
      simpa only [flB, List.append_assoc, List.cons_append, List.nil_append] using this
    · have hap : ∀ σ, appendL ⟨1, false, 1, (.s (.int .u8 0))⟩ false (.list .uniq 1 (bs (cur ++ (putN m.val.length ++ m.val)))) (.list .full 1 [.s (.int .u8 3)]) σ = some (.list .uniq 1 (bs (cur ++ (putN m.val.length ++ m.val) ++ [3])), σ) := fun σ => app_b1 (c := 3) (.inl rfl) (by simp only [List.length_append]; omega)
      simp only [A_, simprocAttr, ne_eq, (U_hourglassref19_Put _).1, KG_, hlt, hf, hy]
      refine h5 _ cur m.val _ _ _ .l (by omega) (by omega) ?_
      simp only [A_, simprocAttr, ne_eq, (U_hourglassref19_Put _).1, KG_, hf, hy, hap, w02, w12, w2, w3, convL, ce]
      refine h1 _ _ m.err.toNat _ _ _ .l (by simp only [List.length_append, List.length_cons, List.length_nil]; omega) (by have := hp.e2; omega) ?_
      simp only [A_, simprocAttr, ne_eq, (U_hourglassref19_Put _).1, KG_]
      refine wk_uniq ?_
      have := hK2
      rw [tlB, hf, hy] at this
      rw [← hcur]
      simpa only [flB, List.append_assoc, List.cons_append, List.nil_append] using this
end Go.AM
namespace Go.AM
open Go
theorem ret_loc {α : Type} (a : α) : Loc (ret a) := retR_loc a
theorem bnd_loc {α β : Type} {f : Rd → α × Rd} {g : α → Rd → β × Rd} (hf : Loc f) (hg : ∀ a, Loc (g a)) : Loc (bnd f g) := hf.bind hg
theorem itR_loc : Loc itR := bnd_loc keyR_loc fun _ => bnd_loc (bnd_loc (mostR_loc 200) textR_loc) fun _ => ret_loc _
theorem itQ_loc : Loc itQ := bnd_loc keyR_loc fun _ => bnd_loc (bnd_loc numR_loc textR_loc) fun _ => ret_loc _
theorem itsR_loc : ∀ n, Loc (itsR n)
  | 0 => retR_loc []
  | n + 1 => by
    have := itR_loc.bind (g := fun w r => (w :: (itsR n r).1, (itsR n r).2)) fun w => (itsR_loc n).map fun l => w :: l
    intro r q h
    exact this r q h
theorem byteR_loc : Loc byteR := by
  intro r q h
  match r with
  | none => cases h
  | some [] => cases h
  | some (x :: b) => cases h; exact ⟨_, rfl, fun c => rfl⟩
theorem itsQ_loc : ∀ n, Loc (itsQ n)
  | 0 => retR_loc []
  | n + 1 => by
    intro r q h
    match r with
    | none => cases h
    | some b =>
      rw [itsQ] at h
      dsimp only at h
      obtain ⟨b1, hb1, hc1⟩ := itsQ_loc n _ _ h
      obtain ⟨b0, hb0, hc0⟩ := itQ_loc _ _ hb1
      cases hb0
      refine ⟨b, rfl, fun c => ?_⟩
      rw [itsQ, itsQ, hc0 c]
      dsimp only
      rw [hc1 c]
theorem tailR_loc (f) : Loc (tailR f) := bnd_loc (mostR_loc _) fun n => bnd_loc (itsR_loc n) fun _ => bnd_loc (bnd_loc (mostR_loc _) textR_loc) fun _ => bnd_loc (mostR_loc _) fun _ => bnd_loc (mostR_loc _) fun _ => ret_loc _
theorem tailQ_loc (f) : Loc (tailQ f) := bnd_loc (mostR_loc _) fun n => bnd_loc (itsQ_loc n) fun _ => bnd_loc (bnd_loc numR_loc textR_loc) fun _ => bnd_loc byteR_loc fun _ => bnd_loc (mostR_loc _) fun _ => ret_loc _
def okM2 (x : Msg × Rd) : Option Msg := if x.2 = some [] ∧ goodM x.1 = true then some x.1 else none
def okQ2 (x : (Msg × UInt8) × Rd) : Option Msg := if x.1.2.toNat ≤ 3 ∧ x.2 = some [] ∧ goodM x.1.1 = true then some x.1.1 else none
theorem txt_alike (r : Rd) : bnd (mostR 200) textR r = bnd numR textR r ∨ ((bnd (mostR 200) textR r).2 = none ∧ ((bnd numR textR r).2 = none ∨ 200 < (bnd numR textR r).1.length)) := by
  unfold bnd
  by_cases h : 200 < (numR r).1
  · right
    have hm : mostR 200 r = (0, none) := by unfold mostR; rw [if_pos h]
    rw [hm]
    refine ⟨rfl, ?_⟩
    generalize (numR r).2 = p
    cases p with
    | none => left; rfl
    | some b =>
      rw [textR_some]
      by_cases hl : b.length < (numR r).1
      · left; rw [if_pos hl]
      · right; rw [if_neg hl]; simp; omega
  · left
    have hm : mostR 200 r = numR r := by unfold mostR; rw [if_neg h]
    rw [hm]
theorem it_alike (r : Rd) : itR r = itQ r ∨ ((itR r).2 = none ∧ ((itQ r).2 = none ∨ 200 < (itQ r).1.val.length)) := by
  have h := txt_alike (keyR r).2
  show bnd (bnd (mostR 200) textR) (fun v => ret (⟨(keyR r).1, v⟩ : It)) (keyR r).2 = bnd (bnd numR textR) (fun v => ret (⟨(keyR r).1, v⟩ : It)) (keyR r).2 ∨ _
  rcases h with h | ⟨h1, h2⟩
  · left
    show ret (⟨(keyR r).1, (bnd (mostR 200) textR (keyR r).2).1⟩ : It) (bnd (mostR 200) textR (keyR r).2).2 = _
    rw [h]; rfl
  · right; exact ⟨h1, h2⟩
theorem itsR_none (n : Nat) : (itsR n none).2 = none := (itsR_loc n).dead
theorem gits_long : ∀ (l : List It) (p : Option Key) (x : It), x ∈ l → 200 < x.val.length → gits p l = false
  | [], p, x, h, _ => by cases h
  | y :: l, p, x, h, hx => by
    rw [gits_cons]
    split
    · rfl
    split
    · rfl
    have hl : gits (some y.key) l = false := by
      rcases List.mem_cons.1 h with rfl | h
      · omega
      · exact gits_long l _ x h hx
    rw [hl, ite_self]
theorem its_alike : ∀ (n : Nat) (r : Rd), itsR n r = itsQ n r ∨ ((itsR n r).2 = none ∧ ((itsQ n r).2 = none ∨ ∃ x ∈ (itsQ n r).1, 200 < x.val.length))
  | 0, r => .inl rfl
  | n + 1, none => .inr ⟨itsR_none _, .inl rfl⟩
  | n + 1, some b => by
    rw [itsR, itsQ]
    rcases it_alike (some b) with h | ⟨h1, h2⟩
    · rw [h]
      rcases its_alike n (itQ (some b)).2 with h3 | ⟨h3, h4⟩
      · left; rw [h3]
      · right
        refine ⟨h3, h4.imp id fun ⟨x, hx, hl⟩ => ⟨x, List.mem_cons_of_mem _ hx, hl⟩⟩
    · right
      refine ⟨by rw [h1]; exact itsR_none n, ?_⟩
      rcases h2 with h2 | h2
      · left; dsimp only; rw [h2, itsQ_none]
      · right; exact ⟨_, List.mem_cons_self .., h2⟩
theorem fl_alike (r : Rd) : ((mostR 3 r).1 = (byteR r).1.toNat ∧ (mostR 3 r).2 = (byteR r).2 ∧ (byteR r).1.toNat ≤ 3) ∨ ((mostR 3 r).2 = none ∧ ((byteR r).2 = none ∨ 3 < (byteR r).1.toNat)) := by
  match r with
  | none => left; exact ⟨rfl, rfl, by decide⟩
  | some [] => left; exact ⟨rfl, rfl, by decide⟩
  | some (x :: b) =>
    have hx := x.toNat_lt
    by_cases h : x.toNat < 128
    · have hg : getN (x :: b) = (x.toNat, 1) := by
        unfold getN
        rw [getG_cons, if_neg (by omega), if_pos h, if_neg (by omega)]
        simp; omega
      have hn : numR (some (x :: b)) = (x.toNat, some b) := by rw [numR_some, hg]; simp
      by_cases h3 : 3 < x.toNat
      · right
        exact ⟨by unfold mostR; rw [hn, if_pos h3], .inr h3⟩
      · left
        unfold mostR
        rw [hn, if_neg h3]
        exact ⟨rfl, rfl, by show x.toNat ≤ 3; omega⟩
    · right
      refine ⟨?_, .inr (show 3 < x.toNat by omega)⟩
      have hg : getN (x :: b) = (getG 1 (0 + x.toNat % 128 * 2 ^ (7 * 0)) b).getD (0, 0) := by
        unfold getN
        rw [getG_cons, if_neg (by omega), if_neg h, if_neg (by omega)]
      cases hq : getG 1 (0 + x.toNat % 128 * 2 ^ (7 * 0)) b with
      | none =>
        have hn : numR (some (x :: b)) = (0, none) := by rw [numR_some, hg, hq]; simp
        unfold mostR
        rw [hn, if_neg (by simp)]
      | some p =>
        obtain ⟨v, n⟩ := p
        have hb := getG_big b 1 _ v n (by omega) hq
        have hb2 := getG_bound b 1 _ v n (by omega) (by omega) hq
        have hn : (numR (some (x :: b))).1 = v := by rw [numR_some, hg, hq]; simp only [Option.getD_some]; rw [if_neg (by omega)]
        unfold mostR
        rw [hn, if_pos (by omega)]
theorem good_items {k fr to fl er : Nat} {id num : Int} {st : Stp} {ke un : Key} {ws : List Wr} {is : List It} {v : List UInt8} (h : ∃ x ∈ is, 200 < x.val.length) : goodM (mkM k fr to id num st ke un ws is v fl er) = false := by
  cases hg : goodM (mkM k fr to id num st ke un ws is v fl er) with
  | false => rfl
  | true =>
    have := (goodM_p hg).g1
    obtain ⟨x, hx, hl⟩ := h
    simp only [mkM] at this
    rw [gits_long _ _ x hx hl] at this; cases this
theorem good_val {k fr to fl er : Nat} {id num : Int} {st : Stp} {ke un : Key} {ws : List Wr} {is : List It} {v : List UInt8} (h : 200 < v.length) : goodM (mkM k fr to id num st ke un ws is v fl er) = false := by
  cases hg : goodM (mkM k fr to id num st ke un ws is v fl er) with
  | false => rfl
  | true => have := (goodM_p hg).v1; simp only [mkM] at this; omega
theorem okM2_dead {x : Msg × Rd} (h : x.2 = none) : okM2 x = none := by unfold okM2; rw [if_neg (by rw [h]; rintro ⟨a, _⟩; cases a)]
theorem okQ2_dead {x : (Msg × UInt8) × Rd} (h : x.2 = none) : okQ2 x = none := by unfold okQ2; rw [if_neg (by rw [h]; rintro ⟨_, a, _⟩; cases a)]
theorem okQ2_bad {x : (Msg × UInt8) × Rd} (h : goodM x.1.1 = false) : okQ2 x = none := by unfold okQ2; rw [if_neg (by rw [h]; rintro ⟨_, _, a⟩; cases a)]
theorem tail_alike (k fr to : Nat) (id num : Int) (st : Stp) (ke un : Key) (ws : List Wr) (r : Rd) : okM2 (tailR (mkM k fr to id num st ke un ws) r) = okQ2 (tailQ (mkM k fr to id num st ke un ws) r) := by
  generalize hf : mkM k fr to id num st ke un ws = f
  unfold tailR tailQ bnd
  generalize (mostR 200 r).2 = r1
  generalize (mostR 200 r).1 = n
  have e1 : ∀ (is : List It), Loc (bnd (bnd (mostR 200) textR) fun v => bnd (mostR 3) fun fl => bnd (mostR 12) fun er => ret (f is v fl er)) := fun is => bnd_loc (bnd_loc (mostR_loc _) textR_loc) fun _ => bnd_loc (mostR_loc _) fun _ => bnd_loc (mostR_loc _) fun _ => ret_loc _
  have e2 : ∀ (is : List It), Loc (bnd (bnd numR textR) fun v => bnd byteR fun fl => bnd (mostR 12) fun er => ret (f is v fl.toNat er, fl)) := fun is => bnd_loc (bnd_loc numR_loc textR_loc) fun _ => bnd_loc byteR_loc fun _ => bnd_loc (mostR_loc _) fun _ => ret_loc _
  show okM2 ((bnd (bnd (mostR 200) textR) fun v => bnd (mostR 3) fun fl => bnd (mostR 12) fun er => ret (f (itsR n r1).1 v fl er)) (itsR n r1).2) = okQ2 ((bnd (bnd numR textR) fun v => bnd byteR fun fl => bnd (mostR 12) fun er => ret (f (itsQ n r1).1 v fl.toNat er, fl)) (itsQ n r1).2)
  rcases its_alike n r1 with h | ⟨h1, h2⟩
  case inr =>
    rw [okM2_dead (by rw [h1]; exact (e1 _).dead)]
    rcases h2 with h2 | h2
    · rw [okQ2_dead (by rw [h2]; exact (e2 _).dead)]
    · rw [okQ2_bad (by subst hf; exact good_items h2)]
  rw [h]
  generalize (itsQ n r1).1 = is
  generalize (itsQ n r1).2 = r2
  have e3 : ∀ (v : List UInt8), Loc (bnd (mostR 3) fun fl => bnd (mostR 12) fun er => ret (f is v fl er)) := fun v => bnd_loc (mostR_loc _) fun _ => bnd_loc (mostR_loc _) fun _ => ret_loc _
  have e4 : ∀ (v : List UInt8), Loc (bnd byteR fun fl => bnd (mostR 12) fun er => ret (f is v fl.toNat er, fl)) := fun v => bnd_loc byteR_loc fun _ => bnd_loc (mostR_loc _) fun _ => ret_loc _
  show okM2 ((bnd (mostR 3) fun fl => bnd (mostR 12) fun er => ret (f is (bnd (mostR 200) textR r2).1 fl er)) (bnd (mostR 200) textR r2).2) = okQ2 ((bnd byteR fun fl => bnd (mostR 12) fun er => ret (f is (bnd numR textR r2).1 fl.toNat er, fl)) (bnd numR textR r2).2)
  rcases txt_alike r2 with h | ⟨h1, h2⟩
  case inr =>
    rw [okM2_dead (by rw [h1]; exact (e3 _).dead)]
    rcases h2 with h2 | h2
    · rw [okQ2_dead (by rw [h2]; exact (e4 _).dead)]
    · rw [okQ2_bad (by subst hf; exact good_val h2)]
  rw [h]
  generalize (bnd numR textR r2).1 = v
  generalize (bnd numR textR r2).2 = r3
  have e5 : ∀ (fl : Nat), Loc (bnd (mostR 12) fun er => ret (f is v fl er)) := fun fl => bnd_loc (mostR_loc _) fun _ => ret_loc _
  have e6 : ∀ (fl : UInt8), Loc (bnd (mostR 12) fun er => ret (f is v fl.toNat er, fl)) := fun fl => bnd_loc (mostR_loc _) fun _ => ret_loc _
  show okM2 ((bnd (mostR 12) fun er => ret (f is v (mostR 3 r3).1 er)) (mostR 3 r3).2) = okQ2 ((bnd (mostR 12) fun er => ret (f is v (byteR r3).1.toNat er, (byteR r3).1)) (byteR r3).2)
  rcases fl_alike r3 with ⟨h1, h2, h3⟩ | ⟨h1, h2⟩
  · rw [h1, h2]
    unfold okM2 okQ2 bnd ret
    simp only [h3, true_and]
  · rw [okM2_dead (by rw [h1]; exact (e5 _).dead)]
    rcases h2 with h2 | h2
    · rw [okQ2_dead (by rw [h2]; exact (e6 _).dead)]
    · unfold okQ2 bnd ret
      rw [if_neg (by rintro ⟨a, _⟩; dsimp only at a; omega)]
def outM (x : Msg × Rd) : Msg × Int := match okM2 x with | some x => (x, 0) | none => (zMsg, 3)
theorem getM_eq (b : List UInt8) : getM b = outM (readM (some b)) := by
  unfold getM outM okM2
  by_cases h : (readM (some b)).2 = some [] ∧ goodM (readM (some b)).1 = true
  · rw [if_pos h, if_pos h]
  · rw [if_neg h, if_neg h]
theorem outM_eq {x : Msg × Rd} {y : (Msg × UInt8) × Rd} {id : Nat} (hid : id < 9223372036854775808) (h : okM2 x = okQ2 y) : outQ ((id, y.1.1, y.1.2), y.2) = ((outM x).1, decide ((outM x).2 = 0)) := by
  unfold outM outQ
  rw [h]
  unfold okQ2
  dsimp only
  by_cases hc : y.1.2.toNat ≤ 3 ∧ y.2 = some [] ∧ goodM y.1.1 = true
  · rw [if_pos ⟨hid, hc⟩, if_pos hc]; rfl
  · rw [if_neg (fun a => hc a.2), if_neg hc]; rfl
theorem getM_core (k fr to id nm : Nat) (st : Stp) (ke un : Key) (r8 : Rd) (hidl : id < 18446744073709551616) : outQ (bnd writesQ (fun ws => bnd (tailQ (mkM k fr to id (zag nm) st ke un ws)) fun x => ret (id, x.1, x.2)) r8)
    = ((outM (bnd writesR (fun ws => tailR (mkM k fr to (IntKind.i64.wrap id) (zag nm) st ke un ws)) r8)).1, decide ((outM (bnd writesR (fun ws => tailR (mkM k fr to (IntKind.i64.wrap id) (zag nm) st ke un ws)) r8)).2 = 0)) := by
  unfold bnd ret
  by_cases hid : id < 9223372036854775808
  · have hw : IntKind.i64.wrap (id : Int) = (id : Int) := wrap_i64 (by omega) (by omega)
    rw [hw]
    rcases writes_alike r8 with h | ⟨h1, h2⟩
    · rw [h]
      exact outM_eq hid (tail_alike _ _ _ _ _ _ _ _ _ _)
    · have d1 : okM2 (tailR (mkM k fr to id (zag nm) st ke un (writesR r8).1) (writesR r8).2) = none := okM2_dead (by rw [h1]; exact (tailR_loc _).dead)
      have d2 : okQ2 (tailQ (mkM k fr to id (zag nm) st ke un (writesQ r8).1) (writesQ r8).2) = none := okQ2_dead (by rw [h2]; exact (tailQ_loc _).dead)
      exact outM_eq (x := tailR (mkM k fr to id (zag nm) st ke un (writesR r8).1) (writesR r8).2) (y := tailQ (mkM k fr to id (zag nm) st ke un (writesQ r8).1) (writesQ r8).2) hid (d1.trans d2.symm)
  · have hw : IntKind.i64.wrap (id : Int) < 0 := by
      unfold IntKind.wrap
      simp [IntKind.signed, IntKind.bits]
      omega
    have d1 : okM2 (tailR (mkM k fr to (IntKind.i64.wrap (id : Int)) (zag nm) st ke un (writesR r8).1) (writesR r8).2) = none := by
      unfold okM2
      rw [if_neg]
      rintro ⟨_, hg⟩
      have := (goodM_p hg).i1
      have e : ∀ f r, ∃ is v fl er, (tailR f r).1 = f is v fl er := fun f r => ⟨_, _, _, _, rfl⟩
      obtain ⟨is, v, fl, er, he⟩ := e (mkM k fr to (IntKind.i64.wrap (id : Int)) (zag nm) st ke un (writesR r8).1) (writesR r8).2
      rw [he] at this
      simp only [mkM] at this
      omega
    unfold outM outQ
    rw [d1, if_neg (fun a => hid a.1)]
    rfl
theorem getM_Q (b : List UInt8) : getMQ b = ((getM b).1, decide ((getM b).2 = 0)) := by
  have e1 : getM b = outM (readM (some b)) := getM_eq b
  have e2 : getMQ b = outQ (readMQ (some b)) := by unfold getMQ; rfl
  rw [e1, e2]
  unfold readM readMQ
  generalize some b = r0
  obtain ⟨k, r1, h1⟩ : ∃ k r, mostR 11 r0 = (k, r) := ⟨_, _, rfl⟩
  obtain ⟨fr, r2, h2⟩ : ∃ k r, mostR 255 r1 = (k, r) := ⟨_, _, rfl⟩
  obtain ⟨to, r3, h3⟩ : ∃ k r, mostR 255 r2 = (k, r) := ⟨_, _, rfl⟩
  obtain ⟨id, r4, h4⟩ : ∃ k r, numR r3 = (k, r) := ⟨_, _, rfl⟩
  obtain ⟨nm, r5, h5⟩ : ∃ k r, numR r4 = (k, r) := ⟨_, _, rfl⟩
  obtain ⟨st, r6, h6⟩ : ∃ k r, stampR r5 = (k, r) := ⟨_, _, rfl⟩
  obtain ⟨ke, r7, h7⟩ : ∃ k r, keyR r6 = (k, r) := ⟨_, _, rfl⟩
  obtain ⟨un, r8, h8⟩ : ∃ k r, keyR r7 = (k, r) := ⟨_, _, rfl⟩
  have hidl : id < 18446744073709551616 := by have := numR_lt r3; rw [h4] at this; exact this
  rw [bnd_eq h1, bnd_eq h2, bnd_eq h3, bnd_eq h4, bnd_eq h5, bnd_eq h6, bnd_eq h7, bnd_eq h8, bnd_eq h1, bnd_eq h2, bnd_eq h3, bnd_eq h4, bnd_eq h5, bnd_eq h6, bnd_eq h7, bnd_eq h8]
  exact getM_core k fr to id nm st ke un r8 hidl
theorem getM_err (b : List UInt8) : (getM b).2 = 0 ∨ (getM b).2 = 3 := by
  unfold getM; split
  · exact .inl rfl
  · exact .inr rfl
theorem itR_put {x : It} (h : x.val.length ≤ 200) (c : List UInt8) : itR (some (putIt x ++ c)) = (x, some c) := by
  unfold itR putIt bnd
  rw [List.append_assoc, List.append_assoc, keyR_put]
  dsimp only
  rw [mostR_put h (by omega)]
  dsimp only
  rw [textR_put rfl]
  rfl
theorem itsR_put : ∀ (l : List It) (c : List UInt8), (∀ w ∈ l, w.val.length ≤ 200) → itsR l.length (some (l.flatMap putIt ++ c)) = (l, some c)
  | [], c, _ => rfl
  | w :: l, c, h => by
    rw [List.length_cons, itsR, List.flatMap_cons, List.append_assoc, itR_put (h w (List.mem_cons_self ..))]
    dsimp only
    rw [itsR_put l c fun x hx => h x (List.mem_cons_of_mem _ hx)]
theorem gits_vals {l : List It} {p : Option Key} (h : gits p l = true) : ∀ w ∈ l, w.val.length ≤ 200 := by
  intro w hw
  rcases Nat.lt_or_ge 200 w.val.length with h1 | h1
  · rw [gits_long l p w hw h1] at h; cases h
  · exact h1
theorem fl_put (f y : Bool) (c : List UInt8) : mostR 3 (some (flB f y :: c)) = ((flB f y).toNat, some c) := by
  have : flB f y :: c = putN (flB f y).toNat ++ c := by cases f <;> cases y <;> · rw [putN_lt (by decide)]; rfl
  rw [this, mostR_put (by cases f <;> cases y <;> decide) (by omega)]
theorem readM_put {m : Msg} (h : goodM m = true) (ho : okMB m) : readM (some (putM m)) = (m, some []) := by
  have hp := goodM_p h
  have hz := zig_lt ho.nl ho.nh
  have hih := ho.ih
  unfold putM
  rw [if_neg (by rw [h]; simp)]
  unfold hd2 tlB readM tailR bnd
  simp only [List.append_assoc]
  rw [mostR_put (v := m.kind.toNat) (by have := hp.k2; omega) (by omega)]
  dsimp only
  rw [mostR_put (v := m.frm.toNat) (by have := hp.f2; omega) (by omega)]
  dsimp only
  rw [mostR_put (v := m.tto.toNat) (by have := hp.t2; omega) (by omega)]
  dsimp only
  rw [numR_put (v := m.id.toNat) (by omega)]
  dsimp only
  rw [numR_put hz]
  dsimp only
  rw [stampR_put hp.s1]
  dsimp only
  rw [keyR_put]
  dsimp only
  rw [keyR_put]
  dsimp only
  rw [writesR_put hp.w2 hp.w1]
  dsimp only
  rw [mostR_put (v := m.items.length) hp.g2 (by omega)]
  dsimp only
  rw [itsR_put m.items _ (gits_vals hp.g1)]
  dsimp only
  rw [mostR_put (v := m.val.length) hp.v1 (by omega)]
  dsimp only
  rw [textR_put rfl]
  dsimp only
  rw [fl_put]
  dsimp only
  rw [← List.append_nil (putN m.err.toNat), mostR_put (v := m.err.toNat) (by have := hp.e2; omega) (by omega)]
  have hw : IntKind.i64.wrap ((m.id.toNat : Nat) : Int) = m.id := by rw [wrap_i64 (by omega) (by omega)]; have := hp.i1; omega
  have a1 := hp.k1
  have a2 := hp.f1
  have a3 := hp.t1
  have a4 := hp.e1
  show (mkM m.kind.toNat m.frm.toNat m.tto.toNat (IntKind.i64.wrap ((m.id.toNat : Nat) : Int)) (zag (zig m.num)) m.stp m.key m.unt m.writes m.items m.val (flB m.found m.yes).toNat m.err.toNat, some []) = _
  rw [hw, zag_zig]
  obtain ⟨kind, frm, tto, id, num, stp, key, unt, writes, items, val, found, yes, err⟩ := m
  unfold mkM
  dsimp only at *
  rw [show ((kind.toNat : Nat) : Int) = kind by omega, show ((frm.toNat : Nat) : Int) = frm by omega, show ((tto.toNat : Nat) : Int) = tto by omega, show ((err.toNat : Nat) : Int) = err by omega]
  have e1 : decide ((flB found yes).toNat % 2 = 1) = found := by cases found <;> cases yes <;> decide
  have e2 : decide ((flB found yes).toNat / 2 % 2 = 1) = yes := by cases found <;> cases yes <;> decide
  rw [e1, e2]
theorem getM_put {m : Msg} (h : goodM m = true) (ho : okMB m) : getM (putM m) = (m, 0) := by
  unfold getM
  rw [readM_put h ho, if_pos ⟨rfl, h⟩]
end Go.AM
namespace Go.AM
open Go
set_option maxRecDepth 20000
def OwnMS (C : CallW) (f : FuncId) : Prop := ∀ (m : Msg) S H (K : AV → St → Prop), K (.agg (msc m)) ⟨S, H⟩ → C (.fn f) [.agg (msc m)] ⟨S, H⟩ K
set_option maxHeartbeats 8000000 in
theorem law19_own_spec {C : CallW} (P : Program) : ∀ (m : Msg) S H (K : AV → St → Prop), K (.agg (msc m)) ⟨S, H⟩ → runL C P C_hourglasslaw19_own [.agg (msc m)] ⟨S, H⟩ K := by
  intro m S H K hK
  unfold msc at hK
  simp only [List.cons_append, List.nil_append] at hK
  simp only [C_hourglasslaw19_own, A_, simprocAttr, ne_eq, U_hourglasslaw19_own.1, KG_, fillL, msc, List.append_assoc, zm_eq]
  exact hK
def heavyM (m : Msg) : Bool := decide (20 < m.writes.length) || (decide (20 < m.items.length) || (decide (250 < m.val.length) || ((m.writes.any fun w => decide (250 < w.val.length)) || (m.items.any fun w => decide (250 < w.val.length)))))
def HeavyMS (C : CallW) (f : FuncId) : Prop := ∀ (m : Msg) S H (K : AV → St → Prop), okM m → K (.bool (heavyM m)) ⟨S, H⟩ → C (.fn f) [.agg (msc m)] ⟨S, H⟩ K
set_option maxHeartbeats 8000000 in
theorem law19_heavy_spec {C : CallW} (hC : LeC C C) (P : Program) : ∀ (m : Msg) S H (K : AV → St → Prop), okM m → K (.bool (heavyM m)) ⟨S, H⟩ → runL C P C_hourglasslaw19_heavy [.agg (msc m)] ⟨S, H⟩ K := by
  intro m S H K hm hK
  unfold heavyM at hK
  simp only [C_hourglasslaw19_heavy, msc, A_, simprocAttr, ne_eq, U_hourglasslaw19_heavy.1, KG_]
  by_cases a1 : 20 < m.writes.length
  · have a1' : ((20 : Int) < (m.writes.length : Int)) := by omega
    rw [decide_eq_true a1, Bool.true_or] at hK
    simp only [A_, simprocAttr, ne_eq, U_hourglasslaw19_heavy.1, KG_, a1']
    exact hK
  have a1' : ¬ ((20 : Int) < (m.writes.length : Int)) := by omega
  rw [decide_eq_false a1, Bool.false_or] at hK
  simp only [A_, simprocAttr, ne_eq, U_hourglasslaw19_heavy.1, KG_, a1']
  by_cases a2 : 20 < m.items.length
  · have a2' : ((20 : Int) < (m.items.length : Int)) := by omega
    rw [decide_eq_true a2, Bool.true_or] at hK
    simp only [A_, simprocAttr, ne_eq, U_hourglasslaw19_heavy.1, KG_, a2']
    exact hK
  have a2' : ¬ ((20 : Int) < (m.items.length : Int)) := by omega
  rw [decide_eq_false a2, Bool.false_or] at hK
  simp only [A_, simprocAttr, ne_eq, U_hourglasslaw19_heavy.1, KG_, a2']
  by_cases a3 : 250 < m.val.length
  · have a3' : ((250 : Int) < (m.val.length : Int)) := by omega
    rw [decide_eq_true a3, Bool.true_or] at hK
    simp only [A_, simprocAttr, ne_eq, U_hourglasslaw19_heavy.1, KG_, a3']
    exact hK
  have a3' : ¬ ((250 : Int) < (m.val.length : Int)) := by omega
  rw [decide_eq_false a3, Bool.false_or] at hK
  simp only [A_, simprocAttr, ne_eq, U_hourglasslaw19_heavy.1, KG_, a3']
  refine loop_rule hC (α := Nat) (fun a => m.writes.length - a) (fun a => [.undef, .ptr (.stk S.length) 0, .undef, .s (.int .i64 a), .undef, .undef, .undef, .undef, .undef, .undef, .undef, .undef, .undef, .undef, .undef, .undef, .undef, .undef, .undef, .undef, .undef, .undef, .undef, .undef, .undef, .undef, .undef, .undef, .undef, .undef, .undef, .undef, .undef, .undef, .undef, .undef, .undef, .undef, .undef, .undef, .undef, .undef, .undef, .undef, .undef, .undef, .undef, .undef, .undef, .undef, .undef]) (fun _ => S ++ [msc m]) (fun _ => H) (fun i => i ≤ m.writes.length ∧ (m.writes.any fun w => decide (250 < w.val.length)) = ((m.writes.drop i).any fun w => decide (250 < w.val.length))) 0 ⟨by simp, rfl⟩ (by simp [keep, zm]) (by rw [app_take_add]; rfl) rfl (fun a _ => by simp [AV.under, AV.under.go]) ?_
  rintro i ⟨hi, hinv⟩ ih
  by_cases h16 : i < m.writes.length
  · have hlt : ((i : Int) < (m.writes.length : Int)) := by omega
    have hw : IntKind.i64.wrap ((i : Int) + 1) = (i : Int) + 1 := wrap_i64 (by omega) (by omega)
    rw [List.drop_eq_getElem_cons h16, List.any_cons] at hinv
    by_cases e : 250 < (m.writes[i]).val.length
    · have e' : ((250 : Int) < ((m.writes[i]).val.length : Int)) := by omega
      rw [decide_eq_true e, Bool.true_or] at hinv
      rw [hinv, Bool.true_or] at hK
      simp only [msc, A_, simprocAttr, ne_eq, U_hourglasslaw19_heavy.1, KG_, IT_, hlt, h16, e']
      exact hK
    · have e' : ¬ ((250 : Int) < ((m.writes[i]).val.length : Int)) := by omega
      rw [decide_eq_false e, Bool.false_or] at hinv
      simp only [msc, A_, simprocAttr, ne_eq, U_hourglasslaw19_heavy.1, KG_, IT_, hlt, h16, e', hw]
      exact ih (i + 1) _ _ _ (by omega) ⟨by omega, hinv⟩ (by simp [keep, zm]) (by rw [app_take_add]; rfl) rfl
  have hlt : ¬ ((i : Int) < (m.writes.length : Int)) := by omega
  rw [List.drop_of_length_le (by omega), List.any_nil] at hinv
  rw [hinv, Bool.false_or] at hK
  simp only [msc, A_, simprocAttr, ne_eq, U_hourglasslaw19_heavy.1, KG_, IT_, hlt]
  clear ih hinv
  refine loop_rule hC (α := Nat) (fun a => m.items.length - a) (fun a => [.undef, .ptr (.stk S.length) 0, .undef, .undef, .s (.int .i64 a), .undef, .undef, .undef, .undef, .undef, .undef, .undef, .undef, .undef, .undef, .undef, .undef, .undef, .undef, .undef, .undef, .undef, .undef, .undef, .undef, .undef, .undef, .undef, .undef, .undef, .undef, .undef, .undef, .undef, .undef, .undef, .undef, .undef, .undef, .undef, .undef, .undef, .undef, .undef, .undef, .undef, .undef, .undef, .undef, .undef, .undef]) (fun _ => S ++ [msc m]) (fun _ => H) (fun i => i ≤ m.items.length ∧ (m.items.any fun w => decide (250 < w.val.length)) = ((m.items.drop i).any fun w => decide (250 < w.val.length))) 0 ⟨by simp, rfl⟩ (by simp [keep, zm]) (by rw [app_take_add]; rfl) rfl (fun a _ => by simp [AV.under, AV.under.go]) ?_
  rintro i ⟨hi, hinv⟩ ih
  by_cases h16 : i < m.items.length
  · have hlt : ((i : Int) < (m.items.length : Int)) := by omega
    have hw : IntKind.i64.wrap ((i : Int) + 1) = (i : Int) + 1 := wrap_i64 (by omega) (by omega)
    rw [List.drop_eq_getElem_cons h16, List.any_cons] at hinv
    by_cases e : 250 < (m.items[i]).val.length
    · have e' : ((250 : Int) < ((m.items[i]).val.length : Int)) := by omega
      rw [decide_eq_true e, Bool.true_or] at hinv
      rw [hinv] at hK
      simp only [msc, A_, simprocAttr, ne_eq, U_hourglasslaw19_heavy.1, KG_, IT_, hlt, h16, e']
      exact hK
    · have e' : ¬ ((250 : Int) < ((m.items[i]).val.length : Int)) := by omega
      rw [decide_eq_false e, Bool.false_or] at hinv
      simp only [msc, A_, simprocAttr, ne_eq, U_hourglasslaw19_heavy.1, KG_, IT_, hlt, h16, e', hw]
      exact ih (i + 1) _ _ _ (by omega) ⟨by omega, hinv⟩ (by simp [keep, zm]) (by rw [app_take_add]; rfl) rfl
  have hlt : ¬ ((i : Int) < (m.items.length : Int)) := by omega
  rw [List.drop_of_length_le (by omega), List.any_nil] at hinv
  rw [hinv] at hK
  simp only [msc, A_, simprocAttr, ne_eq, U_hourglasslaw19_heavy.1, KG_, IT_, hlt]
  exact hK
structure inM (m : Msg) : Prop where
  ok : okM m
  il : -9223372036854775808 ≤ m.id
  ih : m.id ≤ 9223372036854775807
  nl : -9223372036854775808 ≤ m.num
  nh : m.num ≤ 9223372036854775807
theorem heavy_ok {m : Msg} (h : inM m) (hg : heavyM m = false) : okMB m := by
  unfold heavyM at hg
  simp only [Bool.or_eq_false_iff, decide_eq_false_iff_not] at hg
  obtain ⟨a1, a2, a3, a4, a5⟩ := hg
  refine ⟨by omega, fun w hw => ?_, by omega, fun w hw => ?_, by omega, h.il, h.ih, h.nl, h.nh⟩
  · have := List.any_eq_false.1 a4 w hw
    simp at this; omega
  · have := List.any_eq_false.1 a5 w hw
    simp at this; omega
def key97 : Key := ⟨97 :: List.replicate 15 0, rfl⟩
def awM : Msg := ⟨5, 255, 1, 7, 0, ⟨3, 0⟩, key0, key0, [⟨key97, [120], false⟩], [], [], false, true, 0⟩
end Go.AM
namespace Go.AM
open Go
set_option maxRecDepth 20000
theorem aw_goodM : goodM awM = true := by decide
theorem aw_okM : okMB awM := by
  refine ⟨by simp [awM], ?_, by simp [awM], by simp [awM], by simp [awM], by simp [awM], by simp [awM], by simp [awM], by simp [awM]⟩
  intro w hw
  simp only [awM, List.mem_singleton] at hw
  subst hw
  decide
theorem aw_lenM : 50 < (putM awM).length := by
  have hk := key97.h
  have h0 := key0.h
  have h1 : 18 ≤ (putWs awM.writes).length := by
    unfold putWs
    rw [List.length_append, show awM.writes.flatMap putW = putW ⟨key97, [120], false⟩ from List.append_nil _]
    unfold putW
    simp only [List.length_append, List.length_cons, List.length_nil, hk]
    omega
  unfold putM
  rw [if_neg (by rw [aw_goodM]; simp)]
  have h2 : 1 ≤ (tlB awM).length := by unfold tlB; simp only [List.length_append, List.length_cons]; omega
  have e1 : awM.key.b.length = 16 := h0
  have e2 : awM.unt.b.length = 16 := h0
  simp only [List.length_append, e1, e2]
  omega
theorem putM_le {m : Msg} (hm : okMB m) : (putM m).length ≤ 1000000 := by
  unfold putM
  split
  · simp
  rename_i hg
  have hg : goodM m = true := by simpa using hg
  have hp := goodM_p hg
  have p1 := putN_len10 (v := m.kind.toNat) (by have := hp.k2; omega)
  have p2 := putN_len10 (v := m.frm.toNat) (by have := hp.f2; omega)
  have p3 := putN_len10 (v := m.tto.toNat) (by have := hp.t2; omega)
  have p4 := putN_len10 (v := m.id.toNat) (by have := hm.ih; omega)
  have p5 := putN_len10 (v := zig m.num) (zig_lt hm.nl hm.nh)
  have p6 := pack_len m.stp
  have p7 := putWs_le hm.ws hm.vs
  have p8 := putIts_len m.items hm.iv
  have p9 := putN_len10 (v := m.items.length) (by have := hm.is; omega)
  have p10 := putN_len10 (v := m.val.length) (by have := hm.vl; omega)
  have p11 := putN_len10 (v := m.err.toNat) (by have := hp.e2; omega)
  have hk := m.key.h
  have hu := m.unt.h
  have h1 := hm.vl
  have h2 := hm.is
  unfold hd2 tlB
  simp only [List.length_append, List.length_cons, hk, hu]
  omega
theorem k97_eq : AV.s (.int .u8 97) :: List.drop 1 (bs key0.b) = bs key97.b := rfl
theorem aw_getM : getM (putM awM) = (awM, 0) := getM_put aw_goodM aw_okM
def AwakeMS (C : CallW) (f : FuncId) : Prop := ∀ S H (K : AV → St → Prop), (∀ G, K (.bool true) ⟨S, H ++ G⟩) → C (.fn f) [] ⟨S, H⟩ K
theorem aw_msc : msc awM = AV.s (.int .i64 5) :: AV.s (.int .i64 255) :: AV.s (.int .i64 1) :: AV.s (.int .i64 7) :: AV.s (.int .i64 0) :: AV.s (.int .i64 3) :: AV.s (.int .u8 0) :: (bs key0.b ++ (bs key0.b ++ [AV.list .sh 18 [wA ⟨key97, [120], false⟩], .list .sh 17 [], .s (.str []), .s (.bool false), .s (.bool true), .s (.int .i64 0)])) := rfl
theorem awX : WkL [(AV.agg (AV.s (.int .i64 5) :: AV.s (.int .i64 255) :: AV.s (.int .i64 1) :: AV.s (.int .i64 7) :: AV.s (.int .i64 0) :: AV.s (.int .i64 3) :: AV.s (.int .u8 0) :: (bs key0.b ++ (bs key0.b ++ [AV.list .full 18 [.agg (bs key97.b ++ [.s (.str [120]), .s (.bool false)])], .s .nilS, .s (.str []), .s (.bool false), .s (.bool true), .s (.int .i64 0)])))).sh] [.agg (msc awM)] := WkL.agg (.same (.same (.same (.same (.same (.same (.same (WkL.pre (bs key0.b) (WkL.pre (bs key0.b) (.full (.nilS (by omega) (WkL.refl _)))))))))))) msc_cell .nil
theorem awF : WkF [.agg (AV.s (.int .i64 5) :: AV.s (.int .i64 255) :: AV.s (.int .i64 1) :: AV.s (.int .i64 7) :: AV.s (.int .i64 0) :: AV.s (.int .i64 3) :: AV.s (.int .u8 0) :: (bs key0.b ++ (bs key0.b ++ [AV.list .full 18 [.agg (bs key97.b ++ [.s (.str [120]), .s (.bool false)])], .s .nilS, .s (.str []), .s (.bool false), .s (.bool true), .s (.int .i64 0)])))] [.agg (msc awM)] := .wk awX .nil
set_option maxHeartbeats 16000000 in
theorem law19_awake_spec {C : CallW} (hW : WkC C) (P : Program) {c : Nat → FuncId} (h0 : PutMS C (c 0)) (h1 : GetMS C (c 1)) (h2 : SameMS C (c 2)) (h3 : GoodMS C (c 3)) : ∀ S H (K : AV → St → Prop), (∀ G, K (.bool true) ⟨S, H ++ G⟩) → runL C P (C_hourglasslaw19_awake c) [] ⟨S, H⟩ K := by
  intro S H K hK
  simp only [C_hourglasslaw19_awake, A_, simprocAttr, ne_eq, (U_hourglasslaw19_awake _).1, KG_, fillL, List.append_assoc, zm_eq, k97_eq]
  refine hW _ _ _ _ _ awF ?_
  refine h0 _ _ _ _ aw_okM fun G => ?_
  have hlen := aw_lenM
  have hle : (putM awM).length ≤ 9223372036854775807 := Nat.le_trans (putM_le aw_okM) (by omega)
  have hbl := bs_length (putM awM)
  simp only [A_, simprocAttr, ne_eq, (U_hourglasslaw19_awake _).1, KG_, fillL, List.append_assoc]
  refine h1 _ (putM awM) _ _ _ .l hle fun G2 => ?_
  rw [aw_getM]
  simp only [tupM, aw_msc, A_, simprocAttr, ne_eq, (U_hourglasslaw19_awake _).1, KG_, fillL, List.append_assoc]
  refine hW _ _ [.agg (msc awM), .agg (msc awM)] _ _ (.same (.wk awX .nil)) ?_
  refine h2 awM awM _ _ _ aw_okM.ok aw_okM.ok ?_
  rw [decide_eq_true rfl]
  simp only [A_, simprocAttr, ne_eq, (U_hourglasslaw19_awake _).1, KG_, fillL, List.append_assoc]
  refine hW _ _ _ _ _ awF ?_
  refine h3 _ _ _ _ aw_okM.ok fun G3 => ?_
  rw [aw_goodM]
  simp only [A_, simprocAttr, ne_eq, (U_hourglasslaw19_awake _).1, KG_, fillL, List.append_assoc]
  refine hW _ _ _ _ _ awF ?_
  refine h0 _ _ _ _ aw_okM fun G4 => ?_
  have h50 : ((50 : Int) < ((putM awM).length : Int)) := by omega
  simp only [A_, simprocAttr, ne_eq, (U_hourglasslaw19_awake _).1, KG_, fillL, List.append_assoc, hbl, h50]
  simpa using hK (G ++ (G2 ++ (G3 ++ G4)))
end Go.AM
namespace Go.AM
open Go
set_option maxRecDepth 20000
theorem getM_okM {b : List UInt8} : okM (getM b).1 := by
  unfold getM
  split
  · rename_i h
    have hp := goodM_p h.2
    refine ⟨?_, ?_, ?_, ?_⟩
    · have := hp.w1; dsimp only; omega
    · have := hp.g2; dsimp only; omega
    · have := hp.v1; dsimp only; omega
    · exact (fun x hx => by have := gits_vals hp.g1 x hx; omega)
  · exact ⟨by simp [zMsg], by simp [zMsg], by simp [zMsg], fun x hx => by simp [zMsg] at hx⟩
set_option maxHeartbeats 40000000 in
theorem law19_MsgBytes_spec {C : CallW} (P : Program) {c : Nat → FuncId} (h0 : AwakeMS C (c 0)) (h1 : HeavyMS C (c 1)) (h2 : GetMS C (c 2)) (h3 : GetMQS C (c 3)) (h4 : PutMS C (c 4)) (h5 : OwnMS C (c 5)) (h6 : PutMQS C (c 6)) (h7 : SameMS C (c 7)) (h8 : SameMS C (c 8)) (h9 : GoodMS C (c 9)) (h10 : GoodMQS C (c 10)) : ∀ (r q : Msg) (b : List UInt8) S H (K : AV → St → Prop), inM r → inM q → b.length ≤ 9223372036854775807 → (∀ G, K (.bool true) ⟨S, H ++ G⟩) → runL C P (C_hourglasslaw19_MsgBytes c) [.agg (msc r), .agg (msc q), .list .sh 1 (bs b)] ⟨S, H⟩ K := by
  intro r q b S H K hr hq hb hK
  have hbl := bs_length b
  simp only [msc, C_hourglasslaw19_MsgBytes, A_, simprocAttr, ne_eq, (U_hourglasslaw19_MsgBytes _).1, KG_, fillL, List.append_assoc, zm_eq]
  refine h0 _ _ _ fun G => ?_
  have h1r := h1 r
  have h1q := h1 q
  unfold msc at h1r h1q
  simp only [List.cons_append, List.nil_append] at h1r h1q
  simp only [A_, simprocAttr, ne_eq, (U_hourglasslaw19_MsgBytes _).1, KG_, fillL, List.append_assoc]
  refine h1r _ _ _ hr.ok ?_
  cases hg : heavyM r with
  | true =>
    simp only [A_, simprocAttr, ne_eq, (U_hourglasslaw19_MsgBytes _).1, KG_, fillL, List.append_assoc]
    exact hK _
  | false =>
  simp only [A_, simprocAttr, ne_eq, (U_hourglasslaw19_MsgBytes _).1, KG_, fillL, List.append_assoc]
  refine h1q _ _ _ hq.ok ?_
  cases hg2 : heavyM q with
  | true =>
    simp only [A_, simprocAttr, ne_eq, (U_hourglasslaw19_MsgBytes _).1, KG_, fillL, List.append_assoc]
    exact hK _
  | false =>
  have okr := heavy_ok hr hg
  have okq := heavy_ok hq hg2
  by_cases hb3 : 3000 < b.length
  · have hb3' : ((3000 : Int) < (b.length : Int)) := by omega
    simp only [A_, simprocAttr, ne_eq, (U_hourglasslaw19_MsgBytes _).1, KG_, fillL, List.append_assoc, hbl, hb3']
    exact hK _
  have hb3' : ¬ ((3000 : Int) < (b.length : Int)) := by omega
  simp only [A_, simprocAttr, ne_eq, (U_hourglasslaw19_MsgBytes _).1, KG_, fillL, List.append_assoc, hbl, hb3', zm_eq]
  refine h2 _ b _ _ _ .l hb fun G2 => ?_
  have hQ := getM_Q b
  have hE := getM_err b
  have hO := getM_okM (b := b)
  generalize getM b = x at hQ hE hO ⊢
  obtain ⟨x, e⟩ := x
  dsimp only at hE hO hQ
  have h4' := h4 r
  have h6' := h6 r
  have h5' := h5 r
  have h5x := h5 x
  have h5q := h5 q
  have h7x := h7 x x
  have h7' := h7 r q
  have h8' := h8 r q
  have h9' := h9 r
  have h10' := h10 r
  unfold msc at h4' h5' h6' h5x h5q h7x h7' h8' h9' h10'
  simp only [List.cons_append, List.nil_append] at h4' h5' h6' h5x h5q h7x h7' h8' h9' h10'
  rcases hE with rfl | rfl
  · simp only [tupM, msc, A_, simprocAttr, ne_eq, (U_hourglasslaw19_MsgBytes _).1, KG_, fillL, List.append_assoc, zm_eq]
    refine h3 _ b _ _ _ .l hb ?_
    rw [hQ]
    simp only [tupMb, msc, A_, simprocAttr, ne_eq, (U_hourglasslaw19_MsgBytes _).1, KG_, fillL, List.append_assoc, zm_eq]
    refine h4' _ _ _ okr fun G3 => ?_
    simp only [A_, simprocAttr, ne_eq, (U_hourglasslaw19_MsgBytes _).1, KG_, fillL, List.append_assoc, conv_bs]
    refine h5' _ _ _ ?_
    simp only [A_, simprocAttr, ne_eq, (U_hourglasslaw19_MsgBytes _).1, KG_, fillL, List.append_assoc, conv_bs]
    refine h6' _ _ _ okr fun G4 => ?_
    simp only [A_, simprocAttr, ne_eq, (U_hourglasslaw19_MsgBytes _).1, KG_, fillL, List.append_assoc, conv_bs]
    refine h5x _ _ _ ?_
    simp only [A_, simprocAttr, ne_eq, (U_hourglasslaw19_MsgBytes _).1, KG_, fillL, List.append_assoc, conv_bs]
    refine h7x _ _ _ hO hO ?_
    simp only [A_, simprocAttr, ne_eq, (U_hourglasslaw19_MsgBytes _).1, KG_, fillL, List.append_assoc, conv_bs]
    refine h8' _ _ _ hr.ok hq.ok ?_
    simp only [A_, simprocAttr, ne_eq, (U_hourglasslaw19_MsgBytes _).1, KG_, fillL, List.append_assoc, conv_bs]
    refine h5' _ _ _ ?_
    simp only [A_, simprocAttr, ne_eq, (U_hourglasslaw19_MsgBytes _).1, KG_, fillL, List.append_assoc, conv_bs]
    refine h5q _ _ _ ?_
    simp only [A_, simprocAttr, ne_eq, (U_hourglasslaw19_MsgBytes _).1, KG_, fillL, List.append_assoc, conv_bs]
    refine h7' _ _ _ hr.ok hq.ok ?_
    simp only [A_, simprocAttr, ne_eq, (U_hourglasslaw19_MsgBytes _).1, KG_, fillL, List.append_assoc, conv_bs]
    refine h9' _ _ _ hr.ok fun G5 => ?_
    simp only [A_, simprocAttr, ne_eq, (U_hourglasslaw19_MsgBytes _).1, KG_, fillL, List.append_assoc, conv_bs]
    refine h5' _ _ _ ?_
    simp only [A_, simprocAttr, ne_eq, (U_hourglasslaw19_MsgBytes _).1, KG_, fillL, List.append_assoc, conv_bs]
    refine h10' _ _ _ hr.ok ?_
    simp only [A_, simprocAttr, ne_eq, (U_hourglasslaw19_MsgBytes _).1, KG_, fillL, List.append_assoc, conv_bs]
    simpa using hK (G ++ (G2 ++ (G3 ++ (G4 ++ G5))))
  · simp only [tupM, msc, A_, simprocAttr, ne_eq, (U_hourglasslaw19_MsgBytes _).1, KG_, fillL, List.append_assoc, zm_eq]
    refine h3 _ b _ _ _ .l hb ?_
    rw [hQ]
    simp only [tupMb, msc, A_, simprocAttr, ne_eq, (U_hourglasslaw19_MsgBytes _).1, KG_, fillL, List.append_assoc, zm_eq]
    refine h4' _ _ _ okr fun G3 => ?_
    simp only [A_, simprocAttr, ne_eq, (U_hourglasslaw19_MsgBytes _).1, KG_, fillL, List.append_assoc, conv_bs]
    refine h5' _ _ _ ?_
    simp only [A_, simprocAttr, ne_eq, (U_hourglasslaw19_MsgBytes _).1, KG_, fillL, List.append_assoc, conv_bs]
    refine h6' _ _ _ okr fun G4 => ?_
    simp only [A_, simprocAttr, ne_eq, (U_hourglasslaw19_MsgBytes _).1, KG_, fillL, List.append_assoc, conv_bs]
    refine h5x _ _ _ ?_
    simp only [A_, simprocAttr, ne_eq, (U_hourglasslaw19_MsgBytes _).1, KG_, fillL, List.append_assoc, conv_bs]
    refine h7x _ _ _ hO hO ?_
    simp only [A_, simprocAttr, ne_eq, (U_hourglasslaw19_MsgBytes _).1, KG_, fillL, List.append_assoc, conv_bs]
    refine h8' _ _ _ hr.ok hq.ok ?_
    simp only [A_, simprocAttr, ne_eq, (U_hourglasslaw19_MsgBytes _).1, KG_, fillL, List.append_assoc, conv_bs]
    refine h5' _ _ _ ?_
    simp only [A_, simprocAttr, ne_eq, (U_hourglasslaw19_MsgBytes _).1, KG_, fillL, List.append_assoc, conv_bs]
    refine h5q _ _ _ ?_
    simp only [A_, simprocAttr, ne_eq, (U_hourglasslaw19_MsgBytes _).1, KG_, fillL, List.append_assoc, conv_bs]
    refine h7' _ _ _ hr.ok hq.ok ?_
    simp only [A_, simprocAttr, ne_eq, (U_hourglasslaw19_MsgBytes _).1, KG_, fillL, List.append_assoc, conv_bs]
    refine h9' _ _ _ hr.ok fun G5 => ?_
    simp only [A_, simprocAttr, ne_eq, (U_hourglasslaw19_MsgBytes _).1, KG_, fillL, List.append_assoc, conv_bs]
    refine h5' _ _ _ ?_
    simp only [A_, simprocAttr, ne_eq, (U_hourglasslaw19_MsgBytes _).1, KG_, fillL, List.append_assoc, conv_bs]
    refine h10' _ _ _ hr.ok ?_
    simp only [A_, simprocAttr, ne_eq, (U_hourglasslaw19_MsgBytes _).1, KG_, fillL, List.append_assoc, conv_bs]
    simpa using hK (G ++ (G2 ++ (G3 ++ (G4 ++ G5))))
end Go.AM
namespace Go.AM
open Go
set_option maxRecDepth 20000
end Go.AM
namespace Go.AM
open Go
set_option maxRecDepth 20000
structure VSt where
  best : Wr
  top : Stp
  found : Bool
end Go.AM
namespace Go.AM
open Go
set_option maxRecDepth 20000
end Go.AM
namespace Go.AM
open Go
set_option maxRecDepth 20000
end Go.AM
namespace Go.AM
open Go
end Go.AM
namespace Go.AM
open Go
set_option maxRecDepth 20000
def ofV (id snap t : Int) (s v : List UInt8) : AV := .agg [.s (.int .i64 id), .s (.int .i64 snap), u8 0, .s (.int .i64 t), u8 0, .s (.bool true), .s .nilS, .list .full 18 [.agg (wc ⟨(keyOf s).1, v, false⟩)]]
end Go.AM
namespace Go.AM
open Go
set_option maxRecDepth 20000
end Go.AM
namespace Go.AM
open Go
set_option maxRecDepth 20000
end Go.AM
namespace Go.AM
open Go
section
variable {H : Type} {enc : TypeId × Value → H} {P : Program} {w : World} {sp : Nat → Bool} {held : Bool}
theorem of_each {α β : Type} {f : β → α} : ∀ (l : List α), (∀ x ∈ l, ∃ b, x = f b) → ∃ bs : List β, l = bs.map f
  | [], _ => ⟨[], rfl⟩
  | x :: l, h => by
    obtain ⟨b, rfl⟩ := h x List.mem_cons_self
    obtain ⟨bs, rfl⟩ := of_each l fun y hy => h y (List.mem_cons_of_mem _ hy)
    exact ⟨b :: bs, rfl⟩
theorem trodAll_stays {W W' : World} (hl : laidOutB P = true) (hb : RowKit.Below W.heap.size W W') : ∀ {ts : List TypeId} {vs : List Value} {ds : List (DataW H)} {ps : List MemPlace}, (∀ t ∈ ts, P.readableRec t = true ∧ t < P.types.size) →
    DataW.TrodAll enc P W 0 (fun _ => true) true ts vs ds ps → DataW.TrodAll enc P W' 0 (fun b => decide (b < W.heap.size)) true ts vs ds ps
  | [], [], [], _, _, h => h
  | t :: ts, v :: vs, d :: ds, ps, ht, ⟨p, q, h1, h2, e⟩ => by
    obtain ⟨n, hn⟩ := h1
    exact ⟨p, q, RowKit.Below.trod hl (ht t List.mem_cons_self).1 (ht t List.mem_cons_self).2 ⟨n, hn⟩ hb (DataW.trod_lt n _ _ _ hn), trodAll_stays hl hb (fun t h => ht t (List.mem_cons_of_mem _ h)) h2, e⟩
  | [], [], _ :: _, _, _, h => h.elim
  | [], _ :: _, _, _, _, h => h.elim
  | _ :: _, [], _, _, _, h => h.elim
  | _ :: _, _ :: _, [], _, _, h => h.elim
end
end Go.AM
namespace Go.AM
open Go
section
variable {H : Type} {enc : TypeId × Value → H} {P : Program} {w : World} {sp : Nat → Bool} {held : Bool}
def contig (P : Program) : List Field → Nat → Nat → Bool
  | [], o, tot => o == tot
  | f :: l, o, tot => f.offset == o && contig P l (o + P.cellsOf f.type) tot
def plainT (P : Program) : Nat → TypeId → Bool
  | 0, _ => false
  | d + 1, t => match P.underlying t with
    | some .bool | some (.int _) | some .string => true
    | some (.slice e) => decide (0 < P.cellsOf e) && (isAgg P e || P.cellsOf e == 1) && plainT P d e
    | some (.struct fs) => contig P fs.toList 0 (P.cellsOf t) && fs.toList.all fun f => plainT P d f.type
    | some (.array m e) => P.cellsOf t == m * P.cellsOf e && plainT P d e
    | _ => false
def shp (P : Program) : Nat → TypeId → List AV → Prop
  | 0, _, _ => False
  | d + 1, t, as => match P.underlying t with
    | some .bool => ∃ b, as = [.s (.bool b)]
    | some (.int k) => ∃ i, as = [.s (.int k i)] ∧ (Lit.int k i).wf = true
    | some .string => ∃ l, as = [.s (.str l)] ∧ l.length ≤ maxLen
    | some (.slice e) => ∃ es : List AV, as = [.list .sh (P.cellsOf e) es] ∧ es.length ≤ maxLen ∧ ∀ x ∈ es, shp P d e x.cells ∧ (isAgg P e = true → x = .agg x.cells) ∧ (isAgg P e = false → x.cells = [x])
    | some (.struct fs) => fs.toList.foldr (fun f (Q : List AV → Prop) as => ∃ a b, as = a ++ b ∧ shp P d f.type a ∧ Q b) (fun as => as = []) as
    | some (.array m e) => ∃ ps : List (List AV), ps.length = m ∧ as = ps.flatten ∧ ∀ p ∈ ps, shp P d e p
    | _ => False
structure Tells (w : World) (as : List AV) (cs : List Value) : Prop where
  vl : VL G.none w as cs
  cell : ∀ c ∈ as, c.isCell = true
  low : AV.under.go 0 as = true
theorem Tells.nil : Tells w [] [] := ⟨.nil, (fun _ h => by cases h), rfl⟩
theorem Tells.app {a b : List AV} {c d : List Value} (h : Tells w a c) (h' : Tells w b d) : Tells w (a ++ b) (c ++ d) :=
  ⟨h.vl.app h'.vl, fun x hx => (List.mem_append.1 hx).elim (h.cell x) (h'.cell x), by rw [under_app', h.low, h'.low]; rfl⟩
theorem Tells.flat : ∀ {ps : List (List AV)} {qs : List (List Value)}, ps.length = qs.length → (∀ (i : Nat) (p : List AV) (q : List Value), ps[i]? = some p → qs[i]? = some q → Tells w p q) → Tells w ps.flatten qs.flatten
  | [], [], _, _ => .nil
  | [], _ :: _, h, _ => by simp at h
  | _ :: _, [], h, _ => by simp at h
  | p :: ps, q :: qs, h, hall => by
    rw [List.flatten_cons, List.flatten_cons]
    exact (hall 0 p q rfl rfl).app (Tells.flat (by simpa using h) fun i a b ha hb => hall (i + 1) a b (by simpa using ha) (by simpa using hb))
theorem Tells.sc (x : Sc) : Tells w [.s x] [x.toV] := ⟨.sc x .nil, fun c hc => by rw [List.mem_singleton.1 hc]; rfl, rfl⟩
theorem lies_flat {b c : Nat} : ∀ (qs : List (List Value)) (off : Nat), (∀ i q, qs[i]? = some q → w.cells? 0 ⟨b, off + i * c, none⟩ c = some q) → ∀ j v, qs.flatten[j]? = some v → w.cell? ⟨b, off + j, none⟩ = some v
  | [], off, _, j, v, h => by simp at h
  | q :: qs, off, hall, j, v, h => by
    have hk := hall 0 q rfl
    rw [Nat.zero_mul, Nat.add_zero] at hk
    have hs := World.cells?_some hk
    rw [List.flatten_cons] at h
    by_cases hj : j < c
    · rw [List.getElem?_append_left (by omega)] at h
      have := hs.2.2 j hj
      rw [Addr.add_lit] at this
      rw [this]; exact h
    · rw [List.getElem?_append_right (by omega), hs.2.1] at h
      have := lies_flat qs (off + c) (fun i q hi => by
        have := hall (i + 1) q (by simpa using hi)
        rw [show off + c + i * c = off + (i + 1) * c by rw [Nat.add_mul]; omega]
        exact this) (j - c) v h
      rwa [show off + c + (j - c) = off + j by omega] at this
theorem choose_list {β : Type} {n : Nat} {p : Nat → β → Prop} (h : ∀ i, i < n → ∃ b, p i b) : ∃ l : List β, l.length = n ∧ ∀ i b, l[i]? = some b → p i b := by
  induction n with
  | zero => exact ⟨[], rfl, fun i b h => by simp at h⟩
  | succ n ih =>
    obtain ⟨l, hl, hall⟩ := ih fun i hi => h i (by omega)
    obtain ⟨b, hb⟩ := h n (by omega)
    refine ⟨l ++ [b], by simp [hl], fun i c hc => ?_⟩
    by_cases hi : i < l.length
    · rw [List.getElem?_append_left hi] at hc; exact hall i c hc
    · rw [List.getElem?_append_right (by omega)] at hc
      have : i = n := by
        have := (List.getElem?_eq_some_iff.1 hc).1
        simp at this; omega
      subst this
      rw [hl, Nat.sub_self] at hc
      injection hc with hc; subst hc; exact hb
def elemA (ag : Bool) (as : List AV) : AV := match ag with
  | true => .agg as
  | false => as.getD 0 .undef
theorem elemA_cells {w : World} {ag : Bool} {as : List AV} {cs : List Value} (h : Tells w as cs) (hl : ag = true ∨ as.length = 1) : (elemA ag as).cells = as := by
  cases ag with
  | true => rfl
  | false =>
    obtain ⟨a, rfl⟩ := List.length_eq_one_iff.1 (hl.resolve_left (by simp))
    have hc := h.cell a (by simp)
    show a.cells = [a]
    cases a <;> simp [AV.isCell] at hc <;> rfl
theorem elemA_low {w : World} {ag : Bool} {as : List AV} {cs : List Value} (h : Tells w as cs) (hl : ag = true ∨ as.length = 1) : AV.under 0 (elemA ag as) = true := by
  cases ag with
  | true => exact h.low
  | false =>
    obtain ⟨a, rfl⟩ := List.length_eq_one_iff.1 (hl.resolve_left (by simp))
    have := h.low
    simpa [elemA, AV.under.go] using this
theorem trod_struct_shp {d m tot : Nat} {cs : List Value} (ih : ∀ t, plainT P d t = true → ∀ N cs x, DataW.trod enc P w 0 sp held N t cs = some x → ∃ as, shp P d t as ∧ Tells w as cs) (htot : cs.length = tot) :
    ∀ (l : List Field) (o : Nat), contig P l o tot = true → (l.all fun f => plainT P d f.type) = true → (∀ f ∈ l, ∃ x, DataW.trod enc P w 0 sp held m f.type ((cs.drop f.offset).take (P.cellsOf f.type)) = some x) →
    ∃ as, l.foldr (fun f (Q : List AV → Prop) as => ∃ a b, as = a ++ b ∧ shp P d f.type a ∧ Q b) (fun as => as = []) as ∧ Tells w as (cs.drop o)
  | [], o, hc, _, _ => by
    have : o = tot := by simpa [contig] using hc
    subst this
    rw [List.drop_of_length_le (by omega)]
    exact ⟨[], rfl, .nil⟩
  | f :: l, o, hc, hp, hall => by
    simp only [contig, Bool.and_eq_true, beq_iff_eq] at hc
    simp only [List.all_cons, Bool.and_eq_true] at hp
    obtain ⟨x, hx⟩ := hall f List.mem_cons_self
    obtain ⟨a, ha, hta⟩ := ih _ hp.1 _ _ _ hx
    obtain ⟨b, hb, htb⟩ := trod_struct_shp ih htot l _ hc.2 hp.2 fun g hg => hall g (List.mem_cons_of_mem _ hg)
    refine ⟨a ++ b, ⟨a, b, rfl, ha, hb⟩, ?_⟩
    rw [hc.1] at hta
    have : cs.drop o = (cs.drop o).take (P.cellsOf f.type) ++ cs.drop (o + P.cellsOf f.type) := by
      rw [← List.drop_drop, List.take_append_drop]
    rw [this]
    exact hta.app htb
theorem flat_parts {c : Nat} : ∀ (m : Nat) (cs : List Value), cs.length = m * c → ((List.range m).map fun i => (cs.drop (i * c)).take c).flatten = cs
  | 0, cs, h => by simp at h; subst h; rfl
  | m + 1, cs, h => by
    rw [List.range_succ_eq_map, List.map_cons, List.map_map, List.flatten_cons, Nat.zero_mul, List.drop_zero]
    have := flat_parts (c := c) m (cs.drop c) (by rw [List.length_drop, h, Nat.add_mul]; omega)
    have e : ((fun i => (cs.drop (i * c)).take c) ∘ Nat.succ) = fun i => ((cs.drop c).drop (i * c)).take c := by
      funext i
      simp only [Function.comp, List.drop_drop, Nat.succ_eq_add_one, Nat.add_mul, Nat.one_mul]
      rw [Nat.add_comm c]
    rw [e, this, List.take_append_drop]
theorem trod_shp : ∀ (d : Nat) (t : TypeId), plainT P d t = true → ∀ (N : Nat) (cs : List Value) (x : DataW H × List MemPlace), DataW.trod enc P w 0 sp held N t cs = some x → ∃ as, shp P d t as ∧ Tells w as cs
  | 0, t, h, _, _, _, _ => by simp [plainT] at h
  | d + 1, t, h, N, cs, x, hx => by
    have ih := trod_shp d
    unfold plainT at h
    unfold shp
    cases hu : P.underlying t with
    | none => rw [hu] at h; cases h
    | some D =>
      rw [hu] at h
      cases D with
      | bool =>
        obtain ⟨b, rfl, _⟩ := DataW.trod_bool hu hx
        exact ⟨_, ⟨b, rfl⟩, .sc (.bool b)⟩
      | int k =>
        obtain ⟨n, rfl, _, hw⟩ := DataW.trod_int hu hx
        exact ⟨_, ⟨n, rfl, hw⟩, .sc (.int k n)⟩
      | string =>
        obtain ⟨s, rfl, _, hl⟩ := DataW.trod_string hu hx
        refine ⟨_, ⟨s.data.toList, rfl, by simpa using hl⟩, ?_⟩
        have := Tells.sc (w := w) (.str s.data.toList)
        simpa [Sc.toV] using this
      | slice e =>
        simp only [Bool.and_eq_true, decide_eq_true_eq, Bool.or_eq_true, beq_iff_eq] at h
        obtain ⟨⟨hpos, hag⟩, hpe⟩ := h
        rcases DataW.trod_slice hu hx with ⟨rfl, _⟩ | ⟨a, len, cap, elems, rest, n, _, rfl, _, _, hle, hcap, hlen, hel, _, _⟩
        · exact ⟨_, ⟨[], rfl, Nat.zero_le _, fun _ h => by cases h⟩, ⟨.lnil hpos .nil, fun c hc => by rw [List.mem_singleton.1 hc]; rfl, rfl⟩⟩
        · have each : ∀ i, i < len → ∃ z : List Value × List AV, w.cells? 0 (a.add (i * P.cellsOf e)) (P.cellsOf e) = some z.1 ∧ shp P d e z.2 ∧ Tells w z.2 z.1 := fun i hi => by
            have h1 := hel i hi
            rw [List.getElem?_eq_getElem (by omega)] at h1
            obtain ⟨q, hq, hq2⟩ := Option.bind_eq_some_iff.1 h1
            obtain ⟨as, h2, h3⟩ := ih e hpe _ _ _ hq2
            exact ⟨(q, as), hq, h2, h3⟩
          obtain ⟨l, hl, hall⟩ := choose_list each
          have hin : ∀ z ∈ l, (∃ i, w.cells? 0 (a.add (i * P.cellsOf e)) (P.cellsOf e) = some z.1) ∧ shp P d e z.2 ∧ Tells w z.2 z.1 := fun z hz => by
            obtain ⟨i, hi⟩ := List.getElem?_of_mem hz
            exact ⟨⟨i, (hall i z hi).1⟩, (hall i z hi).2⟩
          have hone : ∀ z ∈ l, z.2.length = P.cellsOf e := fun z hz => by
            obtain ⟨⟨i, h1⟩, _, h2⟩ := hin z hz
            rw [← h2.vl.length]; exact (World.cells?_some h1).2.1
          have hag' : ∀ z ∈ l, isAgg P e = true ∨ z.2.length = 1 := fun z hz => hag.imp id fun h => by rw [hone z hz, h]
          let es : List AV := l.map fun z => elemA (isAgg P e) z.2
          have hcells : es.flatMap AV.cells = (l.map (·.2)).flatten := by
            have : ∀ (l' : List (List Value × List AV)), (∀ z ∈ l', z ∈ l) → (l'.map fun z => elemA (isAgg P e) z.2).flatMap AV.cells = (l'.map (·.2)).flatten := by
              intro l'
              induction l' with
              | nil => intro _; rfl
              | cons z l' ihl =>
                intro hs
                rw [List.map_cons, List.flatMap_cons, List.map_cons, List.flatten_cons, ihl fun y hy => hs y (List.mem_cons_of_mem _ hy)]
                have hz := hs z List.mem_cons_self
                rw [elemA_cells (hin z hz).2.2 (hag' z hz)]
            exact this l fun _ h => h
          have hspot : es = [] ∨ a.spot = none := by
            by_cases h0 : len = 0
            · left; apply List.length_eq_zero_iff.1; simp [es, hl, h0]
            · right
              obtain ⟨z, hz, _⟩ := each 0 (by omega)
              have h1 := (World.cells?_some hz).2.2 0 hpos
              have h2 : (a.add (0 * P.cellsOf e)).add 0 = a := by simp [Addr.add]
              rw [h2, List.getElem?_eq_getElem (by rw [(World.cells?_some hz).2.1]; exact hpos)] at h1
              unfold World.cell? at h1
              split at h1
              · split at h1
                · cases h1
                · rename_i h3; simpa using h3
              · cases h1
          have htell : Tells w (l.map (·.2)).flatten (l.map (·.1)).flatten := Tells.flat (by simp) fun i p q hp hq => by
            rw [List.getElem?_map] at hp hq
            cases hz : l[i]? with
            | none => rw [hz] at hp; cases hp
            | some z =>
              rw [hz] at hp hq
              injection hp with hp; injection hq with hq; subst hp; subst hq
              exact (hall i z hz).2.2
          refine ⟨_, ⟨es, rfl, by simp [es, hl]; omega, fun y hy => ?_⟩, ⟨?_, fun c hc => by rw [List.mem_singleton.1 hc]; rfl, rfl⟩⟩
          · obtain ⟨z, hz, rfl⟩ := List.mem_map.1 hy
            rw [elemA_cells (hin z hz).2.2 (hag' z hz)]
            refine ⟨(hin z hz).2.1, fun h => by rw [h]; rfl, fun h => ?_⟩
            obtain ⟨a, ha⟩ := List.length_eq_one_iff.1 ((hag' z hz).resolve_left (by rw [h]; simp))
            rw [ha, h]; rfl
          · refine .list (xs := (l.map (·.1)).flatten) (.inl rfl) (by simp [es, hl]) hle hpos hspot (fun y hy => ?_) ?_ (by rw [hcells]; exact htell.vl) (fun i v hv => ⟨?_, fun h => (show False from h)⟩) .nil
            · obtain ⟨z, hz, rfl⟩ := List.mem_map.1 hy
              rw [elemA_cells (hin z hz).2.2 (hag' z hz)]
              exact ⟨hone z hz, (hin z hz).2.2.cell⟩
            · refine under_mem.2 fun y hy => ?_
              obtain ⟨z, hz, rfl⟩ := List.mem_map.1 hy
              exact elemA_low (hin z hz).2.2 (hag' z hz)
            · rcases hspot with h0 | h0
              · have : l = [] := by simpa [es] using h0
                rw [this] at hv; simp at hv
              · obtain ⟨ab, ao, as⟩ := a
                dsimp only at h0; subst h0
                refine lies_flat (c := P.cellsOf e) _ ao (fun j q hq => ?_) i v hv
                rw [List.getElem?_map] at hq
                cases hz : l[j]? with
                | none => rw [hz] at hq; cases hq
                | some z =>
                  rw [hz] at hq
                  injection hq with hq; subst hq
                  have := (hall j z hz).1
                  rwa [Addr.add_lit] at this
      | struct fs =>
        simp only [Bool.and_eq_true] at h
        obtain ⟨xs, n, _, _, hl, hxl, hf⟩ := DataW.trod_struct hu hx
        obtain ⟨as, h1, h2⟩ := trod_struct_shp (m := n) ih hl fs.toList 0 h.1 h.2 fun f hm => by
          obtain ⟨i, hi⟩ := List.getElem?_of_mem hm
          have hi' : fs[i]? = some f := by simpa using hi
          have := hf i f hi'
          have hlt := (Array.getElem?_eq_some_iff.1 hi').1
          rw [List.getElem?_eq_getElem (by omega)] at this
          exact ⟨_, this⟩
        exact ⟨as, h1, by simpa using h2⟩
      | array m e =>
        simp only [Bool.and_eq_true, beq_iff_eq] at h
        obtain ⟨xs, n, _, _, hl, hxl, hf⟩ := DataW.trod_array hu hx
        obtain ⟨ps, hpl, hall⟩ := choose_list (n := m) (p := fun i as => shp P d e as ∧ Tells w as ((cs.drop (i * P.cellsOf e)).take (P.cellsOf e))) fun i hi => by
          have := hf i hi
          rw [List.getElem?_eq_getElem (by omega)] at this
          exact ih e h.2 _ _ _ this
        refine ⟨ps.flatten, ⟨ps, hpl, rfl, fun p hp => ?_⟩, ?_⟩
        · obtain ⟨i, hi⟩ := List.getElem?_of_mem hp
          exact (hall i p hi).1
        · rw [← flat_parts (c := P.cellsOf e) m cs (by rw [hl, h.1])]
          refine Tells.flat (by simp [hpl]) fun i p q hp hq => ?_
          have hlt : i < m := by have := (List.getElem?_eq_some_iff.1 hp).1; omega
          have : q = (cs.drop (i * P.cellsOf e)).take (P.cellsOf e) := by
            rw [List.getElem?_map, List.getElem?_range hlt] at hq
            injection hq with hq; exact hq.symm
          subst this
          exact (hall i p hp).2
      | _ => cases h
def argA (ag : Bool) (as : List AV) : AV := elemA ag as
theorem trod_arg {d : Nat} {t : TypeId} {v : Value} {D : DataW H} {ps : List MemPlace} (hp : plainT P d t = true) (hok : Value.okWide P w .any 0 t v) (h : DataW.Trod enc P w 0 sp held t v D ps) :
    ∃ as, shp P d t as ∧ V G.none w (argA (isAgg P t) as) v := by
  obtain ⟨n, hn⟩ := h
  obtain ⟨as, h1, h2⟩ := trod_shp d t hp n _ _ hn
  refine ⟨as, h1, ?_⟩
  cases hu : P.underlying t with
  | none =>
    cases d with
    | zero => simp [plainT] at hp
    | succ d => rw [plainT, hu] at hp; cases hp
  | some D =>
    have scalar : isAgg P t = false → (∀ xs, v ≠ .agg xs) → V G.none w (argA (isAgg P t) as) v := fun hf hv => by
      rw [hf]
      have e : v.cells.toList = [v] := by
        cases v <;> first | rfl | exact (hv _ rfl).elim
      rw [e] at h2
      obtain ⟨a, as', rfl, h3, h4⟩ : ∃ a as', as = a :: as' ∧ V G.none w a v ∧ VL G.none w as' [] := by
        cases as with
        | nil => have := h2.vl.length; simp at this
        | cons a as' =>
          obtain ⟨v', vs', hh, h3, h4⟩ := h2.vl.cons_left
          injection hh with hh1 hh2; subst hh1; subst hh2
          exact ⟨a, as', rfl, h3, h4⟩
      exact h3
    cases D with
    | struct fs =>
      simp only [Value.okWide, hu] at hok
      obtain ⟨cs, rfl, _, _⟩ := hok
      rw [show isAgg P t = true by simp [isAgg, hu]]
      exact .agg h2.cell (by simpa [Value.cells] using h2.vl) .nil
    | array m e =>
      simp only [Value.okWide, hu] at hok
      obtain ⟨cs, rfl, _, _⟩ := hok
      rw [show isAgg P t = true by simp [isAgg, hu]]
      exact .agg h2.cell (by simpa [Value.cells] using h2.vl) .nil
    | _ =>
      refine scalar (by simp [isAgg, hu]) fun xs hv => ?_
      subst hv
      simp [Value.okWide, Cell.okWide, Cell.ok, hu] at hok
end
end Go.AM
namespace Go.AM
open Go
section
variable {P : Program}
def parts (P : Program) (d : Nat) : List TypeId → List AV → Prop
  | [], as => as = []
  | u :: ts, as => ∃ a b, as = a ++ b ∧ shp P d u a ∧ parts P d ts b
theorem parts_of {d : Nat} : ∀ {fs : List Field} {as : List AV}, fs.foldr (fun f (Q : List AV → Prop) as => ∃ a b, as = a ++ b ∧ shp P d f.type a ∧ Q b) (fun as => as = []) as → parts P d (fs.map (·.type)) as
  | [], _, h => h
  | f :: fs, as, h => by
    obtain ⟨a, b, h1, h2, h3⟩ := h
    exact ⟨a, b, h1, h2, parts_of h3⟩
theorem shp_struct {d : Nat} {t : TypeId} {fs : Array Field} {ts : List TypeId} {as : List AV} (ht : P.underlying t = some (.struct fs)) (hts : fs.toList.map (·.type) = ts) (h : shp P (d + 1) t as) : parts P d ts as := by
  unfold shp at h
  rw [ht] at h
  subst hts
  exact parts_of h
theorem shp_int {d : Nat} {t : TypeId} {k : IntKind} {as : List AV} (ht : P.underlying t = some (.int k)) (h : shp P (d + 1) t as) : ∃ i, as = [.s (.int k i)] ∧ (Lit.int k i).wf = true := by
  unfold shp at h; rw [ht] at h; exact h
theorem shp_bool {d : Nat} {t : TypeId} {as : List AV} (ht : P.underlying t = some .bool) (h : shp P (d + 1) t as) : ∃ b, as = [.s (.bool b)] := by
  unfold shp at h; rw [ht] at h; exact h
theorem shp_str {d : Nat} {t : TypeId} {as : List AV} (ht : P.underlying t = some .string) (h : shp P (d + 1) t as) : ∃ l, as = [.s (.str l)] ∧ l.length ≤ maxLen := by
  unfold shp at h; rw [ht] at h; exact h
theorem shp_u8 {d : Nat} {t : TypeId} {as : List AV} (ht : P.underlying t = some (.int .u8)) (h : shp P (d + 1) t as) : ∃ b : UInt8, as = [u8 b] := by
  obtain ⟨i, rfl, hw⟩ := shp_int ht h
  have := bounds_u8 hw
  refine ⟨UInt8.ofNat i.toNat, ?_⟩
  have : ((UInt8.ofNat i.toNat).toNat : Int) = i := by rw [UInt8.toNat_ofNat']; omega
  show _ = [AV.s (.int .u8 _)]
  rw [this]
theorem shp_key {d : Nat} {t u : TypeId} {as : List AV} (ht : P.underlying t = some (.array 16 u)) (hu : P.underlying u = some (.int .u8)) (h : shp P (d + 2) t as) : ∃ k : Key, as = bs k.b := by
  unfold shp at h; rw [ht] at h
  obtain ⟨ps, hl, rfl, hall⟩ := h
  obtain ⟨l, rfl⟩ := of_each (f := fun b => [u8 b]) ps fun p hp => shp_u8 hu (hall p hp)
  refine ⟨⟨l, by simpa using hl⟩, ?_⟩
  show _ = l.map u8
  clear hl hall
  induction l with
  | nil => rfl
  | cons b l ih => simp only [List.map_cons, List.flatten_cons, ih]; rfl
theorem shp_wr {d : Nat} {t tk u ts tb : TypeId} {fs : Array Field} {as : List AV} (ht : P.underlying t = some (.struct fs)) (hf : fs.toList.map (·.type) = [tk, ts, tb]) (hk : P.underlying tk = some (.array 16 u)) (hu : P.underlying u = some (.int .u8)) (hs : P.underlying ts = some .string) (hb : P.underlying tb = some .bool)
    (h : shp P (d + 3) t as) : ∃ w : Wr, as = wc w := by
  obtain ⟨a, r, rfl, h1, a2, r2, rfl, h2, a3, r3, rfl, h3, rfl⟩ := shp_struct ht hf h
  obtain ⟨k, rfl⟩ := shp_key hk hu h1
  obtain ⟨l, rfl, _⟩ := shp_str hs h2
  obtain ⟨b, rfl⟩ := shp_bool hb h3
  exact ⟨⟨k, l, b⟩, rfl⟩
end
end Go.AM
namespace Go.AM
open Go
section
variable {P : Program}
theorem shp_stamp {d : Nat} {t ti tn : TypeId} {fs : Array Field} {as : List AV} (ht : P.underlying t = some (.struct fs)) (hf : fs.toList.map (·.type) = [ti, tn]) (hi : P.underlying ti = some (.int .i64)) (hn : P.underlying tn = some (.int .u8)) (h : shp P (d + 2) t as) : ∃ s : Stp, as = stc s := by
  obtain ⟨a, r, rfl, h1, a2, r2, rfl, h2, rfl⟩ := shp_struct ht hf h
  obtain ⟨i, rfl, _⟩ := shp_int hi h1
  obtain ⟨b, rfl⟩ := shp_u8 hn h2
  exact ⟨⟨i, b⟩, rfl⟩
end
end Go.AM
namespace Go.AM
open Go
variable {P : Program}
theorem wT {α : Type} {p : α → Prop} (h : ∃ x, p x) : ∃ x, p x ∧ True := h.imp fun _ e => ⟨e, trivial⟩
theorem of_eachQ {α : Type} {f : α → AV} {Q : α → Prop} : ∀ (es : List AV), (∀ x ∈ es, ∃ a, x = f a ∧ Q a) → ∃ l : List α, es = l.map f ∧ ∀ a ∈ l, Q a
  | [], _ => ⟨[], rfl, fun a h => by cases h⟩
  | x :: es, h => by
    obtain ⟨a, rfl, hq⟩ := h x (List.mem_cons_self ..)
    obtain ⟨l, rfl, hl⟩ := of_eachQ es fun y hy => h y (List.mem_cons_of_mem _ hy)
    exact ⟨a :: l, rfl, fun b hb => by rcases List.mem_cons.1 hb with rfl | hb; exact hq; exact hl b hb⟩
theorem shp_sliceQ {d : Nat} {t e : TypeId} {c : Nat} {as : List AV} {α : Type} (f : α → AV) (Q : α → Prop) (ht : P.underlying t = some (.slice e)) (hc : P.cellsOf e = c) (he : ∀ x : AV, shp P d e x.cells → (isAgg P e = true → x = .agg x.cells) → (isAgg P e = false → x.cells = [x]) → ∃ a, x = f a ∧ Q a) (h : shp P (d + 1) t as) :
    ∃ l : List α, as = [.list .sh c (l.map f)] ∧ l.length ≤ 9223372036854775807 ∧ ∀ a ∈ l, Q a := by
  subst hc
  unfold shp at h; rw [ht] at h
  obtain ⟨es, rfl, hl, hall⟩ := h
  obtain ⟨l, rfl, hq⟩ := of_eachQ (f := f) es fun x hx => he x (hall x hx).1 (hall x hx).2.1 (hall x hx).2.2
  refine ⟨l, rfl, ?_, hq⟩
  rw [List.length_map] at hl
  unfold maxLen at hl; omega
theorem shp_i64 {d : Nat} {t : TypeId} {as : List AV} (ht : P.underlying t = some (.int .i64)) (h : shp P (d + 1) t as) : ∃ i : Int, as = [.s (.int .i64 i)] ∧ -9223372036854775808 ≤ i ∧ i ≤ 9223372036854775807 := by
  obtain ⟨i, rfl, hw⟩ := shp_int ht h
  refine ⟨i, rfl, ?_⟩
  unfold Lit.wf at hw
  rw [Bool.and_eq_true] at hw
  have h1 := of_decide_eq_true hw.1
  have h2 := of_decide_eq_true hw.2
  simp [IntKind.min, IntKind.max, IntKind.signed, IntKind.bits] at h1 h2
  omega
theorem shp_strQ {d : Nat} {t : TypeId} {as : List AV} (ht : P.underlying t = some .string) (h : shp P (d + 1) t as) : ∃ l : List UInt8, as = [.s (.str l)] ∧ l.length ≤ 9223372036854775807 := by
  obtain ⟨l, rfl, hl⟩ := shp_str ht h
  refine ⟨l, rfl, ?_⟩
  unfold maxLen at hl; omega
end Go.AM
