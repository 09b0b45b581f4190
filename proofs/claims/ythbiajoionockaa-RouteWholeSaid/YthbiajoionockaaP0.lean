import Derived.Test.YthbiajoionockaaRb
import Derived.Test.YthbiajoionockaaRa
import Derived.Test.YthbiajoionockaaSy
import Derived.Test.YthbiajoionockaaG7
import Derived.OpenShut
import Derived.Carry
import Derived.ChangeOld
/-! The plain law of RouteWhole. -/
namespace Go.AM
open Go
set_option linter.unusedVariables false

theorem cb_flip : ∀ (x y : List UInt8), Lib.compareBytes y x = - Lib.compareBytes x y
  | [], [] => rfl
  | [], _ :: _ => rfl
  | _ :: _, [] => rfl
  | a :: x, b :: y => by
    simp only [Lib.compareBytes]
    by_cases h1 : a < b
    · have h2 : ¬ b < a := fun h => absurd (UInt8.lt_trans h1 h) (UInt8.lt_irrefl _)
      simp [h1, h2]
    · by_cases h2 : b < a
      · simp [h1, h2]
      · simp only [h1, h2, if_false]; exact cb_flip x y

theorem cb_trans : ∀ (x y z : List UInt8), Lib.compareBytes x y ≤ 0 → Lib.compareBytes y z ≤ 0 → Lib.compareBytes x z ≤ 0 ∧ (Lib.compareBytes x y < 0 ∨ Lib.compareBytes y z < 0 → Lib.compareBytes x z < 0)
  | [], [], [], _, _ => by simp [Lib.compareBytes]
  | [], [], _ :: _, _, _ => by simp [Lib.compareBytes]
  | [], _ :: _, [], _, h => by simp [Lib.compareBytes] at h
  | [], _ :: _, _ :: _, _, _ => by simp [Lib.compareBytes]
  | _ :: _, [], _, h, _ => by simp [Lib.compareBytes] at h
  | _ :: _, _ :: _, [], _, h => by simp [Lib.compareBytes] at h
  | a :: x, b :: y, c :: z, h1, h2 => by
    simp only [Lib.compareBytes] at h1 h2 ⊢
    rcases Nat.lt_trichotomy a.toNat b.toNat with hab | hab | hab
    · have e1 : a < b := UInt8.lt_iff_toNat_lt.2 hab
      rcases Nat.lt_trichotomy b.toNat c.toNat with hbc | hbc | hbc
      · have : a < c := UInt8.lt_iff_toNat_lt.2 (by omega)
        simp [this]
      · have : a < c := UInt8.lt_iff_toNat_lt.2 (by omega)
        simp [this]
      · have e2 : c < b := UInt8.lt_iff_toNat_lt.2 hbc
        have e3 : ¬ b < c := fun h => by have := UInt8.lt_iff_toNat_lt.1 h; omega
        simp [e2, e3] at h2
    · have e1 : a = b := UInt8.toNat_inj.1 hab
      subst e1
      have e0 : ¬ a < a := UInt8.lt_irrefl a
      simp only [e0, if_false] at h1 ⊢
      rcases Nat.lt_trichotomy a.toNat c.toNat with hbc | hbc | hbc
      · have : a < c := UInt8.lt_iff_toNat_lt.2 hbc
        simp [this]
      · have e2 : a = c := UInt8.toNat_inj.1 hbc
        subst e2
        simp only [e0, if_false] at h2 ⊢
        exact cb_trans x y z h1 h2
      · have e2 : c < a := UInt8.lt_iff_toNat_lt.2 hbc
        have e3 : ¬ a < c := fun h => by have := UInt8.lt_iff_toNat_lt.1 h; omega
        simp [e2, e3] at h2
    · have e1 : b < a := UInt8.lt_iff_toNat_lt.2 hab
      have e3 : ¬ a < b := fun h => by have := UInt8.lt_iff_toNat_lt.1 h; omega
      simp [e1, e3] at h1

theorem cmp_flip (a b : Key) : cmpK b a = - cmpK a b := cb_flip _ _
theorem cmp_le {a b c : Key} (h1 : cmpK a b ≤ 0) (h2 : cmpK b c ≤ 0) : cmpK a c ≤ 0 := (cb_trans _ _ _ h1 h2).1
theorem cmp_lt {a b c : Key} (h1 : cmpK a b < 0) (h2 : cmpK b c ≤ 0) : cmpK a c < 0 := (cb_trans _ _ _ (by unfold cmpK at h1; omega) h2).2 (.inl h1)
theorem cmp_lt' {a b c : Key} (h1 : cmpK a b ≤ 0) (h2 : cmpK b c < 0) : cmpK a c < 0 := (cb_trans _ _ _ h1 (by unfold cmpK at h2; omega)).2 (.inr h2)

theorem ok_pair : ∀ {q : Option Key} {l : List Key}, okFrom q l = true → l.Pairwise (fun a b => cmpK a b < 0) ∧ ∀ p, q = some p → ∀ x ∈ l, cmpK p x < 0
  | _, [], _ => ⟨.nil, fun _ _ _ h => by cases h⟩
  | q, x :: l, h => by
    simp only [okFrom, Bool.and_eq_true] at h
    obtain ⟨⟨h1, h2⟩, h3⟩ := h
    obtain ⟨k1, k2⟩ := ok_pair h3
    have k2 := k2 x rfl
    refine ⟨List.pairwise_cons.2 ⟨k2, k1⟩, fun p hp y hy => ?_⟩
    subst hp
    have h2 : cmpK p x < 0 := by simpa using h2
    rcases List.mem_cons.1 hy with rfl | hy
    · exact h2
    · exact cmp_lt h2 (by have := k2 y hy; omega)

theorem cnt_le (k : Key) : ∀ (l : List Key), cntK k l ≤ l.length
  | [] => Nat.le_refl _
  | p :: l => by
    have := cnt_le k l
    simp only [cntK, List.length_cons]
    split <;> omega
theorem cnt_mono {a b : Key} (h : cmpK a b ≤ 0) : ∀ (l : List Key), cntK a l ≤ cntK b l
  | [] => Nat.le_refl _
  | p :: l => by
    have := cnt_mono h l
    simp only [cntK]
    by_cases h1 : cmpK p a ≤ 0
    · rw [if_pos h1, if_pos (cmp_le h1 h)]; omega
    · rw [if_neg h1]; split <;> omega
theorem cnt_zero {k : Key} : ∀ {l : List Key}, (∀ x ∈ l, 0 < cmpK x k) → cntK k l = 0
  | [], _ => rfl
  | p :: l, h => by
    have h1 := h p List.mem_cons_self
    simp only [cntK]
    rw [if_neg (by omega), cnt_zero fun x hx => h x (List.mem_cons_of_mem _ hx)]
theorem cnt_iff {k : Key} : ∀ {l : List Key} {i : Nat}, l.Pairwise (fun a b => cmpK a b < 0) → (hi : i < l.length) → (cmpK l[i] k ≤ 0 ↔ i < cntK k l)
  | [], _, _, hi => by simp at hi
  | p :: l, i, hp, hi => by
    obtain ⟨h1, h2⟩ := List.pairwise_cons.1 hp
    simp only [cntK]
    by_cases hpk : cmpK p k ≤ 0
    · rw [if_pos hpk]
      cases i with
      | zero => simp [hpk]; omega
      | succ i =>
        have := cnt_iff (k := k) (i := i) h2 (by simpa using hi)
        simp only [List.getElem_cons_succ]
        rw [this]; omega
    · rw [if_neg hpk]
      have hz : cntK k l = 0 := cnt_zero fun x hx => by
        have := h1 x hx
        rcases (by omega : 0 < cmpK x k ∨ cmpK x k ≤ 0) with h | h
        · exact h
        · exact absurd (cmp_le (by omega : cmpK p x ≤ 0) h) hpk
      rw [hz]
      cases i with
      | zero => simp [hpk]
      | succ i =>
        have := cnt_iff (k := k) (i := i) h2 (by simpa using hi)
        simp only [List.getElem_cons_succ]
        rw [this, hz]; omega

theorem convex_range {p : Nat → Bool} {N : Nat} (hc : ∀ i j k, i < j → j < k → k < N → p i = true → p k = true → p j = true) : ∀ n, n ≤ N → (List.range n).filter p = [] ∨ ∃ s k, 0 < k ∧ (List.range n).filter p = List.range' s k ∧ p s = true ∧ (s + k = n ∨ s + k < n ∧ p (s + k) = false)
  | 0, _ => .inl rfl
  | n + 1, hn => by
    have e : (List.range (n + 1)).filter p = (List.range n).filter p ++ (if p n = true then [n] else []) := by
      rw [List.range_succ, List.filter_append, List.filter_cons, List.filter_nil]
    rw [e]
    rcases convex_range hc n (by omega) with h | ⟨s, k, hk, h, hs, h2⟩
    · rw [h]
      by_cases hp : p n = true
      · rw [if_pos hp]
        exact .inr ⟨n, 1, by omega, rfl, hp, .inl rfl⟩
      · rw [if_neg hp]; exact .inl rfl
    · rw [h]
      right
      by_cases hp : p n = true
      · rw [if_pos hp]
        rcases h2 with h2 | ⟨h2, h3⟩
        · subst h2
          refine ⟨s, k + 1, by omega, ?_, hs, .inl rfl⟩
          rw [List.range'_concat]; simp
        · rw [hc s (s + k) n (by omega) h2 (by omega) hs hp] at h3; cases h3
      · rw [if_neg hp, List.append_nil]
        refine ⟨s, k, hk, rfl, hs, ?_⟩
        rcases h2 with h2 | ⟨h2, h3⟩
        · right; refine ⟨by omega, ?_⟩; rw [h2]; simpa using hp
        · right; exact ⟨by omega, h3⟩

theorem steps_range' (s k : Nat) : Steps (List.range' s k) := by
  intro i hi h
  simp only [List.getElem_range']
  omega

theorem goodL_true : ∀ {l : List UInt8}, goodL true l = true → l = List.replicate l.length 0
  | [], _ => rfl
  | x :: l, h => by
    simp only [goodL] at h
    by_cases hx : x = 0
    · rw [if_pos hx] at h
      subst hx
      rw [List.length_cons, List.replicate_succ, ← goodL_true h]
    · rw [if_neg hx] at h; simp at h
theorem goodL_split : ∀ {l : List UInt8}, goodL false l = true → ∃ m, l = l.takeWhile (· != 0) ++ List.replicate m 0
  | [], _ => ⟨0, rfl⟩
  | x :: l, h => by
    simp only [goodL] at h
    by_cases hx : x = 0
    · rw [if_pos hx] at h
      subst hx
      refine ⟨l.length + 1, ?_⟩
      rw [List.replicate_succ, ← goodL_true h]; simp
    · rw [if_neg hx] at h
      obtain ⟨m, hm⟩ := goodL_split (l := l) (by simpa using h)
      refine ⟨m, ?_⟩
      rw [List.takeWhile_cons]
      have : (x != 0) = true := by simpa using hx
      rw [this]
      simp only [if_true, List.cons_append]
      rw [← hm]

theorem good_R {k : Key} (h : goodR k = true) : goodK k = true := by
  unfold goodR at h
  rw [Bool.and_eq_true] at h
  obtain ⟨h1, h2⟩ := h
  have h2 : k.b[0]'(by rw [k.h]; omega) ≠ 0 := by simpa using h2
  obtain ⟨m, hm⟩ := goodL_split h1
  have hne : textOf k ≠ [] := by
    unfold textOf
    intro e
    rw [e, List.nil_append] at hm
    apply h2
    have : ∀ (l : List UInt8) (hl : 0 < l.length), l = List.replicate m 0 → l[0] = 0 := by
      intro l hl e; subst e; simp
    exact this _ _ hm
  have hpad : padK (textOf k) = k := by
    apply Key.ext'
    show padB (textOf k) = k.b
    have hl := text_len k
    unfold padB
    rw [List.take_of_length_le hl]
    have hlen : (textOf k).length + m = 16 := by
      have := congrArg List.length hm
      rw [k.h, List.length_append, List.length_replicate] at this
      exact this.symm
    rw [show 16 - (textOf k).length = m by omega]
    exact hm.symm
  unfold goodK
  simp [hne, hpad]

theorem wholeP (pts : List Key) (a b fr to : Key) (hok : okPts pts = true) : WholeP pts a b fr to := by
  obtain ⟨hs, _⟩ := ok_pair hok
  have hab : ∀ i, i < pts.length + 1 → (aboveK pts fr i = true ↔ cntK fr pts ≤ i) := by
    intro i hi
    unfold aboveK
    by_cases h : i < pts.length
    · have := cnt_iff (k := fr) hs h
      simp only [h, List.getElem?_eq_getElem, decide_eq_true_eq]
      omega
    · have := cnt_le fr pts
      rw [List.getElem?_eq_none (by omega)]
      simp only [true_iff]; omega
  have hbe : ∀ i j, i < j → j < pts.length + 1 → belowK pts to j = true → belowK pts to i = true := by
    intro i j hij hj
    unfold belowK
    by_cases h0 : i = 0
    · simp [h0]
    · by_cases ho : to = key0
      · simp [ho]
      · have h1 : i - 1 < pts.length := by omega
        have h2 : j - 1 < pts.length := by omega
        have h3 : ¬ j = 0 := by omega
        simp only [h0, h3, ho, decide_false, Bool.false_or, h1, h2, List.getElem?_eq_getElem, decide_eq_true_eq]
        intro h
        have := List.pairwise_iff_getElem.1 hs (i - 1) (j - 1) h1 h2 (by omega)
        exact cmp_lt this (by omega)
  have hcv := convex_range (p := fun i => aboveK pts fr i && belowK pts to i) (N := pts.length + 1) (fun i j k hij hjk hk h1 h2 => by
    rw [Bool.and_eq_true] at h1 h2 ⊢
    refine ⟨(hab j (by omega)).2 ?_, hbe j k hjk hk h2.2⟩
    have := (hab i (by omega)).1 h1.1
    omega) (pts.length + 1) (Nat.le_refl _)
  refine ⟨fun k h => good_R h, cnt_le _ _, fun h => cnt_mono h _, ?_, ?_, ?_⟩
  · unfold coverK
    split
    · intro i _ h; simp at h
    · unfold covUp
      rcases hcv with h | ⟨s, k, _, h, _⟩
      · rw [h]; intro i _ h; simp at h
      · rw [h]; exact steps_range' s k
  · intro x hx
    unfold coverK at hx
    split at hx
    · cases hx
    · unfold covUp at hx
      have := (List.mem_filter.1 hx).1
      have := List.mem_range.1 this
      omega
  · intro hw
    unfold withinK at hw
    simp only [Bool.and_eq_true, Bool.or_eq_true, decide_eq_true_eq] at hw
    obtain ⟨h1, h2⟩ := hw
    have hfa : cmpK fr a ≤ 0 := by rw [cmp_flip a fr]; omega
    unfold coverK
    rw [if_neg]
    · unfold covUp
      refine List.mem_filter.2 ⟨List.mem_range.2 (by have := cnt_le a pts; omega), ?_⟩
      rw [Bool.and_eq_true]
      refine ⟨(hab _ (by have := cnt_le a pts; omega)).2 (cnt_mono hfa _), ?_⟩
      unfold belowK
      by_cases h0 : cntK a pts = 0
      · simp [h0]
      · rcases h2 with h2 | h2
        · simp [h2]
        · have hl := cnt_le a pts
          have h3 : cntK a pts - 1 < pts.length := by omega
          have h4 := (cnt_iff (k := a) hs h3).2 (by omega)
          simp only [h3, List.getElem?_eq_getElem, Bool.or_eq_true, decide_eq_true_eq]
          exact .inr (cmp_lt' h4 h2)
    · rintro ⟨h3, h4⟩
      rcases h2 with h2 | h2
      · exact h3 h2
      · have := cmp_lt h2 h4
        omega
end Go.AM
/-! Arguments as they are read, told as the machine's values. -/
namespace Go.AM
open Go
set_option linter.unusedVariables false

section
variable {H : Type} {enc : TypeId × Value → H} {P : Program} {w : World} {sp : Nat → Bool} {held : Bool}

theorem mapM_len {α β : Type} {f : α → Option β} : ∀ {l : List α} {r : List β}, l.mapM f = some r → r.length = l.length
  | [], r, h => by simp at h; subst h; rfl
  | a :: l, r, h => by
    simp only [List.mapM_cons, Option.pure_def, Option.bind_eq_bind, Option.bind_eq_some_iff, Option.some.injEq] at h
    obtain ⟨b, _, bs, h2, rfl⟩ := h
    simp [mapM_len h2]
theorem mapM_get {α β : Type} {f : α → Option β} : ∀ {l : List α} {r : List β}, l.mapM f = some r → ∀ (i : Nat) (a : α), l[i]? = some a → ∃ b, r[i]? = some b ∧ f a = some b
  | [], r, h, i, a, ha => by simp at ha
  | x :: l, r, h, i, a, ha => by
    simp only [List.mapM_cons, Option.pure_def, Option.bind_eq_bind, Option.bind_eq_some_iff, Option.some.injEq] at h
    obtain ⟨b, h1, bs, h2, rfl⟩ := h
    cases i with
    | zero => simp at ha; subst ha; exact ⟨b, rfl, h1⟩
    | succ i => obtain ⟨c, h3, h4⟩ := mapM_get h2 i a (by simpa using ha); exact ⟨c, by simpa using h3, h4⟩

/-- Bytes, as they are read. -/
theorem trod_u8 {fuel : Nat} {t : TypeId} {cs : List Value} {x : DataW H × List MemPlace} (ht : P.underlying t = some (.int .u8)) (h : DataW.trod enc P w 0 sp held fuel t cs = some x) : ∃ b : UInt8, cs = [.int .u8 b.toNat] := by
  cases fuel with
  | zero => simp [DataW.trod] at h
  | succ n =>
    unfold DataW.trod at h
    rw [ht] at h
    split at h
    case h_2 k k' n' heq =>
      have hk : IntKind.u8 = k := by injection heq with e; injection e
      subst hk
      split at h
      case isFalse => cases h
      rename_i hc
      obtain ⟨rfl, hw⟩ := hc
      have := bounds_u8 hw
      refine ⟨UInt8.ofNat n'.toNat, ?_⟩
      have : ((UInt8.ofNat n'.toNat).toNat : Int) = n' := by
        rw [UInt8.toNat_ofNat']; omega
      rw [this]
    all_goals first
      | (cases h; done)
      | (exfalso; simp_all; done)

/-- A byte's cell. -/
def uv (b : UInt8) : Value := .int .u8 b.toNat
theorem of_each {α β : Type} {f : β → α} : ∀ (l : List α), (∀ x ∈ l, ∃ b, x = f b) → ∃ bs : List β, l = bs.map f
  | [], _ => ⟨[], rfl⟩
  | x :: l, h => by
    obtain ⟨b, rfl⟩ := h x List.mem_cons_self
    obtain ⟨bs, rfl⟩ := of_each l fun y hy => h y (List.mem_cons_of_mem _ hy)
    exact ⟨b :: bs, rfl⟩

/-- A key, as it is read. -/
theorem trod_key {fuel : Nat} {t e : TypeId} {cs : List Value} {x : DataW H × List MemPlace} (ht : P.underlying t = some (.array 16 e)) (he : P.underlying e = some (.int .u8)) (h1 : P.cellsOf e = 1) (h16 : P.cellsOf t = 16)
    (h : DataW.trod enc P w 0 sp held fuel t cs = some x) : ∃ k : Key, cs = k.b.map uv := by
  obtain ⟨xs, m, _, _, hl, hx, hi⟩ := DataW.trod_array ht h
  rw [h16] at hl
  obtain ⟨bs, hbs⟩ := of_each (f := uv) cs fun c hc => by
    obtain ⟨i, hlt, rfl⟩ := List.getElem_of_mem hc
    have hix : i < xs.length := by omega
    have := hi i (by omega)
    rw [h1, Nat.mul_one, List.getElem?_eq_getElem hix] at this
    obtain ⟨b, hb⟩ := trod_u8 he this
    have e2 : (cs.drop i).take 1 = [cs[i]] := by rw [List.drop_eq_getElem_cons hlt]; rfl
    rw [e2] at hb
    exact ⟨b, by simpa [uv] using hb⟩
  exact ⟨⟨bs, by rw [hbs] at hl; simpa using hl⟩, hbs⟩

theorem VL_bs {g : G} : ∀ (l : List UInt8), VL g w (bs l) (l.map uv)
  | [] => .nil
  | b :: l => .sc (.int .u8 b.toNat) (VL_bs l)
theorem V_key {g : G} (k : Key) : V g w (.agg (bs k.b)) (.agg (k.b.map uv).toArray) := .agg u8_isCell (by simpa using VL_bs k.b) .nil

def kvs (l : List Key) : List Value := l.flatMap fun k => k.b.map uv
theorem VL_kvs {g : G} : ∀ (l : List Key), VL g w ((l.map kA).flatMap AV.cells) (kvs l)
  | [] => .nil
  | k :: l => by
    simp only [List.map_cons, List.flatMap_cons, kvs]
    exact (show VL g w (kA k).cells _ from VL_bs k.b).app (VL_kvs l)

theorem lies_kvs {b : Nat} : ∀ (l : List Key) (off : Nat), (∀ i, (h : i < l.length) → w.cells? 0 ⟨b, off + i * 16, none⟩ 16 = some ((l[i]).b.map uv)) → ∀ j v, (kvs l)[j]? = some v → w.cell? ⟨b, off + j, none⟩ = some v
  | [], off, _, j, v, h => by simp [kvs] at h
  | k :: l, off, hall, j, v, h => by
    have hk := hall 0 (by simp)
    simp only [List.getElem_cons_zero, Nat.zero_mul, Nat.add_zero] at hk
    have hl16 : (k.b.map uv).length = 16 := by rw [List.length_map, k.h]
    have hkv : kvs (k :: l) = k.b.map uv ++ kvs l := rfl
    rw [hkv] at h
    by_cases hj : j < 16
    · rw [List.getElem?_append_left (by omega)] at h
      have := (World.cells?_some hk).2.2 j hj
      rw [Addr.add_lit] at this
      rw [this]; exact h
    · rw [List.getElem?_append_right (by omega), hl16] at h
      have := lies_kvs l (off + 16) (fun i hi => by
        have := hall (i + 1) (by simpa using hi)
        simp only [List.getElem_cons_succ] at this
        rw [show off + 16 + i * 16 = off + (i + 1) * 16 by omega]
        exact this) (j - 16) v h
      rwa [show off + 16 + (j - 16) = off + j by omega] at this

/-- A slice of keys, as it is read. -/
theorem trod_keys {fuel : Nat} {t e u : TypeId} {v : Value} {x : DataW H × List MemPlace} (ht : P.underlying t = some (.slice e)) (he : P.underlying e = some (.array 16 u)) (hu : P.underlying u = some (.int .u8)) (h1 : P.cellsOf u = 1) (h16 : P.cellsOf e = 16)
    (hok : Value.okWide P w .any 0 t v) (h : DataW.trod enc P w 0 sp held fuel t v.cells.toList = some x) : ∃ l : List Key, V G.none w (lstK l) v ∧ l.length ≤ 9223372036854775807 := by
  have hspot : ∀ a len cap, v = .slice (some a) len cap → a.spot = none ∧ len ≤ cap := by
    intro a len cap hv
    subst hv
    simp only [Value.okWide, ht, Cell.okWide, Cell.ok] at hok
    exact ⟨hok.2.2.2.1, hok.1⟩
  obtain ⟨oa, len, cap, rfl⟩ := WideShapes.okWide_slice ht hok
  cases fuel with
  | zero => simp [DataW.trod] at h
  | succ m =>
    cases oa with
    | none =>
      refine ⟨[], ?_, by simp⟩
      simp only [Value.okWide, ht, Cell.okWide] at hok
      have : len = 0 ∧ cap = 0 := by
        cases len <;> cases cap <;> simp [Cell.ok, ht] at hok ⊢
      obtain ⟨rfl, rfl⟩ := this
      exact .lnil (by omega) .nil
    | some a =>
      obtain ⟨hs, hle⟩ := hspot a len cap rfl
      have hc : (Value.slice (some a) len cap).cells.toList = [.slice (some a) len cap] := rfl
      rw [hc] at h
      unfold DataW.trod at h
      rw [ht] at h
      dsimp only at h
      split at h
      case isFalse => cases h
      rename_i hcap
      rw [Option.bind_eq_some_iff] at h
      obtain ⟨elems, hel, _⟩ := h
      have hlen : elems.length = len := by have := mapM_len hel; simpa using this
      have each : ∀ i, i < len → ∃ k : Key, w.cells? 0 (a.add (i * 16)) 16 = some (k.b.map uv) := by
        intro i hi
        obtain ⟨y, _, hy⟩ := mapM_get hel i i (by simp [hi])
        rw [h16, Option.bind_eq_some_iff] at hy
        obtain ⟨cs, hcs, hy⟩ := hy
        obtain ⟨k, rfl⟩ := trod_key he hu h1 h16 hy
        exact ⟨k, hcs⟩
      have ex : ∀ n, n ≤ len → ∃ l : List Key, l.length = n ∧ ∀ i, (h : i < l.length) → w.cells? 0 (a.add (i * 16)) 16 = some ((l[i]).b.map uv) := by
        intro n
        induction n with
        | zero => exact fun _ => ⟨[], rfl, fun i h => by simp at h⟩
        | succ n ih =>
          intro hn
          obtain ⟨l, hl, hall⟩ := ih (by omega)
          obtain ⟨k, hk⟩ := each n (by omega)
          refine ⟨l ++ [k], by simp [hl], fun i h => ?_⟩
          by_cases hi : i < l.length
          · rw [List.getElem_append_left hi]; exact hall i hi
          · have : i = l.length := by simp at h; omega
            subst this
            rw [List.getElem_append_right (Nat.le_refl _)]
            simpa [hl] using hk
      obtain ⟨l, hl, hall⟩ := ex len (Nat.le_refl _)
      refine ⟨l, ?_, by have := hcap.2.2; unfold maxLen at this; omega⟩
      refine .list (xs := kvs l) (.inl rfl) (by simp [hl]) hle (by omega) hs kA_elems kA_low (VL_kvs l) (fun i v hv => ⟨?_, fun h => (show False from h)⟩) .nil
      obtain ⟨ab, ao, as⟩ := a
      dsimp only at hs; subst hs
      exact lies_kvs l ao (fun i hi => by have := hall i hi; rwa [Addr.add_lit] at this) i v hv

theorem trodAll_stays {W W' : World} (hl : laidOutB P = true) (hb : RowKit.Below W.heap.size W W') : ∀ {ts : List TypeId} {vs : List Value} {ds : List (DataW H)} {ps : List MemPlace}, (∀ t ∈ ts, P.readableRec t = true ∧ t < P.types.size) →
    DataW.TrodAll enc P W 0 (fun _ => true) true ts vs ds ps → DataW.TrodAll enc P W' 0 (fun b => decide (b < W.heap.size)) true ts vs ds ps
  | [], [], [], _, _, h => h
  | t :: ts, v :: vs, d :: ds, ps, ht, ⟨p, q, h1, h2, e⟩ => by
    obtain ⟨n, hn⟩ := h1
    exact ⟨p, q, RowKit.Below.trod hl (ht t List.mem_cons_self).1 (ht t List.mem_cons_self).2 ⟨n, hn⟩ hb (DataW.trod_lt n _ _ _ hn), trodAll_stays hl hb (fun t h => ht t (List.mem_cons_of_mem _ h)) h2, e⟩
  | [], [], _ :: _, _, _, h => h.elim
  | [], _ :: _, _, _, _, h => h.elim
  | _ :: _, [], _, _, _, h => h.elim
  | _ :: _, _ :: _, [], _, _, h => h.elim

/-- A key that is an argument. -/
theorem trod_key1 {t e : TypeId} {v : Value} {d : DataW H} {ps : List MemPlace} (ht : P.underlying t = some (.array 16 e)) (he : P.underlying e = some (.int .u8)) (h1 : P.cellsOf e = 1) (h16 : P.cellsOf t = 16)
    (hok : Value.okWide P w .any 0 t v) (h : DataW.Trod enc P w 0 sp held t v d ps) : ∃ k : Key, V G.none w (.agg (bs k.b)) v := by
  obtain ⟨n, hn⟩ := h
  simp only [Value.okWide, ht] at hok
  obtain ⟨cs, rfl, _, _⟩ := hok
  obtain ⟨k, hk⟩ := trod_key ht he h1 h16 hn
  have e : cs = (k.b.map uv).toArray := by
    apply Array.ext'
    simpa [Value.cells] using hk
  subst e
  exact ⟨k, V_key k⟩
end
end Go.AM
