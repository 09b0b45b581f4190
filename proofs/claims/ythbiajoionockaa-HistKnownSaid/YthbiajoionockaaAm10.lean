import Derived.Test.YthbiajoionockaaAm9
/-! Slice expressions, lengths, operators, conversions. -/
namespace Go.AM
open Go
set_option linter.unusedVariables false

section
variable {P : Program} {g : G} {w : World}

theorem isCell_cells {c : AV} (h : c.isCell = true) : c.cells = [c] := by
  cases c <;> simp_all [AV.cells, AV.isCell]

theorem flatMap_cells {cs : List AV} (h : ∀ c ∈ cs, c.isCell = true) : cs.flatMap AV.cells = cs := by
  induction cs with
  | nil => rfl
  | cons c l ih => rw [List.flatMap_cons, isCell_cells (h c (by simp)), ih fun x hx => h x (by simp [hx])]; rfl

theorem low_run {x : Option AV} {xv : Option Value} {d n : Nat} (h : bound x d = some n) (hx : ∀ y, x = some y → ∃ v, xv = some v ∧ V g w y v) (hn : x = none → xv = none) :
    (xv = none ∧ n = d) ∨ ∃ k i, xv = some (.int k i) ∧ (n : Int) = i := by
  rcases bound_run h hx hn with ⟨_, h1, h2⟩ | ⟨k, i, h1, _, _, h2⟩
  · exact .inl ⟨h1, h2⟩
  · exact .inr ⟨k, i, h1, h2⟩

theorem bound_some {x : AV} {n : Nat} {xv : Option Value} (h : bound (some x) 0 = some n) (hx : ∀ y, some x = some y → ∃ v, xv = some v ∧ V g w y v) : ∃ k i, xv = some (.int k i) ∧ (n : Int) = i := by
  rcases low_run h hx (by simp) with ⟨h1, _⟩ | h
  · obtain ⟨v, hv, _⟩ := hx x rfl; rw [hv] at h1; cases h1
  · exact h

theorem sliceOf_run {t : TypeId} {x v : AV} {lo hi mx : Option AV} {xv : Value} {lov hiv mxv : Option Value} (h : sliceOf P t x lo hi mx = some v) (hx : V g w x xv)
    (hlo : ∀ y, lo = some y → ∃ v, lov = some v ∧ V g w y v) (hlo' : lo = none → lov = none) (hhi : ∀ y, hi = some y → ∃ v, hiv = some v ∧ V g w y v) (hhi' : hi = none → hiv = none)
    (hmx : ∀ y, mx = some y → ∃ v, mxv = some v ∧ V g w y v) (hmx' : mx = none → mxv = none) :
    ∃ val, (Instr.sliceAt t xv lov hiv mxv).run P w = .ok val w ∧ V g w v val := by
  unfold sliceOf at h
  split at h
  · -- a string
    rename_i l hu
    split at h
    · rename_i a b ha hb
      split at h
      case isFalse => cases h
      rename_i hc
      injection h with h; subst h
      obtain rfl := hmx' rfl
      obtain rfl := hx.sc_inv
      refine ⟨_, ?_, .sc (.str _) .nil⟩
      have hs : (ByteArray.mk l.toArray).size = l.length := by simp [ByteArray.size]
      have := bounds_ok (P := P) (w := w) (isSlice := false) (len := (ByteArray.mk l.toArray).size) (cap := (ByteArray.mk l.toArray).size) (low_run ha hlo hlo') (by rw [hs]; exact low_run hb hhi hhi') hc.1 (by rw [hs]; exact hc.2)
      simp only [Instr.sliceAt, Sem.run_bind, run_underlying hu, Result.andThen_ok, Instr.slice, Sc.toV]
      simp only [Option.isSome_none, Bool.false_eq_true, if_false, Sem.run_bind, this, Result.andThen_ok]
      simp
      congr 1
      apply ByteArray.ext
      simp [List.extract]
      rw [List.drop_take]
    · cases h
  · -- nil
    rename_i e hu
    split at h
    · rename_i ha hb
      split at h
      case isFalse => cases h
      rename_i hc
      injection h with h; subst h
      obtain rfl := hmx' rfl
      obtain rfl := hx.sc_inv
      have := bounds_ok (P := P) (w := w) (isSlice := true) (len := 0) (cap := 0) (low_run ha hlo hlo') (low_run hb hhi hhi') (Nat.le_refl _) (Nat.le_refl _)
      refine ⟨.slice none 0 0, ?_, .sc .nilS .nil⟩
      simp [Instr.sliceAt, run_underlying hu, Instr.slice, Sc.toV, this, run_sizeOf hc]
    · cases h
  · -- a list
    rename_i e fl sz es hu
    split at h
    · cases h
    split at h
    · rename_i a b ha hb
      split at h
      case isFalse => cases h
      rename_i hc
      injection h with h; subst h
      obtain rfl := hmx' rfl
      obtain ⟨ad, cap, rfl, hle⟩ := hx.list_inv
      have hfull : fl = .full → cap = es.length := by
        rintro rfl
        cases hx with
        | list h1 h2 _ _ _ _ _ _ _ _ => rcases h1 with h1 | ⟨_, h1⟩ <;> simp_all
      have h0 : P.cellsOf e ≠ 0 := by
        cases hx with
        | list _ _ _ h4 _ _ _ _ _ _ => omega
      have := bounds_ok (P := P) (w := w) (isSlice := true) (len := es.length) (cap := cap) (low_run ha hlo hlo') (low_run hb hhi hhi') hc.1 (Nat.le_trans hc.2.1 hle)
      refine ⟨.slice (some (if cap = a then ad else ad.add (a * P.cellsOf e))) (b - a) (cap - a), ?_, ?_⟩
      · simp [Instr.sliceAt, run_underlying hu, Instr.slice, this, run_sizeOf h0]
        split <;> rfl
      · obtain ⟨hc1, hc2, hc3⟩ := hc
        subst hc3
        refine hx.cut hc2 hc1 (by omega) ?_ ?_
        · split
          · rename_i hf; exact .inr ⟨rfl, by rw [hfull hf.1, hf.2]⟩
          · exact .inl rfl
        · split
          · exact .inr ⟨by omega, rfl⟩
          · exact .inl rfl
    · rename_i m a b ha hb
      split at h
      · rename_i hi' m' hm
        split at h
        case isFalse => cases h
        rename_i hc
        injection h with h; subst h
        obtain ⟨ad, cap, rfl, hle⟩ := hx.list_inv
        have h0 : P.cellsOf e ≠ 0 := by
          cases hx with
          | list _ _ _ h4 _ _ _ _ _ _ => omega
        obtain ⟨hc1, hc2, hc3, hc4⟩ := hc
        have hbb : ∃ k i, hiv = some (.int k i) ∧ (b : Int) = i := by
          rcases low_run hb hhi hhi' with ⟨h1, _⟩ | h
          · obtain ⟨v, hv, _⟩ := hhi _ rfl; rw [hv] at h1; cases h1
          · exact h
        have hmm := bound_some hm hmx
        have hms : mxv.isSome = true := by obtain ⟨k, i, h, _⟩ := hmm; rw [h]; rfl
        have := bounds3_ok (P := P) (w := w) (len := es.length) (cap := cap) (low_run ha hlo hlo') hbb hmm hc1 (Nat.le_of_eq hc2) (Nat.le_trans hc3 hle)
        refine ⟨.slice (some (if m' = a then ad else ad.add (a * P.cellsOf e))) (b - a) (m' - a), ?_, ?_⟩
        · simp [Instr.sliceAt, run_underlying hu, Instr.slice, this, run_sizeOf h0]
          split <;> rfl
        · subst hc4
          refine hx.cut (by omega) hc1 (by omega) (.inr ⟨rfl, by omega⟩) ?_
          split
          · exact .inr ⟨by omega, rfl⟩
          · exact .inl rfl
      · cases h
    · cases h
  · -- a row
    rename_i e r off len cap hu
    split at h
    · rename_i a b ha hb
      split at h
      case isFalse => cases h
      rename_i hc
      injection h with h; subst h
      obtain rfl := hmx' rfl
      obtain ⟨bl, c, rfl, hr, h1, h2⟩ := hx.row_inv
      have := bounds_ok (P := P) (w := w) (isSlice := true) (len := len) (cap := c) (low_run ha hlo hlo') (low_run hb hhi hhi') hc.1 (by omega)
      refine ⟨.slice (some ⟨bl, off + a * P.cellsOf e, none⟩) (b - a) (c - a), ?_, .row hr (by omega) (by omega) .nil⟩
      have hne : ¬ c = a := by omega
      simp [Instr.sliceAt, run_underlying hu, Instr.slice, this, run_sizeOf hc.2.2.2, hne, Addr.add_lit]
    · rename_i m a b ha hb
      split at h
      · rename_i hi' m' hm
        split at h
        case isFalse => cases h
        rename_i hc
        injection h with h; subst h
        obtain ⟨bl, c, rfl, hr, h1, h2⟩ := hx.row_inv
        obtain ⟨hc1, hc2, hc3, hc4⟩ := hc
        have hbb : ∃ k i, hiv = some (.int k i) ∧ (b : Int) = i := by
          rcases low_run hb hhi hhi' with ⟨h1, _⟩ | h
          · obtain ⟨v, hv, _⟩ := hhi _ rfl; rw [hv] at h1; cases h1
          · exact h
        have hmm := bound_some hm hmx
        have := bounds3_ok (P := P) (w := w) (len := len) (cap := c) (low_run ha hlo hlo') hbb hmm (Nat.le_of_eq hc1) (Nat.le_of_eq hc2) (by omega)
        refine ⟨.slice (some ⟨bl, off, none⟩) (b - a) (m' - a), ?_, ?_⟩
        · have hne : m' = a := by omega
          simp [Instr.sliceAt, run_underlying hu, Instr.slice, this, run_sizeOf hc4, hne]
        · have e1 : b - a = 0 := by omega
          have e2 : m' - a = 0 := by omega
          rw [e1, e2]
          exact .list (xs := []) (.inr ⟨rfl, rfl⟩) rfl (Nat.le_refl _) (by omega) rfl (fun _ h => by cases h) rfl .nil (fun i v hi => by simp at hi) .nil
      · cases h
    · cases h
  · -- an array behind a pointer
    rename_i n e r off hu
    split at h
    · rename_i a b ha hb
      split at h
      case isFalse => cases h
      rename_i hc
      injection h with h; subst h
      obtain rfl := hmx' rfl
      obtain ⟨bl, rfl, hr⟩ := hx.ptr_inv
      have := bounds_ok (P := P) (w := w) (isSlice := false) (len := n) (cap := n) (low_run ha hlo hlo') (low_run hb hhi hhi') hc.1 hc.2.1
      refine ⟨.slice (some ⟨bl, off + a * P.cellsOf e, none⟩) (b - a) (n - a), ?_, .row hr (by omega) (Nat.le_refl _) .nil⟩
      have hne : ¬ n = a := by omega
      simp [Instr.sliceAt, run_underlying hu, Instr.sureAddr, this, run_sizeOf hc.2.2.2, hne, Addr.add_lit]
    · cases h
  · -- an array in a list
    rename_i n e cs hu
    split at h
    · rename_i a b ha hb
      split at h
      case isFalse => cases h
      rename_i hc
      injection h with h; subst h
      obtain rfl := hmx' rfl
      obtain ⟨ad, rfl⟩ := hx.rop_inv
      have := bounds_ok (P := P) (w := w) (isSlice := false) (len := n) (cap := n) (low_run ha hlo hlo') (low_run hb hhi hhi') hc.1 hc.2.1
      refine ⟨.slice (some (ad.add a)) (b - a) (n - a), ?_, ?_⟩
      · have hne : ¬ n = a := by omega
        have h1 : P.cellsOf e ≠ 0 := by omega
        simp [Instr.sliceAt, run_underlying hu, Instr.sureAddr, this, run_sizeOf h1, hne, hc.2.2.2.1]
      · have hd := V.rop_drop (n := a) hx
        cases hd with
        | @rop _ _ xs _ _ h1 h2 h3 h4 h5 _ =>
        have hel : (cs.take b).drop a = (cs.drop a).take (b - a) := by rw [List.drop_take]
        rw [hel]
        have hsub : ∀ c ∈ (cs.drop a).take (b - a), c.isCell = true := fun c hc => h2 c (List.mem_of_mem_take hc)
        refine .list (xs := xs.take (b - a)) (.inl rfl) (by rw [List.length_take, List.length_drop]; omega) (by omega) (Nat.one_pos) h1 (fun c hc => ?_) (under_mem.2 fun c hc => (under_mem.1 h3) c (List.mem_of_mem_take hc)) (by rw [flatMap_cells hsub]; exact h4.takes _) (fun i v hi => ?_) .nil
        · rw [isCell_cells (hsub c hc)]; exact ⟨rfl, fun x hx => by simp at hx; subst hx; exact hsub _ hc⟩
        · rw [List.getElem?_take] at hi
          split at hi
          · exact h5 i v hi
          · cases hi
    · cases h
  · cases h
end
end Go.AM
