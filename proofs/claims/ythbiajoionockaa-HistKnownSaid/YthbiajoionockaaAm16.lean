import Derived.Test.YthbiajoionockaaAm15
/-! Slices that are made, copied, cleared; bytes and texts. -/
namespace Go.AM
open Go
set_option linter.unusedVariables false
set_option linter.unusedSimpArgs false

section
variable {P : Program} {g g' : G} {w w' : World} {ow ow' ow1 : Own} {σ σ' : St} {fr fr' : Fr} {tm : Array Value} {a : Act} {dst : Option Tmp}

theorem Elems.replicate {z : AV} {n k : Nat} (h : z.cells.length = n) (hc : ∀ c ∈ z.cells, c.isCell = true) : Elems n (List.replicate k z) := fun e he => by
  rw [List.eq_of_mem_replicate he]; exact ⟨h, hc⟩

theorem buildSlice_out (r : Rel g w ow fr tm σ) {t : TypeId} {len : Nat} {parts : List (Nat × AV)} {vparts : Array (Nat × Value)} {v : AV} (h : buildSlice P t len parts = some v) (hl : parts.length = vparts.toList.length)
    (hp : ∀ (j : Nat) p q, parts[j]? = some p → vparts.toList[j]? = some q → p.1 = q.1 ∧ V g w p.2 q.2) :
    ∃ val w', (Instr.buildSlice t len vparts).run P w = .ok val w' ∧ ∃ g' ow', Out g w ow dst v fr σ tm g' w' ow' val := by
  unfold buildSlice at h
  split at h
  case h_2 => cases h
  rename_i e ht
  split at h
  · rename_i h0
    subst h0
    split at h
    case isFalse => cases h
    rename_i hok
    injection h with h; subst h
    obtain ⟨i, zv, z, hz, I⟩ := elemOK_info hok.1
    have hp0 : vparts = #[] := by
      have : parts = [] := by simpa using hok.2
      subst this
      exact Array.eq_empty_of_size_eq_zero (by simpa using hl.symm)
    subst hp0
    refine ⟨.slice (some ⟨w.heap.size, 0, none⟩) 0 0, w.alloc (.cells #[] e), ?_, ?_⟩
    · simp [Instr.buildSlice, run_underlying ht, run_sizeOf I.pos, Instr.fill, newRow, show Array.range 0 = #[] from rfl]
    · obtain ⟨wr', ro, k1, k2, k3, k4, k5, k7, k6⟩ := r.fresh (w' := w.alloc (.cells #[] e)) (sz := P.cellsOf e) (cap := 0) (es := []) (xs := []) (rest := []) (E := e) (fz := (0, 0)) (Nat.pos_of_ne_zero I.pos) (fun _ h => by cases h) rfl .nil (Nat.le_refl _) (by simp) (by intro o h; simp at h) rfl
      exact Out.calm k1 k2 k3 k4 k5 k7 r.ss.lt k6 fun _ _ h => h.toFull
  · rename_i h0
    split at h
    · cases h
    rename_i hok
    simp only [not_or, Bool.not_eq_true', Bool.not_eq_false] at hok
    split at h
    case h_2 => cases h
    rename_i z hz
    cases hf : fillE (P.cellsOf e) (List.replicate len z) parts with
    | none => simp [hf] at h
    | some es =>
      simp [hf] at h; subst h
      obtain ⟨i, zv, z', hz', I⟩ := elemOK_info (P := P) (e := e) (by simpa using hok.1)
      rw [hz] at hz'; injection hz' with hz'; subst hz'
      obtain ⟨_, _, c3, c4, c5, _⟩ := ofPlain_V (g := g) (w := w) I.plain
      have hpos : 0 < P.cellsOf e := Nat.pos_of_ne_zero I.pos
      obtain ⟨j1, j2, j3, j4⟩ := fillE_fillA (fun x hx => by rw [List.eq_of_mem_replicate hx]; exact I.zlen) (under_mem.2 fun x hx => by rw [List.eq_of_mem_replicate hx]; exact c5) hf
      have hrc : ∀ c ∈ (List.replicate len z).flatMap AV.cells, c.isCell = true := fun c hc => by
        obtain ⟨x, hx, hcx⟩ := List.mem_flatMap.1 hc
        rw [List.eq_of_mem_replicate hx] at hcx; exact c3 c hcx
      obtain ⟨xs', f1, f2, f3⟩ := fill_run (g := g) (w := w) _ parts vparts.toList _ _ _ j1 hl hp (zeros_V I.plain I.zlen hpos len) hrc
      have hes : es.length = len := by rw [j3, List.length_replicate]
      have hel : Elems (P.cellsOf e) es := fun x hx => ⟨j2 x hx, fun c hc => f3 c (List.mem_flatMap.2 ⟨x, hx, hc⟩)⟩
      have hrun := run_buildSlice (P := P) w t e len vparts xs' i zv ht I.info I.zero (by rw [I.size]; omega) (by rw [I.size]; exact Nat.mul_ne_zero h0 I.pos) (by rw [I.size]; exact f1)
      refine ⟨_, _, hrun, ?_⟩
      have hxl : xs'.toList.length = len * P.cellsOf e := by rw [f2.length, elems_length j2, hes]
      obtain ⟨wr', ro, k1, k2, k3, k4, k5, k7, k6⟩ := r.fresh (w' := w.alloc (.cells xs' e)) (sz := P.cellsOf e) (cap := len) (es := es) (xs := xs'.toList) (rest := []) (E := e) (fz := (0, 0)) hpos hel j4 f2 (Nat.le_of_eq hes) (by simpa using hxl) (by intro o _; simp) (by rw [List.append_nil, Array.toArray_toList]; rfl)
      rw [hes] at k6
      exact Out.calm k1 k2 k3 k4 k5 k7 r.ss.lt k6 fun _ _ h => h.toFull

theorem makeSlice_out (r : Rel g w ow fr tm σ) {asList hp : Bool} {t : TypeId} {l c v : AV} {lv cv : Value} (h : makeSlice P asList hp t l c σ = some (v, σ')) (hl : V g w l lv) (hc : V g w c cv) :
    ∃ val w', (Instr.makeSlice t lv cv).run P w = .ok val w' ∧ ∃ g' ow', Out g w ow dst v fr σ' tm g' w' ow' val := by
  unfold makeSlice at h
  split at h
  case h_2 => cases h
  rename_i e k1 l k2 c ht
  obtain rfl := hl.sc_inv
  obtain rfl := hc.sc_inv
  split at h
  case isFalse => cases h
  rename_i hcond
  obtain ⟨h1, h2, h3, h4, h5⟩ := hcond
  obtain ⟨i, zv, z, hz, I⟩ := elemOK_info h5
  obtain ⟨_, c2, c3, c4, c5, _⟩ := ofPlain_V (g := g) (w := w) I.plain
  have hpos : 0 < P.cellsOf e := Nat.pos_of_ne_zero I.pos
  have hwl : IntKind.i64.wrap l = l := by unfold IntKind.wrap; simp [IntKind.bits, IntKind.signed]; omega
  have hwc : IntKind.i64.wrap c = c := by unfold IntKind.wrap; simp [IntKind.bits, IntKind.signed]; omega
  have hzer : ∀ (k : Nat), ((Array.range (k * P.cellsOf e)).map (zv.cells[· % zv.cells.size]!)).size = k * P.cellsOf e := fun k => by simp
  have hb1 : (i.bytes : Int) * c ≤ 2 ^ 47 := by rw [I.bytes]; exact h4
  have hb1' : (i.bytes : Int) * l ≤ 2 ^ 47 := Int.le_trans (Int.mul_le_mul_of_nonneg_left h2 (by omega)) hb1
  have hbr : ¬ roomBytes < c.toNat * i.bytes := by
    have : ((c.toNat * i.bytes : Nat) : Int) = i.bytes * c := by rw [Int.natCast_mul, Int.toNat_of_nonneg (by omega), Int.mul_comm]
    have h' : ((c.toNat * i.bytes : Nat) : Int) ≤ 2 ^ 47 := by rw [this]; exact hb1
    unfold roomBytes
    omega
  have hn0 : zv.cells.size ≠ 0 := by rw [I.zsize]; exact I.pos
  have hrun : (Instr.makeSlice t (.int k1 l) (.int k2 c)).run P w = .ok (.slice (some ⟨w.heap.size, 0, none⟩) l.toNat c.toNat) (w.alloc (.cells ((Array.range (c.toNat * P.cellsOf e)).map (zv.cells[· % zv.cells.size]!)) e)) := by
    have e1 : ¬ c < 0 := by omega
    have e2 : ¬ l < 0 := by omega
    have e3 : ¬ c < l := by omega
    have e4 : ¬ (281474976710656 : Int) < i.bytes * c := by omega
    have e5 : ¬ (281474976710656 : Int) < i.bytes * l := by omega
    by_cases hc0 : c.toNat * P.cellsOf e = 0
    · simp [Instr.makeSlice, run_underlying ht, asInt, asIntOf, typeInfo, I.info, hwl, hwc, e1, e2, e3, e4, e5, askRoom, hbr, run_sizeOf I.pos, hc0, newRow, show Array.range 0 = #[] from rfl]
    · simp [Instr.makeSlice, run_underlying ht, asInt, asIntOf, typeInfo, I.info, hwl, hwc, e1, e2, e3, e4, e5, askRoom, hbr, run_sizeOf I.pos, hc0, newRow, zeroValue, I.zero]
  refine ⟨_, _, hrun, ?_⟩
  rw [hz] at h
  dsimp only at h
  split at h
  · -- as a list
    simp only [Option.some.injEq, Prod.mk.injEq] at h
    obtain ⟨rfl, rfl⟩ := h
    have hlc : l.toNat ≤ c.toNat := by omega
    have hw0 : (w.alloc (.cells ((Array.range (c.toNat * P.cellsOf e)).map (zv.cells[· % zv.cells.size]!)) e)).heap = w.heap.push (.cells ((((Array.range (c.toNat * P.cellsOf e)).map (zv.cells[· % zv.cells.size]!)).toList.take (l.toNat * P.cellsOf e)) ++ (((Array.range (c.toNat * P.cellsOf e)).map (zv.cells[· % zv.cells.size]!)).toList.drop (l.toNat * P.cellsOf e))).toArray e) := by
      rw [List.take_append_drop, Array.toArray_toList]; rfl
    have hv := (zeros_V (g := g) (w := w) I.plain I.zlen hpos c.toNat).takes (l.toNat * P.cellsOf e)
    rw [← flatMap_take (fun x hx => by rw [List.eq_of_mem_replicate hx]; exact I.zlen), List.take_replicate, Nat.min_eq_left hlc] at hv
    obtain ⟨wr', ro, k1, k2, k3, k4, k5, k7, k6⟩ := r.fresh (sz := P.cellsOf e) (cap := c.toNat) (es := List.replicate l.toNat z) (E := e) (fz := (0, 0)) hpos (Elems.replicate I.zlen c3) (under_mem.2 fun x hx => by rw [List.eq_of_mem_replicate hx]; exact c5) hv (by simpa using hlc) (by rw [List.take_append_drop]; simp) (by intro o _; simp) hw0
    rw [List.length_replicate] at k6
    exact Out.new k1 k2 k3 k4 k5 k7 k6
  · cases hb : AM.newBox hp (List.replicate c.toNat z.cells).flatten σ with
    | none => simp [hb] at h
    | some q =>
      obtain ⟨rf, σ1⟩ := q
      simp [hb] at h
      obtain ⟨rfl, rfl⟩ := h
      have hfl : (List.replicate c.toNat z.cells).flatten = (List.replicate c.toNat z).flatMap AV.cells := by rw [List.flatMap_def, List.map_replicate]
      have hv := zeros_V (g := g) (w := w) I.plain I.zlen hpos c.toNat
      rw [← hfl] at hv
      have hcc : ∀ x ∈ (List.replicate c.toNat z.cells).flatten, x.isCell = true := fun x hx => by
        obtain ⟨l', hl', hx'⟩ := List.mem_flatten.1 hx
        rw [List.eq_of_mem_replicate hl'] at hx'; exact c3 x hx'
      obtain ⟨g', ow', r', j1, j2, j3, j4, j5, j6, j7⟩ := r.newBox hb (Cells.of (ro := Nobody) hv hcc) (Free.nobody _ _) (w' := w.alloc (.cells ((Array.range (c.toNat * P.cellsOf e)).map (zv.cells[· % zv.cells.size]!)) e)) rfl
      obtain ⟨ow'', h⟩ := Out.of (g := g) (w := w) (ow := ow) (dst := dst) (v := .row rf 0 l.toNat c.toNat) r' (PV.of (o := Nobody) (.row j1 (by omega) (Nat.le_refl _) .nil)) (Free.nobody _ _) j2.nought (fun p b o h => (j3 p b o h).elim (fun h => .inl (.own h)) fun h => h.elim) (fun b o h => h.elim) (fun b o hb hw => by
        rcases j5 b hb with hb | hb
        · rcases j2.wr b o hw with hw | hw
          · exact .inl (.inl ⟨hb, hw⟩)
          · exact .inr hw
        · exact .inr (Nat.le_of_eq hb.symm)) (fun b o h => .inr (j6 b o h)) (fun b h => (j7 b h).imp id fun h => Nat.le_of_eq h.symm)
      exact ⟨g', ow'', h⟩

theorem copy_out (r : Rel g w ow fr a.tmps σ) {x d v : AV} {t tx ty : TypeId} {xv dv : Value} (h : copyTo P t (some tx) d x σ = some (v, σ')) (hx : V g w x xv) (hd : V g w d dv) :
    ∃ val w', (Builtin.copy_ #[t, tx] ty #[dv, xv]).run P w = .ok val w' ∧ ∃ g' ow', Out g w ow dst v fr σ' a.tmps g' w' ow' val := by
  unfold copyTo at h
  split at h
  case h_2 => cases h
  rename_i e ht
  split at h
  · cases h
  rename_i hok
  simp only [Bool.not_eq_true', Bool.not_eq_false, Bool.and_eq_true] at hok
  obtain ⟨i, zv, z, hz, I⟩ := elemOK_info hok.2
  split at h
  case h_2 => cases h
  rename_i rf off len cap items hit
  obtain ⟨news, hsrc, hnv, hel, hlen, hpre⟩ := elems_run r.ss hit hok.1 hx I.pos
  cases hw : writeCells σ rf off ((items.take len).flatMap AV.cells) with
  | none => simp [hw] at h
  | some σ1 =>
    simp only [hw, Option.map_some, Option.some.injEq, Prod.mk.injEq] at h
    obtain ⟨rfl, rfl⟩ := h
    obtain ⟨b, c, rfl, hb, h1, h2⟩ := hd.row_inv
    have hcells : ∀ c ∈ (items.take len).flatMap AV.cells, c.isCell = true := fun c hc => by
      obtain ⟨x, hx, hcx⟩ := List.mem_flatMap.1 hc
      exact (hel x (List.mem_of_mem_take hx)).2 c hcx
    have hvt : VL g w ((items.take len).flatMap AV.cells) (news.take (len * P.cellsOf e)) := by
      rw [flatMap_take fun x hx => (hel x hx).1]; exact hnv.takes _
    obtain ⟨j1, ow', j2, j3, j4⟩ := write_run (P := P) r hw hb (Cells.of (ro := Nobody) hvt hcells) (Free.nobody _ _)
    refine ⟨goInt (items.take len).length, w.setCells b off (news.take (len * P.cellsOf e)), ?_, g, ?_⟩
    · have hfc := hpre (min len items.length) (Nat.min_le_right _ _)
      have htk : news.take (min len items.length * P.cellsOf e) = news.take (len * P.cellsOf e) := by
        have hnl : news.length = items.length * P.cellsOf e := by rw [hnv.length, elems_length fun x hx => (hel x hx).1]
        by_cases hle : items.length ≤ len
        · rw [Nat.min_eq_right hle, List.take_of_length_le (by omega), List.take_of_length_le (by rw [hnl]; exact Nat.mul_le_mul_right _ hle)]
        · rw [Nat.min_eq_left (by omega)]
      rw [htk] at hfc
      have hmm : items.length.min len = min len items.length := Nat.min_comm _ _
      simp [Builtin.copy_, run_underlying ht, hlen, run_sizeOf I.pos, hmm, hfc, j1]
    · exact Out.of j2 (PV.of (o := Nobody) (.sc (.int .i64 _) .nil)) (Free.nobody _ _) j3 (fun p b o h => (j4 p b o h).elim (fun h => .inl (.own h)) fun h => h.elim) (fun b o h => h.elim) (fun b o h1 h2 => .inl (.inl ⟨h1, h2⟩)) (fun _ _ h => .inr h) (fun _ h => .inl h)

theorem zeroCells_eq (zc : Array Value) (n : Nat) : Builtin.zeroCells zc n = (Array.range (n * zc.size)).map (zc[· % zc.size]!) := rfl

theorem clear_out (r : Rel g w ow fr a.tmps σ) {x : AV} {t ty : TypeId} {xv : Value} (h : clearA P t x σ = some σ') (hx : V g w x xv) :
    ∃ w', (Builtin.clear_ #[t] ty #[xv]).run P w = .ok (.tuple #[]) w' ∧ ∃ g' ow', Out g w ow dst (.tup []) fr σ' a.tmps g' w' ow' (.tuple #[]) := by
  have nothing : σ' = σ → (Builtin.clear_ #[t] ty #[xv]).run P w = .ok (.tuple #[]) w → ∃ w', (Builtin.clear_ #[t] ty #[xv]).run P w = .ok (.tuple #[]) w' ∧ ∃ g' ow', Out g w ow dst (.tup []) fr σ' a.tmps g' w' ow' (.tuple #[]) := by
    rintro rfl h
    exact ⟨w, h, g, Out.pure r (.tup .nil .nil)⟩
  unfold clearA at h
  split at h
  · rename_i e rf off len cap ht
    obtain ⟨b, c, rfl, hb, h1, h2⟩ := hx.row_inv
    cases hz : zeroA P e with
    | none => simp [hz] at h
    | some z =>
      simp only [hz, Option.bind_some] at h
      split at h
      case isFalse => cases h
      rename_i hok
      obtain ⟨i, zv, z', hz', I⟩ := elemOK_info hok
      rw [hz] at hz'; injection hz' with hz'; subst hz'
      obtain ⟨_, c2, c3, c4, c5, _⟩ := ofPlain_V (g := g) (w := w) I.plain
      have hpos : 0 < P.cellsOf e := Nat.pos_of_ne_zero I.pos
      by_cases hl : len = 0
      · subst hl
        refine nothing ?_ (by simp [Builtin.clear_, run_underlying ht])
        simp only [List.replicate_zero, List.flatten_nil] at h
        unfold writeCells at h
        cases hcs : boxOf σ rf with
        | none => simp [hcs] at h
        | some cs =>
          simp only [hcs, Option.bind_some] at h
          split at h
          · injection h with h
            rw [← h]
            have h0 : splice cs off [] = cs := by simp [splice]
            rw [h0]
            cases rf with
            | stk n =>
              simp only [boxOf] at hcs
              obtain ⟨hl, rfl⟩ := List.getElem?_eq_some_iff.1 hcs
              simp [setBox]
            | heap n =>
              simp only [boxOf] at hcs
              split at hcs
              · rename_i cs' hn
                injection hcs with hcs; subst hcs
                obtain ⟨hl, hn⟩ := List.getElem?_eq_some_iff.1 hn
                simp [setBox, ← hn]
              · cases hcs
          · cases h
      · have hfl : (List.replicate len z.cells).flatten = (List.replicate len z).flatMap AV.cells := by rw [List.flatMap_def, List.map_replicate]
        have hv := zeros_V (g := g) (w := w) I.plain I.zlen hpos len
        rw [← hfl] at hv
        have hcc : ∀ x ∈ (List.replicate len z.cells).flatten, x.isCell = true := fun x hx => by
          obtain ⟨l', hl', hx'⟩ := List.mem_flatten.1 hx
          rw [List.eq_of_mem_replicate hl'] at hx'; exact c3 x hx'
        obtain ⟨j1, ow', j2, j3, j4⟩ := write_run (P := P) r h hb (Cells.of (ro := Nobody) hv hcc) (Free.nobody _ _)
        refine ⟨_, ?_, g, Out.of j2 (PV.of (o := Nobody) (.tup (xs := #[]) .nil .nil)) (Free.nobody _ _) j3 (fun p b o h => (j4 p b o h).elim (fun h => .inl (.own h)) fun h => h.elim) (fun b o h => h.elim) (fun b o h1 h2 => .inl (.inl ⟨h1, h2⟩)) (fun _ _ h => .inr h) (fun _ h => .inl h)⟩
        have hze : ∀ w, (zeroValue e).run P w = .ok zv w := fun w => by simp [zeroValue, typeInfo, I.info, I.zero]
        obtain ⟨m, rfl⟩ : ∃ m, len = m + 1 := ⟨len - 1, by omega⟩
        simp only [Builtin.clear_]
        simp [run_underlying ht, hze, zeroCells_eq, I.zsize]
        rw [I.zsize] at j1
        simp at j1
        rw [j1]; rfl
  · rename_i e ht
    injection h with h
    obtain rfl := hx.sc_inv
    exact nothing h.symm (by simp [Builtin.clear_, run_underlying ht, Sc.toV])
  · rename_i e fl sz ht
    injection h with h
    obtain ⟨ad, cap, rfl, _⟩ := hx.list_inv
    exact nothing h.symm (by simp [Builtin.clear_, run_underlying ht])
  · cases h
end
end Go.AM
