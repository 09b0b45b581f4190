import Derived.Test.YthbiajoionockaaAm8
/-! Indexes, parts, slices, lengths. -/
namespace Go.AM
open Go
set_option linter.unusedVariables false

section
variable {P : Program} {g : G} {w : World}

theorem V.list_inv {fl : Fl} {sz : Nat} {es : List AV} {v : Value} (h : V g w (.list fl sz es) v) : ∃ a cap, v = .slice (some a) es.length cap ∧ es.length ≤ cap := by
  cases h with
  | @list _ _ _ a len cap _ _ _ h1 h2 h3 h4 h5 h6 h7 h8 h9 _ => subst h2; exact ⟨_, _, rfl, h3⟩

theorem V.row_inv {r : Ref} {off len cap : Nat} {v : Value} (h : V g w (.row r off len cap) v) : ∃ b c, v = .slice (some ⟨b, off, none⟩) len c ∧ g.ref r = some b ∧ len ≤ cap ∧ cap ≤ c := by
  cases h with
  | row h1 h2 h3 _ => exact ⟨_, _, rfl, h1, h2, h3⟩

theorem V.agg_inv {cs : List AV} {v : Value} (h : V g w (.agg cs) v) : ∃ xs : Array Value, v = .agg xs ∧ (∀ c ∈ cs, c.isCell = true) ∧ VL g w cs xs.toList := by
  cases h with
  | agg h0 h1 _ => exact ⟨_, rfl, h0, h1⟩

theorem V.tup_inv {cs : List AV} {v : Value} (h : V g w (.tup cs) v) : ∃ xs : Array Value, v = .tuple xs ∧ VL g w cs xs.toList := by
  cases h with
  | tup h1 _ => exact ⟨_, rfl, h1⟩

theorem V.map_inv {n : Nat} {v : Value} (h : V g w (.map n) v) : ∃ b, v = .map (some b) ∧ g.hb[n]? = some b := by
  cases h with
  | map h1 _ => exact ⟨_, rfl, h1⟩

theorem V.fn_inv {f : Fn} {p c : List AV} {v : Value} (h : V g w (.fn f p c) v) : ∃ xs ys : Array Value, v = .func f xs ys ∧ VL g w p xs.toList ∧ VL g w c ys.toList := by
  cases h with
  | fn h1 h2 _ => exact ⟨_, _, rfl, h1, h2⟩

theorem indexAt_run {t : TypeId} {x ix v : AV} {xv iv : Value} (h : indexAddr P t x ix = some v) (hx : V g w x xv) (hi : V g w ix iv) :
    ∃ val, (Instr.indexAt t xv iv).run P w = .ok val w ∧ V g w v val := by
  unfold indexAddr at h
  split at h
  case h_2 => cases h
  rename_i k i
  obtain rfl := hi.sc_inv
  split at h
  · rename_i n e hu
    split at h
    case isFalse => cases h
    rename_i hc
    obtain ⟨a, rfl, hv⟩ := hx.shift h
    exact ⟨_, by simp [Instr.indexAt, asIntOf, Sc.toV, run_underlying hu, Instr.sureAddr, hc.1, hc.2.1, run_sizeOf hc.2.2], hv⟩
  · rename_i e fl sz es hu
    split at h
    case isFalse => cases h
    rename_i hc
    injection h with h; subst h
    obtain ⟨a, cap, rfl, hle⟩ := hx.list_inv
    have hlt : i.toNat < es.length := by omega
    have hv := hx.elem (List.getElem?_eq_getElem hlt)
    have hg : es.getD i.toNat .undef = es[i.toNat] := by simp [List.getD, hlt]
    rw [hg]
    obtain ⟨h1, h2, h3, h4, h5⟩ := hc
    subst h2
    exact ⟨_, by simp [Instr.indexAt, asIntOf, Sc.toV, run_underlying hu, h4, h5, run_sizeOf h3], hv⟩
  · rename_i e r off len cap hu
    split at h
    case isFalse => cases h
    rename_i hc
    injection h with h; subst h
    obtain ⟨b, c, rfl, hr, h1, h2⟩ := hx.row_inv
    refine ⟨_, by simp [Instr.indexAt, asIntOf, Sc.toV, run_underlying hu, hc.1, hc.2.1, run_sizeOf hc.2.2]; rfl, ?_⟩
    rw [Addr.add_lit]; exact .ptr hr .nil
  · cases h

theorem part_run {t : TypeId} {cs : List AV} {xs : Array Value} {off : Nat} {v : AV} (h : partOf P t cs off = some v) (hx : VL g w cs xs.toList) (hc : ∀ c ∈ cs, c.isCell = true) :
    ∃ val, (part t xs off).run P w = .ok val w ∧ V g w v val := by
  unfold partOf at h
  split at h
  · rename_i ha
    split at h
    case isFalse => cases h
    rename_i hl
    injection h with h; subst h
    refine ⟨_, by simp [part, run_aggOf ha, run_sizeOf hl.2]; rfl, .agg (fun c h => hc c (List.mem_of_mem_drop (List.mem_of_mem_take h))) ?_ .nil⟩
    have := (hx.drops off).takes (P.cellsOf t)
    rw [Array.toList_extract]
    simpa [List.extract, Nat.add_sub_cancel_left] using this
  · rename_i ha
    obtain ⟨u, h1, h2⟩ := hx.get h
    have h1' : xs[off]? = some u := by simpa using h1
    exact ⟨u, by simp [part, run_aggOf ha, h1'], h2⟩
  · cases h

theorem index_run {t : TypeId} {x ix v : AV} {xv iv : Value} (h : index P t x ix = some v) (hx : V g w x xv) (hi : V g w ix iv) :
    ∃ val, (Instr.index t xv iv).run P w = .ok val w ∧ V g w v val := by
  unfold index at h
  split at h
  case h_2 => cases h
  rename_i k i
  obtain rfl := hi.sc_inv
  split at h
  · rename_i n e cs hu
    split at h
    case isFalse => cases h
    rename_i hc
    obtain ⟨xs, rfl, h0, h1⟩ := hx.agg_inv
    obtain ⟨val, h2, h3⟩ := part_run h h1 h0
    exact ⟨val, by simp [Instr.index, asIntOf, Sc.toV, run_underlying hu, hc.1, hc.2.1, run_sizeOf hc.2.2, h2], h3⟩
  · rename_i l hu
    split at h
    case isFalse => cases h
    rename_i hc
    injection h with h; subst h
    obtain rfl := hx.sc_inv
    have hlt : i.toNat < l.length := by omega
    refine ⟨.int .u8 (l.getD i.toNat 0).toNat, ?_, .sc (.int .u8 _) .nil⟩
    have hb : (ByteArray.mk l.toArray)[i.toNat]? = some (l.getD i.toNat 0) := by
      have : i.toNat < (ByteArray.mk l.toArray).size := by simpa [ByteArray.size] using hlt
      rw [getElem?_pos (ByteArray.mk l.toArray) i.toNat this]
      simp [List.getD, hlt, ByteArray.getElem_eq_getElem_data]
    simp [Instr.index, asIntOf, Sc.toV, run_underlying hu, hc.1, hb]
  · cases h

theorem field_run {s : TypeId} {i : Nat} {q : Field} {cs : List AV} {v : AV} {xv : Value} (hf : fieldOf P s i = some q) (hx : V g w (.agg cs) xv) (h : partOf P q.type cs q.offset = some v) :
    ∃ val, (Instr.field s xv i).run P w = .ok val w ∧ V g w v val := by
  obtain ⟨xs, rfl, h0, h1⟩ := hx.agg_inv
  obtain ⟨val, h2, h3⟩ := part_run h h1 h0
  refine ⟨val, ?_, h3⟩
  unfold fieldOf at hf
  cases hu : P.underlying s with
  | none => simp [hu] at hf
  | some d =>
    cases d <;> simp [hu] at hf
    simp [Instr.field, run_underlying hu, hf, asAgg, h2]

theorem extract_run {vs : List AV} {i : Nat} {v : AV} {xv : Value} (hx : V g w (.tup vs) xv) (h : vs[i]? = some v) : ∃ val, (Instr.extract xv i).run P w = .ok val w ∧ V g w v val := by
  obtain ⟨xs, rfl, h1⟩ := hx.tup_inv
  obtain ⟨u, h2, h3⟩ := h1.get h
  have h2' : xs[i]? = some u := by simpa using h2
  exact ⟨u, by simp [Instr.extract, h2'], h3⟩

/-! Bounds of slice expressions -/
theorem bound_run {x : Option AV} {xv : Option Value} {d n : Nat} (h : bound x d = some n) (hx : ∀ y, x = some y → ∃ v, xv = some v ∧ V g w y v) (hn : x = none → xv = none) :
    (x = none ∧ xv = none ∧ n = d) ∨ ∃ k i, xv = some (.int k i) ∧ 0 ≤ i ∧ n = i.toNat ∧ (n : Int) = i := by
  unfold bound at h
  split at h
  · injection h with h; exact .inl ⟨rfl, hn rfl, h.symm⟩
  · rename_i k i
    split at h
    case isFalse => cases h
    rename_i h0
    injection h with h
    obtain ⟨v, rfl, hv⟩ := hx _ rfl
    obtain rfl := hv.sc_inv
    exact .inr ⟨k, i, rfl, h0, h.symm, by omega⟩
  · cases h

theorem sliceBound_ok {k : IntKind} {i : Int} {n y : Nat} {code : BoundsCode} (h : (n : Int) = i) (hy : n ≤ y) : (Instr.sliceBound (.int k i) y code).run P w = .ok n w := by
  subst h
  have h1 : (0 : Int) ≤ n ∧ (n : Int) ≤ y := by omega
  simp [Instr.sliceBound, asIntOf, hy]

/-- Bounds without a maximum. -/
theorem bounds_ok {isSlice : Bool} {len cap a b : Nat} {lo hi : Option Value} (hl : (lo = none ∧ a = 0) ∨ ∃ k i, lo = some (.int k i) ∧ (a : Int) = i) (hh : (hi = none ∧ b = len) ∨ ∃ k i, hi = some (.int k i) ∧ (b : Int) = i) (hab : a ≤ b) (hb : b ≤ cap) :
    (Instr.sliceBounds isSlice len cap lo hi none).run P w = .ok (a, b, cap) w := by
  rcases hl with ⟨rfl, rfl⟩ | ⟨k, i, rfl, h1⟩ <;> rcases hh with ⟨rfl, rfl⟩ | ⟨k', i', rfl, h2⟩
  · simp [Instr.sliceBounds]
  · cases isSlice <;> simp [Instr.sliceBounds, sliceBound_ok h2 hb]
  · simp [Instr.sliceBounds, sliceBound_ok h1 hab]
  · cases isSlice <;> simp [Instr.sliceBounds, sliceBound_ok h2 hb, sliceBound_ok h1 hab]

theorem bounds3_ok {len cap a b m : Nat} {lo hi mx : Option Value} (hl : (lo = none ∧ a = 0) ∨ ∃ k i, lo = some (.int k i) ∧ (a : Int) = i) (hh : ∃ k i, hi = some (.int k i) ∧ (b : Int) = i) (hm : ∃ k i, mx = some (.int k i) ∧ (m : Int) = i) (hab : a ≤ b) (hb : b ≤ m) (hmc : m ≤ cap) :
    (Instr.sliceBounds true len cap lo hi mx).run P w = .ok (a, b, m) w := by
  obtain ⟨k', i', rfl, h2⟩ := hh
  obtain ⟨k'', i'', rfl, h3⟩ := hm
  rcases hl with ⟨rfl, rfl⟩ | ⟨k, i, rfl, h1⟩
  · simp [Instr.sliceBounds, sliceBound_ok h3 hmc, sliceBound_ok h2 hb]
  · simp [Instr.sliceBounds, sliceBound_ok h3 hmc, sliceBound_ok h2 hb, sliceBound_ok h1 hab]

theorem add_spot {a : Addr} (h : a.spot = none) (n : Nat) : a.add n = ⟨a.block, a.off + n, none⟩ := by
  unfold Addr.add; split
  · rename_i h0; subst h0; cases a; simp_all
  · rfl

theorem flatMap_take {sz : Nat} {es : List AV} (h : ∀ e ∈ es, e.cells.length = sz) (n : Nat) : (es.take n).flatMap AV.cells = (es.flatMap AV.cells).take (n * sz) := by
  induction es generalizing n with
  | nil => simp
  | cons e l ih =>
    cases n with
    | zero => simp
    | succ n =>
      rw [List.take_succ_cons, List.flatMap_cons, List.flatMap_cons, ih (fun x hx => h x (by simp [hx])), List.take_append, h e (by simp), Nat.add_mul, Nat.one_mul, Nat.add_sub_cancel, List.take_of_length_le (l := e.cells) (by rw [h e (by simp)]; omega)]

theorem flatMap_drop {sz : Nat} {es : List AV} (h : ∀ e ∈ es, e.cells.length = sz) (n : Nat) : (es.drop n).flatMap AV.cells = (es.flatMap AV.cells).drop (n * sz) := by
  induction es generalizing n with
  | nil => simp
  | cons e l ih =>
    cases n with
    | zero => simp
    | succ n =>
      rw [List.drop_succ_cons, List.flatMap_cons, ih (fun x hx => h x (by simp [hx])), List.drop_append, h e (by simp), Nat.add_mul, Nat.one_mul, Nat.add_sub_cancel, List.drop_of_length_le (l := e.cells) (by rw [h e (by simp)]; omega), List.nil_append]

/-- A part of a list is a list. -/
theorem V.cut {fl fl' : Fl} {sz a b cap cap' len : Nat} {es : List AV} {ad ad' : Addr} (h : V g w (.list fl sz es) (.slice (some ad) len cap)) (hb : b ≤ es.length) (hab : a ≤ b) (hc : b - a ≤ cap') (hfl : fl' = .sh ∨ fl' = .full ∧ cap' = b - a)
    (had : ad' = ad.add (a * sz) ∨ a = b ∧ ad' = ad) : V g w (.list fl' sz ((es.take b).drop a)) (.slice (some ad') (b - a) cap') := by
  cases h with
  | @list _ _ _ _ _ _ xs _ _ h1 h2 h3 h4 h5 h6 h7 h8 h9 _ =>
  have hlen : ((es.take b).drop a).length = b - a := by rw [List.length_drop, List.length_take]; omega
  have h6' : ∀ e ∈ es, e.cells.length = sz := fun e he => (h6 e he).1
  have hmem : ∀ {e : AV}, e ∈ (es.take b).drop a → e ∈ es := fun he => List.mem_of_mem_take (List.mem_of_mem_drop he)
  have hvl : VL g w (((es.take b).drop a).flatMap AV.cells) ((xs.take (b * sz)).drop (a * sz)) := by
    rw [flatMap_drop (fun e he => h6' e (List.mem_of_mem_take he)), flatMap_take h6']
    exact (h8.takes _).drops _
  have hsp : ad'.spot = none := by
    rcases had with rfl | ⟨_, rfl⟩
    · rw [add_spot h5]
    · exact h5
  refine .list hfl hlen.symm hc h4 hsp (fun e he => h6 e (hmem he)) (under_mem.2 fun e he => (under_mem.1 h7) e (hmem he)) hvl ?_ .nil
  intro i v hi
  rw [List.getElem?_drop, List.getElem?_take] at hi
  split at hi
  case isFalse => cases hi
  rename_i hlt
  rcases had with rfl | ⟨rfl, rfl⟩
  · rw [add_spot h5]
    have := h9 _ _ hi
    rwa [← Nat.add_assoc] at this
  · omega
end
end Go.AM
