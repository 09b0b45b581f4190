import Derived.Test.YthbiajoionockaaAm7
/-! Operations that only compute. -/
namespace Go.AM
open Go
set_option linter.unusedVariables false

section
variable {P : Program} {g : G} {w : World}

theorem run_sizeOf {t : TypeId} (h : P.cellsOf t ≠ 0) (w : World) : (sizeOf t).run P w = .ok (P.cellsOf t) w := by
  unfold Program.cellsOf at h ⊢
  cases hi : P.info? t with
  | none => simp [hi] at h
  | some i => simp [sizeOf, typeInfo, hi]

theorem info_of_underlying {t : TypeId} {d : TypeDesc} (h : P.underlying t = some d) : ∃ i, P.info? t = some i := by
  unfold Program.underlying at h
  cases hi : P.info? t with
  | none => simp [hi] at h
  | some i => exact ⟨i, rfl⟩

theorem run_aggOf {t : TypeId} {b : Bool} (h : aggOf P t = some b) (w : World) : (Go.isAgg t).run P w = .ok b w := by
  unfold aggOf at h
  cases hu : P.underlying t with
  | none => simp [hu] at h
  | some d => cases d <;> simp [hu] at h <;> subst h <;> simp [Go.isAgg, run_underlying hu]

theorem V.rop_drop {cs : List AV} {a : Addr} {n : Nat} (h : V g w (.rop cs) (.pointer (some a))) : V g w (.rop (cs.drop n)) (.pointer (some (a.add n))) := by
  cases h with
  | @rop _ _ xs _ _ h1 h2 h3 h4 h5 _ =>
  have hadd : a.add n = ⟨a.block, a.off + n, none⟩ := by
    unfold Addr.add; split
    · rename_i h0; subst h0; cases a; simp_all
    · rfl
  rw [hadd]
  refine .rop rfl (fun c hc => h2 c (List.mem_of_mem_drop hc)) ?_ (h4.drops n) ?_ .nil
  · rw [under_mem] at *; exact fun c hc => h3 c (List.mem_of_mem_drop hc)
  · intro i v hi
    rw [List.getElem?_drop] at hi
    have := h5 _ _ hi
    rwa [← Nat.add_assoc] at this

theorem V.ptr_inv {r : Ref} {off : Nat} {v : Value} (h : V g w (.ptr r off) v) : ∃ b, v = .pointer (some ⟨b, off, none⟩) ∧ g.ref r = some b := by
  cases h with
  | ptr h1 _ => exact ⟨_, rfl, h1⟩

theorem V.rop_inv {cs : List AV} {v : Value} (h : V g w (.rop cs) v) : ∃ a, v = .pointer (some a) := by
  cases h with
  | rop h1 _ _ _ _ _ => exact ⟨_, rfl⟩

theorem V.sc_inv {x : Sc} {v : Value} (h : V g w (.s x) v) : v = x.toV := by cases h; rfl

/-- An address moved on. -/
theorem V.shift {p q : AV} {n : Nat} {v : Value} (h : V g w p v) (hs : shift p n = some q) : ∃ a, v = .pointer (some a) ∧ V g w q (.pointer (some (a.add n))) := by
  cases p <;> simp only [AM.shift] at hs
  case ptr r off =>
    injection hs with hs; subst hs
    obtain ⟨b, rfl, hr⟩ := h.ptr_inv
    refine ⟨_, rfl, ?_⟩
    rw [Addr.add_lit]
    exact .ptr hr .nil
  case rop cs =>
    injection hs with hs; subst hs
    obtain ⟨a, rfl⟩ := h.rop_inv
    exact ⟨a, rfl, h.rop_drop⟩
  all_goals cases hs

theorem fieldAt_run {s : TypeId} {i : Nat} {q : Field} {x v : AV} {xv : Value} (hf : fieldOf P s i = some q) (h0 : P.cellsOf q.type ≠ 0) (hx : V g w x xv) (hs : AM.shift x q.offset = some v) :
    ∃ val, (Instr.fieldAt s xv i).run P w = .ok val w ∧ V g w v val := by
  obtain ⟨a, rfl, hv⟩ := hx.shift hs
  refine ⟨_, ?_, hv⟩
  unfold fieldOf at hf
  cases hu : P.underlying s with
  | none => simp [hu] at hf
  | some d =>
    cases d <;> simp [hu] at hf
    simp [Instr.fieldAt, run_underlying hu, hf, Instr.sureAddr, fieldPlace, run_sizeOf h0, h0]

theorem V.elem {fl : Fl} {sz : Nat} {es : List AV} {a : Addr} {len cap i : Nat} {e : AV} (h : V g w (.list fl sz es) (.slice (some a) len cap)) (hi : es[i]? = some e) : V g w (.rop e.cells) (.pointer (some (a.add (i * sz)))) := by
  cases h with
  | @list _ _ _ _ _ _ xs _ _ h1 h2 h3 h4 h5 h6 h7 h8 h9 _ =>
  have hadd : a.add (i * sz) = ⟨a.block, a.off + i * sz, none⟩ := by
    unfold Addr.add; split
    · rename_i h0; rw [h0]; cases a; simp_all
    · rfl
  have hmem := List.mem_of_getElem? hi
  obtain ⟨hl, hf⟩ := h6 e hmem
  -- the element's own cells
  have hpre : es.take i ++ e :: es.drop (i + 1) = es := by
    obtain ⟨hlt, rfl⟩ := List.getElem?_eq_some_iff.1 hi
    rw [← List.drop_eq_getElem_cons hlt, List.take_append_drop]
  have hcut : (es.flatMap AV.cells).drop (i * sz) = e.cells ++ (es.drop (i + 1)).flatMap AV.cells := by
    conv => lhs; rw [← hpre]
    rw [List.flatMap_append, List.flatMap_cons]
    have : ((es.take i).flatMap AV.cells).length = i * sz := by
      rw [elems_length fun x hx => (h6 x (List.mem_of_mem_take hx)).1, List.length_take]
      have := (List.getElem?_eq_some_iff.1 hi).1
      rw [Nat.min_eq_left (by omega)]
    rw [← this, List.drop_left]
  have hvl : VL g w e.cells ((xs.drop (i * sz)).take sz) := by
    have h10 := (h8.drops (i * sz)).takes sz
    rw [hcut, ← hl, List.take_left] at h10
    rw [hl] at h10; exact h10
  rw [hadd]
  refine .rop rfl hf (under_cells1 ((under_mem.1 h7) e hmem)) hvl ?_ .nil
  · intro j v hj
    rw [List.getElem?_take] at hj
    split at hj
    · rw [List.getElem?_drop] at hj
      have := h9 _ _ hj
      rwa [← Nat.add_assoc] at this
    · cases hj
end
end Go.AM
