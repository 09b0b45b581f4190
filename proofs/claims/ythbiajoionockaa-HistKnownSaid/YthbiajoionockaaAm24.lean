import Derived.Test.YthbiajoionockaaAm23
/-! Orders that are drawn: readers may go first. -/
namespace Go.AM
open Go
set_option linter.unusedVariables false
set_option linter.unusedSimpArgs false

def Calmer (fr fr' : Fr) : Prop := fr'.length = fr.length ∧ ∀ t, (fr.getD t .undef).isUniq = false → (fr'.getD t .undef).isUniq = false ∧ (fr'.getD t .undef).look = (fr.getD t .undef).look

theorem Calmer.refl (fr : Fr) : Calmer fr fr := ⟨rfl, fun _ h => ⟨h, rfl⟩⟩

theorem Calmer.trans {fr fr1 fr2 : Fr} (h : Calmer fr fr1) (h' : Calmer fr1 fr2) : Calmer fr fr2 :=
  ⟨h'.1.trans h.1, fun t ht => ⟨(h'.2 t (h.2 t ht).1).1, (h'.2 t (h.2 t ht).1).2.trans (h.2 t ht).2⟩⟩

theorem calmer_set {fr : Fr} {t : Nat} {u : AV} (h : (fr.getD t .undef).isUniq = false → u.isUniq = false ∧ u.look = (fr.getD t .undef).look) : Calmer fr (fr.set t u) := by
  refine ⟨by simp, fun s hs => ?_⟩
  by_cases e : s = t
  · subst e
    by_cases hl : s < fr.length
    · have : (fr.set s u).getD s .undef = u := by simp [List.getD, hl]
      rw [this]; exact h hs
    · have : (fr.set s u).getD s .undef = fr.getD s .undef := by simp [List.getD, hl]
      rw [this]; exact ⟨hs, rfl⟩
  · rw [getD_set _ _ _ _ e]; exact ⟨hs, rfl⟩

theorem left_calm {v : AV} (h : v.isUniq = false) : v.left.isUniq = false ∧ v.left.look = v.look := by
  cases v with
  | list fl _ _ => cases fl <;> simp_all [AV.left, AV.isUniq, AV.look]
  | _ => simp_all [AV.left, AV.isUniq, AV.look]

theorem taken_calmer (tk : Bool) (fr : Fr) (x : Operand) : Calmer fr (taken tk fr x).2 := by
  cases x with
  | tmp t =>
    unfold taken
    cases tk
    · simp only [Bool.false_eq_true, if_false]
      split
      · rename_i h
        exact calmer_set fun hu => by rw [h] at hu; simp [AV.isUniq] at hu
      · exact Calmer.refl _
    · simp only [if_true]
      exact calmer_set left_calm
  | _ => exact Calmer.refl _

theorem takenAll_calmer : ∀ (xs : List Operand) (fr : Fr), Calmer fr (takenAll fr xs).2
  | [], fr => Calmer.refl _
  | x :: xs, fr => (taken_calmer true fr x).trans (takenAll_calmer xs _)

theorem settle_calmer : ∀ (xs : List Operand) (fr : Fr), Calmer fr (settle fr xs)
  | [], fr => Calmer.refl _
  | x :: xs, fr => (taken_calmer false fr x).trans (settle_calmer xs _)

section
variable {P : Program} {C : CallF} {cfg : Cfg} {f : FuncId} {fr fr' fr1 : Fr} {σ σ' : St} {ops : Array Oper} {d : Nat} {v : AV}

theorem thaw_calmer {x : Operand} (h : thaw fr x σ = some (v, fr', σ')) : Calmer fr fr' := by
  cases x with
  | tmp t =>
    unfold thaw at h
    dsimp only at h
    split at h
    · rename_i hu
      split at h
      · cases h
      · obtain ⟨r, _, h2⟩ := map_some h
        simp only [Prod.mk.injEq] at h2; obtain ⟨_, rfl, _⟩ := h2
        exact calmer_set fun h => by rw [hu] at h; simp [AV.isUniq] at h
    · injection h with h; simp only [Prod.mk.injEq] at h; obtain ⟨_, rfl, _⟩ := h; exact Calmer.refl _
    · cases h
  | _ => cases h

theorem evOp_calmer {o : Oper} (h : evOp C P cfg f o fr σ = some (v, fr', σ')) : Calmer fr fr' := by
  obtain ⟨dst, op, ty, pos, after, guard⟩ := o
  have one : ∀ {α : Type} {x : Option α} {g : α → AV × Fr × St}, x.map g = some (v, fr', σ') → (∀ a, (g a).2.1 = fr) → Calmer fr fr' := by
    intro α x g hx hg
    obtain ⟨a, _, h2⟩ := map_some hx
    have := hg a
    rw [h2] at this
    dsimp only at this; subst this; exact Calmer.refl _
  have two : ∀ {α : Type} {x : Option α} {g : α → AV × Fr × St} {fr1 : Fr}, Calmer fr fr1 → x.map g = some (v, fr', σ') → (∀ a, (g a).2.1 = fr1) → Calmer fr fr' := by
    intro α x g fr1 hc hx hg
    obtain ⟨a, _, h2⟩ := map_some hx
    have := hg a
    rw [h2] at this
    dsimp only at this; subst this; exact hc
  have same : ∀ {u : AV} {s : St}, some (u, fr, s) = some (v, fr', σ') → Calmer fr fr' := by
    intro u s h; injection h with h; simp only [Prod.mk.injEq] at h; obtain ⟨_, rfl, _⟩ := h; exact Calmer.refl _
  have other : ∀ {u : AV} {s : St} {fr1 : Fr}, Calmer fr fr1 → some (u, fr1, s) = some (v, fr', σ') → Calmer fr fr' := by
    intro u s fr1 hc h; injection h with h; simp only [Prod.mk.injEq] at h; obtain ⟨_, rfl, _⟩ := h; exact hc
  cases op with
  | move x =>
    simp only [evOp] at h
    split at h
    · exact thaw_calmer h
    · split at h
      · exact one h fun _ => rfl
      · exact other (taken_calmer _ _ _) h
  | assign x =>
    simp only [evOp] at h
    split at h
    · exact one h fun _ => rfl
    · exact other (taken_calmer _ _ _) h
  | pick c x y =>
    simp only [evOp] at h
    split at h
    · exact same h
    · cases h
  | alloc t =>
    simp only [evOp] at h
    cases hz : zeroA P t with
    | none => rw [hz] at h; cases h
    | some z => rw [hz] at h; exact one h fun _ => rfl
  | box t x =>
    simp only [evOp] at h
    split at h
    · cases h
    · exact two (taken_calmer _ _ _) h fun _ => rfl
  | store t p x =>
    simp only [evOp] at h
    exact two (taken_calmer _ _ _) h fun _ => rfl
  | nilCheck x =>
    simp only [evOp] at h
    split at h <;> first | exact same h | cases h
  | makeMap t x =>
    simp only [evOp] at h
    split at h
    · exact same h
    · split at h
      · exact same h
      · cases h
  | call c =>
    simp only [evOp] at h
    split at h
    · exact one h fun _ => rfl
    · exact one h fun _ => rfl
    · split at h
      · exact two (taken_calmer _ _ _) h fun _ => rfl
      · cases h
    · split at h
      · exact one h fun _ => rfl
      · cases h
    · split at h
      · exact one h fun _ => rfl
      · cases h
    · split at h
      · exact one h fun _ => rfl
      · cases h
    · split at h
      · split at h
        · exact same h
        · cases h
      · cases h
    · split at h
      · split at h
        · exact same h
        · cases h
      · cases h
    · split at h
      · exact two (takenAll_calmer _ _) h fun _ => rfl
      · exact two (takenAll_calmer _ _) h fun _ => rfl
      · cases h
    · cases h
  | build | buildSlice | load | binOp | unOp | convert | makeFunc | makeSlice | slice | fieldAddr | field | indexAddr | index | lookup | mapUpdate | insert | extract =>
    simp only [evOp] at h
    exact one h fun _ => rfl
  | _ => simp only [evOp] at h; cases h

theorem sh_look {v : AV} (h : v.isUniq = false) : v.sh = v.look := by
  cases v with
  | list fl _ _ => cases fl <;> simp_all [AV.sh, AV.isUniq, AV.look]
  | _ => simp_all [AV.sh, AV.look]

theorem taken_calm {x : Operand} (h : calmAt fr x = true) : taken false fr x = (AM.seen fr x, fr) := by
  cases x with
  | tmp t =>
    have hu : (fr.getD t .undef).isUniq = false := by simpa [calmAt] using h
    unfold taken AM.seen
    simp only [Bool.false_eq_true, if_false]
    split
    · rename_i e; rw [e] at hu; simp [AV.isUniq] at hu
    · rw [sh_look hu]; rfl
  | const c =>
    unfold taken AM.seen opnd
    simp only [AV.ofV]
    split <;> rfl
  | _ => rfl

theorem settle_calm : ∀ (xs : List Operand), (∀ x ∈ xs, calmAt fr x = true) → settle fr xs = fr
  | [], _ => rfl
  | x :: xs, h => by
    simp only [settle]
    rw [taken_calm (h x (by simp))]
    exact settle_calm xs fun y hy => h y (by simp [hy])

/-- A reader sees what it sees. -/
theorem reader_eq {o : Oper} (hr : readerOp cfg f o = true) (hs : ∀ x ∈ o.op.operands.toList, AM.seen fr1 x = AM.seen fr x) (hc : ∀ x ∈ o.op.operands.toList, calmAt fr x = true) (hc1 : ∀ x ∈ o.op.operands.toList, calmAt fr1 x = true) :
    evOp C P cfg f o fr1 σ = (evOp C P cfg f o fr σ).map fun r => (r.1, fr1, r.2.2) := by
  obtain ⟨dst, op, ty, pos, after, guard⟩ := o
  dsimp only at hs hc hc1
  have mapsome : ∀ {α : Type} (o : Option α) (g g' : α → AV × Fr × St), (∀ a, g a = ((g' a).1, fr1, (g' a).2.2)) → o.map g = (o.map g').map fun r => (r.1, fr1, r.2.2) := by
    intro α o g g' hg
    cases o with
    | none => rfl
    | some a => simp [hg]
  have parts : ∀ (ps : Array (Nat × Operand)), (∀ p ∈ ps.toList, AM.seen fr1 p.2 = AM.seen fr p.2) → (ps.toList.map fun (i, x) => (i, AM.seen fr1 x)) = ps.toList.map fun (i, x) => (i, AM.seen fr x) := by
    intro ps hp
    exact List.map_congr_left fun p hm => by
      obtain ⟨i, x⟩ := p
      have := hp _ hm
      dsimp only at this
      simp only [this]
  have many : ∀ (xs : List Operand), (∀ x ∈ xs, AM.seen fr1 x = AM.seen fr x) → xs.map (AM.seen fr1) = xs.map (AM.seen fr) := fun xs hx => List.map_congr_left fun x hm => hx x hm
  have optn : ∀ (x : Option Operand), (∀ y, x = some y → AM.seen fr1 y = AM.seen fr y) → x.map (AM.seen fr1) = x.map (AM.seen fr) := fun x hx => by
    cases x with
    | none => rfl
    | some y => simp [hx y rfl]
  cases op with
  | move x =>
    simp only [readerOp, Bool.and_eq_true, Bool.not_eq_true'] at hr
    have hx : x ∈ (Op.move x).operands.toList := by simp [Op.operands]
    simp only [evOp, hr.1.1, hr.1.2, hr.2, Bool.false_eq_true, if_false]
    rw [taken_calm (hc1 x hx), taken_calm (hc x hx), hs x hx]
    rfl
  | load t x =>
    simp only [evOp]
    rw [hs x (by simp [Op.operands])]
    exact mapsome _ _ _ fun _ => rfl
  | pick c x y =>
    simp only [evOp]
    rw [hs c (by simp [Op.operands]), hs x (by simp [Op.operands]), hs y (by simp [Op.operands])]
    split <;> rfl
  | nilCheck x =>
    simp only [evOp]
    rw [hs x (by simp [Op.operands])]
    split <;> rfl
  | binOp op t x y yt =>
    simp only [evOp]
    rw [hs x (by simp [Op.operands]), hs y (by simp [Op.operands])]
    exact mapsome _ _ _ fun _ => rfl
  | unOp op t x =>
    simp only [evOp]
    rw [hs x (by simp [Op.operands])]
    exact mapsome _ _ _ fun _ => rfl
  | convert s t x =>
    simp only [evOp]
    rw [hs x (by simp [Op.operands])]
    exact mapsome _ _ _ fun _ => rfl
  | fieldAddr s x i =>
    simp only [evOp]
    rw [hs x (by simp [Op.operands])]
    exact mapsome _ _ _ fun _ => rfl
  | field s x i =>
    simp only [evOp]
    rw [hs x (by simp [Op.operands])]
    exact mapsome _ _ _ fun _ => rfl
  | indexAddr t x ix =>
    simp only [evOp]
    rw [hs x (by simp [Op.operands]), hs ix (by simp [Op.operands])]
    exact mapsome _ _ _ fun _ => rfl
  | index t x ix =>
    simp only [evOp]
    rw [hs x (by simp [Op.operands]), hs ix (by simp [Op.operands])]
    exact mapsome _ _ _ fun _ => rfl
  | lookup t x ix ok =>
    simp only [evOp]
    rw [hs x (by simp [Op.operands]), hs ix (by simp [Op.operands])]
    exact mapsome _ _ _ fun _ => rfl
  | extract x i =>
    simp only [evOp]
    rw [hs x (by simp [Op.operands])]
    exact mapsome _ _ _ fun _ => rfl
  | slice t x lo hi mx =>
    simp only [evOp]
    rw [hs x (by simp [Op.operands]), optn lo fun y e => hs y (by simp [Op.operands, e]), optn hi fun y e => hs y (by simp [Op.operands, e]), optn mx fun y e => hs y (by simp [Op.operands, e])]
    exact mapsome _ _ _ fun _ => rfl
  | makeFunc fn first captured =>
    simp only [evOp]
    rw [many first.toList fun x hx => hs x (by simp only [Op.operands, Array.toList_append]; exact List.mem_append_left _ hx), many captured.toList fun x hx => hs x (by simp only [Op.operands, Array.toList_append]; exact List.mem_append_right _ hx)]
    rfl
  | build t ps =>
    simp only [evOp]
    rw [parts ps fun p hp => hs _ (by simp only [Op.operands, List.toList_toArray]; exact List.mem_map.2 ⟨p, hp, rfl⟩)]
    exact mapsome _ _ _ fun _ => rfl
  | buildSlice t n ps =>
    simp only [evOp]
    rw [parts ps fun p hp => hs _ (by simp only [Op.operands, List.toList_toArray]; exact List.mem_map.2 ⟨p, hp, rfl⟩)]
    exact mapsome _ _ _ fun _ => rfl
  | call c =>
    have hargs : ∀ x ∈ c.args.toList, AM.seen fr1 x = AM.seen fr x := fun x hx => hs x (by simp only [Op.operands, Call.operands, Array.toList_append]; exact List.mem_append_right _ hx)
    simp only [readerOp] at hr
    split at hr
    · rename_i hcal
      simp only [evOp, hcal]
      split
      · rename_i t x ht hx
        rw [hargs x (by rw [hx]; simp)]
        exact mapsome _ _ _ fun _ => rfl
      · rfl
    · rename_i hcal
      simp only [evOp, hcal]
      split
      · rename_i t x ht hx
        rw [hargs x (by rw [hx]; simp)]
        exact mapsome _ _ _ fun _ => rfl
      · rfl
    · cases hr
  | _ => simp [readerOp] at hr

theorem load_state {t : TypeId} {p : AV} {s : St} (h : load P false t p σ = some (v, s)) : s = σ := by
  unfold load at h
  split at h
  · split at h
    · cases h
    · obtain ⟨_, _, h2⟩ := map_some h; simp only [Prod.mk.injEq] at h2; exact h2.2.symm
  · dsimp only at h
    split at h
    · simp only [Option.some.injEq, Prod.mk.injEq] at h; exact h.2.symm
    · cases h
  · cases h

/-- A reader changes no memory. -/
theorem reader_state {o : Oper} (hr : readerOp cfg f o = true) (hc : ∀ x ∈ o.op.operands.toList, calmAt fr x = true) (h : evOp C P cfg f o fr σ = some (v, fr', σ')) : fr' = fr ∧ σ' = σ := by
  have e := reader_eq (C := C) (P := P) (σ := σ) hr (fun _ _ => rfl) hc hc
  rw [h] at e
  simp only [Option.map_some, Option.some.injEq, Prod.mk.injEq, true_and, and_true] at e
  refine ⟨e, ?_⟩
  obtain ⟨dst, op, ty, pos, after, guard⟩ := o
  have one : ∀ {α : Type} {x : Option α} {g : α → AV × Fr × St}, x.map g = some (v, fr', σ') → (∀ a, (g a).2.2 = σ) → σ' = σ := by
    intro α x g hx hg
    obtain ⟨a, _, h2⟩ := map_some hx
    have := hg a
    rw [h2] at this
    exact this
  cases op with
  | move x =>
    simp only [readerOp, Bool.and_eq_true, Bool.not_eq_true'] at hr
    simp only [evOp, hr.1.1, hr.1.2, hr.2, Bool.false_eq_true, if_false] at h
    simp only [Option.some.injEq, Prod.mk.injEq] at h
    exact h.2.2.symm
  | load t x =>
    simp only [readerOp, Bool.not_eq_true'] at hr
    simp only [evOp, hr] at h
    obtain ⟨⟨u, s⟩, h1, h2⟩ := map_some h
    simp only [Prod.mk.injEq] at h2
    rw [← h2.2.2]; exact load_state h1
  | pick c x y =>
    simp only [evOp] at h
    split at h
    · simp only [Option.some.injEq, Prod.mk.injEq] at h; exact h.2.2.symm
    · cases h
  | nilCheck x =>
    simp only [evOp] at h
    split at h <;> first | (simp only [Option.some.injEq, Prod.mk.injEq] at h; exact h.2.2.symm) | cases h
  | call c =>
    simp only [readerOp] at hr
    split at hr
    · rename_i hcal
      simp only [evOp, hcal] at h
      exact one h fun _ => rfl
    · rename_i hcal
      simp only [evOp, hcal] at h
      exact one h fun _ => rfl
    · cases hr
  | binOp | unOp | convert | fieldAddr | field | indexAddr | index | lookup | extract | slice | makeFunc | build | buildSlice =>
    simp only [evOp] at h
    exact one h fun _ => rfl
  | _ => simp [readerOp] at hr

theorem elems_free {e : TypeId} {x : AV} (s : St) (h : ∀ r o l c, x ≠ .row r o l c) : elems P e x s = elems P e x σ := by
  cases x with
  | row r o l c => exact (h r o l c rfl).elim
  | s y => cases y <;> rfl
  | _ => rfl

/-- What does not hang on memory is the same in any. -/
theorem nondep_eq {i : Nat} {o : Oper} (hi : ops[i]? = some o) (hr : readerOp cfg f o = true) (hd : depA ops i fr = false) (s : St) :
    (evOp C P cfg f o fr s).map (·.1) = (evOp C P cfg f o fr σ).map (·.1) := by
  obtain ⟨dst, op, ty, pos, after, guard⟩ := o
  have one : ∀ {α : Type} {x y : Option α} {g g' : α → AV × Fr × St}, x = y → (∀ a, (g a).1 = (g' a).1) → (x.map g).map (·.1) = (y.map g').map (·.1) := by
    intro α x y g g' e hg
    subst e
    cases x with
    | none => rfl
    | some a => simp [hg]
  simp only [depA, hi] at hd
  cases op with
  | move x =>
    simp only [readerOp, Bool.and_eq_true, Bool.not_eq_true'] at hr
    simp only [evOp, hr.1.1, hr.1.2, hr.2, Bool.false_eq_true, if_false]
    rfl
  | load t x =>
    simp only [readerOp, Bool.not_eq_true'] at hr
    dsimp only at hd
    split at hd
    case h_2 => cases hd
    rename_i cs hs
    simp only [evOp, hr, hs]
    simp only [load]
    split
    · split
      · rfl
      · simp only [readCells]
        split <;> rfl
    · simp only [readCells]
      split
      · rename_i u he
        split at he
        · simp only [Option.some.injEq] at he
          rename_i hl
          simp only [hl, if_true, he, Option.map_some]
        · cases he
      · rename_i he
        by_cases hl : 1 ≤ cs.length
        · simp only [hl, if_true] at he ⊢
        · simp only [hl, if_false]
    · rfl
  | pick c x y =>
    simp only [evOp]
    split <;> rfl
  | nilCheck x =>
    simp only [evOp]
    split <;> rfl
  | convert a b x =>
    dsimp only at hd
    split at hd
    · cases hd
    · rename_i hs
      simp only [evOp]
      refine one ?_ fun _ => rfl
      simp only [convert]
      split <;> first | rfl | skip
      split
      · rw [elems_free (σ := σ) s fun r o l c => hs r o l c]
      · rfl
  | lookup t x ix ok => simp at hd
  | call c =>
    simp only [readerOp] at hr
    split at hr
    · rename_i hcal
      simp only [evOp, hcal]
      refine one ?_ fun _ => rfl
      split
      · rename_i t x ht hx
        have ha : c.args[0]? = some x := by rw [← Array.getElem?_toList, hx]; rfl
        simp only [ha] at hd
        split at hd
        · cases hd
        · rename_i hs
          congr 1
          unfold lenOf
          split <;> first | rfl | skip
          all_goals (rename_i h1 h2 h3; exact (hs _ ‹_›).elim)
      · rfl
    · rename_i hcal
      simp only [evOp, hcal]
      exact one rfl fun _ => rfl
    · cases hr
  | binOp | unOp | fieldAddr | field | indexAddr | index | extract | slice | makeFunc | build | buildSlice =>
    simp only [evOp]
    exact one rfl fun _ => rfl
  | _ => simp [readerOp] at hr
end
end Go.AM
