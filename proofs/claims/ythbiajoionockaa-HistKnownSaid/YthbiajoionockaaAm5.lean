import Derived.Test.YthbiajoionockaaAm4
/-! A new box; a store. -/
namespace Go.AM
open Go
set_option linter.unusedVariables false

theorem setCell_heap_ne (w : World) (b o : Nat) (v : Value) {b' : Nat} (h : b' ≠ b) : (w.setCell ⟨b, o, none⟩ v).heap[b']? = w.heap[b']? := by
  simp [World.setCell, Array.getElem?_modify, Ne.symm h]

theorem setCell_heap (w : World) (b o : Nat) (v : Value) {xs : Array Value} {E : TypeId} {fz : Nat × Nat} (h : w.heap[b]? = some (.cells xs E fz)) :
    (w.setCell ⟨b, o, none⟩ v).heap[b]? = some (.cells (xs.setIfInBounds o v) E fz) := by
  simp [World.setCell, Array.getElem?_modify, h]

theorem setCell_size (w : World) (a : Addr) (v : Value) : (w.setCell a v).heap.size = w.heap.size := by simp [World.setCell]

theorem setCells_ne (b : Nat) : ∀ (vs : List Value) (o : Nat) (w : World) {b' : Nat}, b' ≠ b → (w.setCells b o vs).heap[b']? = w.heap[b']?
  | [], _, _, _, _ => rfl
  | v :: r, o, w, b', h => by rw [World.setCells, setCells_ne b r (o + 1) _ h, setCell_heap_ne w b o v h]

theorem setCells_size (b : Nat) : ∀ (vs : List Value) (o : Nat) (w : World), (w.setCells b o vs).heap.size = w.heap.size
  | [], _, _ => rfl
  | v :: r, o, w => by rw [World.setCells, setCells_size b r (o + 1), setCell_size]

theorem setCells_heap (b : Nat) : ∀ (vs : List Value) (o : Nat) (w : World) {xs : Array Value} {E : TypeId} {fz : Nat × Nat}, w.heap[b]? = some (.cells xs E fz) → o + vs.length ≤ xs.size →
    ∃ xs', (w.setCells b o vs).heap[b]? = some (.cells xs' E fz) ∧ xs'.size = xs.size ∧ ∀ (i : Nat), xs'[i]? = if o ≤ i ∧ i < o + vs.length then vs[i - o]? else xs[i]?
  | [], o, w, xs, E, fz, h, _ => ⟨xs, h, rfl, fun i => by simp; intro h1 h2; omega⟩
  | v :: r, o, w, xs, E, fz, h, hl => by
    simp only [List.length_cons] at hl
    obtain ⟨xs', h1, h2, h3⟩ := setCells_heap b r (o + 1) (w.setCell ⟨b, o, none⟩ v) (setCell_heap w b o v h) (by simp; omega)
    refine ⟨xs', h1, by simpa using h2, fun i => ?_⟩
    rw [h3 i]
    by_cases e : i = o
    · subst e
      rw [if_neg (by omega), if_pos (by simp), Nat.sub_self, Array.getElem?_setIfInBounds_self_of_lt (by omega)]; rfl
    · by_cases h4 : o + 1 ≤ i ∧ i < o + 1 + r.length
      · rw [if_pos h4, if_pos (by simp only [List.length_cons]; omega), show i - o = (i - (o + 1)) + 1 by omega, List.getElem?_cons_succ]
      · rw [if_neg h4, if_neg (by simp only [List.length_cons]; omega), Array.getElem?_setIfInBounds_ne (Ne.symm e)]

theorem setCells_env (b : Nat) : ∀ (vs : List Value) (o : Nat) (w : World), SameEnv w (w.setCells b o vs)
  | [], o, w => ⟨rfl, rfl, rfl⟩
  | v :: vs, o, w => by
    have := setCells_env b vs (o + 1) (w.setCell ⟨b, o, none⟩ v)
    exact ⟨this.1, this.2.1, this.2.2⟩

theorem splice_get (cs : List AV) (off : Nat) (vs : List AV) (h : off + vs.length ≤ cs.length) (i : Nat) : (splice cs off vs)[i]? = if off ≤ i ∧ i < off + vs.length then vs[i - off]? else cs[i]? := by
  have gen : (cs.take off ++ vs ++ cs.drop (off + vs.length))[i]? = if off ≤ i ∧ i < off + vs.length then vs[i - off]? else cs[i]? := by
    have ht : (cs.take off).length = off := by rw [List.length_take]; omega
    rw [List.append_assoc]
    by_cases h1 : i < off
    · rw [List.getElem?_append_left (by omega), if_neg (by omega), List.getElem?_take_of_lt h1]
    · rw [List.getElem?_append_right (by omega), ht]
      by_cases h2 : i < off + vs.length
      · rw [if_pos (by omega), List.getElem?_append_left (by omega)]
      · rw [if_neg (by omega), List.getElem?_append_right (by omega), List.getElem?_drop]
        congr 1; omega
  unfold splice
  split
  · rename_i v
    simp only [List.length_singleton] at h ⊢
    by_cases e : i = off
    · subst e; rw [List.getElem?_set_self (by omega), if_pos (by omega)]; simp
    · rw [List.getElem?_set_ne (Ne.symm e), if_neg (by omega)]
  · exact gen

theorem splice_length (cs : List AV) (off : Nat) (vs : List AV) (h : off + vs.length ≤ cs.length) : (splice cs off vs).length = cs.length := by
  unfold splice
  split
  · simp
  · simp; omega

theorem under_splice {n : Nat} {cs vs : List AV} {off : Nat} (h : off + vs.length ≤ cs.length) (h1 : AV.under.go n cs = true) (h2 : AV.under.go n vs = true) : AV.under.go n (splice cs off vs) = true := by
  rw [under_mem] at *
  intro a ha
  obtain ⟨i, hi⟩ := List.getElem?_of_mem ha
  rw [splice_get _ _ _ h] at hi
  split at hi
  · exact h2 a (List.mem_of_getElem? hi)
  · exact h1 a (List.mem_of_getElem? hi)

section
variable {g g' g'' : G} {w w' w'' : World} {ow ow' : Own} {M M' : Nat → Nat → Prop} {σ σ' : St} {fr : Fr} {tm : Array Value}

/-- What cells hold: the first of them may own. -/
def Cells (g : G) (w : World) (ro : Nat → Nat → Prop) (cs : List AV) (vs : List Value) : Prop :=
  vs.length = cs.length ∧ ∀ (i : Nat) (a : AV), cs[i]? = some a → ∃ v, vs[i]? = some v ∧ PV g w (if i = 0 then ro else Nobody) a v ∧ a.isCell = true

theorem Cells.one {ro : Nat → Nat → Prop} {x : AV} {v : Value} (h : PV g w ro x v) (hc : x.isCell = true) : Cells g w ro [x] [v] := by
  refine ⟨rfl, fun i a hi => ?_⟩
  cases i with
  | zero => simp at hi; subst hi; exact ⟨v, rfl, by simpa using h, hc⟩
  | succ i => simp at hi

theorem Cells.of {ro : Nat → Nat → Prop} {cs : List AV} {vs : List Value} (h : VL g w cs vs) (hc : ∀ c ∈ cs, c.isCell = true) : Cells g w ro cs vs :=
  ⟨h.length, fun i a hi => by
    obtain ⟨v, h1, h2⟩ := h.get hi
    exact ⟨v, h1, PV.of h2, hc a (List.mem_of_getElem? hi)⟩⟩

theorem Tr.setCells {b off : Nat} {vs : List Value} (hc : ∀ j, j < vs.length → (w.cell? ⟨b, off + j, none⟩).isSome = true) (hf : ∀ j, j < vs.length → w.frozen? ⟨b, off + j, none⟩ = false) :
    Tr (fun b' o => b' = b ∧ off ≤ o ∧ o < off + vs.length) g w g (w.setCells b off vs) where
  env := setCells_env _ _ _ _
  size := by rw [setCells_size]; exact Nat.le_refl _
  obj b' hb' hm := by
    by_cases e : b' = b
    · subst e
      cases vs with
      | nil => rfl
      | cons v r => exact (hm off ⟨rfl, Nat.le_refl _, by simp⟩).elim
    · rw [setCells_ne _ _ _ _ e]
  cell b' o _ hm := World.cell?_setCells_out b vs off w _ fun h1 _ => by
    dsimp only at h1
    by_cases h2 : o < off
    · exact .inl h2
    · exact .inr (Nat.le_of_not_lt fun h3 => hm ⟨h1, Nat.le_of_not_lt h2, h3⟩)
  live b' o v hv := by
    by_cases h : b' = b ∧ off ≤ o ∧ o < off + vs.length
    · obtain ⟨rfl, h1, h2⟩ := h
      have := World.cell?_setCells_in b' vs off w hc (o - off) (by omega)
      rw [show off + (o - off) = o by omega] at this
      exact ⟨_, this⟩
    · refine ⟨v, ?_⟩
      rw [World.cell?_setCells_out b vs off w _ fun h1 _ => ?_]
      · exact hv
      · dsimp only at h1
        by_cases h2 : o < off
        · exact .inl h2
        · exact .inr (Nat.le_of_not_lt fun h3 => h ⟨h1, Nat.le_of_not_lt h2, h3⟩)
  froz b' o _ := World.frozen?_setCells b vs off w _
  wr _ _ h := .inl h
  sb _ _ h := h
  hb _ _ h := h

theorem BoxOK.cell {o : Nat → Nat → Nat → Prop} {b : Nat} {cs : List AV} {xs : Array Value} {E : TypeId} {fz : Nat × Nat} (h : BoxOK g w o b cs xs E fz) {i : Nat} (hi : i < cs.length) : (w.cell? ⟨b, i, none⟩).isSome = true ∧ w.frozen? ⟨b, i, none⟩ = false := by
  have hx : i < xs.size := Nat.lt_of_lt_of_le hi h.le
  refine ⟨by simp [World.cell?, h.obj, hx], ?_⟩
  have := (h.wr i hi).2
  simp only [World.frozen?, h.obj]
  simpa using this

theorem BoxOK.read {o : Nat → Nat → Nat → Prop} {b : Nat} {cs : List AV} {xs : Array Value} {E : TypeId} {fz : Nat × Nat} (h : BoxOK g w o b cs xs E fz) {i : Nat} {a : AV} (hi : cs[i]? = some a) : ∃ v, w.cell? ⟨b, i, none⟩ = some v ∧ PV g w (o i) a v ∧ a.isCell = true := by
  obtain ⟨v, h1, h2⟩ := h.val i a hi
  exact ⟨v, by simp [World.cell?, h.obj, h1], h2⟩

/-- A store into a box. -/
theorem Rel.write (r : Rel g w ow fr tm σ) {rf : Ref} {off b : Nat} {vs : List AV} {vals : List Value} {ro : Nat → Nat → Prop} (h : writeCells σ rf off vs = some σ') (hb : g.ref rf = some b) (hv : Cells g w ro vs vals) (f : Free g ow ro) :
    (∀ j, j < vals.length → (w.cell? ⟨b, off + j, none⟩).isSome = true) ∧ (∀ j, j < vals.length → w.frozen? ⟨b, off + j, none⟩ = false) ∧
    ∃ ow', Rel g (w.setCells b off vals) ow' fr tm σ' ∧ Tr (May g ow) g w g (w.setCells b off vals) ∧ (∀ p b o, ow' p b o → ow p b o ∨ ro b o) ∧ (∀ i, ow' (.slot i) = ow (.slot i)) := by
  unfold writeCells at h
  cases hcs : boxOf σ rf with
  | none => simp [hcs] at h
  | some cs =>
    simp only [hcs, Option.bind_some, Bool.and_eq_true, decide_eq_true_eq] at h
    split at h
    case isFalse => cases h
    rename_i hcond
    obtain ⟨hle, hmay⟩ := hcond
    injection h with h; subst h
    obtain ⟨hu, b', xs, E, fz, hr, hbox⟩ := r.ss.box hcs
    rw [hb] at hr; injection hr with hr; subst hr
    have hvl : vals.length = vs.length := hv.1
    have hc : ∀ j, j < vals.length → (w.cell? ⟨b, off + j, none⟩).isSome = true := fun j hj => (hbox.cell (by omega)).1
    have hf : ∀ j, j < vals.length → w.frozen? ⟨b, off + j, none⟩ = false := fun j hj => (hbox.cell (by omega)).2
    have hisb : g.isBox b := G.ref_isBox hb
    have t := Tr.setCells (g := g) hc hf
    have hMw : ∀ b' o, (b' = b ∧ off ≤ o ∧ o < off + vals.length) → b' = b ∧ g.wr b' o := fun b' o h => by
      obtain ⟨rfl, h1, h2⟩ := h
      exact ⟨rfl, (hbox.wr o (by omega)).1⟩
    have hMown : ∀ p b' o, ow p b' o → ¬ (b' = b ∧ off ≤ o ∧ o < off + vals.length) := fun p b' o ho h => r.own.box _ _ _ ho (h.1 ▸ hisb)
    by_cases hnil : vs = []
    · subst hnil
      have hv0 : vals = [] := List.length_eq_zero_iff.1 (by simpa using hvl)
      subst hv0
      have he : setBox σ rf (splice cs off []) = σ := by
        have h0 : splice cs off [] = cs := by simp [splice]
        rw [h0]
        cases rf with
        | stk n =>
          simp only [boxOf] at hcs
          obtain ⟨hl, rfl⟩ := List.getElem?_eq_some_iff.1 hcs
          simp [setBox]
        | heap n =>
          simp only [boxOf] at hcs
          split at hcs
          · rename_i cs' hn
            injection hcs with hcs; subst hcs
            obtain ⟨hl, hn⟩ := List.getElem?_eq_some_iff.1 hn
            simp [setBox, ← hn]
          · cases hcs
      rw [he]
      exact ⟨hc, hf, ow, r, Tr.refl _ _ _, fun _ _ _ h => .inl h, fun _ => rfl⟩
    refine ⟨hc, hf, ow.set (rf.pl off) ro, ⟨?_, r.own.set f, ?_⟩, ?_, ?_, ?_⟩
    · obtain ⟨xs', h1, h2, h3⟩ := setCells_heap b vals off w hbox.obj (by have := hbox.le; omega)
      refine r.ss.setBox (xs' := xs') (E' := E) (fz' := fz) r.own hcs hb t hMw (by rw [setCells_size]; exact r.ss.lt) rfl rfl (fun _ _ _ _ h => h) (under_splice hle hu (by cases rf <;> exact hmay)) ⟨h1, by rw [splice_length _ _ _ hle, h2]; exact hbox.le, ?_, ?_⟩ ?_
      · intro i a hi
        rw [splice_get _ _ _ hle] at hi
        rw [h3 i, hvl]
        by_cases hin : off ≤ i ∧ i < off + vs.length
        · rw [if_pos hin] at hi ⊢
          obtain ⟨v, hv1, hv2, hv3⟩ := hv.2 _ _ hi
          refine ⟨v, hv1, ?_, hv3⟩
          have hv2' := hv2.later t (fun b' o h => (hMw b' o h).2) (fun b' o h hm => by
            split at h
            · exact f.box _ _ h (hm.1 ▸ hisb)
            · exact h)
          refine hv2'.move fun b' o h => ?_
          split at h
          · rename_i h0
            rw [show i = off by omega, Own.set_same]; exact h
          · exact h.elim
        · rw [if_neg hin] at hi ⊢
          obtain ⟨v, hv1, hv2, hv3⟩ := hbox.val i a hi
          refine ⟨v, hv1, ?_, hv3⟩
          by_cases e : i = off
          · have : 0 < vs.length := List.length_pos_iff.2 hnil
            exact (hin (by omega)).elim
          · have hv2' := hv2.later t (fun b' o h => (hMw b' o h).2) (fun b' o h hm => hMown _ _ _ h hm)
            exact hv2'.move fun b' o h => by rw [Own.set_other _ _ (by cases rf <;> simp [Ref.pl, e])]; exact h
      · intro i hi
        rw [splice_length _ _ _ hle] at hi
        exact hbox.wr i hi
      · intro p b' x hp _ h
        rw [Own.set_other _ _ (hp off)]; exact h
    · refine r.sf.later t (fun b' o h => (hMw b' o h).2) (fun i b' o h => hMown _ _ _ h) fun i b' o h => ?_
      rw [Own.set_other _ _ (by cases rf <;> simp [Ref.pl])]; exact h
    · exact t.weaken fun b' o h => .inl ⟨(hMw _ _ h).1 ▸ hisb, (hMw _ _ h).2⟩
    · intro p b' o h
      by_cases e : p = rf.pl off
      · rw [e, Own.set_same] at h; exact .inr h
      · rw [Own.set_other _ _ e] at h; exact .inl h
    · intro i; exact Own.set_other _ _ (by cases rf <;> simp [Ref.pl])

/-- A new box. -/
theorem Rel.newBox (r : Rel g w ow fr tm σ) {hp : Bool} {rf : Ref} {cs : List AV} {vals : Array Value} {E : TypeId} {ro : Nat → Nat → Prop} (h : AM.newBox hp cs σ = some (rf, σ')) (hv : Cells g w ro cs vals.toList) (f : Free g ow ro)
    (hw : w'.heap = w.heap.push (.cells vals E)) (henv : SameEnv w w' := by exact ⟨rfl, rfl, rfl⟩) :
    ∃ g' ow', Rel g' w' ow' fr tm σ' ∧ g'.ref rf = some w.heap.size ∧ Tr Nought g w g' w' ∧ (∀ p b o, ow' p b o → ow p b o ∨ ro b o) ∧ (∀ i, ow' (.slot i) = ow (.slot i)) ∧ (∀ b, g'.isBox b → g.isBox b ∨ b = w.heap.size) ∧ (∀ b o, g.wr b o → g'.wr b o) ∧ (∀ b, b ∈ g'.hb → b ∈ g.hb ∨ b = w.heap.size) := by
  have hlt : ∀ {b : Nat}, g.isBox b → b ≠ w.heap.size := fun hb e => by have := G.isBox_lt r.ss hb; omega
  have hnew : w'.heap[w.heap.size]? = some (.cells vals E (0, 0)) := by rw [hw]; simp
  have hcl : ∀ {p : Pl} {b o : Nat}, ow p b o → ∀ {v : Value}, w.cell? ⟨b, o, none⟩ = some v → b ≠ w.heap.size := fun _ _ hc e => by have := cell_lt hc; omega
  unfold AM.newBox at h
  cases hp with
  | false =>
    simp only [Bool.false_eq_true, if_false] at h
    split at h
    case isFalse => cases h
    rename_i hu
    simp only [Option.some.injEq, Prod.mk.injEq] at h
    obtain ⟨rfl, rfl⟩ := h
    let g' : G := ⟨g.sb ++ [w.heap.size], g.hb, fun b o => g.wr b o ∨ b = w.heap.size ∧ o < cs.length⟩
    have t : Tr Nought g w g' w' := Tr.new hw (X := fun o => o < cs.length) (fun n b hn => by rw [List.getElem?_append_left (List.getElem?_eq_some_iff.1 hn).1]; exact hn) (fun _ _ h => h) henv
    have hib : ∀ b, g'.isBox b → g.isBox b ∨ b = w.heap.size := fun b hb => by
      rcases hb with hb | hb
      · rcases List.mem_append.1 hb with hb | hb
        · exact .inl (.inl hb)
        · exact .inr (by simpa using hb)
      · exact .inl (.inr hb)
    have hown : ∀ p b o, ow p b o → b < w.heap.size := fun p b o h => r.ss.lt _ _ (r.own.wr _ _ _ h)
    have hro : ∀ b o, ro b o → b < w.heap.size := fun b o h => r.ss.lt _ _ (f.wr _ _ h)
    have s' : SS g' w' (ow.set (.stk σ.stk.length 0) ro) { σ with stk := σ.stk ++ [cs] } := {
      slen := by simp [g', r.ss.slen]
      hlen := r.ss.hlen
      nodup := by
        have h0 := r.ss.nodup
        have hn : w.heap.size ∉ g.sb ++ g.hb := fun hm => hlt (List.mem_append.1 hm) rfl
        show (g.sb ++ [w.heap.size] ++ g.hb).Nodup
        rw [List.append_assoc]
        exact (List.Perm.nodup_iff (List.perm_middle (l₁ := g.sb) (l₂ := g.hb) (a := w.heap.size))).2 (List.nodup_cons.2 ⟨hn, h0⟩)
      lt := fun b o h => by
        rcases h with h | h
        · exact t.lt (r.ss.lt _ _ h)
        · rw [hw, h.1]; simp
      stk := fun n c hn => by
        by_cases e : n < σ.stk.length
        · rw [List.getElem?_append_left e] at hn
          obtain ⟨h0, b, xs, E, fz, h1, h2⟩ := r.ss.stk n c hn
          refine ⟨h0, b, xs, E, fz, t.sb _ _ h1, h2.still t (fun i b x h => ?_) fun o h => .inl h⟩
          rw [Own.set_other _ _ (by simp; omega)]; exact h
        · have e' : n = σ.stk.length := by
            have := (List.getElem?_eq_some_iff.1 hn).1
            simp at this; omega
          subst e'
          rw [List.getElem?_append_right (Nat.le_refl _)] at hn
          simp at hn; subst hn
          refine ⟨hu, w.heap.size, vals, E, (0, 0), by simp [g', ← r.ss.slen], hnew, ?_, fun i a hi => ?_, fun i hi => ⟨.inr ⟨rfl, hi⟩, by simp⟩⟩
          · rw [← hv.1]; simp
          · obtain ⟨v, h1, h2, h3⟩ := hv.2 i a hi
            refine ⟨v, by simpa using h1, (h2.later t (fun _ _ h => h.elim) (fun _ _ _ h => h)).move fun b x h => ?_, h3⟩
            split at h
            · rename_i h0; subst h0; rw [Own.set_same]; exact h
            · exact h.elim
      heap := fun n c hn => by
        obtain ⟨h0, b, xs, E, fz, h1, h2⟩ := r.ss.heap n c hn
        refine ⟨h0, b, xs, E, fz, h1, h2.still t (fun i b x h => ?_) fun o h => .inl h⟩
        rw [Own.set_other _ _ (by simp)]; exact h
      maps := fun n es c hn => by
        obtain ⟨b, xs, h1, h2⟩ := r.ss.maps n es c hn
        exact ⟨b, xs, h1, h2.still t fun o h => .inl h⟩
      loops := fun n l hn => by
        obtain ⟨b, q, h1, h2⟩ := r.ss.loops n l hn
        exact ⟨b, q, h1, h2.still t fun o h => .inl h⟩
      dead := fun n hn => by
        obtain ⟨b, h1, h2⟩ := r.ss.dead n hn
        exact ⟨b, h1, t.lt h2⟩ }
    refine ⟨g', ow.set (.stk σ.stk.length 0) ro, ⟨s', ?_, ?_⟩, by simp [G.ref, g', ← r.ss.slen], t, ?_, fun i => Own.set_other _ _ (by simp), hib, fun _ _ h => .inl h, fun _ h => .inl h⟩
    · have f' : Free g' ow ro := ⟨fun b o h => .inl (f.wr _ _ h), fun b o h hb => (hib b hb).elim (f.box _ _ h) fun e => by have := hro _ _ h; omega, f.apart⟩
      have o' : OW g' ow := ⟨fun p b o h => .inl (r.own.wr _ _ _ h), fun p b o h hb => (hib b hb).elim (r.own.box _ _ _ h) fun e => by have := hown _ _ _ h; omega, r.own.one⟩
      exact o'.set f'
    · exact r.sf.later t (fun _ _ h => h.elim) (fun _ _ _ _ h => h) fun i b x h => by rw [Own.set_other _ _ (by simp)]; exact h
    · intro p b o h
      by_cases e : p = .stk σ.stk.length 0
      · rw [e, Own.set_same] at h; exact .inr h
      · rw [Own.set_other _ _ e] at h; exact .inl h
  | true =>
    simp only [if_true] at h
    split at h
    case isFalse => cases h
    rename_i hu
    simp only [Option.some.injEq, Prod.mk.injEq] at h
    obtain ⟨rfl, rfl⟩ := h
    let g' : G := ⟨g.sb, g.hb ++ [w.heap.size], fun b o => g.wr b o ∨ b = w.heap.size ∧ o < cs.length⟩
    have t : Tr Nought g w g' w' := Tr.new hw (X := fun o => o < cs.length) (fun _ _ h => h) (fun n b hn => by rw [List.getElem?_append_left (List.getElem?_eq_some_iff.1 hn).1]; exact hn) henv
    have hib : ∀ b, g'.isBox b → g.isBox b ∨ b = w.heap.size := fun b hb => by
      rcases hb with hb | hb
      · exact .inl (.inl hb)
      · rcases List.mem_append.1 hb with hb | hb
        · exact .inl (.inr hb)
        · exact .inr (by simpa using hb)
    have hown : ∀ p b o, ow p b o → b < w.heap.size := fun p b o h => r.ss.lt _ _ (r.own.wr _ _ _ h)
    have hro : ∀ b o, ro b o → b < w.heap.size := fun b o h => r.ss.lt _ _ (f.wr _ _ h)
    have s' : SS g' w' (ow.set (.heap σ.heap.length 0) ro) { σ with heap := σ.heap ++ [.cells cs] } := {
      slen := r.ss.slen
      hlen := by simp [g', r.ss.hlen]
      nodup := by
        have h0 := r.ss.nodup
        have hn : w.heap.size ∉ g.sb ++ g.hb := fun hm => hlt (List.mem_append.1 hm) rfl
        show (g.sb ++ (g.hb ++ [w.heap.size])).Nodup
        rw [← List.append_assoc, (List.perm_append_singleton _ _).nodup_iff]
        exact List.nodup_cons.2 ⟨hn, h0⟩
      lt := fun b o h => by
        rcases h with h | h
        · exact t.lt (r.ss.lt _ _ h)
        · rw [hw, h.1]; simp
      stk := fun n c hn => by
        obtain ⟨h0, b, xs, E, fz, h1, h2⟩ := r.ss.stk n c hn
        refine ⟨h0, b, xs, E, fz, h1, h2.still t (fun i b x h => ?_) fun o h => .inl h⟩
        rw [Own.set_other _ _ (by simp)]; exact h
      heap := fun n c hn => by
        by_cases e : n < σ.heap.length
        · rw [List.getElem?_append_left e] at hn
          obtain ⟨h0, b, xs, E, fz, h1, h2⟩ := r.ss.heap n c hn
          refine ⟨h0, b, xs, E, fz, t.hb _ _ h1, h2.still t (fun i b x h => ?_) fun o h => .inl h⟩
          rw [Own.set_other _ _ (by simp; omega)]; exact h
        · have e' : n = σ.heap.length := by
            have := (List.getElem?_eq_some_iff.1 hn).1
            simp at this; omega
          subst e'
          rw [List.getElem?_append_right (Nat.le_refl _)] at hn
          simp at hn; subst hn
          refine ⟨hu, w.heap.size, vals, E, (0, 0), by simp [g', ← r.ss.hlen], hnew, ?_, fun i a hi => ?_, fun i hi => ⟨.inr ⟨rfl, hi⟩, by simp⟩⟩
          · rw [← hv.1]; simp
          · obtain ⟨v, h1, h2, h3⟩ := hv.2 i a hi
            refine ⟨v, by simpa using h1, (h2.later t (fun _ _ h => h.elim) (fun _ _ _ h => h)).move fun b x h => ?_, h3⟩
            split at h
            · rename_i h0; subst h0; rw [Own.set_same]; exact h
            · exact h.elim
      maps := fun n es c hn => by
        by_cases e : n < σ.heap.length
        · rw [List.getElem?_append_left e] at hn
          obtain ⟨b, xs, h1, h2⟩ := r.ss.maps n es c hn
          exact ⟨b, xs, t.hb _ _ h1, h2.still t fun o h => .inl h⟩
        · have e' : n = σ.heap.length := by
            have := (List.getElem?_eq_some_iff.1 hn).1
            simp at this; omega
          subst e'
          rw [List.getElem?_append_right (Nat.le_refl _)] at hn
          simp at hn
      loops := fun n l hn => by
        by_cases e : n < σ.heap.length
        · rw [List.getElem?_append_left e] at hn
          obtain ⟨b, q, h1, h2⟩ := r.ss.loops n l hn
          exact ⟨b, q, t.hb _ _ h1, h2.still t fun o h => .inl h⟩
        · have e' : n = σ.heap.length := by
            have := (List.getElem?_eq_some_iff.1 hn).1
            simp at this; omega
          subst e'
          rw [List.getElem?_append_right (Nat.le_refl _)] at hn
          simp at hn
      dead := fun n hn => by
        by_cases e : n < σ.heap.length
        · rw [List.getElem?_append_left e] at hn
          obtain ⟨b, h1, h2⟩ := r.ss.dead n hn
          exact ⟨b, t.hb _ _ h1, t.lt h2⟩
        · have e' : n = σ.heap.length := by
            have := (List.getElem?_eq_some_iff.1 hn).1
            simp at this; omega
          subst e'
          rw [List.getElem?_append_right (Nat.le_refl _)] at hn
          simp at hn }
    refine ⟨g', ow.set (.heap σ.heap.length 0) ro, ⟨s', ?_, ?_⟩, by simp [G.ref, g', ← r.ss.hlen], t, ?_, fun i => Own.set_other _ _ (by simp), hib, fun _ _ h => .inl h, fun b h => (List.mem_append.1 h).imp id fun h => List.mem_singleton.1 h⟩
    · have f' : Free g' ow ro := ⟨fun b o h => .inl (f.wr _ _ h), fun b o h hb => (hib b hb).elim (f.box _ _ h) fun e => by have := hro _ _ h; omega, f.apart⟩
      have o' : OW g' ow := ⟨fun p b o h => .inl (r.own.wr _ _ _ h), fun p b o h hb => (hib b hb).elim (r.own.box _ _ _ h) fun e => by have := hown _ _ _ h; omega, r.own.one⟩
      exact o'.set f'
    · exact r.sf.later t (fun _ _ h => h.elim) (fun _ _ _ _ h => h) fun i b x h => by rw [Own.set_other _ _ (by simp)]; exact h
    · intro p b o h
      by_cases e : p = .heap σ.heap.length 0
      · rw [e, Own.set_same] at h; exact .inr h
      · rw [Own.set_other _ _ e] at h; exact .inl h
end
end Go.AM
