import Derived.Test.YthbiajoionockaaAm5
/-! Lists: made anew, grown in place, shared. -/
namespace Go.AM
open Go
set_option linter.unusedVariables false

section
variable {g g' g'' : G} {w w' w'' : World} {ow ow' : Own} {M M' : Nat → Nat → Prop} {σ σ' : St} {fr : Fr} {tm : Array Value}

abbrev G.less (g : G) (X : Nat → Nat → Prop) : G := { g with wr := fun b o => g.wr b o ∧ ¬ X b o }

theorem Tr.less (X : Nat → Nat → Prop) : Tr M g w (g.less X) w :=
  ⟨Nat.le_refl _, fun _ _ _ => rfl, fun _ _ _ _ => rfl, fun _ _ v h => ⟨v, h⟩, fun _ _ _ => rfl, fun _ _ h => .inl h.1, fun _ _ h => h, fun _ _ h => h, ⟨rfl, rfl, rfl⟩⟩

theorem Rel.less (r : Rel g w ow fr tm σ) {X : Nat → Nat → Prop} (hb : ∀ b o, X b o → ¬ g.isBox b) (ho : ∀ p b o, ow p b o → ¬ X b o) : Rel (g.less X) w ow fr tm σ where
  ss := r.ss.still (Tr.less X) (fun b o h => r.ss.lt b o h.1) rfl rfl (fun b o h1 h2 => ⟨h2, fun h => hb _ _ h h1⟩) (fun _ _ _ _ h => h) (fun _ _ _ _ h => h)
  own := ⟨fun p b o h => ⟨r.own.wr _ _ _ h, ho _ _ _ h⟩, r.own.box, r.own.one⟩
  sf := r.sf.later (Tr.less (M := Nought) X) (fun _ _ h => h.elim) (fun _ _ _ _ h => h) (fun _ _ _ h => h)

theorem Free.less {ro ro' : Nat → Nat → Prop} {X : Nat → Nat → Prop} (f : Free g ow ro) (h : ∀ b o, ro' b o → ro b o ∧ ¬ X b o) : Free (g.less X) ow ro' :=
  ⟨fun b o hr => ⟨f.wr _ _ (h _ _ hr).1, (h _ _ hr).2⟩, fun b o hr => f.box _ _ (h _ _ hr).1, fun p b o hp hr => f.apart p b o hp (h _ _ hr).1⟩

theorem May.less {X : Nat → Nat → Prop} {b o : Nat} (h : May (g.less X) ow b o) : May g ow b o := by
  rcases h with ⟨h1, h2⟩ | h
  · exact .inl ⟨h1, h2.1⟩
  · exact .inr h

/-- A list that nobody else sees becomes one that others may share. -/
theorem Uniq.calm (r : Rel g w ow fr tm σ) {ro : Nat → Nat → Prop} {sz : Nat} {es : List AV} {v : Value} (h : PV g w ro (.list .uniq sz es) v) (f : Free g ow ro) :
    ∃ X ro', Rel (g.less X) w ow fr tm σ ∧ PV (g.less X) w ro' (.list .own sz es) v ∧ Free (g.less X) ow ro' ∧ (∀ b o, ro' b o → ro b o) ∧ (∀ b o, X b o → ro b o) := by
  obtain ⟨a, cap, xs, u⟩ := h
  let X : Nat → Nat → Prop := fun b o => b = a.block ∧ a.off ≤ o ∧ o < a.off + es.length * sz
  have hX : ∀ b o, X b o → ro b o := fun b o h => by
    obtain ⟨rfl, h1, h2⟩ := h
    have := (u.spare (o - a.off) (Nat.zero_le _) (Nat.lt_of_lt_of_le (by omega) (Nat.mul_le_mul_right sz u.le))).1
    rwa [show a.off + (o - a.off) = o by omega] at this
  let ro' : Nat → Nat → Prop := fun b o => ro b o ∧ ¬ X b o
  refine ⟨X, ro', r.less (fun b o h => f.box _ _ (hX _ _ h)) (fun p b o h hx => f.apart _ _ _ h (hX _ _ hx)), ⟨?_, a, es.length, cap, u.val, ?_⟩, f.less fun b o h => h, fun b o h => h.1, hX⟩
  · rw [u.val]
    refine .list (.inl rfl) rfl u.le u.pos u.spot u.elems u.low (u.vl.later ((Tr.less (M := Nought) X).later fun _ _ h => h.elim)) (fun i v hi => ⟨u.cell i v hi, fun hw => hw.2 ⟨rfl, by omega, ?_⟩⟩) .nil
    have := (List.getElem?_eq_some_iff.1 hi).1
    rw [u.len] at this; omega
  · intro j h1 h2
    obtain ⟨h3, h4⟩ := u.spare j (Nat.zero_le _) h2
    exact ⟨⟨h3, fun hx => by have := hx.2.2; omega⟩, h4⟩

theorem elems_length {sz : Nat} : ∀ {es : List AV}, (∀ e ∈ es, e.cells.length = sz) → (es.flatMap AV.cells).length = es.length * sz
  | [], _ => by simp
  | e :: l, h => by rw [List.flatMap_cons, List.length_append, elems_length fun e he => h e (by simp [he]), h e (by simp), List.length_cons, Nat.add_mul, Nat.one_mul, Nat.add_comm]

/-- A new array for a list. -/
theorem Rel.fresh (r : Rel g w ow fr tm σ) {sz cap : Nat} {es : List AV} {xs rest : List Value} {E : TypeId} {fz : Nat × Nat} (hsz : 0 < sz) (he : Elems sz es) (hlow : AV.under.go 0 es = true) (hv : VL g w (es.flatMap AV.cells) xs)
    (hcap : es.length ≤ cap) (hl : (xs ++ rest).length = cap * sz) (hfz : ∀ o, o < cap * sz → ¬ (fz.1 ≤ o ∧ o < fz.2)) (hw : w'.heap = w.heap.push (.cells (xs ++ rest).toArray E fz)) (henv : SameEnv w w' := by exact ⟨rfl, rfl, rfl⟩) :
    ∃ wr' ro, Rel { g with wr := wr' } w' ow fr tm σ ∧ Tr Nought g w { g with wr := wr' } w' ∧ Free { g with wr := wr' } ow ro ∧ (∀ b o, ro b o → b = w.heap.size) ∧ (∀ b o, wr' b o → g.wr b o ∨ b = w.heap.size) ∧ (∀ b o, g.wr b o → wr' b o) ∧
      PV { g with wr := wr' } w' ro (.list .uniq sz es) (.slice (some ⟨w.heap.size, 0, none⟩) es.length cap) := by
  have hnew : w'.heap[w.heap.size]? = some (.cells (xs ++ rest).toArray E fz) := by rw [hw]; simp
  have hne : ∀ {b : Nat}, g.isBox b → b ≠ w.heap.size := fun hb e => by have := G.isBox_lt r.ss hb; omega
  have hown : ∀ p b o, ow p b o → b < w.heap.size := fun p b o h => r.ss.lt _ _ (r.own.wr _ _ _ h)
  have t : Tr Nought g w { g with wr := fun b o => g.wr b o ∨ b = w.heap.size ∧ o < cap * sz } w' := Tr.new hw (fun _ _ h => h) (fun _ _ h => h) henv
  refine ⟨fun b o => g.wr b o ∨ b = w.heap.size ∧ o < cap * sz, fun b o => b = w.heap.size ∧ o < cap * sz, ⟨?_, ?_, ?_⟩, t, ⟨fun b o h => .inr h, ?_, ?_⟩, fun b o h => h.1, fun b o h => h.imp id And.left, fun b o h => .inl h, ⟨w.heap.size, 0, none⟩, cap, xs, ?_⟩
  · refine r.ss.still t (fun b o h => ?_) rfl rfl (fun b o _ h => .inl h) (fun _ _ _ _ h => h) (fun _ _ _ _ h => h)
    rcases h with h | h
    · exact t.lt (r.ss.lt _ _ h)
    · rw [hw, h.1]; simp
  · exact ⟨fun p b o h => .inl (r.own.wr _ _ _ h), r.own.box, r.own.one⟩
  · exact r.sf.later t (fun _ _ h => h.elim) (fun _ _ _ _ h => h) fun _ _ _ h => h
  · intro b o h hb; exact hne hb h.1
  · intro p b o h h'; have := hown _ _ _ h; have := h'.1; omega
  · have hxl : xs.length = es.length * sz := by rw [hv.length, elems_length fun e h => (he e h).1]
    refine ⟨rfl, hcap, hsz, rfl, he, hlow, hv.later (t.later fun _ _ h => h.elim), fun i v hi => ?_, fun j _ hj => ⟨⟨rfl, by simpa using hj⟩, ?_, ?_⟩, rfl, by rw [hw]; simp, fun x hx => hx.resolve_left fun h => by have := r.ss.lt _ _ h; simp at this⟩
    · simp only [World.cell?, hnew]
      have := (List.getElem?_eq_some_iff.1 hi).1
      simp [List.getElem?_append_left this, hi]
    · have : j < (xs ++ rest).length := by omega
      exact ⟨_, by simp only [World.cell?, hnew]; simp; exact List.getElem?_eq_getElem this⟩
    · simp only [World.frozen?, hnew]
      have := hfz j hj
      simpa using this

/-- Free cells are written: nothing else knows. -/
theorem Rel.touch (r : Rel g w ow fr tm σ) {ro : Nat → Nat → Prop} (f : Free g ow ro) (t : Tr M g w g w') (hM : ∀ b o, M b o → ro b o) : Rel g w' ow fr tm σ where
  own := r.own
  sf := r.sf.later t (fun b o h => f.wr _ _ (hM _ _ h)) (fun i b o h h' => f.apart _ _ _ h (hM _ _ h')) fun _ _ _ h => h
  ss := {
    slen := r.ss.slen
    hlen := r.ss.hlen
    nodup := r.ss.nodup
    lt := fun b o h => t.lt (r.ss.lt _ _ h)
    stk := fun n cs hn => by
      obtain ⟨h0, b, xs, E, fz, h1, h2⟩ := r.ss.stk n cs hn
      exact ⟨h0, b, xs, E, fz, h1, h2.later t (fun b o h => f.wr _ _ (hM _ _ h)) (fun o h => f.box _ _ (hM _ _ h) (.inl (List.mem_of_getElem? h1))) (fun i b x h h' => f.apart _ _ _ h (hM _ _ h')) (fun _ _ _ h => h) fun _ h => h⟩
    heap := fun n cs hn => by
      obtain ⟨h0, b, xs, E, fz, h1, h2⟩ := r.ss.heap n cs hn
      exact ⟨h0, b, xs, E, fz, h1, h2.later t (fun b o h => f.wr _ _ (hM _ _ h)) (fun o h => f.box _ _ (hM _ _ h) (.inr (List.mem_of_getElem? h1))) (fun i b x h h' => f.apart _ _ _ h (hM _ _ h')) (fun _ _ _ h => h) fun _ h => h⟩
    maps := fun n es c hn => by
      obtain ⟨b, xs, h1, h2⟩ := r.ss.maps n es c hn
      exact ⟨b, xs, h1, h2.later t (fun b o h => f.wr _ _ (hM _ _ h)) (fun o h => f.box _ _ (hM _ _ h) (.inr (List.mem_of_getElem? h1))) fun _ h => h⟩
    loops := fun n l hn => by
      obtain ⟨b, q, h1, h2⟩ := r.ss.loops n l hn
      exact ⟨b, q, h1, h2.later t (fun b o h => f.wr _ _ (hM _ _ h)) (fun o h => f.box _ _ (hM _ _ h) (.inr (List.mem_of_getElem? h1))) fun _ h => h⟩
    dead := fun n hn => by
      obtain ⟨b, h1, h2⟩ := r.ss.dead n hn
      exact ⟨b, h1, t.lt h2⟩ }

theorem Lies.app {a : Addr} {xs ys : List Value} (h : Lies g w a xs) (h' : ∀ (i : Nat) (v : Value), ys[i]? = some v → w.cell? ⟨a.block, a.off + (xs.length + i), none⟩ = some v ∧ ¬ g.wr a.block (a.off + (xs.length + i))) : Lies g w a (xs ++ ys) := by
  intro i v hi
  by_cases e : i < xs.length
  · rw [List.getElem?_append_left e] at hi; exact h i v hi
  · rw [List.getElem?_append_right (Nat.le_of_not_lt e)] at hi
    have := h' _ _ hi
    rwa [show xs.length + (i - xs.length) = i by omega] at this

theorem Elems.app {sz : Nat} {es is : List AV} (h : Elems sz es) (h' : Elems sz is) : Elems sz (es ++ is) := fun e he => by
  rcases List.mem_append.1 he with he | he
  · exact h e he
  · exact h' e he

/-- More elements, in the room that there is. -/
theorem Rel.grow (r : Rel g w ow fr tm σ) {ro : Nat → Nat → Prop} {sz n cap : Nat} {es items : List AV} {fl : Fl} {news : List Value} {a : Addr} (hfl : fl = .own ∨ fl = .uniq) (h : PV g w ro (.list fl sz es) (.slice (some a) n cap)) (f : Free g ow ro)
    (he : Elems sz items) (hlow : AV.under.go 0 items = true) (hv : VL g w (items.flatMap AV.cells) news) (hcap : n + items.length ≤ cap) :
    n = es.length ∧ a.spot = none ∧ 0 < sz ∧ news.length = items.length * sz ∧
    (∀ j, j < news.length → (w.cell? ⟨a.block, a.off + n * sz + j, none⟩).isSome = true) ∧ (∀ j, j < news.length → w.frozen? ⟨a.block, a.off + n * sz + j, none⟩ = false) ∧
    ∃ X ro', Rel (g.less X) (w.setCells a.block (a.off + n * sz) news) ow fr tm σ ∧ Tr ro g w (g.less X) (w.setCells a.block (a.off + n * sz) news) ∧ Free (g.less X) ow ro' ∧ (∀ b o, ro' b o → ro b o) ∧ (∀ b o, X b o → ro b o) ∧
      PV (g.less X) (w.setCells a.block (a.off + n * sz) news) ro' (.list fl sz (es ++ items)) (.slice (some a) (n + items.length) cap) := by
  have hnl : news.length = items.length * sz := by rw [hv.length, elems_length fun e h => (he e h).1]
  have hmul : (n + items.length) * sz ≤ cap * sz := Nat.mul_le_mul_right _ hcap
  rw [Nat.add_mul] at hmul
  -- what both ways share
  have main : ∀ (hs : Spare w ro a (n * sz) (cap * sz)),
      (∀ j, j < news.length → (w.cell? ⟨a.block, a.off + n * sz + j, none⟩).isSome = true) ∧ (∀ j, j < news.length → w.frozen? ⟨a.block, a.off + n * sz + j, none⟩ = false) ∧
      Tr (fun b' o => b' = a.block ∧ a.off + n * sz ≤ o ∧ o < a.off + n * sz + news.length) g w g (w.setCells a.block (a.off + n * sz) news) ∧
      (∀ b' o, (b' = a.block ∧ a.off + n * sz ≤ o ∧ o < a.off + n * sz + news.length) → ro b' o) := by
    intro hs
    have hj : ∀ j, j < news.length → ro a.block (a.off + n * sz + j) ∧ (∃ v, w.cell? ⟨a.block, a.off + n * sz + j, none⟩ = some v) ∧ w.frozen? ⟨a.block, a.off + n * sz + j, none⟩ = false := fun j hj => by
      have := hs (n * sz + j) (by omega) (by omega)
      rwa [← Nat.add_assoc] at this
    have hc : ∀ j, j < news.length → (w.cell? ⟨a.block, a.off + n * sz + j, none⟩).isSome = true := fun j h => by obtain ⟨v, hv⟩ := (hj j h).2.1; rw [hv]; rfl
    have hf := fun j h => (hj j h).2.2
    refine ⟨hc, hf, Tr.setCells hc hf, fun b' o h => ?_⟩
    obtain ⟨rfl, h1, h2⟩ := h
    have := (hj (o - (a.off + n * sz)) (by omega)).1
    rwa [show a.off + n * sz + (o - (a.off + n * sz)) = o by omega] at this
  have hin : ∀ (hc : ∀ j, j < news.length → (w.cell? ⟨a.block, a.off + n * sz + j, none⟩).isSome = true) (i : Nat) (v : Value), news[i]? = some v → (w.setCells a.block (a.off + n * sz) news).cell? ⟨a.block, a.off + n * sz + i, none⟩ = some v := by
    intro hc i v hi
    obtain ⟨hl, rfl⟩ := List.getElem?_eq_some_iff.1 hi
    exact World.cell?_setCells_in _ news _ w hc i hl
  rcases hfl with rfl | rfl
  · obtain ⟨hV, a', len, cap', heq, hs⟩ := h
    injection heq with h1 h2 h3
    injection h1 with h1; subst h1; subst h2; subst h3
    cases hV with
    | @list _ _ _ _ _ _ xs _ _ h1 h2 h3 h4 h5 h6 h7 h8 h9 _ =>
    obtain ⟨hc, hf, t, hM⟩ := main hs
    let X : Nat → Nat → Prop := fun b' o => b' = a.block ∧ a.off + n * sz ≤ o ∧ o < a.off + n * sz + news.length
    have r1 := r.touch f t hM
    have r2 := r1.less (X := X) (fun b o h => f.box _ _ (hM _ _ h)) (fun p b o h h' => f.apart _ _ _ h (hM _ _ h'))
    have t2 : Tr X g w (g.less X) (w.setCells a.block (a.off + n * sz) news) := t.trans (Tr.less (M := X) X) fun b o h => .inl h
    have L := t2.later fun b o h => f.wr _ _ (hM _ _ h)
    have hxl : xs.length = n * sz := by rw [h8.length, elems_length fun e h => (h6 e h).1, h2]
    refine ⟨h2, h5, h4, hnl, hc, hf, X, fun b o => ro b o ∧ ¬ X b o, r2, t2.weaken hM, f.less fun b o h => h, fun b o h => h.1, hM, ?_, a, n + items.length, cap, rfl, ?_⟩
    · refine .list (xs := xs ++ news) (.inl rfl) (by rw [List.length_append, ← h2]) hcap h4 h5 (h6.app he) (by rw [under_app, h7, hlow]; rfl) (by rw [List.flatMap_append]; exact (h8.later L).app (hv.later L)) ((h9.later L).app fun i v hi => ?_) .nil
      rw [hxl, ← Nat.add_assoc]
      exact ⟨hin hc i v hi, fun hw => hw.2 ⟨rfl, by omega, by have := (List.getElem?_eq_some_iff.1 hi).1; omega⟩⟩
    · intro j hj1 hj2
      rw [Nat.add_mul] at hj1
      obtain ⟨g1, ⟨v, g2⟩, g3⟩ := hs j (by omega) hj2
      obtain ⟨v', g4⟩ := t.live _ _ _ g2
      exact ⟨⟨g1, fun hx => by have := hx.2.2; omega⟩, ⟨v', g4⟩, by rw [t.froz _ _ (cell_lt g2)]; exact g3⟩
  · obtain ⟨a', cap', xs, u⟩ := h
    have heq := u.val
    injection heq with h1 h2 h3
    injection h1 with h1; subst h1; subst h3
    have hs : Spare w ro a (n * sz) (cap * sz) := fun j h1 h2 => u.spare j (Nat.zero_le _) h2
    obtain ⟨hc, hf, t, hM⟩ := main hs
    let X : Nat → Nat → Prop := fun _ _ => False
    have r2 := (r.touch f t hM).less (X := X) (fun b o h => h.elim) (fun p b o h h' => h')
    have t2 : Tr ro g w (g.less X) (w.setCells a.block (a.off + n * sz) news) := (t.weaken hM).trans (Tr.less (M := Nought) X) fun b o h => h.elim
    have L := t2.later fun b o h => f.wr _ _ h
    have hxl : xs.length = n * sz := by rw [u.len, h2]
    refine ⟨h2, u.spot, u.pos, hnl, hc, hf, X, ro, r2, t2, f.less fun b o h => ⟨h, fun h => h⟩, fun b o h => h, fun b o h => h.elim, a, cap, xs ++ news, by rw [List.length_append, h2], by rw [List.length_append, ← h2]; exact hcap, u.pos, u.spot, u.elems.app he, by rw [under_app, u.low, hlow]; rfl, by rw [List.flatMap_append]; exact (u.vl.later L).app (hv.later L), ?_, ?_, ?_, ?_, ?_⟩
    · intro i v hi
      by_cases e : i < xs.length
      · rw [List.getElem?_append_left e] at hi
        rw [t.cell _ _ (cell_lt (u.cell i v hi)) (fun h => by have := h.2.1; omega)]
        exact u.cell i v hi
      · rw [List.getElem?_append_right (Nat.le_of_not_lt e)] at hi
        have := hin hc _ _ hi
        rwa [show a.off + n * sz + (i - xs.length) = a.off + i by omega] at this
    · exact u.spare.later t
    · exact u.off
    · exact Nat.lt_of_lt_of_le u.lt t.size
    · exact fun x hx => u.all x hx.1
end
end Go.AM
