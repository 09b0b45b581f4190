import Derived.Test.YthbiajoionockaaAm26
/-! Loops over functions in the state; blocks that are nobody's. -/
namespace Go.AM
open Go
set_option linter.unusedVariables false
set_option linter.unusedSimpArgs false

section
variable {P : Program} {g g' g0 g1 g2 : G} {w w' w0 w1 : World} {ow ow' ow0 ow1 : Own} {σ σ' : St} {fr fr' : Fr} {tm : Array Value}

theorem putObj_get {b : Nat} {o : Obj} (h : b < w.heap.size) (b' : Nat) : (w.putObj b o).heap[b']? = if b' = b then some o else w.heap[b']? := by
  by_cases e : b' = b
  · subst e; rw [if_pos rfl, World.putObj_heap_same h]
  · rw [if_neg e, World.putObj_heap_other e]

theorem putObj_size (w : World) (b : Nat) (o : Obj) : (w.putObj b o).heap.size = w.heap.size := by simp [World.putObj]

/-- The objects without cells. -/
def NoCells (o : Obj) : Prop := ∀ c E fz, o ≠ .cells c E fz

theorem putObj_cell {b : Nat} {o o' : Obj} (h : w.heap[b]? = some o) (h1 : NoCells o) (h2 : NoCells o') (a : Addr) : (w.putObj b o').cell? a = w.cell? a := by
  have hb := (Array.getElem?_eq_some_iff.1 h).1
  unfold World.cell?
  rw [putObj_get hb]
  by_cases e : a.block = b
  · rw [if_pos e, e, h]
    cases o <;> cases o' <;> first | rfl | exact (h1 _ _ _ rfl).elim | exact (h2 _ _ _ rfl).elim
  · rw [if_neg e]

theorem putObj_frozen {b : Nat} {o o' : Obj} (h : w.heap[b]? = some o) (h1 : NoCells o) (h2 : NoCells o') (a : Addr) : (w.putObj b o').frozen? a = w.frozen? a := by
  have hb := (Array.getElem?_eq_some_iff.1 h).1
  unfold World.frozen?
  rw [putObj_get hb]
  by_cases e : a.block = b
  · rw [if_pos e, e, h]
    cases o <;> cases o' <;> first | rfl | exact (h1 _ _ _ rfl).elim | exact (h2 _ _ _ rfl).elim
  · rw [if_neg e]

theorem Tr.putObj {b : Nat} {o o' : Obj} (h : w.heap[b]? = some o) (h1 : NoCells o) (h2 : NoCells o') : Tr (fun b' i => b' = b ∧ i = 0) g w g (w.putObj b o') where
  size := by rw [putObj_size]; exact Nat.le_refl _
  obj b' hb' hm := by
    have e : b' ≠ b := fun e => hm 0 ⟨e, rfl⟩
    rw [World.putObj_heap_other e]
  cell b' i _ _ := putObj_cell h h1 h2 _
  live b' i v hv := ⟨v, by rw [putObj_cell h h1 h2]; exact hv⟩
  froz b' i _ := putObj_frozen h h1 h2 _
  wr _ _ h := .inl h
  sb _ _ h := h
  hb _ _ h := h
  env := ⟨rfl, rfl, rfl⟩

/-- Another object at a heap place: no cells before, none behind. -/
theorem Rel.setObj (r : Rel g w ow fr tm σ) {h b : Nat} {o o' : Obj} {ho : HObj} (hl : h < σ.heap.length) (hb : g.hb[h]? = some b) (hw : w.heap[b]? = some o) (h1 : NoCells o) (h2 : NoCells o') (hwr : g.wr b 0)
    (hc : ∀ cs, ho ≠ .cells cs) (hm : ∀ es c, ho ≠ .map es c) (hlp : ∀ l, ho = .loop l → ∃ q, LoopOK g (w.putObj b o') b l q) :
    Rel g (w.putObj b o') ow fr tm { σ with heap := σ.heap.set h ho } ∧ Way g w ow g (w.putObj b o') ow := by
  have hisb : g.isBox b := .inr (List.mem_of_getElem? hb)
  have t : Tr (fun b' i => b' = b ∧ i = 0) g w g (w.putObj b o') := Tr.putObj hw h1 h2
  have hMw : ∀ b' i, (b' = b ∧ i = 0) → b' = b ∧ g.wr b' i := fun b' i ⟨e1, e2⟩ => ⟨e1, by rw [e1, e2]; exact hwr⟩
  obtain ⟨n1, n2, n3⟩ := nodup_ref r.ss.nodup
  refine ⟨⟨?_, r.own, r.sf.later t (fun b' o h => (hMw b' o h).2) (fun i b' x h h' => r.own.box _ _ _ h (h'.1 ▸ hisb)) fun _ _ _ h => h⟩,
    ⟨t.weaken fun b' o h => .inl ⟨(hMw _ _ h).1 ▸ hisb, (hMw _ _ h).2⟩, fun _ _ h => .inl h, fun _ _ h => .inr h, fun _ h => .inl h⟩⟩
  refine r.ss.replace r.own hisb t hMw (fun b' o h => t.lt (r.ss.lt _ _ h)) rfl rfl (fun _ _ _ _ h => h) rfl (by simp) ?_ ?_ ?_ ?_ (fun _ _ => rfl) ?_ (fun _ _ _ _ _ h => h) (fun _ _ _ _ _ h => h)
  · intro n cs _ hmb; exact (n3 _ _ _ hmb hb).elim
  · intro n cs hn hmb
    obtain rfl := n2 _ _ _ hmb hb
    rw [List.getElem?_set_self hl] at hn
    exact (hc cs (Option.some.inj hn)).elim
  · intro n es c hn hmb
    obtain rfl := n2 _ _ _ hmb hb
    rw [List.getElem?_set_self hl] at hn
    exact (hm es c (Option.some.inj hn)).elim
  · intro n l hn hmb
    obtain rfl := n2 _ _ _ hmb hb
    rw [List.getElem?_set_self hl] at hn
    exact hlp l (Option.some.inj hn)
  · intro n hne
    have e : h ≠ n := fun e => hne (e ▸ hb)
    show (σ.heap.set h ho)[n]? = _
    rw [List.getElem?_set_ne e]

theorem noCells_loop (r : Loop) : NoCells (.loop r) := fun _ _ _ h => by cases h
theorem noCells_deferred (d : Option (List Deferred)) : NoCells (.deferred d) := fun _ _ _ h => by cases h

/-- The state of a loop turns. -/
theorem Rel.setLoop (r : Rel g w ow fr tm σ) {h b : Nat} {l l' : LoopA} {q q' : Loop} (hh : σ.heap[h]? = some (.loop l)) (hb : g.hb[h]? = some b) (hq : LoopOK g w b l q)
    (h1 : q'.params.toList = l'.params) (h2 : q'.assign = l'.assign) (h3 : q'.body = l'.body) (h4 : q'.state = loopState l') (h5 : q'.pending = l'.pending.map Ex.toCode) (h6 : l'.fr = l.fr) (h7 : q'.tmps = q.tmps) :
    Rel g (w.putObj b (.loop q')) ow fr tm (AM.setLoop σ h l') ∧ Way g w ow g (w.putObj b (.loop q')) ow := by
  refine r.setObj (ho := .loop l') (List.getElem?_eq_some_iff.1 hh).1 hb hq.obj (noCells_loop _) (noCells_loop _) hq.wr (fun _ h => by cases h) (fun _ _ h => by cases h) fun l'' e => ⟨q', ?_⟩
  injection e with e; subst e
  have hbl := (Array.getElem?_eq_some_iff.1 hq.obj).1
  have t : Tr (fun b' i => b' = b ∧ i = 0) g w g (w.putObj b (.loop q')) := Tr.putObj hq.obj (noCells_loop _) (noCells_loop _)
  exact { obj := World.putObj_heap_same hbl, params := h1, assign := h2, body := h3, state := h4, pending := h5, fr := by rw [h6, h7]; exact hq.fr.later (t.later fun b' i ⟨e1, e2⟩ => by rw [e1, e2]; exact hq.wr), low := by rw [h6]; exact hq.low, wr := hq.wr }

/-- A loop is over. -/
theorem Rel.killLoop (r : Rel g w ow fr tm σ) {h b : Nat} {l : LoopA} {q q' : Loop} (hh : σ.heap[h]? = some (.loop l)) (hb : g.hb[h]? = some b) (hq : LoopOK g w b l q) :
    Rel g (w.putObj b (.loop q')) ow fr tm { σ with heap := σ.heap.set h .dead } ∧ Way g w ow g (w.putObj b (.loop q')) ow :=
  r.setObj (ho := .dead) (List.getElem?_eq_some_iff.1 hh).1 hb hq.obj (noCells_loop _) (noCells_loop _) hq.wr (fun _ h => by cases h) (fun _ _ h => by cases h) (fun _ h => by cases h)

/-- A block that is nobody's is new. -/
theorem Rel.other_new (r : Rel g w ow fr tm σ) (o : Obj) : Rel g (w.alloc o) ow fr tm σ ∧ Way g w ow g (w.alloc o) ow := by
  have t : Tr Nought g w ⟨g.sb, g.hb, fun b i => g.wr b i ∨ b = w.heap.size ∧ False⟩ (w.alloc o) := Tr.new (ob := o) rfl (X := fun _ => False) (fun _ _ h => h) (fun _ _ h => h)
  have t' : Tr Nought g w g (w.alloc o) := ⟨t.size, t.obj, t.cell, t.live, t.froz, fun _ _ h => .inl h, t.sb, t.hb, t.env⟩
  exact ⟨⟨r.ss.still t' (fun b i h => t'.lt (r.ss.lt _ _ h)) rfl rfl (fun _ _ _ h => h) (fun _ _ _ _ h => h) (fun _ _ _ _ h => h), r.own, r.sf.later t' (fun _ _ h => h.elim) (fun _ _ _ _ h => h) fun _ _ _ h => h⟩,
    ⟨t'.weaken fun _ _ h => h.elim, fun _ _ h => .inl h, fun _ _ h => .inr h, fun _ h => .inl h⟩⟩

/-- A loop is new. -/
theorem Rel.newLoop (r : Rel g w ow fr tm σ) {l : LoopA} {q : Loop} (h1 : q.params.toList = l.params) (h2 : q.assign = l.assign) (h3 : q.body = l.body) (h4 : q.state = loopState l) (h5 : q.pending = l.pending.map Ex.toCode)
    (h6 : VL g w l.fr q.tmps.toList) (h7 : AV.under.go 0 l.fr = true) :
    ∃ g', Rel g' (w.alloc (.loop q)) ow fr tm { σ with heap := σ.heap ++ [.loop l] } ∧ Way g w ow g' (w.alloc (.loop q)) ow ∧ g'.hb[σ.heap.length]? = some w.heap.size ∧ g'.sb = g.sb ∧ (∀ b o, g'.wr b o → g.wr b o ∨ b = w.heap.size) := by
  have hnew : (w.alloc (.loop q)).heap[w.heap.size]? = some (.loop q) := by
    show (w.heap.push _)[w.heap.size]? = _
    simp
  have t : Tr Nought g w ⟨g.sb, g.hb ++ [w.heap.size], fun b o => g.wr b o ∨ b = w.heap.size ∧ o = 0⟩ (w.alloc (.loop q)) := Tr.new (ob := .loop q) rfl (X := fun o => o = 0) (fun _ _ h => h) (fun n b hn => by rw [List.getElem?_append_left (List.getElem?_eq_some_iff.1 hn).1]; exact hn)
  have hlt : ∀ {b : Nat}, g.isBox b → b ≠ w.heap.size := fun hb e => by have := G.isBox_lt r.ss hb; omega
  have hib : ∀ b, (⟨g.sb, g.hb ++ [w.heap.size], fun b o => g.wr b o ∨ b = w.heap.size ∧ o = 0⟩ : G).isBox b → g.isBox b ∨ b = w.heap.size := fun b hb => by
    rcases hb with hb | hb
    · exact .inl (.inl hb)
    · rcases List.mem_append.1 hb with hb | hb
      · exact .inl (.inr hb)
      · exact .inr (by simpa using hb)
  have hown : ∀ p b o, ow p b o → b < w.heap.size := fun p b o h => r.ss.lt _ _ (r.own.wr _ _ _ h)
  have at_new : ∀ {n : Nat} {x : HObj}, (σ.heap ++ [HObj.loop l])[n]? = some x → σ.heap[n]? = some x ∧ n < σ.heap.length ∨ n = σ.heap.length ∧ x = .loop l := by
    intro n x hn
    by_cases e : n < σ.heap.length
    · rw [List.getElem?_append_left e] at hn; exact .inl ⟨hn, e⟩
    · have e' : n = σ.heap.length := by
        have := (List.getElem?_eq_some_iff.1 hn).1
        simp at this; omega
      subst e'
      rw [List.getElem?_append_right (Nat.le_refl _)] at hn
      simp at hn
      exact .inr ⟨rfl, hn.symm⟩
  have s' : SS ⟨g.sb, g.hb ++ [w.heap.size], fun b o => g.wr b o ∨ b = w.heap.size ∧ o = 0⟩ (w.alloc (.loop q)) ow { σ with heap := σ.heap ++ [.loop l] } := {
    slen := r.ss.slen
    hlen := by simp [r.ss.hlen]
    nodup := by
      show (g.sb ++ (g.hb ++ [w.heap.size])).Nodup
      rw [← List.append_assoc]
      refine List.nodup_append.2 ⟨r.ss.nodup, by simp, fun a ha b hb => ?_⟩
      rw [List.mem_singleton.1 hb]
      exact hlt ((List.mem_append.1 ha).imp id id)
    lt := fun b o h => by
      rcases h with h | h
      · exact t.lt (r.ss.lt _ _ h)
      · rw [h.1]; show w.heap.size < (w.heap.push _).size; simp
    stk := fun n c hn => by
      obtain ⟨h0, b, xs, E, fz, k1, k2⟩ := r.ss.stk n c hn
      exact ⟨h0, b, xs, E, fz, k1, k2.still t (fun i b x h => h) fun o h => .inl h⟩
    heap := fun n c hn => by
      rcases at_new hn with ⟨hn, _⟩ | ⟨_, e⟩
      · obtain ⟨h0, b, xs, E, fz, k1, k2⟩ := r.ss.heap n c hn
        exact ⟨h0, b, xs, E, fz, t.hb _ _ k1, k2.still t (fun i b x h => h) fun o h => .inl h⟩
      · cases e
    maps := fun n es c hn => by
      rcases at_new hn with ⟨hn, _⟩ | ⟨_, e⟩
      · obtain ⟨b, xs, k1, k2⟩ := r.ss.maps n es c hn
        exact ⟨b, xs, t.hb _ _ k1, k2.still t fun o h => .inl h⟩
      · cases e
    loops := fun n l' hn => by
      rcases at_new hn with ⟨hn, _⟩ | ⟨rfl, e⟩
      · obtain ⟨b, k, k1, k2⟩ := r.ss.loops n l' hn
        exact ⟨b, k, t.hb _ _ k1, k2.still t fun o h => .inl h⟩
      · injection e with e; subst e
        exact ⟨w.heap.size, q, by simp [← r.ss.hlen], { obj := hnew, params := h1, assign := h2, body := h3, state := h4, pending := h5, fr := h6.later (t.later fun _ _ h => h.elim), low := h7, wr := .inr ⟨rfl, rfl⟩ }⟩
    dead := fun n hn => by
      rcases at_new hn with ⟨hn, _⟩ | ⟨_, e⟩
      · obtain ⟨b, k1, k2⟩ := r.ss.dead n hn
        exact ⟨b, t.hb _ _ k1, t.lt k2⟩
      · cases e }
  have o' : OW ⟨g.sb, g.hb ++ [w.heap.size], fun b o => g.wr b o ∨ b = w.heap.size ∧ o = 0⟩ ow := ⟨fun p b o h => .inl (r.own.wr _ _ _ h), fun p b o h hb => (hib b hb).elim (r.own.box _ _ _ h) fun e => by have := hown _ _ _ h; omega, r.own.one⟩
  refine ⟨_, ⟨s', o', r.sf.later t (fun _ _ h => h.elim) (fun _ _ _ _ h => h) fun _ _ _ h => h⟩, ⟨t.weaken fun _ _ h => h.elim, fun b o hm => ?_, fun _ _ h => .inr (.inl h), fun b hb => (List.mem_append.1 hb).imp id fun h => Nat.le_of_eq ((List.mem_singleton.1 h).symm)⟩, by simp [← r.ss.hlen], rfl, fun b o h => h.imp id fun h => h.1⟩
  rcases hm with ⟨hb, hw⟩ | hm
  · rcases hib b hb with hb | hb
    · rcases hw with hw | hw
      · exact .inl (.inl ⟨hb, hw⟩)
      · exact .inr (Nat.le_of_eq hw.1.symm)
    · exact .inr (Nat.le_of_eq hb.symm)
  · exact .inl (.inr hm)

/-- A block that is nobody's, and without cells, turns. -/
theorem Rel.other_put (r : Rel g w ow fr tm σ) {b : Nat} {d d' : Option (List Deferred)} (h : w.heap[b]? = some (.deferred d)) : Rel g (w.putObj b (.deferred d')) ow fr tm σ := by
  have hbl := (Array.getElem?_eq_some_iff.1 h).1
  have t : Tr (fun b' i => b' = b ∧ i = 0) g w g (w.putObj b (.deferred d')) := Tr.putObj h (noCells_deferred _) (noCells_deferred _)
  have hcell : ∀ a, (w.putObj b (.deferred d')).cell? a = w.cell? a := putObj_cell h (noCells_deferred _) (noCells_deferred _)
  have hfroz : ∀ a, (w.putObj b (.deferred d')).frozen? a = w.frozen? a := putObj_frozen h (noCells_deferred _) (noCells_deferred _)
  have L : Later g w g (w.putObj b (.deferred d')) := ⟨fun _ _ h => h, fun _ _ h => h, fun b' i v hv hw => ⟨by rw [hcell]; exact hv, hw⟩⟩
  have hsp : ∀ {o : Nat → Nat → Prop} {a : Addr} {lo hi : Nat}, Spare w o a lo hi → Spare (w.putObj b (.deferred d')) o a lo hi := fun hs => hs.later t
  have hpv : ∀ {o : Nat → Nat → Prop} {x : AV} {v : Value}, PV g w o x v → PV g (w.putObj b (.deferred d')) o x v := by
    intro o x v hx
    cases x with
    | list fl sz es =>
      cases fl with
      | own => obtain ⟨k1, a, len, cap, k2, k3⟩ := hx; exact ⟨VL.later L k1, a, len, cap, k2, hsp k3⟩
      | uniq =>
        obtain ⟨a, cap, xs, u⟩ := hx
        exact ⟨a, cap, xs, { u with vl := u.vl.later L, cell := fun i v hi => by rw [hcell]; exact u.cell i v hi, spare := hsp u.spare, lt := t.lt u.lt }⟩
      | sh => exact VL.later L hx
      | full => exact VL.later L hx
    | _ => exact VL.later L hx
  have hobj : ∀ {b' : Nat} {o : Obj}, w.heap[b']? = some o → (∀ d, o ≠ .deferred d) → (w.putObj b (.deferred d')).heap[b']? = some o := by
    intro b' o ho hne
    have e : b' ≠ b := fun e => by subst e; rw [h] at ho; exact hne _ (Option.some.inj ho).symm
    rw [World.putObj_heap_other e]; exact ho
  have hbox : ∀ {o : Nat → Nat → Nat → Prop} {b' : Nat} {cs : List AV} {xs : Array Value} {E : TypeId} {fz : Nat × Nat}, BoxOK g w o b' cs xs E fz → BoxOK g (w.putObj b (.deferred d')) o b' cs xs E fz := fun k =>
    { obj := hobj k.obj (fun _ h => by cases h), le := k.le, val := fun i a hi => let ⟨v, k1, k2, k3⟩ := k.val i a hi; ⟨v, k1, hpv k2, k3⟩, wr := k.wr }
  exact {
    ss := {
      slen := r.ss.slen, hlen := r.ss.hlen, nodup := r.ss.nodup
      lt := fun b' i hw => t.lt (r.ss.lt _ _ hw)
      stk := fun n cs hn => let ⟨h0, b', xs, E, fz, k1, k2⟩ := r.ss.stk n cs hn; ⟨h0, b', xs, E, fz, k1, hbox k2⟩
      heap := fun n cs hn => let ⟨h0, b', xs, E, fz, k1, k2⟩ := r.ss.heap n cs hn; ⟨h0, b', xs, E, fz, k1, hbox k2⟩
      maps := fun n es c hn => let ⟨b', xs, k1, k2⟩ := r.ss.maps n es c hn; ⟨b', xs, k1, { obj := hobj k2.obj (fun _ h => by cases h), size := k2.size, val := fun i e hi => let ⟨x, k3, k4⟩ := k2.val i e hi; ⟨x, k3, k4.later L⟩, wr := k2.wr }⟩
      loops := fun n l hn => let ⟨b', q, k1, k2⟩ := r.ss.loops n l hn; ⟨b', q, k1, { k2 with obj := hobj k2.obj (fun _ h => by cases h), fr := k2.fr.later L }⟩
      dead := fun n hn => let ⟨b', k1, k2⟩ := r.ss.dead n hn; ⟨b', k1, t.lt k2⟩ }
    own := r.own
    sf := ⟨r.sf.size, fun i x hi => let ⟨v, k1, k2⟩ := r.sf.val i x hi; ⟨v, k1, hpv k2⟩⟩ }

theorem Way.other_put (W : Way g0 w0 ow0 g w ow) {b : Nat} {d d' : Option (List Deferred)} (h : w.heap[b]? = some (.deferred d)) (hb : w0.heap.size ≤ b) : Way g0 w0 ow0 g (w.putObj b (.deferred d')) ow where
  tr := {
    size := by rw [putObj_size]; exact W.tr.size
    obj := fun b' hb' hm => by rw [World.putObj_heap_other (by omega)]; exact W.tr.obj b' hb' hm
    cell := fun b' i hb' hm => by rw [putObj_cell h (noCells_deferred _) (noCells_deferred _)]; exact W.tr.cell b' i hb' hm
    live := fun b' i v hv => by rw [putObj_cell h (noCells_deferred _) (noCells_deferred _)]; exact W.tr.live b' i v hv
    froz := fun b' i hb' => by rw [putObj_frozen h (noCells_deferred _) (noCells_deferred _)]; exact W.tr.froz b' i hb'
    wr := W.tr.wr, sb := W.tr.sb, hb := W.tr.hb
    env := ⟨W.tr.env.1, W.tr.env.2.1, W.tr.env.2.2⟩ }
  may := W.may
  keep := W.keep
  hbn := W.hbn
end
end Go.AM
