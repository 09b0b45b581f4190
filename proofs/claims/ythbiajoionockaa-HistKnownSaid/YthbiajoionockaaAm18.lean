import Derived.Test.YthbiajoionockaaAm17
/-! Rows that were lists, and back; maps. -/
namespace Go.AM
open Go
set_option linter.unusedVariables false
set_option linter.unusedSimpArgs false

section
variable {P : Program} {g g' : G} {w w' : World} {ow ow' ow1 : Own} {σ σ' : St} {fr fr' : Fr} {tm : Array Value} {a : Act} {dst : Option Tmp}

/-- A list that nobody else sees becomes a box. -/
theorem Rel.thaw (r : Rel g w ow fr tm σ) {ro : Nat → Nat → Prop} {sz cap : Nat} {es : List AV} {v : Value} {ad : Addr} {xs : List Value} (u : Uniq g w ro sz es v ad cap xs) (f : Free g ow ro) (hne : es ≠ []) (hlow : AV.under.go σ.stk.length (es.flatMap AV.cells) = true) :
    Rel ⟨g.sb ++ [ad.block], g.hb, g.wr⟩ w ow fr tm { σ with stk := σ.stk ++ [es.flatMap AV.cells] } ∧ Tr Nought g w ⟨g.sb ++ [ad.block], g.hb, g.wr⟩ w := by
  have hlen := u.len
  have hpos : 0 < es.length * sz := Nat.mul_pos (List.length_pos_iff.2 hne) u.pos
  have hcap : es.length * sz ≤ cap * sz := Nat.mul_le_mul_right _ u.le
  have hro : ∀ i, i < cap * sz → ro ad.block i := fun i hi => by have := (u.spare i (Nat.zero_le _) hi).1; rwa [u.off, Nat.zero_add] at this
  have hnb : ¬ g.isBox ad.block := f.box _ _ (hro 0 (by omega))
  have hcl : (es.flatMap AV.cells).length = es.length * sz := elems_length fun e h => (u.elems e h).1
  -- the block
  obtain ⟨cs, E, fz, hobj⟩ : ∃ cs E fz, w.heap[ad.block]? = some (.cells cs E fz) := by
    obtain ⟨v, hv⟩ := (u.spare 0 (Nat.zero_le _) (by omega)).2.1
    unfold World.cell? at hv
    split at hv
    · rename_i cs E fz h; exact ⟨cs, E, fz, h⟩
    · cases hv
  have hcell : ∀ (i : Nat) (v : Value), w.cell? ⟨ad.block, i, none⟩ = some v → cs[i]? = some v := fun i v h => by simpa [World.cell?, hobj] using h
  have t : Tr Nought g w ⟨g.sb ++ [ad.block], g.hb, g.wr⟩ w := ⟨Nat.le_refl _, fun _ _ _ => rfl, fun _ _ _ _ => rfl, fun _ _ v h => ⟨v, h⟩, fun _ _ _ => rfl, fun _ _ h => .inl h, fun n b hn => by rw [List.getElem?_append_left (List.getElem?_eq_some_iff.1 hn).1]; exact hn, fun _ _ h => h, ⟨rfl, rfl, rfl⟩⟩
  have hib : ∀ b, (⟨g.sb ++ [ad.block], g.hb, g.wr⟩ : G).isBox b → g.isBox b ∨ b = ad.block := fun b hb => by
    rcases hb with hb | hb
    · rcases List.mem_append.1 hb with hb | hb
      · exact .inl (.inl hb)
      · exact .inr (by simpa using hb)
    · exact .inl (.inr hb)
  refine ⟨⟨?_, ⟨r.own.wr, fun p b o h hb => (hib b hb).elim (r.own.box _ _ _ h) fun e => ?_, r.own.one⟩, r.sf.later t (fun _ _ h => h.elim) (fun _ _ _ _ h => h) fun _ _ _ h => h⟩, t⟩
  · exact {
      slen := by simp [r.ss.slen]
      hlen := r.ss.hlen
      nodup := by
        have h0 := r.ss.nodup
        have hn : ad.block ∉ g.sb ++ g.hb := fun hm => hnb (List.mem_append.1 hm)
        show (g.sb ++ [ad.block] ++ g.hb).Nodup
        rw [List.append_assoc]
        exact (List.Perm.nodup_iff (List.perm_middle (l₁ := g.sb) (l₂ := g.hb) (a := ad.block))).2 (List.nodup_cons.2 ⟨hn, h0⟩)
      lt := r.ss.lt
      stk := fun n c hn => by
        by_cases e : n < σ.stk.length
        · rw [List.getElem?_append_left e] at hn
          obtain ⟨h0, b, xs, E, fz, h1, h2⟩ := r.ss.stk n c hn
          exact ⟨h0, b, xs, E, fz, t.sb _ _ h1, h2.still t (fun i b x h => h) fun o h => h⟩
        · have e' : n = σ.stk.length := by
            have := (List.getElem?_eq_some_iff.1 hn).1
            simp at this; omega
          subst e'
          rw [List.getElem?_append_right (Nat.le_refl _)] at hn
          simp at hn; subst hn
          refine ⟨hlow, ad.block, cs, E, fz, by simp [← r.ss.slen], hobj, ?_, fun i x hi => ?_, fun i hi => ⟨f.wr _ _ (hro i (by omega)), ?_⟩⟩
          · rw [hcl]
            have := (u.spare (es.length * sz - 1) (Nat.zero_le _) (by omega)).2.1
            obtain ⟨v, hv⟩ := this
            rw [u.off, Nat.zero_add] at hv
            have := (Array.getElem?_eq_some_iff.1 (hcell _ _ hv)).1
            omega
          · obtain ⟨v, h1, h2⟩ := u.vl.get hi
            have := u.cell i v h1
            rw [u.off, Nat.zero_add] at this
            obtain ⟨e, he, hec⟩ := List.mem_flatMap.1 (List.mem_of_getElem? hi)
            exact ⟨v, hcell _ _ this, PV.of (VL.later (t.later fun _ _ h => h.elim) h2), (u.elems e he).2 x hec⟩
          · have := (u.spare i (Nat.zero_le _) (by omega)).2.2
            rw [u.off, Nat.zero_add] at this
            simp only [World.frozen?, hobj] at this
            simpa using this
      heap := fun n c hn => by
        obtain ⟨h0, b, xs, E, fz, h1, h2⟩ := r.ss.heap n c hn
        exact ⟨h0, b, xs, E, fz, h1, h2.still t (fun i b x h => h) fun o h => h⟩
      maps := fun n es c hn => by
        obtain ⟨b, xs, h1, h2⟩ := r.ss.maps n es c hn
        exact ⟨b, xs, h1, h2.still t fun o h => h⟩
      loops := fun n l hn => by
        obtain ⟨b, q, h1, h2⟩ := r.ss.loops n l hn
        exact ⟨b, q, h1, h2.still t fun o h => h⟩
      dead := fun n hn => by
        obtain ⟨b, h1, h2⟩ := r.ss.dead n hn
        exact ⟨b, h1, t.lt h2⟩ }
  · subst e
    exact f.apart _ _ _ h (u.all _ (r.own.wr _ _ _ h))

theorem thaw_out (r : Rel g w ow fr a.tmps σ) {x : Operand} {v : AV} (h : AM.thaw fr x σ = some (v, fr', σ')) : ∃ g' ow', Out g w ow dst v fr' σ' a.tmps g' w ow' (a.eval x) := by
  unfold AM.thaw at h
  split at h
  case h_2 => cases h
  rename_i t
  split at h
  · rename_i sz es hv
    split at h
    · cases h
    rename_i hne
    have hne : es ≠ [] := by simpa using hne
    cases hb : AM.newBox false (es.flatMap AV.cells) σ with
    | none => simp [hb] at h
    | some q =>
      obtain ⟨rf, σ1⟩ := q
      simp only [hb, Option.map_some, Option.some.injEq, Prod.mk.injEq] at h
      obtain ⟨rfl, rfl, rfl⟩ := h
      unfold AM.newBox at hb
      simp only [Bool.false_eq_true, if_false] at hb
      split at hb
      case isFalse => cases hb
      rename_i hlow
      simp only [Option.some.injEq, Prod.mk.injEq] at hb
      obtain ⟨rfl, rfl⟩ := hb
      obtain ⟨h1, h2, h3⟩ := r.take t
      rw [hv] at h1
      obtain ⟨ad, cap, xs, u⟩ := h1
      obtain ⟨r', t'⟩ := h2.thaw u h3 hne hlow
      have hev : a.eval (.tmp t) = .slice (some ⟨ad.block, 0, none⟩) es.length cap := by
        have := u.val
        show a.tmps.getD t undef = _
        rw [this]
        have h1 := u.off
        have h2 := u.spot
        cases ad; simp_all
      have hV : V ⟨g.sb ++ [ad.block], g.hb, g.wr⟩ w (.row (.stk σ.stk.length) 0 es.length es.length) (a.eval (.tmp t)) := by
        rw [hev]
        exact .row (by simp [G.ref, ← r.ss.slen]) (Nat.le_refl _) u.le .nil
      -- the slot holds the row
      have r2 : Rel ⟨g.sb ++ [ad.block], g.hb, g.wr⟩ w (ow.set (.slot t) Nobody) (fr.set t (.row (.stk σ.stk.length) 0 es.length es.length)) a.tmps { σ with stk := σ.stk ++ [es.flatMap AV.cells] } := by
        refine ⟨r'.ss, r'.own, ⟨by rw [r.sf.size]; simp, fun i x hi => ?_⟩⟩
        by_cases e : i = t
        · subst e
          have hl : i < fr.length := by
            rcases Nat.lt_or_ge i fr.length with h | h
            · exact h
            · rw [List.getElem?_eq_none (by simpa using h)] at hi; simp at hi
          rw [List.getElem?_set_self hl] at hi
          injection hi with hi; subst hi
          obtain ⟨v, hv1, _⟩ := r.sf.val i _ (List.getElem?_eq_getElem hl)
          refine ⟨v, hv1, PV.of ?_⟩
          have : a.tmps.getD i undef = v := by simp [hv1]
          rw [← this]; exact hV
        · rw [List.getElem?_set_ne (Ne.symm e)] at hi
          exact r'.sf.val i x (by rw [List.getElem?_set_ne (Ne.symm e)]; exact hi)
      have hall : ∀ p b o, (ow.set (.slot t) Nobody) p b o → ow p b o := fun p b o h => by
        by_cases e : p = .slot t
        · rw [e, Own.set_same] at h; exact h.elim
        · rw [Own.set_other _ _ e] at h; exact h
      obtain ⟨ow'', ho⟩ := Out.of (g := g) (w := w) (ow := ow) (dst := dst) r2 (PV.of (o := Nobody) hV) (Free.nobody _ _) t'.nought (fun p b o h => .inl (.own (hall _ _ _ h))) (fun b o h => h.elim) (fun b o hb hw => by
        rcases hb with hb | hb
        · rcases List.mem_append.1 hb with hb | hb
          · exact .inl (.inl ⟨.inl hb, hw⟩)
          · have : b = ad.block := by simpa using hb
            subst this
            exact .inl (.own (u.all _ hw))
        · exact .inl (.inl ⟨.inr hb, hw⟩)) (fun _ _ h => .inr h) (fun _ h => .inl h)
      exact ⟨_, ow'', ho⟩
  · rename_i hv
    simp only [Option.some.injEq, Prod.mk.injEq] at h
    obtain ⟨rfl, rfl, rfl⟩ := h
    have := r.sf.getD t
    rw [hv] at this
    exact ⟨g, Out.pure r this⟩
  · cases h

theorem freeze_out (r : Rel g w ow fr a.tmps σ) {t : TypeId} {x v : AV} {xv : Value} (h : AM.freeze P t x σ = some (v, σ')) (hx : V g w x xv) : ∃ g' ow', Out g w ow dst v fr σ' a.tmps g' w ow' xv := by
  unfold AM.freeze at h
  split at h
  · rename_i e n len cap ht
    cases hr : readCells σ (.ptr (.stk n) 0) (len * P.cellsOf e) with
    | none => simp [hr] at h
    | some cs =>
      simp only [hr, Option.bind_some] at h
      split at h
      case isFalse => cases h
      rename_i hc
      obtain ⟨hc1, hc2, hc3⟩ := hc
      simp only [Option.some.injEq, Prod.mk.injEq] at h
      obtain ⟨rfl, rfl⟩ := h
      obtain ⟨b, c, rfl, hb, h1, h2⟩ := hx.row_inv
      obtain ⟨ad, xs, hpv, h3, h4, h5, h6, h7⟩ := read_run r.ss hr (.ptr hb .nil)
      injection hpv with hpv; injection hpv with hpv; subst hpv
      obtain ⟨g1, g2, g3⟩ := group_cells hc3 h4 h6
      have hbs : g.sb[n]? = some b := hb
      have hbox : g.isBox b := .inl (List.mem_of_getElem? hbs)
      have hlt : n < σ.stk.length := by rw [← r.ss.slen]; exact (List.getElem?_eq_some_iff.1 hbs).1
      obtain ⟨_, b', bx, E, fz, k1, k2⟩ := r.ss.stk n _ (List.getElem?_eq_getElem hlt)
      rw [hbs] at k1; injection k1 with k1; subst k1
      let X : Nat → Nat → Prop := fun b' _ => b' = b
      have t : Tr Nought g w (g.less X) w := Tr.less X
      have r' : Rel (g.less X) w ow fr a.tmps { σ with stk := σ.stk.set n [] } := by
        refine ⟨?_, ⟨fun p b' o h => ⟨r.own.wr _ _ _ h, fun hx => r.own.box _ _ _ h (by rw [show b' = b from hx]; exact hbox)⟩, r.own.box, r.own.one⟩, r.sf.later t (fun _ _ h => h.elim) (fun _ _ _ _ h => h) fun _ _ _ h => h⟩
        obtain ⟨n1, n2, n3⟩ := nodup_ref r.ss.nodup
        refine r.ss.replace r.own hbox t (fun _ _ h => h.elim) (fun b' o h => r.ss.lt _ _ h.1) rfl rfl (fun b' o hne _ h => ⟨h, hne⟩) (by simp) rfl ?_ ?_ ?_ ?_ ?_ ?_ ?_ ?_
        · intro m c hm hmb
          obtain rfl := n1 _ _ _ hmb hbs
          dsimp only at hm
          rw [List.getElem?_set_self hlt] at hm
          injection hm with hm; subst hm
          exact ⟨rfl, bx, E, fz, k2.obj, Nat.zero_le _, fun i a hi => by simp at hi, fun i hi => by simp at hi⟩
        · intro m c _ hmb; exact (n3 _ _ _ hbs hmb).elim
        · intro m es c _ hmb; exact (n3 _ _ _ hbs hmb).elim
        · intro m l _ hmb; exact (n3 _ _ _ hbs hmb).elim
        · intro m hne
          have e : n ≠ m := fun e => hne (e ▸ hbs)
          dsimp only; rw [List.getElem?_set_ne e]
        · intro m _; rfl
        · intro m i b' x _ h; exact h
        · intro m i b' x _ h; exact h
      have hV : V (g.less X) w (.list .sh (P.cellsOf e) (group P e len cs)) (.slice (some ⟨b, 0, none⟩) len c) := by
        refine .list (xs := xs) (.inl rfl) g2.symm (by omega) hc2 rfl g3 ?_ (by rw [g1]; exact h5.later (t.later fun _ _ h => h.elim)) (fun i v hi => ?_) .nil
        · -- no references in what is read
          refine under_mem.2 fun x hx => ?_
          have hcx : ∀ c ∈ x.cells, AV.under 0 c = true := fun c hc => by
            have : c ∈ (group P e len cs).flatMap AV.cells := List.mem_flatMap.2 ⟨x, hx, hc⟩
            rw [g1] at this
            exact (under_mem.1 hc1) c this
          cases x with
          | agg l => simp only [AV.under]; exact under_mem.2 fun c hc => hcx c hc
          | _ => exact hcx _ (by simp [AV.cells])
        · have := h7 i v hi
          rw [Addr.add_lit] at this
          exact ⟨this, fun hw => hw.2 rfl⟩
      obtain ⟨ow'', ho⟩ := Out.of (g := g) (w := w) (ow := ow) (dst := dst) r' (PV.of (o := Nobody) hV) (Free.nobody _ _) t.nought (fun p b o h => .inl (.own h)) (fun b o h => h.elim) (fun b o h1 h2 => .inl (.inl ⟨h1, h2.1⟩)) (fun b' o h => (Classical.em (b' = b)).elim (fun hx => .inl (.inl ⟨by rw [hx]; exact hbox, h⟩)) fun hx => .inr ⟨h, hx⟩) (fun _ h => .inl h)
      exact ⟨_, ow'', ho⟩
  · simp only [Option.some.injEq, Prod.mk.injEq] at h
    obtain ⟨rfl, rfl⟩ := h
    exact ⟨g, Out.pure r hx⟩
  · cases h
end
end Go.AM
