import Derived.Test.YthbiajoionockaaAm11
/-! Literals, reading and writing memory. -/
namespace Go.AM
open Go
set_option linter.unusedVariables false

section
variable {P : Program} {g g' : G} {w w' : World} {ow ow' ow1 : Own} {σ σ' : St} {fr fr' : Fr} {tm : Array Value} {a : Act}

theorem zeroA_run {t : TypeId} {z : AV} (h : zeroA P t = some z) : ∃ v, (∀ w, (zeroValue t).run P w = .ok v w) ∧ AV.ofPlain v = some z ∧ ((P.info? t).bind (·.zero)) = some v := by
  unfold zeroA at h
  cases hi : P.info? t with
  | none => simp [hi] at h
  | some i =>
    cases hz : i.zero with
    | none => simp [hi, hz] at h
    | some v => simp [hi, hz] at h; exact ⟨v, fun w => by simp [zeroValue, typeInfo, hi, hz], h, by simp [hz]⟩

theorem PV.look {o : Nat → Nat → Prop} {x : AV} {v : Value} (h : PV g w o x v) : V g w x.look v := by
  cases x with
  | list fl sz es =>
    cases fl with
    | own => exact h.1
    | uniq => exact VL.undef v .nil
    | sh => exact h
    | full => exact h
  | _ => exact h

theorem SF.seen (s : SF g w ow fr a.tmps) (x : Operand) : V g w (seen fr x) (a.eval x) := (s.opnd x).look

theorem look_isCell {x : AV} (h : x.isCell = true) : x.look.isCell = true := by
  cases x with
  | list fl sz es => cases fl <;> simp_all [AV.look, AV.isCell]
  | _ => exact h

/-- Operands of a literal. -/
theorem parts_V (r : SF g w ow fr a.tmps) {l : List (Nat × Operand)} : ∀ (j : Nat) p q, (l.map fun (i, x) => (i, seen fr x))[j]? = some p → (l.map fun (i, x) => (i, a.eval x))[j]? = some q → p.1 = q.1 ∧ V g w p.2 q.2 := by
  intro j p q hp hq
  rw [List.getElem?_map] at hp hq
  cases hl : l[j]? with
  | none => rw [hl] at hp; cases hp
  | some y =>
    obtain ⟨i, x⟩ := y
    rw [hl] at hp hq
    injection hp with hp; injection hq with hq; subst hp; subst hq
    exact ⟨rfl, r.seen x⟩

theorem build_run {t : TypeId} {parts : List (Nat × AV)} {vparts : Array (Nat × Value)} {v : AV} (h : build P t parts = some v) (hl : parts.length = vparts.toList.length) (hp : ∀ (j : Nat) p q, parts[j]? = some p → vparts.toList[j]? = some q → p.1 = q.1 ∧ V g w p.2 q.2) :
    ∃ val, (Instr.build t vparts).run P w = .ok val w ∧ V g w v val := by
  unfold build at h
  split at h
  · cases h
  rename_i z hz
  obtain ⟨zv, hz1, hz2, hz3⟩ := zeroA_run hz
  obtain ⟨_, h2, h3, _⟩ := ofPlain_V (g := g) (w := w) hz2
  obtain ⟨it, hit, hitz⟩ : ∃ it, P.info? t = some it ∧ it.zero = some zv := by
    cases hi : P.info? t with
    | none => simp [hi] at hz3
    | some it => exact ⟨it, rfl, by simpa [hi] using hz3⟩
  split at h
  · rename_i places hpl
    cases hf : fillA (fun i => places[i]?) z.cells parts with
    | none => simp [hf] at h
    | some cs =>
      simp [hf] at h; subst h
      obtain ⟨xs', r1, r2, r3⟩ := fill_run (g := g) (w := w) _ parts vparts.toList _ _ _ hf hl hp h2 h3
      unfold structPlaces at hpl
      split at hpl
      · rename_i fields hu
        refine ⟨.agg xs', run_build w t vparts xs' ?_, .agg r3 r2 .nil⟩
        unfold Program.built
        simp only [hit, hu, hitz, hpl]
        simpa using r1
      · cases hpl
  · split at h
    · rename_i n hn
      cases hf : fillA (fun i => some (i * n, n)) z.cells parts with
      | none => simp [hf] at h
      | some cs =>
        simp [hf] at h; subst h
        obtain ⟨xs', r1, r2, r3⟩ := fill_run (g := g) (w := w) _ parts vparts.toList _ _ _ hf hl hp h2 h3
        unfold arrayCells at hn
        split at hn
        · rename_i m e hu
          cases hie : P.info? e with
          | none => simp [hie] at hn
          | some ie =>
            simp [hie] at hn; subst hn
            refine ⟨.agg xs', run_build w t vparts xs' ?_, .agg r3 r2 .nil⟩
            unfold Program.built
            simp only [hit, hu, hitz, hie]
            exact r1
        · cases hn
    · cases h

theorem set_flatMap {n : Nat} : ∀ {es : List AV} {i : Nat} {v : AV}, (∀ e ∈ es, e.cells.length = n) → v.cells.length = n → i < es.length →
    (es.set i v).flatMap AV.cells = (es.flatMap AV.cells).take (i * n) ++ v.cells ++ (es.flatMap AV.cells).drop (i * n + n)
  | [], _, _, _, _, hi => by simp at hi
  | e :: es, 0, v, he, hv, _ => by
    have := he e (by simp)
    simp [this]
  | e :: es, i + 1, v, he, hv, hi => by
    have h1 := he e (by simp)
    rw [List.set_cons_succ, List.flatMap_cons, List.flatMap_cons, set_flatMap (fun x hx => he x (by simp [hx])) hv (by simpa using hi)]
    rw [Nat.add_mul, Nat.one_mul]
    have e1 : (e.cells ++ es.flatMap AV.cells).take (i * n + n) = e.cells ++ (es.flatMap AV.cells).take (i * n) := by
      rw [List.take_append, h1, Nat.add_sub_cancel, List.take_of_length_le (l := e.cells) (by omega)]
    have e2 : (e.cells ++ es.flatMap AV.cells).drop (i * n + n + n) = (es.flatMap AV.cells).drop (i * n + n) := by
      rw [List.drop_append, h1, List.drop_of_length_le (l := e.cells) (by omega), List.nil_append, Nat.add_sub_cancel]
    rw [e1, e2, List.append_assoc, List.append_assoc, List.append_assoc]

theorem fillE_fillA {n : Nat} : ∀ {parts : List (Nat × AV)} {es es' : List AV}, (∀ e ∈ es, e.cells.length = n) → AV.under.go 0 es = true → fillE n es parts = some es' →
    fillA (fun i => some (i * n, n)) (es.flatMap AV.cells) parts = some (es'.flatMap AV.cells) ∧ (∀ e ∈ es', e.cells.length = n) ∧ es'.length = es.length ∧ AV.under.go 0 es' = true
  | [], es, es', he, hu, h => by simp [fillE] at h; subst h; exact ⟨rfl, he, rfl, hu⟩
  | (i, v) :: rest, es, es', he, hu, h => by
    simp only [fillE] at h
    split at h
    case isFalse => cases h
    rename_i hc
    obtain ⟨c1, c2, c3, c4⟩ := hc
    have he' : ∀ e ∈ es.set i v, e.cells.length = n := fun e hm => by
      rcases List.mem_or_eq_of_mem_set hm with hm | rfl
      · exact he e hm
      · exact c1
    have hu' : AV.under.go 0 (es.set i v) = true := under_mem.2 fun e hm => by
      rcases List.mem_or_eq_of_mem_set hm with hm | rfl
      · exact (under_mem.1 hu) e hm
      · exact c3
    obtain ⟨r1, r2, r3, r4⟩ := fillE_fillA he' hu' h
    refine ⟨?_, r2, by rw [r3]; simp, r4⟩
    simp only [fillA]
    have hlen := elems_length he
    have hmul : (i + 1) * n ≤ es.length * n := Nat.mul_le_mul_right _ c2
    rw [Nat.add_mul, Nat.one_mul] at hmul
    rw [if_neg (by rw [hlen]; simp [c1, c4]; omega), ← set_flatMap he c1 c2]
    exact r1

theorem replicate_flatMap {cs : List AV} {n : Nat} (hn : cs.length = n) (h0 : 0 < n) : ∀ (k i : Nat), i < k * n → ((List.replicate k cs).flatten)[i]? = cs[i % n]?
  | 0, i, h => by omega
  | k + 1, i, h => by
    rw [List.replicate_succ, List.flatten_cons]
    by_cases hi : i < n
    · rw [List.getElem?_append_left (by omega), Nat.mod_eq_of_lt hi]
    · rw [List.getElem?_append_right (by omega), hn, replicate_flatMap hn h0 k (i - n) (by rw [Nat.add_mul] at h; omega)]
      rw [show i % n = (i - n) % n from (Nat.mod_eq_sub_mod (by omega))]

theorem zeros_V {z : AV} {zv : Value} {n : Nat} (hz : AV.ofPlain zv = some z) (hn : z.cells.length = n) (h0 : 0 < n) (k : Nat) :
    VL g w ((List.replicate k z).flatMap AV.cells) ((Array.range (k * n)).map (zv.cells[· % zv.cells.size]!)).toList := by
  obtain ⟨_, h2, h3, _⟩ := ofPlain_V (g := g) (w := w) hz
  have hs : zv.cells.size = n := by have := h2.length; simp at this; omega
  have hf : (List.replicate k z).flatMap AV.cells = (List.replicate k z.cells).flatten := by rw [List.flatMap_def, List.map_replicate]
  have hl : ((List.replicate k z.cells).flatten).length = k * n := by simp [hn]
  rw [hf]
  refine VL.of_get (by simp [hn]) fun i c hi => ?_
  have hlt : i < k * n := by have := (List.getElem?_eq_some_iff.1 hi).1; omega
  rw [replicate_flatMap hn h0 k i hlt] at hi
  obtain ⟨v, hv, hv'⟩ := h2.get hi
  refine ⟨v, ?_, hv'⟩
  have hm : i % n < n := Nat.mod_lt _ h0
  have : zv.cells[i % n]? = some v := by simpa using hv
  have hb : zv.cells[i % n]! = v := by rw [getElem!_def, this]
  simp [hlt, hs, hb]

/-- What cells hold, read. -/
theorem read_run (s : SS g w ow σ) {p : AV} {pv : Value} {n : Nat} {cs : List AV} (h : readCells σ p n = some cs) (hp : V g w p pv) :
    ∃ a xs, pv = .pointer (some a) ∧ a.spot = none ∧ cs.length = n ∧ VL g w cs xs ∧ (∀ c ∈ cs, c.isCell = true) ∧ ∀ (i : Nat) v, xs[i]? = some v → w.cell? (a.add i) = some v := by
  unfold readCells at h
  split at h
  · rename_i r off
    obtain ⟨b, rfl, hr⟩ := hp.ptr_inv
    cases hb : boxOf σ r with
    | none => simp [hb] at h
    | some bs =>
      simp only [hb, Option.bind_some] at h
      split at h
      case isFalse => cases h
      rename_i hl
      injection h with h; subst h
      obtain ⟨_, b', xs, E, fz, hr', hbox⟩ := s.box hb
      rw [hr] at hr'; injection hr' with hr'; subst hr'
      have hlen : (((bs.drop off).take n).map AV.look).length = n := by simp; omega
      -- the cells' values
      have hget : ∀ (i : Nat) (c : AV), (((bs.drop off).take n).map AV.look)[i]? = some c → ∃ v, w.cell? ⟨b, off + i, none⟩ = some v ∧ V g w c v ∧ c.isCell = true := by
        intro i c hc
        rw [List.getElem?_map, List.getElem?_take] at hc
        split at hc
        · rw [List.getElem?_drop] at hc
          cases hbi : bs[off + i]? with
          | none => rw [hbi] at hc; cases hc
          | some c' =>
            rw [hbi] at hc; injection hc with hc; subst hc
            obtain ⟨v, h1, h2, h3⟩ := hbox.read hbi
            exact ⟨v, h1, h2.look, look_isCell h3⟩
        · cases hc
      let xs : List Value := (List.range n).map fun i => (w.cell? ⟨b, off + i, none⟩).getD undef
      have hx : ∀ (i : Nat), i < n → xs[i]? = some ((w.cell? ⟨b, off + i, none⟩).getD undef) := fun i hi => by simp [xs, hi]
      refine ⟨⟨b, off, none⟩, xs, rfl, rfl, hlen, ?_, ?_, ?_⟩
      · refine VL.of_get (by simp [xs]; omega) fun i c hc => ?_
        obtain ⟨v, h1, h2, _⟩ := hget i c hc
        have hi : i < n := by have := (List.getElem?_eq_some_iff.1 hc).1; omega
        exact ⟨v, by rw [hx i hi, h1]; rfl, h2⟩
      · intro c hc
        obtain ⟨i, hi⟩ := List.getElem?_of_mem hc
        exact (hget i c hi).choose_spec.2.2
      · intro i v hi
        have hin : i < n := by have := (List.getElem?_eq_some_iff.1 hi).1; simpa [xs] using this
        obtain ⟨u, h1, _⟩ := hget i _ (List.getElem?_eq_getElem (by omega))
        rw [hx i hin, h1] at hi
        rw [Addr.add_lit, h1]; simpa using hi
  · rename_i bs
    split at h
    case isFalse => cases h
    rename_i hl
    injection h with h; subst h
    cases hp with
    | @rop _ ad xs _ _ h1 h2 h3 h4 h5 _ =>
    refine ⟨ad, xs.take n, rfl, h1, by rw [List.length_take]; omega, h4.takes n, fun c hc => h2 c (List.mem_of_mem_take hc), fun i v hi => ?_⟩
    rw [add_spot h1]
    rw [List.getElem?_take] at hi
    split at hi
    · exact (h5 i v hi).1
    · cases hi
  · cases h

theorem loadAt_run (s : SS g w ow σ) {t : TypeId} {p v : AV} {pv : Value} (h : load P false t p σ = some (v, σ')) (hp : V g w p pv) : σ' = σ ∧ ∃ val, (Instr.loadAt t pv).run P w = .ok val w ∧ V g w v val := by
  unfold load at h
  split at h
  · rename_i ha
    split at h
    · cases h
    rename_i h0
    cases hr : readCells σ p (P.cellsOf t) with
    | none => simp [hr] at h
    | some cs =>
      simp [hr] at h
      obtain ⟨rfl, rfl⟩ := h
      obtain ⟨ad, xs, rfl, h1, h2, h3, h4, h5⟩ := read_run s hr hp
      have hl : xs.length = P.cellsOf t := by rw [h3.length, h2]
      have := run_loadCells_list (P := P) w ad xs h5
      rw [hl] at this
      exact ⟨rfl, .agg xs.toArray, by simp [Instr.loadAt, Instr.sureAddr, loadVar, run_aggOf ha, run_sizeOf h0, this], .agg h4 (by simpa using h3) .nil⟩
  · rename_i ha
    simp only at h
    split at h
    · rename_i v' hr
      simp only [Option.some.injEq, Prod.mk.injEq] at h
      obtain ⟨rfl, rfl⟩ := h
      obtain ⟨ad, xs, rfl, h1, h2, h3, h4, h5⟩ := read_run s hr hp
      obtain ⟨u, us, rfl, h6, h7⟩ := h3.cons_left
      have := h5 0 u rfl
      rw [add_spot h1] at this
      have he : (⟨ad.block, ad.off + 0, none⟩ : Addr) = ad := by cases ad; simp_all
      rw [he] at this
      exact ⟨rfl, u, by simp [Instr.loadAt, Instr.sureAddr, loadVar, run_aggOf ha, Go.load, Sem.run, this], h6⟩
    · cases h
  · cases h
end
end Go.AM
