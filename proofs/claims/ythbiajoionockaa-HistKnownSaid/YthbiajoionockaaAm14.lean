import Derived.Test.YthbiajoionockaaAm13
/-! Stores, loads that take, literals of slices, make. -/
namespace Go.AM
open Go
set_option linter.unusedVariables false

section
variable {P : Program} {g g' : G} {w w' : World} {ow ow' ow1 : Own} {σ σ' : St} {fr fr' : Fr} {tm : Array Value} {a : Act} {dst : Option Tmp}

theorem oneCell_of {x : AV} {v : Value} {o : Nat → Nat → Prop} (h : PV g w o x v) (hc : x.isCell = true) : v.oneCell' = true := by
  cases x with
  | agg cs => simp [AV.isCell] at hc
  | undef => simp [AV.isCell] at hc
  | tup vs => simp [AV.isCell] at hc
  | s y => obtain rfl := V.sc_inv h; cases y <;> rfl
  | list fl sz es =>
    obtain ⟨ad, c, rfl, _⟩ := V_len_slice h; rfl
  | rop cs => obtain ⟨ad, rfl⟩ := V.rop_inv h; rfl
  | ptr r off => obtain ⟨b, rfl, _⟩ := V.ptr_inv h; rfl
  | row r off len cap => obtain ⟨b, c, rfl, _⟩ := V.row_inv h; rfl
  | map n => obtain ⟨b, rfl, _⟩ := V.map_inv h; rfl
  | fn f p c => obtain ⟨xs, ys, rfl, _⟩ := V.fn_inv h; rfl
  | yield n => cases (show V g w (.yield n) v from h) with | yield _ _ => rfl

theorem Cells.one' {ro : Nat → Nat → Prop} {cs : List AV} {vs : List Value} (h : Cells g w ro cs vs) : ∀ v ∈ vs, v.oneCell' = true := by
  intro v hv
  obtain ⟨i, hi⟩ := List.getElem?_of_mem hv
  have hl : i < cs.length := by have := (List.getElem?_eq_some_iff.1 hi).1; rw [← h.1]; exact this
  obtain ⟨u, h1, h2, h3⟩ := h.2 i _ (List.getElem?_eq_getElem hl)
  rw [hi] at h1; injection h1 with h1; subst h1
  exact oneCell_of h2 h3

/-- A store through a pointer into a box, run. -/
theorem write_run (r : Rel g w ow1 fr tm σ) {rf : Ref} {off b : Nat} {vs : List AV} {vals : List Value} {ro : Nat → Nat → Prop} (h : writeCells σ rf off vs = some σ') (hb : g.ref rf = some b) (hv : Cells g w ro vs vals) (f : Free g ow1 ro) :
    (storeCells ⟨b, off, none⟩ vals).run P w = .ok () (w.setCells b off vals) ∧ ∃ ow', Rel g (w.setCells b off vals) ow' fr tm σ' ∧ Tr (May g ow1) g w g (w.setCells b off vals) ∧ (∀ p b o, ow' p b o → ow1 p b o ∨ ro b o) := by
  obtain ⟨k1, k2, ow', k3, k4, k5, _⟩ := r.write h hb hv f
  refine ⟨?_, ow', k3, k4, k5⟩
  have := run_storeCells_cells (P := P) b off vals 0 w (by simpa using k1) (by simpa using k2) hv.one'
  simpa using this

theorem store_out (r : Rel g w ow fr a.tmps σ) {x p : Operand} {t : TypeId} (hf : (taken true fr x).1.fit = true) (h : AM.store P t (seen (taken true fr x).2 p) (taken true fr x).1.calm σ = some σ') :
    ∃ w', (Instr.storeAt t (a.eval p) (a.eval x)).run P w = .ok () w' ∧ ∃ g' ow', Out g w ow dst .undef (taken true fr x).2 σ' a.tmps g' w' ow' undef := by
  obtain ⟨ow1, r1, hp1, f1, k1⟩ := taken_true r x
  obtain ⟨X, ro', r2, hc, f2, k2, k3⟩ := PV.calmCells r1 hp1 f1 hf
  unfold AM.store at h
  split at h
  case h_2 => cases h
  rename_i rf off hpe
  split at h
  case isFalse => cases h
  rename_i hcond
  have hpv := r2.sf.seen p
  rw [hpe] at hpv
  obtain ⟨b, hpv', hb⟩ := hpv.ptr_inv
  obtain ⟨j1, ow', j2, j3, j4⟩ := write_run (P := P) r2 h hb hc f2
  have hsz : (a.eval x).cells.size = P.cellsOf t := by have := hc.1; simp at this; rw [this]; exact hcond.1
  refine ⟨w.setCells b off (a.eval x).cells.toList, ?_, ?_⟩
  · rw [hpv']
    simp [Instr.storeAt, Instr.sureAddr, storeVar, run_sizeOf hcond.2.1, hsz, j1]
  · have hm : ∀ b o, ownOf ow x b o → May g ow b o := fun b o h => by cases x <;> first | exact .own h | exact h.elim
    have t0 : Tr (May g ow) g w (g.less X) (w.setCells b off (a.eval x).cells.toList) := (Tr.less (M := May g ow) X).trans j3 fun b o h => by
      rcases May.less h with h | ⟨p, h⟩
      · exact .inl (.inl h)
      · exact .inl (.own (k1 _ _ _ h))
    obtain ⟨ow'', ho⟩ := Out.of (g := g) (w := w) (ow := ow) (dst := dst) j2 (PV.undef (o := Nobody) undef) (Free.nobody _ _) t0 (fun p b o h => by
      rcases j4 p b o h with h | h
      · exact .inl (.own (k1 _ _ _ h))
      · exact .inl (hm _ _ (k2 _ _ h))) (fun b o h => h.elim) (fun b o h1 h2 => .inl (.inl ⟨h1, h2.1⟩)) (fun b o h => (Classical.em (X b o)).elim (fun hx => .inl (hm _ _ (k3 _ _ hx))) fun hx => .inr ⟨h, hx⟩) (fun _ h => .inl h)
    exact ⟨_, ow'', ho⟩

theorem PV.shv {o : Nat → Nat → Prop} {x : AV} {v : Value} (h : PV g w o x v) (hc : x.isCell = true) : V g w x.sh v ∧ x.sh.isCell = true := by
  refine ⟨h.sh fun sz es e => ?_, ?_⟩
  · subst e; simp [AV.isCell] at hc
  · cases x with
    | list fl sz es => cases fl <;> simp_all [AV.sh, AV.isCell]
    | _ => exact hc

/-- Loads. -/
theorem load_out (r : Rel g w ow fr a.tmps σ) {tk : Bool} {t : TypeId} {p : Operand} {v : AV} (h : AM.load P tk t (seen fr p) σ = some (v, σ')) :
    ∃ val, (Instr.loadAt t (a.eval p)).run P w = .ok val w ∧ ∃ g' ow', Out g w ow dst v fr σ' a.tmps g' w ow' val := by
  have plain : AM.load P false t (seen fr p) σ = some (v, σ') → ∃ val, (Instr.loadAt t (a.eval p)).run P w = .ok val w ∧ ∃ g' ow', Out g w ow dst v fr σ' a.tmps g' w ow' val := by
    intro h
    obtain ⟨rfl, val, k1, k2⟩ := loadAt_run r.ss h (r.sf.seen p)
    exact ⟨val, k1, g, Out.pure r k2⟩
  cases tk with
  | false => exact plain h
  | true =>
    cases ha : aggOf P t with
    | none => simp [AM.load, ha] at h
    | some b =>
      cases b with
      | true => exact plain (by simpa [AM.load, ha] using h)
      | false =>
        by_cases hp : ∃ rf off, seen fr p = .ptr rf off
        · obtain ⟨rf, off, hp⟩ := hp
          rw [hp] at h
          simp only [AM.load, ha] at h
          cases hb : boxOf σ rf with
          | none => simp [hb] at h
          | some cs =>
            simp only [hb, Option.bind_some] at h
            split at h
            case h_2 => cases h
            rename_i v' hv'
            simp only [Option.some.injEq, Prod.mk.injEq] at h
            obtain ⟨rfl, rfl⟩ := h
            have hpv := r.sf.seen p
            rw [hp] at hpv
            obtain ⟨bl, hpv', hr⟩ := hpv.ptr_inv
            obtain ⟨hu, b', xs, E, fz, hr', hbox⟩ := r.ss.box hb
            rw [hr] at hr'; injection hr' with hr'; subst hr'
            obtain ⟨val, c1, c2, c3⟩ := hbox.read hv'
            have hl : off + 1 ≤ cs.length := (List.getElem?_eq_some_iff.1 hv').1
            -- the place gives up what it owned
            have r1 : Rel g w (ow.set (rf.pl off) Nobody) fr a.tmps (setBox σ rf (splice cs off [v'.sh])) := by
              refine ⟨?_, r.own.set (Free.nobody _ _), ?_⟩
              · refine r.ss.setBox (xs' := xs) (E' := E) (fz' := fz) r.own hb hr (Tr.refl Nought g w) (fun _ _ h => False.elim h) r.ss.lt rfl rfl (fun _ _ _ _ h => h) ?_ ⟨hbox.obj, by rw [splice_length _ _ _ hl]; exact hbox.le, ?_, fun i hi => by rw [splice_length _ _ _ hl] at hi; exact hbox.wr i hi⟩ ?_
                · refine under_splice hl hu ?_
                  have := (under_mem.1 hu) v' (List.mem_of_getElem? hv')
                  simp only [AV.under.go, Bool.and_true]
                  revert this
                  cases v' with
                  | list fl sz es => cases fl <;> simp [AV.sh, AV.under]
                  | _ => exact id
                · intro i x hi
                  rw [splice_get _ _ _ hl] at hi
                  by_cases e : i = off
                  · subst e
                    rw [if_pos (by simp), Nat.sub_self] at hi
                    simp at hi; subst hi
                    obtain ⟨u, u1, u2, u3⟩ := hbox.val i v' hv'
                    obtain ⟨s1, s2⟩ := u2.shv u3
                    exact ⟨u, u1, PV.of s1, s2⟩
                  · rw [if_neg (by simp; omega)] at hi
                    obtain ⟨u, u1, u2, u3⟩ := hbox.val i x hi
                    refine ⟨u, u1, ?_, u3⟩
                    rw [Own.set_other _ _ (by cases rf <;> simp [Ref.pl, e])]; exact u2
                · intro p b' x hp _ h
                  rw [Own.set_other _ _ (hp off)]; exact h
              · refine r.sf.later (Tr.refl Nought g w) (fun _ _ h => False.elim h) (fun _ _ _ _ h => h) fun i b x h => ?_
                rw [Own.set_other _ _ (by cases rf <;> simp [Ref.pl])]; exact h
            refine ⟨val, ?_, ?_⟩
            · rw [hpv']
              simp [Instr.loadAt, Instr.sureAddr, loadVar, run_aggOf ha, Go.load, Sem.run, c1]
            · obtain ⟨ow'', ho⟩ := Out.of (g := g) (w := w) (ow := ow) (dst := dst) r1 c2 (r.own.take _) (Tr.refl _ _ _) (fun p b o h => by
                by_cases e : p = rf.pl off
                · rw [e, Own.set_same] at h; exact h.elim
                · rw [Own.set_other _ _ e] at h; exact .inl (.own h)) (fun b o h => .inl (.own h)) (fun b o h1 h2 => .inl (.inl ⟨h1, h2⟩)) (fun _ _ h => .inr h) (fun _ h => .inl h)
              exact ⟨g, ow'', ho⟩
        · refine plain ?_
          simp only [AM.load, ha] at h ⊢
          revert h
          cases hq : seen fr p <;> first | exact id | (exact (hp ⟨_, _, hq⟩).elim)
end
end Go.AM
