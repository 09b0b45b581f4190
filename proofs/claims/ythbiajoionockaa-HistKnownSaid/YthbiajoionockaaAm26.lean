import Derived.Test.YthbiajoionockaaAm25
/-! Boxes that go with their call or their round; what a function hands back. -/
namespace Go.AM
open Go
set_option linter.unusedVariables false
set_option linter.unusedSimpArgs false

theorem under_mono1 {m n : Nat} (hmn : m ≤ n) : ∀ (a : AV), AV.under m a = true → AV.under n a = true := by
  intro a
  refine AV.under.induct (motive_2 := fun a => AV.under m a = true → AV.under n a = true) (motive_1 := fun l => AV.under.go m l = true → AV.under.go n l = true) ?_ ?_ ?_ ?_ ?_ ?_ ?_ ?_ a
  all_goals (intros; simp_all [AV.under, AV.under.go])
  all_goals omega

theorem under_mono {m n : Nat} (hmn : m ≤ n) {l : List AV} (h : AV.under.go m l = true) : AV.under.go n l = true :=
  under_mem.2 fun a ha => under_mono1 hmn a (under_mem.1 h a ha)

def G.cut (g : G) (n : Nat) : G := { g with sb := g.sb.take n }
def St.cut (σ : St) (n : Nat) : St := { σ with stk := σ.stk.take n }

theorem scalars_under {n : Nat} : ∀ {l : List AV} {vs : List Value}, scalars l = some vs → AV.under.go n l = true
  | [], _, _ => by simp [AV.under.go]
  | a :: l, vs, h => by
    cases a with
    | s x =>
      simp only [scalars] at h
      obtain ⟨r, h1, _⟩ := map_some h
      simp only [AV.under.go, AV.under, scalars_under h1]; rfl
    | _ => simp [scalars] at h

theorem toV_under {n : Nat} {a : AV} {v : Value} (h : a.toV = some v) : AV.under n a = true := by
  cases a with
  | s x => rfl
  | agg cs =>
    simp only [AV.toV] at h
    obtain ⟨r, h1, _⟩ := map_some h
    simp only [AV.under]; exact scalars_under h1
  | _ => simp [AV.toV] at h

section
variable {P : Program} {g g' g0 g1 g2 : G} {w w' w0 : World} {ow ow' ow0 ow1 : Own} {σ σ' : St} {fr fr' : Fr} {tm : Array Value} {a : Act}

theorem PV.cut {o : Nat → Nat → Prop} {n : Nat} {x : AV} {v : Value} (h : PV g w o x v) (hu : AV.under n x = true) : PV (g.cut n) w o x v := by
  have hg : ∀ {y : AV}, AV.under n y = true → V g w y v → V (g.cut n) w y v := fun hy h => VL.cut h (by simp only [AV.under.go, hy]; rfl)
  cases x with
  | list fl sz es =>
    cases fl with
    | own => obtain ⟨h1, a, len, cap, h2, h3⟩ := h; exact ⟨hg rfl h1, a, len, cap, h2, h3⟩
    | uniq =>
      obtain ⟨a, cap, xs, u⟩ := h
      exact ⟨a, cap, xs, { val := u.val, le := u.le, pos := u.pos, spot := u.spot, elems := u.elems, low := u.low, vl := u.vl.cut (under_low n (under_cells u.low)), cell := u.cell, spare := u.spare, off := u.off, lt := u.lt, all := u.all }⟩
    | sh => exact hg hu h
    | full => exact hg hu h
  | _ => exact hg hu h

theorem BoxOK.cut {o : Nat → Nat → Nat → Prop} {n b : Nat} {cs : List AV} {xs : Array Value} {E : TypeId} {fz : Nat × Nat} (h : BoxOK g w o b cs xs E fz) (hu : AV.under.go n cs = true) : BoxOK (g.cut n) w o b cs xs E fz where
  obj := h.obj
  le := h.le
  val i x hi := by
    obtain ⟨v, h1, h2, h3⟩ := h.val i x hi
    exact ⟨v, h1, h2.cut (under_mem.1 hu x (List.mem_of_getElem? hi)), h3⟩
  wr := h.wr

theorem SS.cut (s : SS g w ow σ) (n : Nat) : SS (g.cut n) w ow (σ.cut n) where
  slen := by simp [G.cut, St.cut, s.slen]
  hlen := s.hlen
  nodup := s.nodup.sublist (List.Sublist.append (List.take_sublist _ _) (List.Sublist.refl _))
  lt := s.lt
  stk m cs hm := by
    simp only [St.cut, List.getElem?_take] at hm
    split at hm
    · rename_i hlt
      obtain ⟨h0, b, xs, E, fz, h1, h2⟩ := s.stk m cs hm
      exact ⟨h0, b, xs, E, fz, by simp only [G.cut, List.getElem?_take, hlt, if_true]; exact h1, h2.cut (under_mono (Nat.le_of_lt hlt) h0)⟩
    · cases hm
  heap m cs hm := by
    obtain ⟨h0, b, xs, E, fz, h1, h2⟩ := s.heap m cs hm
    exact ⟨h0, b, xs, E, fz, h1, h2.cut (under_low n h0)⟩
  maps m es c hm := by
    obtain ⟨b, xs, h1, h2⟩ := s.maps m es c hm
    refine ⟨b, xs, h1, h2.obj, h2.size, fun i e hi => ?_, h2.wr⟩
    obtain ⟨x, h3, h4⟩ := h2.val i e hi
    exact ⟨x, h3, VL.cut h4.key (by simp only [AV.under.go, toV_under (n := n) h4.plain]; rfl), VL.cut h4.val (by simp only [AV.under.go, under_low1 n _ h4.low]; rfl), h4.born, h4.low, h4.plain⟩
  loops m l hm := by
    obtain ⟨b, q, h1, h2⟩ := s.loops m l hm
    exact ⟨b, q, h1, { h2 with fr := h2.fr.cut (under_low n h2.low) }⟩
  dead m hm := s.dead m hm

theorem G.cut_isBox {n b : Nat} (h : (g.cut n).isBox b) : g.isBox b := h.imp (fun h => List.mem_of_mem_take h) id

theorem Rel.cut (r : Rel g w ow fr tm σ) (n : Nat) (hu : AV.under.go n fr = true) : Rel (g.cut n) w ow fr tm (σ.cut n) where
  ss := r.ss.cut n
  own := ⟨r.own.wr, fun p b o h hb => r.own.box p b o h (G.cut_isBox hb), r.own.one⟩
  sf := ⟨r.sf.size, fun i x hi => by
    obtain ⟨v, h1, h2⟩ := r.sf.val i x hi
    exact ⟨v, h1, h2.cut (under_mem.1 hu x (List.mem_of_getElem? hi))⟩⟩

theorem take_of_prefix {l l' : List Nat} (h : ∀ (n b : Nat), l[n]? = some b → l'[n]? = some b) : l'.take l.length = l := by
  apply List.ext_getElem?
  intro i
  rw [List.getElem?_take]
  by_cases hi : i < l.length
  · rw [if_pos hi, List.getElem?_eq_getElem hi]
    exact h i _ (List.getElem?_eq_getElem hi)
  · rw [if_neg hi, List.getElem?_eq_none (by omega)]

theorem Way.cut (h : Way g0 w0 ow0 g w ow) {n : Nat} (hn : g0.sb.length = n) : Way g0 w0 ow0 (g.cut n) w ow where
  tr := ⟨h.tr.size, h.tr.obj, h.tr.cell, h.tr.live, h.tr.froz, h.tr.wr, fun m b hm => by
    have : m < n := hn ▸ (List.getElem?_eq_some_iff.1 hm).1
    simp only [G.cut, List.getElem?_take, this, if_true]; exact h.tr.sb m b hm, h.tr.hb, h.tr.env⟩
  may b o hm := h.may b o (hm.imp (fun ⟨h1, h2⟩ => ⟨G.cut_isBox h1, h2⟩) id)
  keep := h.keep
  hbn := h.hbn

theorem Way.sb_cut (h : Way g0 w0 ow0 g w ow) {n : Nat} (hn : g0.sb.length = n) : (g.cut n).sb = g0.sb := by
  subst hn; exact take_of_prefix h.tr.sb

/-- Slots that live no more. -/
theorem keep_length : ∀ (m : List Bool) (fr : Fr), (AM.keep m fr).length = fr.length
  | [], fr => by simp [AM.keep]
  | true :: m, [] => by simp [AM.keep]
  | false :: m, [] => by simp [AM.keep]
  | true :: m, x :: xs => by simp [AM.keep, keep_length m xs]
  | false :: m, x :: xs => by simp [AM.keep, keep_length m xs]

theorem keep_get : ∀ (m : List Bool) (fr : Fr) (i : Nat) (x : AV), (AM.keep m fr)[i]? = some x → ∃ y, fr[i]? = some y ∧ (x = y ∨ x = .undef)
  | [], fr, i, x, h => ⟨x, by simpa [AM.keep] using h, .inl rfl⟩
  | true :: m, [], i, x, h => by simp [AM.keep] at h
  | false :: m, [], i, x, h => by simp [AM.keep] at h
  | true :: m, y :: ys, i, x, h => by
    cases i with
    | zero => simp [AM.keep] at h; exact ⟨y, rfl, .inl h.symm⟩
    | succ i => simp only [AM.keep, List.getElem?_cons_succ] at h ⊢; exact keep_get m ys i x h
  | false :: m, y :: ys, i, x, h => by
    cases i with
    | zero => simp [AM.keep] at h; exact ⟨y, rfl, .inr h.symm⟩
    | succ i => simp only [AM.keep, List.getElem?_cons_succ] at h ⊢; exact keep_get m ys i x h

theorem Rel.keep (r : Rel g w ow fr tm σ) (m : List Bool) : Rel g w ow (AM.keep m fr) tm σ where
  ss := r.ss
  own := r.own
  sf := ⟨by rw [keep_length]; exact r.sf.size, fun i x hi => by
    obtain ⟨y, h1, h2⟩ := keep_get m fr i x hi
    obtain ⟨v, h3, h4⟩ := r.sf.val i y h1
    rcases h2 with rfl | rfl
    · exact ⟨v, h3, h4⟩
    · exact ⟨v, h3, PV.undef v⟩⟩

/-! ### Results -/
def resV (tm : Array Value) : ResultVar → Sem Value
  | .tmp t => pure (tm.getD t undef)
  | .cell x t => do loadVar t (← asAddr (tm.getD x undef))

theorem cell_run (s : SS g w ow σ) {t : TypeId} {p v : AV} {pv : Value} {s' : St} (h : load P false t p σ = some (v, s')) (hp : V g w p pv) :
    ∃ val, (do loadVar t (← asAddr pv) : Sem Value).run P w = .ok val w ∧ V g w v val := by
  obtain ⟨_, val, h1, h2⟩ := loadAt_run s h hp
  refine ⟨val, ?_, h2⟩
  have : ∃ ad, pv = .pointer (some ad) := by
    unfold load at h
    cases p with
    | ptr r off => obtain ⟨b, rfl, _⟩ := hp.ptr_inv; exact ⟨_, rfl⟩
    | rop cs => cases hp with | rop => exact ⟨_, rfl⟩
    | _ =>
      split at h
      · split at h
        · cases h
        · simp [readCells] at h
      · simp [readCells] at h
      · cases h
  obtain ⟨ad, rfl⟩ := this
  exact h1

/-- A result of its own. -/
theorem result_run (r : Rel g w ow fr tm σ) {x : ResultVar} {v : AV} (h : resultA P fr σ x = some v) : ∃ val o, (resV tm x).run P w = .ok val w ∧ PV g w o v val ∧ (o = Nobody ∨ ∃ t, o = ow (.slot t)) := by
  cases x with
  | tmp t =>
    simp only [resultA, Option.some.injEq] at h; subst h
    exact ⟨_, ow (.slot t), rfl, r.sf.getD t, .inr ⟨t, rfl⟩⟩
  | cell x t =>
    simp only [resultA] at h
    obtain ⟨⟨u, s'⟩, h1, h2⟩ := map_some h
    dsimp only at h2; subst h2
    have hp : V g w (AV.look (fr.getD x .undef)) (tm.getD x undef) := (r.sf.getD x).look
    have h1' : load P false t (AV.look (fr.getD x .undef)) σ = some (u, s') := by
      have : ∀ {y : AV}, load P false t y σ = some (u, s') → load P false t y.look σ = some (u, s') := by
        intro y hy
        cases y with
        | list fl sz es =>
          unfold load at hy
          split at hy
          · split at hy
            · cases hy
            · simp [readCells] at hy
          · simp [readCells] at hy
          · cases hy
        | _ => exact hy
      exact this h1
    obtain ⟨val, h3, h4⟩ := cell_run r.ss h1' hp
    exact ⟨val, Nobody, h3, PV.of h4, .inl rfl⟩

theorem results_run (r : Rel g w ow fr tm σ) : ∀ {l : List ResultVar} {vs : List AV}, resultsA P fr σ l = some vs → ∃ vals, (l.mapM (resV tm)).run P w = .ok vals w ∧ VL g w (vs.map AV.look) vals
  | [], vs, h => by
    simp only [resultsA, Option.some.injEq] at h; subst h
    exact ⟨[], rfl, .nil⟩
  | x :: l, vs, h => by
    simp only [resultsA] at h
    split at h
    · rename_i v vs' h1 h2
      injection h with h; subst h
      obtain ⟨val, o, h3, h4, _⟩ := result_run r h1
      obtain ⟨vals, h5, h6⟩ := results_run r h2
      refine ⟨val :: vals, ?_, VL.cons_of h4.look h6⟩
      rw [List.mapM_cons, Sem.run_bind, h3]
      simp only [Result.andThen_ok, Sem.run_bind, h5]
      rfl
    · cases h

theorem results_eq (fn : Func) (tm : Array Value) : results fn tm = (do let vs ← fn.results.toList.mapM (resV tm); pure (if h : vs.toArray.size = 1 then vs.toArray[0] else .tuple vs.toArray)) := by
  have e : results fn tm = (fn.results.mapM (resV tm) >>= fun vs => pure (if h : vs.size = 1 then vs[0] else .tuple vs)) := by
    unfold results
    refine congrArg (fun (f : ResultVar → Sem Value) => Array.mapM f fn.results >>= fun vs => (pure (if h : vs.size = 1 then vs[0] else Value.tuple vs) : Sem Value)) (funext fun x => ?_)
    cases x <;> rfl
  rw [e]
  conv => lhs; rw [← Array.toArray_toList (xs := fn.results), List.mapM_toArray]
  simp

theorem cut_under {n : Nat} {as : List AV} {vs : List Value} (h : VL g w as vs) (hu : AV.under.go n as = true) : VL (g.cut n) w as vs := VL.cut h hu

theorem look_under {n : Nat} {x : AV} (h : AV.under n x = true) : AV.under n x.look = true := by
  cases x with
  | list fl sz es => cases fl <;> rfl
  | _ => exact h

/-- What a function hands back. -/
theorem finish_run {fn : Func} {base : Nat} {v : AV} (r : Rel g w ow fr tm σ) (W : Way g0 w0 ow0 g w ow) (hb : g0.sb.length = base) (h : finish P base fn fr σ = some (v, σ')) :
    ∃ rv g' ow', (results fn tm).run P w = .ok rv w ∧ Ret g0 w0 ow0 v σ' rv g' w ow' := by
  unfold finish at h
  split at h
  · rename_i x hx
    split at h
    case isFalse => cases h
    rename_i hu
    simp only [Option.some.injEq, Prod.mk.injEq] at h
    obtain ⟨rfl, rfl⟩ := h
    -- one result
    have hl : ∃ z, fn.results.toList = [z] ∧ resultA P fr σ z = some x := by
      match hz : fn.results.toList with
      | [] => rw [hz] at hx; simp [resultsA] at hx
      | [z] =>
        rw [hz] at hx
        simp only [resultsA] at hx
        split at hx
        · rename_i v vs h1 h2
          simp only [Option.some.injEq] at h2 hx; subst h2
          simp only [List.cons.injEq, and_true] at hx; subst hx
          exact ⟨z, rfl, h1⟩
        · cases hx
      | z :: z' :: l =>
        rw [hz] at hx
        simp only [resultsA] at hx
        split at hx
        · rename_i h1 h2
          split at h2
          · simp only [Option.some.injEq] at h2 hx; subst h2; simp at hx
          · cases h2
        · cases hx
    obtain ⟨z, hz, hz1⟩ := hl
    obtain ⟨val, o, h1, h2, h3⟩ := result_run r hz1
    have hrun : (results fn tm).run P w = .ok val w := by
      rw [results_eq, hz, List.mapM_cons, List.mapM_nil]
      simp only [Sem.run_bind, h1, Result.andThen_ok]
      rfl
    let ow' : Own := fun p => match p with | .slot 0 => o | .slot _ => Nobody | p => ow p
    have ho : ∀ p b i, ow' p b i → ow p b i ∨ o b i ∧ p = .slot 0 := by
      intro p b i hp
      cases p with
      | slot j =>
        cases j with
        | zero => exact .inr ⟨hp, rfl⟩
        | succ j => exact (show Nobody b i from hp).elim
      | stk m j => exact .inl hp
      | heap m j => exact .inl hp
    have hown : ∀ b i, o b i → ∃ t, ow (.slot t) b i := by
      intro b i hi
      rcases h3 with rfl | ⟨t, rfl⟩
      · exact hi.elim
      · exact ⟨t, hi⟩
    have hmem : ∀ p b i, ow' p b i → ∃ q, ow q b i := fun p b i hp => (ho p b i hp).elim (fun h => ⟨p, h⟩) fun h => let ⟨t, ht⟩ := hown b i h.1; ⟨_, ht⟩
    have hone : ∀ p q b i, ow' p b i → ow' q b i → p = q := by
      intro p q b i hp hq
      cases p with
      | slot j =>
        cases j with
        | succ j => exact (show Nobody b i from hp).elim
        | zero =>
          obtain ⟨t, ht⟩ := hown b i hp
          cases q with
          | slot k =>
            cases k with
            | zero => rfl
            | succ k => exact (show Nobody b i from hq).elim
          | stk m k => exact Pl.noConfusion (r.own.one _ _ _ _ ht (show ow (.stk m k) b i from hq))
          | heap m k => exact Pl.noConfusion (r.own.one _ _ _ _ ht (show ow (.heap m k) b i from hq))
      | stk m j =>
        cases q with
        | slot k =>
          cases k with
          | zero => obtain ⟨t, ht⟩ := hown b i hq; exact Pl.noConfusion (r.own.one _ _ _ _ ht (show ow (.stk m j) b i from hp))
          | succ k => exact (show Nobody b i from hq).elim
        | stk m' k => exact r.own.one _ _ _ _ (show ow (.stk m j) b i from hp) (show ow (.stk m' k) b i from hq)
        | heap m' k => exact r.own.one _ _ _ _ (show ow (.stk m j) b i from hp) (show ow (.heap m' k) b i from hq)
      | heap m j =>
        cases q with
        | slot k =>
          cases k with
          | zero => obtain ⟨t, ht⟩ := hown b i hq; exact Pl.noConfusion (r.own.one _ _ _ _ ht (show ow (.heap m j) b i from hp))
          | succ k => exact (show Nobody b i from hq).elim
        | stk m' k => exact r.own.one _ _ _ _ (show ow (.heap m j) b i from hp) (show ow (.stk m' k) b i from hq)
        | heap m' k => exact r.own.one _ _ _ _ (show ow (.heap m j) b i from hp) (show ow (.heap m' k) b i from hq)
    have r1 : Rel g w ow' [x] #[val] σ := {
      ss := r.ss.own (fun _ _ _ _ h => h) fun _ _ _ _ h => h
      own := ⟨fun p b i hp => let ⟨q, hq⟩ := hmem p b i hp; r.own.wr _ _ _ hq, fun p b i hp => let ⟨q, hq⟩ := hmem p b i hp; r.own.box _ _ _ hq, hone⟩
      sf := ⟨rfl, fun i y hi => by
        cases i with
        | zero => simp at hi; subst hi; exact ⟨val, rfl, h2⟩
        | succ i => simp at hi⟩ }
    refine ⟨val, g.cut base, ow', hrun, r1.cut base (by simp only [AV.under.go, hu]; rfl), ?_, W.sb_cut hb⟩
    have W' : Way g w ow g w ow' := ⟨Tr.refl _ _ _, fun b i hm => .inl (hm.imp id fun ⟨p, hp⟩ => hmem p b i hp), fun _ _ h => .inr h, fun _ h => .inl h⟩
    have W2 : Way g0 w0 ow0 g w ow' := ⟨W.tr, fun b i hm => W.may b i (hm.imp id fun ⟨p, hp⟩ => hmem p b i hp), W.keep, W.hbn⟩
    exact W2.cut hb
  · rename_i vs hne hx
    split at h
    case isFalse => cases h
    rename_i hu
    simp only [Option.some.injEq, Prod.mk.injEq] at h
    obtain ⟨rfl, rfl⟩ := h
    obtain ⟨vals, h1, h2⟩ := results_run r hx
    have hlen : vs.length ≠ 1 := fun e => by
      match vs, e with
      | [y], _ => exact hne y rfl
    have hlv : vals.length = vs.length := by have := h2.length; simpa using this
    have hrun : (results fn tm).run P w = .ok (.tuple vals.toArray) w := by
      rw [results_eq]
      simp only [Sem.run_bind, h1, Result.andThen_ok]
      rw [dif_neg (by simp; omega)]
      rfl
    let ow' : Own := fun p => match p with | .slot _ => Nobody | p => ow p
    have hsub : ∀ p b i, ow' p b i → ow p b i := by
      intro p b i hp
      cases p with
      | slot j => exact (show Nobody b i from hp).elim
      | stk m j => exact hp
      | heap m j => exact hp
    have r1 : Rel g w ow' [.tup (vs.map AV.look)] #[.tuple vals.toArray] σ := {
      ss := r.ss.own (fun _ _ _ _ h => h) fun _ _ _ _ h => h
      own := ⟨fun p b i hp => r.own.wr _ _ _ (hsub _ _ _ hp), fun p b i hp => r.own.box _ _ _ (hsub _ _ _ hp), fun p q b i hp hq => r.own.one _ _ _ _ (hsub _ _ _ hp) (hsub _ _ _ hq)⟩
      sf := ⟨rfl, fun i y hi => by
        cases i with
        | zero => simp at hi; subst hi; exact ⟨_, rfl, PV.of (.tup (by simpa using h2) .nil)⟩
        | succ i => simp at hi⟩ }
    have hu' : AV.under.go base (vs.map AV.look) = true := under_mem.2 fun y hy => by
      obtain ⟨z, hz, rfl⟩ := List.mem_map.1 hy
      exact look_under (under_mem.1 hu z hz)
    refine ⟨.tuple vals.toArray, g.cut base, ow', hrun, r1.cut base (by simp only [AV.under.go, AV.under, hu']; rfl), ?_, W.sb_cut hb⟩
    have W2 : Way g0 w0 ow0 g w ow' := ⟨W.tr, fun b i hm => W.may b i (hm.imp id fun ⟨p, hp⟩ => ⟨p, hsub _ _ _ hp⟩), W.keep, W.hbn⟩
    exact W2.cut hb
  · cases h
end
end Go.AM
