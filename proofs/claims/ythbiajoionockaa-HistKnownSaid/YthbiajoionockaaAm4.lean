import Derived.Test.YthbiajoionockaaAm3
/-! Operands, what is taken, boxes that are written. -/
namespace Go.AM
open Go
set_option linter.unusedVariables false

section
variable {g g' g'' : G} {w w' w'' : World} {ow ow' : Own} {M M' : Nat → Nat → Prop} {σ σ' : St}

theorem Sc.toV_ofV {v : Value} {x : Sc} (h : Sc.ofV v = some x) : x.toV = v := by
  unfold Sc.ofV at h
  split at h <;> simp at h <;> subst h <;> rfl

theorem PV.left {o : Nat → Nat → Prop} {x : AV} {v : Value} (h : PV g w o x v) : PV g w Nobody x.left v := by
  cases x with
  | list fl sz es =>
    cases fl with
    | own => exact h.1
    | uniq => exact VL.undef v .nil
    | sh => exact h
    | full => exact h
  | _ => exact h

theorem PV.undef {o : Nat → Nat → Prop} (v : Value) : PV g w o .undef v := VL.undef v .nil

/-- An operand's value at its place. -/
def ownOf (ow : Own) : Operand → Nat → Nat → Prop
  | .tmp t => ow (.slot t)
  | _ => Nobody

theorem SF.getD {fr : Fr} {tm : Array Value} (s : SF g w ow fr tm) (t : Nat) : PV g w (ow (.slot t)) (fr.getD t .undef) (tm.getD t undef) := by
  rcases Nat.lt_or_ge t fr.length with h | h
  · obtain ⟨v, h1, h2⟩ := s.val t _ (List.getElem?_eq_getElem h)
    have h3 : fr.getD t .undef = fr[t] := by simp [List.getD, h]
    have h4 : tm.getD t undef = v := by simp [h1]
    rw [h3, h4]; exact h2
  · rw [show fr.getD t .undef = .undef by simp [List.getD, List.getElem?_eq_none h]]
    exact PV.undef _

theorem SF.opnd {fr : Fr} {a : Act} (s : SF g w ow fr a.tmps) (x : Operand) : PV g w (ownOf ow x) (opnd fr x) (a.eval x) := by
  cases x with
  | tmp t => exact s.getD t
  | const v =>
    simp only [AM.opnd, Act.eval, AV.ofV]
    cases h : Sc.ofV v with
    | none => exact PV.undef _
    | some x => rw [← Sc.toV_ofV h]; exact PV.of (.sc x .nil)
  | global n => exact PV.undef _
  | func f => exact PV.of (.fn .nil .nil .nil)

theorem opnd_const_common (fr : Fr) (x : Operand) (h : ∀ t, x ≠ .tmp t) : (AM.opnd fr x).common = true := by
  cases x with
  | tmp t => exact (h t rfl).elim
  | const v => simp only [AM.opnd, AV.ofV]; split <;> rfl
  | global n => rfl
  | func f => rfl

theorem Rel.take {fr : Fr} {a : Act} (r : Rel g w ow fr a.tmps σ) (t : Nat) :
    PV g w (ow (.slot t)) (fr.getD t .undef) (a.tmps.getD t undef) ∧ Rel g w (ow.set (.slot t) Nobody) (fr.set t (fr.getD t .undef).left) a.tmps σ ∧ Free g (ow.set (.slot t) Nobody) (ow (.slot t)) := by
  refine ⟨r.sf.getD t, ⟨?_, r.own.set (Free.nobody _ _), ?_⟩, r.own.take _⟩
  · exact r.ss.own (fun n i b x h => by rw [Own.set_other _ _ (by simp)]; exact h) (fun n i b x h => by rw [Own.set_other _ _ (by simp)]; exact h)
  · have h := (r.sf.getD t).left
    refine ⟨by simp [r.sf.size], fun i x hi => ?_⟩
    by_cases e : i = t
    · subst e
      have hl : i < fr.length := by
        rcases Nat.lt_or_ge i fr.length with h1 | h1
        · exact h1
        · rw [List.getElem?_eq_none (by simpa using h1)] at hi; simp at hi
      rw [List.getElem?_set_self hl] at hi
      injection hi with hi; subst hi
      obtain ⟨v, h1, _⟩ := r.sf.val i _ (List.getElem?_eq_getElem hl)
      refine ⟨v, h1, ?_⟩
      rw [show a.tmps.getD i undef = v by simp [h1]] at h
      rw [Own.set_same]; exact h
    · rw [List.getElem?_set_ne (Ne.symm e)] at hi
      obtain ⟨u, h1, h2⟩ := r.sf.val i x hi
      exact ⟨u, h1, by rw [Own.set_other _ _ (by simpa using e)]; exact h2⟩

def Ref.pl (r : Ref) (i : Nat) : Pl :=
  match r with
  | .stk n => .stk n i
  | .heap n => .heap n i

def Ref.level : Ref → Nat
  | .stk n => n
  | .heap _ => 0

theorem SS.box (s : SS g w ow σ) {r : Ref} {cs : List AV} (h : boxOf σ r = some cs) : AV.under.go r.level cs = true ∧ ∃ b xs E fz, g.ref r = some b ∧ BoxOK g w (fun i => ow (r.pl i)) b cs xs E fz := by
  cases r with
  | stk n => exact s.stk n cs h
  | heap n =>
    simp only [boxOf] at h
    split at h
    · rename_i cs' hn; injection h with h; subst h; exact s.heap n _ hn
    · cases h

theorem G.ref_isBox {r : Ref} {b : Nat} (h : g.ref r = some b) : g.isBox b := by
  cases r with
  | stk n => exact .inl (List.mem_of_getElem? h)
  | heap n => exact .inr (List.mem_of_getElem? h)

theorem nodup_ref {sb hb : List Nat} (h : (sb ++ hb).Nodup) : (∀ (i j b : Nat), sb[i]? = some b → sb[j]? = some b → i = j) ∧ (∀ (i j b : Nat), hb[i]? = some b → hb[j]? = some b → i = j) ∧ (∀ (i j b : Nat), sb[i]? = some b → hb[j]? = some b → False) := by
  obtain ⟨h1, h2, h3⟩ := List.nodup_append.1 h
  refine ⟨fun i j b hi hj => ?_, fun i j b hi hj => ?_, fun i j b hi hj => h3 b (List.mem_of_getElem? hi) b (List.mem_of_getElem? hj) rfl⟩
  · exact (List.getElem?_inj (List.getElem?_eq_some_iff.1 hi).1 h1).1 (hi.trans hj.symm)
  · exact (List.getElem?_inj (List.getElem?_eq_some_iff.1 hi).1 h2).1 (hi.trans hj.symm)

theorem BoxOK.later (t : Tr M g w g' w') (hM : ∀ b o, M b o → g.wr b o) {o o' : Nat → Nat → Nat → Prop} {b : Nat} {cs : List AV} {xs : Array Value} {E : TypeId} {fz : Nat × Nat} (h : BoxOK g w o b cs xs E fz)
    (hb' : ∀ o, ¬ M b o) (hd : ∀ i b x, o i b x → ¬ M b x) (ho : ∀ i b x, o i b x → o' i b x) (hw : ∀ o, g.wr b o → g'.wr b o) : BoxOK g' w' o' b cs xs E fz where
  obj := by
    have hb : b < w.heap.size := (Array.getElem?_eq_some_iff.1 h.obj).1
    rw [t.obj b hb hb']; exact h.obj
  le := h.le
  val i a hi := by
    obtain ⟨v, h1, h2, h3⟩ := h.val i a hi
    exact ⟨v, h1, (h2.later t hM (hd i)).move (ho i), h3⟩
  wr i hi := ⟨hw _ (h.wr i hi).1, (h.wr i hi).2⟩

theorem MapOK.later (t : Tr M g w g' w') (hM : ∀ b o, M b o → g.wr b o) {b : Nat} {es : List Entry} {c : Nat} {xs : Array MapEntry} (h : MapOK g w b es c xs) (hb' : ∀ o, ¬ M b o) (hw : ∀ o, g.wr b o → g'.wr b o) : MapOK g' w' b es c xs where
  obj := by
    have hb : b < w.heap.size := (Array.getElem?_eq_some_iff.1 h.obj).1
    rw [t.obj b hb hb']; exact h.obj
  size := h.size
  val i e hi := by
    obtain ⟨x, h1, h2⟩ := h.val i e hi
    exact ⟨x, h1, h2.later (t.later hM)⟩
  wr := hw _ h.wr

theorem LoopOK.later (t : Tr M g w g' w') (hM : ∀ b o, M b o → g.wr b o) {b : Nat} {l : LoopA} {r : Loop} (h : LoopOK g w b l r) (hb' : ∀ o, ¬ M b o) (hw : ∀ o, g.wr b o → g'.wr b o) : LoopOK g' w' b l r :=
  { h with
    obj := by
      have hb : b < w.heap.size := (Array.getElem?_eq_some_iff.1 h.obj).1
      rw [t.obj b hb hb']; exact h.obj
    fr := h.fr.later (t.later hM)
    wr := hw _ h.wr }

/-- One box, or one map, is another; all else is as it was. -/
theorem SS.replace (s : SS g w ow σ) (hown : OW g ow) {b : Nat} (hbox : g.isBox b) (t : Tr M g w g' w') (hM : ∀ b' o, M b' o → b' = b ∧ g.wr b' o) (hlt : ∀ b o, g'.wr b o → b < w'.heap.size) (hsb : g'.sb = g.sb) (hhb : g'.hb = g.hb)
    (hw : ∀ b' o, b' ≠ b → g.isBox b' → g.wr b' o → g'.wr b' o)
    (hls : σ'.stk.length = σ.stk.length) (hlh : σ'.heap.length = σ.heap.length)
    (stk : ∀ (n : Nat) (cs : List AV), σ'.stk[n]? = some cs → g.sb[n]? = some b → AV.under.go n cs = true ∧ ∃ xs E fz, BoxOK g' w' (fun i => ow' (.stk n i)) b cs xs E fz)
    (heap : ∀ (n : Nat) (cs : List AV), σ'.heap[n]? = some (.cells cs) → g.hb[n]? = some b → AV.under.go 0 cs = true ∧ ∃ xs E fz, BoxOK g' w' (fun i => ow' (.heap n i)) b cs xs E fz)
    (maps : ∀ (n : Nat) (es : List Entry) (c : Nat), σ'.heap[n]? = some (.map es c) → g.hb[n]? = some b → ∃ xs, MapOK g' w' b es c xs)
    (loops : ∀ (n : Nat) (l : LoopA), σ'.heap[n]? = some (.loop l) → g.hb[n]? = some b → ∃ r, LoopOK g' w' b l r)
    (stk' : ∀ (n : Nat), g.sb[n]? ≠ some b → σ'.stk[n]? = σ.stk[n]?) (heap' : ∀ (n : Nat), g.hb[n]? ≠ some b → σ'.heap[n]? = σ.heap[n]?)
    (ho : ∀ (n i b' x : Nat), g.sb[n]? ≠ some b → ow (.stk n i) b' x → ow' (.stk n i) b' x) (ho' : ∀ (n i b' x : Nat), g.hb[n]? ≠ some b → ow (.heap n i) b' x → ow' (.heap n i) b' x) : SS g' w' ow' σ' where
  slen := by rw [hsb, hls]; exact s.slen
  hlen := by rw [hhb, hlh]; exact s.hlen
  nodup := by rw [hsb, hhb]; exact s.nodup
  lt := hlt
  stk n cs hn := by
    by_cases e : g.sb[n]? = some b
    · obtain ⟨h0, xs, E, fz, h1⟩ := stk n cs hn e
      exact ⟨h0, b, xs, E, fz, by rw [hsb]; exact e, h1⟩
    · rw [stk' n e] at hn
      obtain ⟨h0, b', xs, E, fz, h1, h2⟩ := s.stk n cs hn
      have hne : b' ≠ b := fun h => e (h ▸ h1)
      refine ⟨h0, b', xs, E, fz, by rw [hsb]; exact h1, h2.later t (fun _ _ h => (hM _ _ h).2) (fun o h => hne (hM _ _ h).1) (fun i b'' x h hMx => ?_) (fun i b'' x h => ho n i b'' x e h) fun o => hw b' o hne (.inl (List.mem_of_getElem? h1))⟩
      exact hown.box _ _ _ h ((hM _ _ hMx).1 ▸ hbox)
  heap n cs hn := by
    by_cases e : g.hb[n]? = some b
    · obtain ⟨h0, xs, E, fz, h1⟩ := heap n cs hn e
      exact ⟨h0, b, xs, E, fz, by rw [hhb]; exact e, h1⟩
    · rw [heap' n e] at hn
      obtain ⟨h0, b', xs, E, fz, h1, h2⟩ := s.heap n cs hn
      have hne : b' ≠ b := fun h => e (h ▸ h1)
      refine ⟨h0, b', xs, E, fz, by rw [hhb]; exact h1, h2.later t (fun _ _ h => (hM _ _ h).2) (fun o h => hne (hM _ _ h).1) (fun i b'' x h hMx => ?_) (fun i b'' x h => ho' n i b'' x e h) fun o => hw b' o hne (.inr (List.mem_of_getElem? h1))⟩
      exact hown.box _ _ _ h ((hM _ _ hMx).1 ▸ hbox)
  maps n es c hn := by
    by_cases e : g.hb[n]? = some b
    · obtain ⟨xs, h1⟩ := maps n es c hn e
      exact ⟨b, xs, by rw [hhb]; exact e, h1⟩
    · rw [heap' n e] at hn
      obtain ⟨b', xs, h1, h2⟩ := s.maps n es c hn
      have hne : b' ≠ b := fun h => e (h ▸ h1)
      exact ⟨b', xs, by rw [hhb]; exact h1, h2.later t (fun _ _ h => (hM _ _ h).2) (fun o h => hne (hM _ _ h).1) fun o => hw b' o hne (.inr (List.mem_of_getElem? h1))⟩
  loops n l hn := by
    by_cases e : g.hb[n]? = some b
    · obtain ⟨r, h1⟩ := loops n l hn e
      exact ⟨b, r, by rw [hhb]; exact e, h1⟩
    · rw [heap' n e] at hn
      obtain ⟨b', r, h1, h2⟩ := s.loops n l hn
      have hne : b' ≠ b := fun h => e (h ▸ h1)
      exact ⟨b', r, by rw [hhb]; exact h1, h2.later t (fun _ _ h => (hM _ _ h).2) (fun o h => hne (hM _ _ h).1) fun o => hw b' o hne (.inr (List.mem_of_getElem? h1))⟩
  dead n hn := by
    by_cases e : g.hb[n]? = some b
    · exact ⟨b, by rw [hhb]; exact e, t.lt (G.isBox_lt s hbox)⟩
    · rw [heap' n e] at hn
      obtain ⟨b', h1, h2⟩ := s.dead n hn
      exact ⟨b', by rw [hhb]; exact h1, t.lt h2⟩

/-- The same for a box that a reference names. -/
theorem SS.setBox (s : SS g w ow σ) (hown : OW g ow) {r : Ref} {b : Nat} {cs cs' : List AV} {xs' : Array Value} {E' : TypeId} {fz' : Nat × Nat} (hcs : boxOf σ r = some cs) (hr : g.ref r = some b) (t : Tr M g w g' w') (hM : ∀ b' o, M b' o → b' = b ∧ g.wr b' o) (hlt : ∀ b o, g'.wr b o → b < w'.heap.size) (hsb : g'.sb = g.sb) (hhb : g'.hb = g.hb)
    (hw : ∀ b' o, b' ≠ b → g.isBox b' → g.wr b' o → g'.wr b' o) (hu : AV.under.go r.level cs' = true)
    (hnew : BoxOK g' w' (fun i => ow' (r.pl i)) b cs' xs' E' fz')
    (ho : ∀ p b' x, (∀ i, p ≠ r.pl i) → (∀ i, p ≠ .slot i) → ow p b' x → ow' p b' x) : SS g' w' ow' (setBox σ r cs') := by
  obtain ⟨n1, n2, n3⟩ := nodup_ref s.nodup
  cases r with
  | stk m =>
    simp only [G.ref] at hr
    refine s.replace hown (.inl (List.mem_of_getElem? hr)) t hM hlt hsb hhb hw (by simp [AM.setBox]) (by simp [AM.setBox]) ?_ ?_ ?_ ?_ ?_ ?_ ?_ ?_
    · intro n c hn hb
      obtain rfl := n1 _ _ _ hb hr
      have hl : n < σ.stk.length := by rw [← s.slen]; exact (List.getElem?_eq_some_iff.1 hr).1
      simp only [AM.setBox] at hn
      rw [List.getElem?_set_self hl] at hn
      injection hn with hn; subst hn
      exact ⟨hu, _, _, _, hnew⟩
    · intro n c _ hb; exact (n3 _ _ _ hr hb).elim
    · intro n es c _ hb; exact (n3 _ _ _ hr hb).elim
    · intro n l _ hb; exact (n3 _ _ _ hr hb).elim
    · intro n hne
      have e : m ≠ n := fun e => hne (e ▸ hr)
      simp only [AM.setBox]; rw [List.getElem?_set_ne e]
    · intro n _; rfl
    · intro n i b' x hne h
      refine ho _ _ _ (fun j => ?_) (fun j => by simp) h
      simp only [Ref.pl, ne_eq, Pl.stk.injEq, not_and]
      intro e; exact (hne (e ▸ hr)).elim
    · intro n i b' x _ h
      exact ho _ _ _ (fun j => by simp [Ref.pl]) (fun j => by simp) h
  | heap m =>
    simp only [G.ref] at hr
    refine s.replace hown (.inr (List.mem_of_getElem? hr)) t hM hlt hsb hhb hw (by simp [AM.setBox]) (by simp [AM.setBox]) ?_ ?_ ?_ ?_ ?_ ?_ ?_ ?_
    · intro n c _ hb; exact (n3 _ _ _ hb hr).elim
    · intro n c hn hb
      obtain rfl := n2 _ _ _ hb hr
      have hl : n < σ.heap.length := by rw [← s.hlen]; exact (List.getElem?_eq_some_iff.1 hr).1
      simp only [AM.setBox] at hn
      rw [List.getElem?_set_self hl] at hn
      simp at hn; subst hn
      exact ⟨hu, _, _, _, hnew⟩
    · intro n es c hn hb
      obtain rfl := n2 _ _ _ hb hr
      have hl : n < σ.heap.length := by rw [← s.hlen]; exact (List.getElem?_eq_some_iff.1 hr).1
      simp only [AM.setBox] at hn
      rw [List.getElem?_set_self hl] at hn
      simp at hn
    · intro n l hn hb
      obtain rfl := n2 _ _ _ hb hr
      have hl : n < σ.heap.length := by rw [← s.hlen]; exact (List.getElem?_eq_some_iff.1 hr).1
      simp only [AM.setBox] at hn
      rw [List.getElem?_set_self hl] at hn
      simp at hn
    · intro n _; rfl
    · intro n hne
      have e : m ≠ n := fun e => hne (e ▸ hr)
      simp only [AM.setBox]; rw [List.getElem?_set_ne e]
    · intro n i b' x _ h
      exact ho _ _ _ (fun j => by simp [Ref.pl]) (fun j => by simp) h
    · intro n i b' x hne h
      refine ho _ _ _ (fun j => ?_) (fun j => by simp) h
      simp only [Ref.pl, ne_eq, Pl.heap.injEq, not_and]
      intro e; exact (hne (e ▸ hr)).elim
end
end Go.AM
