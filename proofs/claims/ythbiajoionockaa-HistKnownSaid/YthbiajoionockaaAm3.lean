import Derived.Test.YthbiajoionockaaAm2
import Derived.Deep.AppendSrc
import Derived.Laws.NewBlocks
import Derived.Laws.IdiomCopy
/-! How the relation goes on: nothing written, a new box, a store. -/
namespace Go.AM
open Go
set_option linter.unusedVariables false

section
variable {g g' g'' : G} {w w' w'' : World} {ow ow' : Own} {M M' : Nat → Nat → Prop} {σ σ' : St}

abbrev Nought : Nat → Nat → Prop := fun _ _ => False

theorem G.isBox_lt (s : SS g w ow σ) {b : Nat} (h : g.isBox b) : b < w.heap.size := by
  have hlt : ∀ {b : Nat} {o : Obj}, w.heap[b]? = some o → b < w.heap.size := fun h => (Array.getElem?_eq_some_iff.1 h).1
  rcases h with h | h
  · obtain ⟨n, hn, rfl⟩ := List.getElem_of_mem h
    have hn' : n < σ.stk.length := s.slen ▸ hn
    obtain ⟨_, b, xs, E, fz, h1, h2⟩ := s.stk n _ (List.getElem?_eq_getElem hn')
    rw [List.getElem?_eq_getElem hn] at h1
    injection h1 with h1; rw [h1]; exact hlt h2.obj
  · obtain ⟨n, hn, rfl⟩ := List.getElem_of_mem h
    have hn' : n < σ.heap.length := s.hlen ▸ hn
    have hg := List.getElem?_eq_getElem hn'
    cases ho : σ.heap[n] with
    | cells cs =>
      rw [ho] at hg
      obtain ⟨_, b, xs, E, fz, h1, h2⟩ := s.heap n _ hg
      rw [List.getElem?_eq_getElem hn] at h1
      injection h1 with h1; rw [h1]; exact hlt h2.obj
    | map es c =>
      rw [ho] at hg
      obtain ⟨b, xs, h1, h2⟩ := s.maps n es c hg
      rw [List.getElem?_eq_getElem hn] at h1
      injection h1 with h1; rw [h1]; exact hlt h2.obj
    | loop l =>
      rw [ho] at hg
      obtain ⟨b, r, h1, h2⟩ := s.loops n l hg
      rw [List.getElem?_eq_getElem hn] at h1
      injection h1 with h1; rw [h1]; exact hlt h2.obj
    | dead =>
      rw [ho] at hg
      obtain ⟨b, h1, h2⟩ := s.dead n hg
      rw [List.getElem?_eq_getElem hn] at h1
      injection h1 with h1; rw [h1]; exact h2

theorem Tr.lt (t : Tr M g w g' w') {b : Nat} (h : b < w.heap.size) : b < w'.heap.size := Nat.lt_of_lt_of_le h t.size

theorem BoxOK.still (t : Tr Nought g w g' w') {o o' : Nat → Nat → Nat → Prop} {b : Nat} {cs : List AV} {xs : Array Value} {E : TypeId} {fz : Nat × Nat} (h : BoxOK g w o b cs xs E fz)
    (ho : ∀ i b x, o i b x → o' i b x) (hw : ∀ o, g.wr b o → g'.wr b o) : BoxOK g' w' o' b cs xs E fz where
  obj := by
    have hb : b < w.heap.size := (Array.getElem?_eq_some_iff.1 h.obj).1
    rw [t.obj b hb fun _ h => h]; exact h.obj
  le := h.le
  val i a hi := by
    obtain ⟨v, h1, h2, h3⟩ := h.val i a hi
    exact ⟨v, h1, (h2.later t (fun _ _ h => h.elim) (fun _ _ _ h => h)).move (ho i), h3⟩
  wr i hi := ⟨hw _ (h.wr i hi).1, (h.wr i hi).2⟩

theorem EntryOK.later (L : Later g w g' w') {e : Entry} {x : MapEntry} (h : EntryOK g w e x) : EntryOK g' w' e x :=
  ⟨h.key.later L, h.val.later L, h.born, h.low, h.plain⟩

theorem MapOK.still (t : Tr Nought g w g' w') {b : Nat} {es : List Entry} {c : Nat} {xs : Array MapEntry} (h : MapOK g w b es c xs) (hw : ∀ o, g.wr b o → g'.wr b o) : MapOK g' w' b es c xs where
  obj := by
    have hb : b < w.heap.size := (Array.getElem?_eq_some_iff.1 h.obj).1
    rw [t.obj b hb fun _ h => h]; exact h.obj
  size := h.size
  val i e hi := by
    obtain ⟨x, h1, h2⟩ := h.val i e hi
    exact ⟨x, h1, h2.later (t.later fun _ _ h => h.elim)⟩
  wr := hw _ h.wr

theorem LoopOK.still (t : Tr Nought g w g' w') {b : Nat} {l : LoopA} {r : Loop} (h : LoopOK g w b l r) (hw : ∀ o, g.wr b o → g'.wr b o) : LoopOK g' w' b l r :=
  { h with
    obj := by
      have hb : b < w.heap.size := (Array.getElem?_eq_some_iff.1 h.obj).1
      rw [t.obj b hb fun _ h => h]; exact h.obj
    fr := h.fr.later (t.later fun _ _ h => h.elim)
    wr := hw _ h.wr }

theorem SS.still (s : SS g w ow σ) (t : Tr Nought g w g' w') (hlt : ∀ b o, g'.wr b o → b < w'.heap.size) (hs : g'.sb = g.sb) (hh : g'.hb = g.hb) (hw : ∀ b o, g.isBox b → g.wr b o → g'.wr b o)
    (ho : ∀ n i b x, ow (.stk n i) b x → ow' (.stk n i) b x) (ho' : ∀ n i b x, ow (.heap n i) b x → ow' (.heap n i) b x) : SS g' w' ow' σ where
  slen := by rw [hs]; exact s.slen
  hlen := by rw [hh]; exact s.hlen
  nodup := by rw [hs, hh]; exact s.nodup
  lt := hlt
  stk n cs hn := by
    obtain ⟨h0, b, xs, E, fz, h1, h2⟩ := s.stk n cs hn
    exact ⟨h0, b, xs, E, fz, by rw [hs]; exact h1, h2.still t (ho n) fun o => hw b o (.inl (List.mem_of_getElem? h1))⟩
  heap n cs hn := by
    obtain ⟨h0, b, xs, E, fz, h1, h2⟩ := s.heap n cs hn
    exact ⟨h0, b, xs, E, fz, by rw [hh]; exact h1, h2.still t (ho' n) fun o => hw b o (.inr (List.mem_of_getElem? h1))⟩
  maps n es c hn := by
    obtain ⟨b, xs, h1, h2⟩ := s.maps n es c hn
    exact ⟨b, xs, by rw [hh]; exact h1, h2.still t fun o => hw b o (.inr (List.mem_of_getElem? h1))⟩
  loops n l hn := by
    obtain ⟨b, r, h1, h2⟩ := s.loops n l hn
    exact ⟨b, r, by rw [hh]; exact h1, h2.still t fun o => hw b o (.inr (List.mem_of_getElem? h1))⟩
  dead n hn := by
    obtain ⟨b, h1, h2⟩ := s.dead n hn
    exact ⟨b, by rw [hh]; exact h1, t.lt h2⟩

theorem SF.later {fr : Fr} {tm : Array Value} (s : SF g w ow fr tm) (t : Tr M g w g' w') (hM : ∀ b o, M b o → g.wr b o) (hd : ∀ i b x, ow (.slot i) b x → ¬ M b x) (ho : ∀ i b x, ow (.slot i) b x → ow' (.slot i) b x) : SF g' w' ow' fr tm where
  size := s.size
  val i a hi := by
    obtain ⟨v, h1, h2⟩ := s.val i a hi
    exact ⟨v, h1, (h2.later t hM (hd i)).move (ho i)⟩

theorem Tr.heap (h : w'.heap = w.heap) (he : SameEnv w w' := by exact ⟨rfl, rfl, rfl⟩) : Tr M g w g w' where
  env := he
  size := by rw [h]; exact Nat.le_refl _
  obj b _ _ := by rw [h]
  cell b o _ _ := by unfold World.cell?; rw [h]
  live b o v hv := ⟨v, by unfold World.cell? at *; rw [h]; exact hv⟩
  froz b o _ := by unfold World.frozen?; rw [h]
  wr _ _ h := .inl h
  sb _ _ h := h
  hb _ _ h := h

/-- A new block, and who may write there. -/
theorem Tr.new {ob : Obj} (h : w'.heap = w.heap.push ob) {X : Nat → Prop} {sb hb : List Nat} (hsb : ∀ (n b : Nat), g.sb[n]? = some b → sb[n]? = some b) (hhb : ∀ (n b : Nat), g.hb[n]? = some b → hb[n]? = some b) (he : SameEnv w w' := by exact ⟨rfl, rfl, rfl⟩) :
    Tr M g w ⟨sb, hb, fun b o => g.wr b o ∨ b = w.heap.size ∧ X o⟩ w' where
  env := he
  size := by rw [h]; simp
  obj b hb _ := by rw [h, Array.getElem?_push_lt hb, Array.getElem?_eq_getElem hb]
  cell b o hb _ := by unfold World.cell?; rw [h, Array.getElem?_push_lt hb, Array.getElem?_eq_getElem hb]
  live b o v hv := by
    have hb := cell_lt hv
    exact ⟨v, by unfold World.cell? at *; rw [h, Array.getElem?_push_lt hb]; rw [Array.getElem?_eq_getElem hb] at hv; exact hv⟩
  froz b o hb := by unfold World.frozen?; rw [h, Array.getElem?_push_lt hb, Array.getElem?_eq_getElem hb]
  wr b o hw := hw.imp id fun h => by rw [h.1]; exact Nat.le_refl _
  sb := hsb
  hb := hhb

structure Rel (g : G) (w : World) (ow : Own) (fr : Fr) (tm : Array Value) (σ : St) : Prop where
  ss : SS g w ow σ
  own : OW g ow
  sf : SF g w ow fr tm

/-- Cells that nobody owns but the value in hand. -/
structure Free (g : G) (ow : Own) (ro : Nat → Nat → Prop) : Prop where
  wr : ∀ b o, ro b o → g.wr b o
  box : ∀ b o, ro b o → ¬ g.isBox b
  apart : ∀ p b o, ow p b o → ¬ ro b o

def Nobody : Nat → Nat → Prop := fun _ _ => False

theorem Free.nobody (g : G) (ow : Own) : Free g ow Nobody := ⟨fun _ _ h => h.elim, fun _ _ h => h.elim, fun _ _ _ _ h => h⟩

def Own.set (ow : Own) (p : Pl) (o : Nat → Nat → Prop) : Own := fun q => if q = p then o else ow q

theorem Own.set_same (ow : Own) (p : Pl) (o : Nat → Nat → Prop) : ow.set p o p = o := by simp [Own.set]
theorem Own.set_other (ow : Own) {p q : Pl} (o : Nat → Nat → Prop) (h : q ≠ p) : ow.set p o q = ow q := by simp [Own.set, h]

theorem OW.set (h : OW g ow) {p : Pl} {ro : Nat → Nat → Prop} (f : Free g ow ro) : OW g (ow.set p ro) where
  wr q b o hq := by
    by_cases e : q = p
    · rw [e, Own.set_same] at hq; exact f.wr _ _ hq
    · rw [Own.set_other _ _ e] at hq; exact h.wr _ _ _ hq
  box q b o hq := by
    by_cases e : q = p
    · rw [e, Own.set_same] at hq; exact f.box _ _ hq
    · rw [Own.set_other _ _ e] at hq; exact h.box _ _ _ hq
  one q r b o hq hr := by
    by_cases e : q = p <;> by_cases e' : r = p
    · rw [e, e']
    · rw [e, Own.set_same] at hq; rw [Own.set_other _ _ e'] at hr; exact (f.apart _ _ _ hr hq).elim
    · rw [e', Own.set_same] at hr; rw [Own.set_other _ _ e] at hq; exact (f.apart _ _ _ hq hr).elim
    · rw [Own.set_other _ _ e] at hq; rw [Own.set_other _ _ e'] at hr; exact h.one _ _ _ _ hq hr

theorem OW.take (h : OW g ow) (p : Pl) : Free g (ow.set p Nobody) (ow p) where
  wr b o hq := h.wr _ _ _ hq
  box b o hq := h.box _ _ _ hq
  apart q b o hq hp := by
    by_cases e : q = p
    · rw [e, Own.set_same] at hq; exact hq
    · rw [Own.set_other _ _ e] at hq; exact e (h.one _ _ _ _ hq hp)

theorem SS.own (s : SS g w ow σ) (ho : ∀ n i b x, ow (.stk n i) b x → ow' (.stk n i) b x) (ho' : ∀ n i b x, ow (.heap n i) b x → ow' (.heap n i) b x) : SS g w ow' σ :=
  s.still (Tr.refl _ g w) s.lt rfl rfl (fun _ _ _ h => h) ho ho'

def put (dst : Option Tmp) (v : Value) (tm : Array Value) : Array Value :=
  match dst with
  | some d => tm.setIfInBounds d v
  | none => tm

theorem SF.set {fr : Fr} {tm : Array Value} (s : SF g w ow fr tm) {d : Nat} {x : AV} {v : Value} (h : PV g w (ow' (.slot d)) x v) (ho : ∀ i, i ≠ d → ow' (.slot i) = ow (.slot i)) : SF g w ow' (fr.set d x) (tm.setIfInBounds d v) where
  size := by simp [s.size]
  val i a hi := by
    by_cases e : i = d
    · subst e
      have hl : i < fr.length := by
        rcases Nat.lt_or_ge i fr.length with h1 | h1
        · exact h1
        · rw [List.getElem?_eq_none (by simpa using h1)] at hi; simp at hi
      rw [List.getElem?_set_self hl] at hi
      injection hi with hi; subst hi
      exact ⟨v, by rw [Array.getElem?_setIfInBounds_self_of_lt (by rw [s.size]; exact hl)], h⟩
    · rw [List.getElem?_set_ne (Ne.symm e)] at hi
      obtain ⟨u, h1, h2⟩ := s.val i a hi
      exact ⟨u, by rw [Array.getElem?_setIfInBounds_ne (Ne.symm e)]; exact h1, by rw [ho i e]; exact h2⟩

/-- The value of an operation goes to its slot. -/
theorem Rel.put {fr : Fr} {tm : Array Value} (r : Rel g w ow fr tm σ) {dst : Option Tmp} {x : AV} {v : Value} {ro : Nat → Nat → Prop} (h : PV g w ro x v) (f : Free g ow ro) :
    ∃ ow', Rel g w ow' (putA dst x fr) (AM.put dst v tm) σ ∧ (∀ p b o, ow' p b o → ow p b o ∨ ro b o) ∧ (∀ n i, ow' (.stk n i) = ow (.stk n i)) ∧ (∀ n i, ow' (.heap n i) = ow (.heap n i)) := by
  cases dst with
  | none => exact ⟨ow, r, fun p b o h => .inl h, fun _ _ => rfl, fun _ _ => rfl⟩
  | some d =>
    refine ⟨ow.set (.slot d) ro, ⟨?_, r.own.set f, ?_⟩, ?_, ?_, ?_⟩
    · exact r.ss.own (fun n i b x h => by rw [Own.set_other _ _ (by simp)]; exact h) (fun n i b x h => by rw [Own.set_other _ _ (by simp)]; exact h)
    · exact r.sf.set (by rw [Own.set_same]; exact h) fun i e => Own.set_other _ _ (by simpa using e)
    · intro p b o h
      by_cases e : p = .slot d
      · rw [e, Own.set_same] at h; exact .inr h
      · rw [Own.set_other _ _ e] at h; exact .inl h
    · intro n i; exact Own.set_other _ _ (by simp)
    · intro n i; exact Own.set_other _ _ (by simp)
end
end Go.AM
