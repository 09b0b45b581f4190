import Derived.Test.YthbiajoionockaaAm12
import Derived.Great.BuildSlice
/-! Operations that make or write memory. -/
namespace Go.AM
open Go
set_option linter.unusedVariables false

section
variable {P : Program} {g g' : G} {w w' : World} {ow ow' ow1 : Own} {σ σ' : St} {fr fr' : Fr} {tm : Array Value} {a : Act} {dst : Option Tmp}

theorem Tr.nought {M : Nat → Nat → Prop} (t : Tr Nought g w g' w') : Tr M g w g' w' := t.weaken fun _ _ h => h.elim

/-- An outcome whose value lies in a new block. -/
theorem Out.new {v : AV} {val : Value} {wr' : Nat → Nat → Prop} {ro : Nat → Nat → Prop} (r : Rel { g with wr := wr' } w' ow fr tm σ) (t : Tr Nought g w { g with wr := wr' } w') (f : Free { g with wr := wr' } ow ro)
    (hro : ∀ b o, ro b o → b = w.heap.size) (hwr : ∀ b o, wr' b o → g.wr b o ∨ b = w.heap.size) (hk : ∀ b o, g.wr b o → wr' b o) (hv : PV { g with wr := wr' } w' ro v val) : ∃ g' ow', Out g w ow dst v fr σ tm g' w' ow' val := by
  obtain ⟨ow', h⟩ := Out.of (g := g) (w := w) (ow := ow) (dst := dst) r hv f t.nought (fun p b o h => .inl (.own h)) (fun b o h => .inr (Nat.le_of_eq (hro b o h).symm)) (fun b o h1 h2 => (hwr b o h2).elim (fun h => .inl (.inl ⟨h1, h⟩)) fun h => .inr (Nat.le_of_eq h.symm)) (fun b o h => .inr (hk b o h)) (fun _ h => .inl h)
  exact ⟨_, ow', h⟩

/-- From what is one's own alone to what may be shared, in an outcome. -/
theorem Out.calm {sz : Nat} {es : List AV} {v : AV} {val : Value} {wr' : Nat → Nat → Prop} {ro : Nat → Nat → Prop} (r : Rel { g with wr := wr' } w' ow fr tm σ) (t : Tr Nought g w { g with wr := wr' } w') (f : Free { g with wr := wr' } ow ro)
    (hro : ∀ b o, ro b o → b = w.heap.size) (hwr : ∀ b o, wr' b o → g.wr b o ∨ b = w.heap.size) (hkw : ∀ b o, g.wr b o → wr' b o) (hlt : ∀ b o, g.wr b o → b < w.heap.size) (hv : PV { g with wr := wr' } w' ro (.list .uniq sz es) val)
    (hk : ∀ (g1 : G) ro', PV g1 w' ro' (.list .own sz es) val → PV g1 w' ro' v val) : ∃ g' ow', Out g w ow dst v fr σ tm g' w' ow' val := by
  obtain ⟨X, ro', r', hp, f', k1, k2⟩ := Uniq.calm r hv f
  have t' : Tr Nought g w (G.less { g with wr := wr' } X) w' := t.trans (Tr.less (M := Nought) X) fun _ _ h => False.elim h
  exact Out.new (wr' := fun b o => wr' b o ∧ ¬ X b o) r' t' f' (fun b o h => hro b o (k1 b o h)) (fun b o h => hwr b o h.1) (fun b o h => ⟨hkw b o h, fun hx => by have := hro b o (k2 b o hx); have := hlt b o h; omega⟩) (hk _ _ hp)

theorem PV.toFull {o : Nat → Nat → Prop} {sz : Nat} {es : List AV} {ad : Addr} {n : Nat} (h : PV g w o (.list .own sz es) (.slice (some ad) n n)) : PV g w o (.list .full sz es) (.slice (some ad) n n) := by
  obtain ⟨h1, _⟩ := h
  cases h1 with
  | list k1 k2 k3 k4 k5 k6 k7 k8 k9 _ => exact VL.list (.inr ⟨rfl, rfl⟩) k2 k3 k4 k5 k6 k7 k8 k9 .nil

theorem newVar_run {t : TypeId} {v : Value} : (newVar t v).run P w = .ok ⟨w.heap.size, 0, none⟩ (w.alloc (.cells v.cells t)) := by
  simp [newVar, newRow]

/-- A box that an operation makes. -/
theorem Out.box {hp : Bool} {rf : Ref} {cs : List AV} {vals : Array Value} {E : TypeId} {ro : Nat → Nat → Prop} {fr1 : Fr} (r : Rel g w ow1 fr1 tm σ) (h : AM.newBox hp cs σ = some (rf, σ')) (hv : Cells g w ro cs vals.toList) (f : Free g ow1 ro)
    (h1 : ∀ p b o, ow1 p b o → ow p b o) (h2 : ∀ b o, ro b o → May g ow b o) :
    ∃ g' ow', Out g w ow dst (.ptr rf 0) fr1 σ' tm g' (w.alloc (.cells vals E)) ow' (.pointer (some ⟨w.heap.size, 0, none⟩)) := by
  obtain ⟨g', ow', r', k1, k2, k3, k4, k5, k6, k7⟩ := r.newBox h hv f (w' := w.alloc (.cells vals E)) rfl
  have hlt : ∀ b o, May g ow b o → True := fun _ _ _ => trivial
  obtain ⟨ow'', h⟩ := Out.of (g := g) (w := w) (ow := ow) (dst := dst) r' (PV.of (o := Nobody) (.ptr k1 .nil)) (Free.nobody _ _) k2.nought (fun p b o h => by
    rcases k3 p b o h with h | h
    · exact .inl (.own (h1 _ _ _ h))
    · exact .inl (h2 _ _ h)) (fun b o h => h.elim) (fun b o hb hw => by
      rcases k5 b hb with hb | hb
      · rcases k2.wr b o hw with hw | hw
        · exact .inl (.inl ⟨hb, hw⟩)
        · exact .inr hw
      · exact .inr (Nat.le_of_eq hb.symm)) (fun b o h => .inr (k6 b o h)) (fun b h => (k7 b h).imp id fun h => Nat.le_of_eq h.symm)
  exact ⟨g', ow'', h⟩

theorem alloc_out (r : Rel g w ow fr tm σ) {hp : Bool} {t : TypeId} {z : AV} {rf : Ref} (hz : zeroA P t = some z) (h : AM.newBox hp z.cells σ = some (rf, σ')) :
    ∃ val w', (Instr.alloc t true (.tuple #[])).run P w = .ok val w' ∧ ∃ g' ow', Out g w ow dst (.ptr rf 0) fr σ' tm g' w' ow' val := by
  obtain ⟨zv, hz1, hz2, _⟩ := zeroA_run hz
  obtain ⟨_, k2, k3, _⟩ := ofPlain_V (g := g) (w := w) hz2
  exact ⟨.pointer (some ⟨w.heap.size, 0, none⟩), w.alloc (.cells zv.cells t), by simp [Instr.alloc, hz1, newVar_run], Out.box r h (Cells.of (ro := Nobody) k2 k3) (Free.nobody _ _) (fun _ _ _ h => h) fun _ _ h => h.elim⟩

theorem PV.calmCells {ro : Nat → Nat → Prop} {x : AV} {v : Value} (r : Rel g w ow fr tm σ) (h : PV g w ro x v) (f : Free g ow ro) (hf : x.fit = true) :
    ∃ X ro', Rel (g.less X) w ow fr tm σ ∧ Cells (g.less X) w ro' x.calm.cells v.cells.toList ∧ Free (g.less X) ow ro' ∧ (∀ b o, ro' b o → ro b o) ∧ (∀ b o, X b o → ro b o) := by
  have same : ∀ (hx : x.calm = x), Cells g w ro x.cells v.cells.toList → ∃ X ro', Rel (g.less X) w ow fr tm σ ∧ Cells (g.less X) w ro' x.calm.cells v.cells.toList ∧ Free (g.less X) ow ro' ∧ (∀ b o, ro' b o → ro b o) ∧ (∀ b o, X b o → ro b o) := by
    intro hx hc
    refine ⟨fun _ _ => False, ro, r.less (fun _ _ h => h.elim) (fun _ _ _ _ h => h), ⟨by rw [hx]; exact hc.1, fun i c hi => ?_⟩, f.less fun b o h => ⟨h, fun h => h⟩, fun _ _ h => h, fun _ _ h => h.elim⟩
    rw [hx] at hi
    obtain ⟨u, h1, h2, h3⟩ := hc.2 i c hi
    exact ⟨u, h1, h2.later (Tr.less (M := Nought) _) (fun _ _ h => h.elim) (fun _ _ _ h => h), h3⟩
  have plain : (hx : x.calm = x) → x.common = true → ∃ X ro', Rel (g.less X) w ow fr tm σ ∧ Cells (g.less X) w ro' x.calm.cells v.cells.toList ∧ Free (g.less X) ow ro' ∧ (∀ b o, ro' b o → ro b o) ∧ (∀ b o, X b o → ro b o) := by
    intro hx hc
    obtain ⟨k1, k2⟩ := V.cells (h.plain hc) hf
    exact same hx (Cells.of k1 k2)
  cases x with
  | list fl sz es =>
    cases fl with
    | uniq =>
      obtain ⟨X, ro', r', hp, f', k1, k2⟩ := Uniq.calm r h f
      obtain ⟨ad, cap, xs, u⟩ := h
      refine ⟨X, ro', r', ?_, f', k1, k2⟩
      rw [u.val] at hp ⊢
      exact Cells.one hp rfl
    | own =>
      obtain ⟨h1, ad, n, c, rfl, h2⟩ := h
      exact same rfl (Cells.one ⟨h1, ad, n, c, rfl, h2⟩ rfl)
    | sh => exact plain rfl rfl
    | full => exact plain rfl rfl
  | _ => exact plain rfl rfl

theorem May_less {X : Nat → Nat → Prop} {b o : Nat} (h : May (g.less X) ow b o) : May g ow b o := May.less h

/-- 'box': the value goes into a box of its own. -/
theorem box_out (r : Rel g w ow fr a.tmps σ) {tk hp : Bool} {x : Operand} {t : TypeId} {rf : Ref} (hf : (taken tk fr x).1.fit = true) (h : AM.newBox hp (taken tk fr x).1.calm.cells σ = some (rf, σ')) :
    ∃ g' ow', Out g w ow dst (.ptr rf 0) (taken tk fr x).2 σ' a.tmps g' (w.alloc (.cells (a.eval x).cells t)) ow' (.pointer (some ⟨w.heap.size, 0, none⟩)) := by
  -- first what is taken, then what it leaves
  have step : ∃ g1 ow1 ro, Rel g1 w ow1 (taken tk fr x).2 a.tmps σ ∧ Cells g1 w ro (taken tk fr x).1.calm.cells (a.eval x).cells.toList ∧ Free g1 ow1 ro ∧ Tr Nought g w g1 w ∧ (∀ p b o, ow1 p b o → ow p b o) ∧ (∀ b o, ro b o → May g ow b o) ∧ (∀ b o, g1.wr b o → g.wr b o) ∧ (∀ b, g1.isBox b → g.isBox b) ∧ (∀ b o, g.wr b o → May g ow b o ∨ g1.wr b o) ∧ g1.hb = g.hb := by
    cases tk with
    | true =>
      obtain ⟨ow1, r1, hp1, f1, k1⟩ := taken_true r x
      obtain ⟨X, ro', r2, hc, f2, k2, k3⟩ := PV.calmCells r1 hp1 f1 hf
      have hm : ∀ b o, ownOf ow x b o → May g ow b o := fun b o this => by cases x <;> first | exact .own this | exact this.elim
      exact ⟨g.less X, ow1, ro', r2, hc, f2, Tr.less X, k1, fun b o h => hm _ _ (k2 _ _ h), fun _ _ h => h.1, fun _ h => h, fun b o h => (Classical.em (X b o)).elim (fun hx => .inl (hm _ _ (k3 _ _ hx))) fun hx => .inr ⟨h, hx⟩, rfl⟩
    | false =>
      obtain ⟨g1, ow1, r1, hv, t1, k1, k2, k3, k6, k7, k8⟩ := taken_false r x
      obtain ⟨X, ro', r2, hc, f2, k4, k5⟩ := PV.calmCells r1 (PV.of (o := Nobody) hv) (Free.nobody _ _) hf
      refine ⟨g1.less X, ow1, ro', r2, hc, f2, ?_, k1, fun b o h => (k4 _ _ h).elim, fun _ _ h => k2 _ _ h.1, fun _ h => k3 _ h, fun b o h => (k6 b o h).elim (fun h => .inr ⟨h, fun hx => (k5 _ _ hx).elim⟩) fun h => .inl (.inr h), k8⟩
      exact ⟨Nat.le_refl _, fun _ _ _ => rfl, fun _ _ _ _ => rfl, fun _ _ v h => ⟨v, h⟩, fun _ _ _ => rfl, fun _ _ h => .inl (k2 _ _ h.1), t1.sb, t1.hb, ⟨rfl, rfl, rfl⟩⟩
  obtain ⟨g1, ow1, ro, r1, hc, f1, t1, k1, k2, k3, k4, k5, k6⟩ := step
  obtain ⟨g', ow', r', j1, j2, j3, j4, j5, j6, j7⟩ := r1.newBox h hc f1 (w' := w.alloc (.cells (a.eval x).cells t)) rfl
  obtain ⟨ow'', h⟩ := Out.of (g := g) (w := w) (ow := ow) (dst := dst) r' (PV.of (o := Nobody) (.ptr j1 .nil)) (Free.nobody _ _) (t1.trans j2 fun _ _ h => False.elim h).nought (fun p b o h => by
    rcases j3 p b o h with h | h
    · exact .inl (.own (k1 _ _ _ h))
    · exact .inl (k2 _ _ h)) (fun b o h => h.elim) (fun b o hb hw => by
      rcases j5 b hb with hb | hb
      · rcases j2.wr b o hw with hw | hw
        · exact .inl (.inl ⟨k4 _ hb, k3 _ _ hw⟩)
        · exact .inr hw
      · exact .inr (Nat.le_of_eq hb.symm)) (fun b o h => (k5 b o h).imp id (j6 b o)) (fun b h => (j7 b h).imp (fun h => k6 ▸ h) fun h => Nat.le_of_eq h.symm)
  exact ⟨g', ow'', h⟩
end
end Go.AM
