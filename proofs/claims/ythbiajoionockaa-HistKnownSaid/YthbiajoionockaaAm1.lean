import Derived.Test.YthbiajoionockaaAm0
/-! What the abstract machine's values and state mean in a world. -/
namespace Go.AM
open Go
set_option linter.unusedVariables false

structure G where
  sb : List Nat
  hb : List Nat
  wr : Nat → Nat → Prop

def G.isBox (g : G) (b : Nat) : Prop := b ∈ g.sb ∨ b ∈ g.hb

def G.ref (g : G) : Ref → Option Nat
  | .stk n => g.sb[n]?
  | .heap n => g.hb[n]?

/-- The cells from an address on. -/
def Lies (g : G) (w : World) (a : Addr) (xs : List Value) : Prop :=
  ∀ i v, xs[i]? = some v → w.cell? ⟨a.block, a.off + i, none⟩ = some v ∧ ¬ g.wr a.block (a.off + i)

def Elems (sz : Nat) (es : List AV) : Prop := ∀ e ∈ es, e.cells.length = sz ∧ ∀ c ∈ e.cells, c.isCell = true

inductive VL (g : G) (w : World) : List AV → List Value → Prop
  | nil : VL g w [] []
  | sc (x : Sc) {as : List AV} {vs : List Value} : VL g w as vs → VL g w (.s x :: as) (x.toV :: vs)
  | undef (v : Value) {as : List AV} {vs : List Value} : VL g w as vs → VL g w (.undef :: as) (v :: vs)
  | agg {cs : List AV} {xs : Array Value} {as : List AV} {vs : List Value} : (∀ c ∈ cs, c.isCell = true) → VL g w cs xs.toList → VL g w as vs → VL g w (.agg cs :: as) (.agg xs :: vs)
  | tup {cs : List AV} {xs : Array Value} {as : List AV} {vs : List Value} : VL g w cs xs.toList → VL g w as vs → VL g w (.tup cs :: as) (.tuple xs :: vs)
  | list {fl : Fl} {sz : Nat} {es : List AV} {a : Addr} {len cap : Nat} {xs : List Value} {as : List AV} {vs : List Value} :
      (fl = .sh ∨ fl = .full ∧ cap = len) → len = es.length → len ≤ cap → 0 < sz → a.spot = none → Elems sz es → AV.under.go 0 es = true →
      VL g w (es.flatMap AV.cells) xs → Lies g w a xs → VL g w as vs → VL g w (.list fl sz es :: as) (.slice (some a) len cap :: vs)
  | rop {cs : List AV} {a : Addr} {xs : List Value} {as : List AV} {vs : List Value} :
      a.spot = none → (∀ c ∈ cs, c.isCell = true) → AV.under.go 0 cs = true → VL g w cs xs → Lies g w a xs → VL g w as vs → VL g w (.rop cs :: as) (.pointer (some a) :: vs)
  | ptr {r : Ref} {off b : Nat} {as : List AV} {vs : List Value} : g.ref r = some b → VL g w as vs → VL g w (.ptr r off :: as) (.pointer (some ⟨b, off, none⟩) :: vs)
  | row {r : Ref} {off len cap c b : Nat} {as : List AV} {vs : List Value} : g.ref r = some b → len ≤ cap → cap ≤ c → VL g w as vs → VL g w (.row r off len cap :: as) (.slice (some ⟨b, off, none⟩) len c :: vs)
  | map {h b : Nat} {as : List AV} {vs : List Value} : g.hb[h]? = some b → VL g w as vs → VL g w (.map h :: as) (.map (some b) :: vs)
  | yield {h b : Nat} {as : List AV} {vs : List Value} : g.hb[h]? = some b → VL g w as vs → VL g w (.yield h :: as) (.func (.yield b) #[] #[] :: vs)
  | fn {f : Fn} {a c : List AV} {xs ys : Array Value} {as : List AV} {vs : List Value} : VL g w a xs.toList → VL g w c ys.toList → VL g w as vs → VL g w (.fn f a c :: as) (.func f xs ys :: vs)

abbrev V (g : G) (w : World) (a : AV) (v : Value) : Prop := VL g w [a] [v]

section
variable {g g' : G} {w w' : World}

theorem VL.cons_of {a : AV} {v : Value} {as : List AV} {vs : List Value} (h : V g w a v) (t : VL g w as vs) : VL g w (a :: as) (v :: vs) := by
  cases h with
  | sc x _ => exact .sc x t
  | undef v _ => exact .undef v t
  | agg h0 h1 _ => exact .agg h0 h1 t
  | tup h1 _ => exact .tup h1 t
  | list h1 h2 h3 h4 h5 h6 h7 h8 h9 _ => exact .list h1 h2 h3 h4 h5 h6 h7 h8 h9 t
  | rop h1 h2 h3 h4 h5 _ => exact .rop h1 h2 h3 h4 h5 t
  | ptr h1 _ => exact .ptr h1 t
  | row h1 h2 h3 _ => exact .row h1 h2 h3 t
  | map h1 _ => exact .map h1 t
  | fn h1 h2 _ => exact .fn h1 h2 t
  | yield h1 _ => exact .yield h1 t

theorem VL.inv {a : AV} {v : Value} {as : List AV} {vs : List Value} (h : VL g w (a :: as) (v :: vs)) : V g w a v ∧ VL g w as vs := by
  cases h with
  | sc x t => exact ⟨.sc x .nil, t⟩
  | undef v t => exact ⟨.undef v .nil, t⟩
  | agg h0 h1 t => exact ⟨.agg h0 h1 .nil, t⟩
  | tup h1 t => exact ⟨.tup h1 .nil, t⟩
  | list h1 h2 h3 h4 h5 h6 h7 h8 h9 t => exact ⟨.list h1 h2 h3 h4 h5 h6 h7 h8 h9 .nil, t⟩
  | rop h1 h2 h3 h4 h5 t => exact ⟨.rop h1 h2 h3 h4 h5 .nil, t⟩
  | ptr h1 t => exact ⟨.ptr h1 .nil, t⟩
  | row h1 h2 h3 t => exact ⟨.row h1 h2 h3 .nil, t⟩
  | map h1 t => exact ⟨.map h1 .nil, t⟩
  | fn h1 h2 t => exact ⟨.fn h1 h2 .nil, t⟩
  | yield h1 t => exact ⟨.yield h1 .nil, t⟩

theorem VL.nil_left {vs : List Value} (h : VL g w [] vs) : vs = [] := by cases h; rfl

theorem VL.cons_left {a : AV} {as : List AV} {vs : List Value} (h : VL g w (a :: as) vs) : ∃ v vs', vs = v :: vs' ∧ V g w a v ∧ VL g w as vs' := by
  cases vs with
  | nil => cases h
  | cons v vs => exact ⟨v, vs, rfl, h.inv⟩

theorem VL.length : ∀ {as : List AV} {vs : List Value}, VL g w as vs → vs.length = as.length
  | [], _, h => by rw [h.nil_left]; rfl
  | _ :: as, _, h => by
    obtain ⟨v, vs', rfl, _, h2⟩ := h.cons_left
    simp [VL.length h2]

theorem VL.get : ∀ {as : List AV} {vs : List Value} {i : Nat} {a : AV}, VL g w as vs → as[i]? = some a → ∃ v, vs[i]? = some v ∧ V g w a v
  | [], _, _, _, _, hi => by simp at hi
  | _ :: as, _, i, a, h, hi => by
    obtain ⟨v, vs', rfl, h1, h2⟩ := h.cons_left
    cases i with
    | zero => simp at hi; subst hi; exact ⟨v, rfl, h1⟩
    | succ i =>
      obtain ⟨u, h3, h4⟩ := VL.get (i := i) h2 (by simpa using hi)
      exact ⟨u, by simpa using h3, h4⟩

theorem VL.app : ∀ {as bs : List AV} {vs us : List Value}, VL g w as vs → VL g w bs us → VL g w (as ++ bs) (vs ++ us)
  | [], _, _, _, h, h' => by rw [h.nil_left]; exact h'
  | _ :: as, _, _, _, h, h' => by
    obtain ⟨v, vs', rfl, h1, h2⟩ := h.cons_left
    exact VL.cons_of h1 (VL.app h2 h')

theorem VL.takes : ∀ {as : List AV} {vs : List Value} (n : Nat), VL g w as vs → VL g w (as.take n) (vs.take n)
  | [], _, n, h => by rw [h.nil_left]; simpa using VL.nil
  | _ :: as, _, n, h => by
    obtain ⟨v, vs', rfl, h1, h2⟩ := h.cons_left
    cases n with
    | zero => simpa using VL.nil
    | succ n => exact VL.cons_of h1 (VL.takes n h2)

theorem VL.drops : ∀ {as : List AV} {vs : List Value} (n : Nat), VL g w as vs → VL g w (as.drop n) (vs.drop n)
  | [], _, n, h => by rw [h.nil_left]; simpa using VL.nil
  | _ :: as, _, n, h => by
    obtain ⟨v, vs', rfl, h1, h2⟩ := h.cons_left
    cases n with
    | zero => exact VL.cons_of h1 h2
    | succ n => exact VL.drops n h2

theorem VL.of_get : ∀ {as : List AV} {vs : List Value}, vs.length = as.length → (∀ (i : Nat) (a : AV), as[i]? = some a → ∃ v, vs[i]? = some v ∧ V g w a v) → VL g w as vs
  | [], vs, hl, _ => by
    have : vs = [] := List.length_eq_zero_iff.1 hl
    subst this; exact .nil
  | a :: as, vs, hl, h => by
    cases vs with
    | nil => simp at hl
    | cons v vs =>
      obtain ⟨v', h1, h2⟩ := h 0 a rfl
      simp at h1; subst h1
      refine VL.cons_of h2 (VL.of_get (by simpa using hl) fun i a hi => ?_)
      obtain ⟨u, h3, h4⟩ := h (i + 1) a (by simpa using hi)
      exact ⟨u, by simpa using h3, h4⟩

/-- What holds on in a later world. -/
structure Later (g : G) (w : World) (g' : G) (w' : World) : Prop where
  sb : ∀ (n b : Nat), g.sb[n]? = some b → g'.sb[n]? = some b
  hb : ∀ (n b : Nat), g.hb[n]? = some b → g'.hb[n]? = some b
  cell : ∀ (b o : Nat) (v : Value), w.cell? ⟨b, o, none⟩ = some v → ¬ g.wr b o → w'.cell? ⟨b, o, none⟩ = some v ∧ ¬ g'.wr b o

theorem Later.ref (m : Later g w g' w') {r : Ref} {b : Nat} (h : g.ref r = some b) : g'.ref r = some b := by
  cases r with
  | stk n => exact m.sb n b h
  | heap n => exact m.hb n b h

theorem Lies.later (m : Later g w g' w') {a : Addr} {xs : List Value} (h : Lies g w a xs) : Lies g' w' a xs :=
  fun i v hi => m.cell _ _ _ (h i v hi).1 (h i v hi).2

theorem VL.later (m : Later g w g' w') {as : List AV} {vs : List Value} (h : VL g w as vs) : VL g' w' as vs := by
  induction h with
  | nil => exact .nil
  | sc x _ ih => exact .sc x ih
  | undef v _ ih => exact .undef v ih
  | agg h0 _ _ ih1 ih => exact .agg h0 ih1 ih
  | tup _ _ ih1 ih => exact .tup ih1 ih
  | list h1 h2 h3 h4 h5 h6 h7 _ h9 _ ih1 ih => exact .list h1 h2 h3 h4 h5 h6 h7 ih1 (h9.later m) ih
  | rop h1 h2 h3 _ h5 _ ih1 ih => exact .rop h1 h2 h3 ih1 (h5.later m) ih
  | ptr h1 _ ih => exact .ptr (m.ref h1) ih
  | row h1 h2 h3 _ ih => exact .row (m.ref h1) h2 h3 ih
  | map h1 _ ih => exact .map (m.hb _ _ h1) ih
  | fn _ _ _ ih1 ih2 ih => exact .fn ih1 ih2 ih
  | yield h1 _ ih => exact .yield (m.hb _ _ h1) ih

theorem under_low1 (m : Nat) : ∀ (a : AV), AV.under 0 a = true → AV.under m a = true := by
  intro a
  refine AV.under.induct (motive_2 := fun a => AV.under 0 a = true → AV.under m a = true) (motive_1 := fun l => AV.under.go 0 l = true → AV.under.go m l = true) ?_ ?_ ?_ ?_ ?_ ?_ ?_ ?_ a
  all_goals (intros; simp_all [AV.under, AV.under.go])

theorem under_low (m : Nat) : ∀ {l : List AV}, AV.under.go 0 l = true → AV.under.go m l = true
  | [], _ => by simp [AV.under.go]
  | a :: l, h => by
    simp only [AV.under.go, Bool.and_eq_true] at h ⊢
    exact ⟨under_low1 m a h.1, under_low m h.2⟩

theorem under_app {n : Nat} : ∀ {l l' : List AV}, AV.under.go n (l ++ l') = (AV.under.go n l && AV.under.go n l')
  | [], l' => by simp [AV.under.go]
  | a :: l, l' => by simp [AV.under.go, under_app (l := l), Bool.and_assoc]

theorem under_cells1 {n : Nat} {a : AV} (h : AV.under n a = true) : AV.under.go n a.cells = true := by
  cases a with
  | agg cs => simpa [AV.cells, AV.under] using h
  | _ => simp only [AV.cells, AV.under.go, h]; rfl

theorem under_cells {n : Nat} : ∀ {l : List AV}, AV.under.go n l = true → AV.under.go n (l.flatMap AV.cells) = true
  | [], h => by simpa using h
  | a :: l, h => by
    simp only [AV.under.go, Bool.and_eq_true] at h
    rw [List.flatMap_cons, under_app, under_cells1 h.1, under_cells h.2]; rfl

theorem under_mem {n : Nat} : ∀ {l : List AV}, AV.under.go n l = true ↔ ∀ a ∈ l, AV.under n a = true
  | [] => by simp [AV.under.go]
  | a :: l => by simp [AV.under.go, under_mem (l := l)]

/-- References that are below n need the first n boxes alone. -/
theorem VL.cut {n : Nat} {as : List AV} {vs : List Value} (h : VL g w as vs) (hu : AV.under.go n as = true) : VL { g with sb := g.sb.take n } w as vs := by
  have hh : ∀ (a : Addr) (xs : List Value), Lies g w a xs → Lies { g with sb := g.sb.take n } w a xs := fun _ _ h => h
  induction h with
  | nil => exact .nil
  | sc x _ ih => exact .sc x (ih (by simpa [AV.under.go, AV.under] using hu))
  | undef v _ ih => exact .undef v (ih (by simpa [AV.under.go, AV.under] using hu))
  | agg h0 _ _ ih1 ih => simp [AV.under.go, AV.under] at hu; exact .agg h0 (ih1 hu.1) (ih hu.2)
  | tup _ _ ih1 ih => simp [AV.under.go, AV.under] at hu; exact .tup (ih1 hu.1) (ih hu.2)
  | list h1 h2 h3 h4 h5 h6 h7 _ h9 _ ih1 ih =>
    simp [AV.under.go, AV.under] at hu
    exact .list h1 h2 h3 h4 h5 h6 h7 (ih1 (under_low _ (under_cells h7))) (hh _ _ h9) (ih hu)
  | rop h1 h2 h3 _ h5 _ ih1 ih => simp [AV.under.go, AV.under] at hu; exact .rop h1 h2 h3 (ih1 (under_low _ h3)) (hh _ _ h5) (ih hu)
  | @ptr r off b _ _ h1 _ ih =>
    cases r with
    | stk m => simp [AV.under.go, AV.under] at hu; exact .ptr (by simp only [G.ref] at *; rw [List.getElem?_take]; simp [hu.1, h1]) (ih hu.2)
    | heap m => simp [AV.under.go, AV.under] at hu; exact .ptr h1 (ih hu)
  | @row r off len cap c b _ _ h1 h2 h3 _ ih =>
    cases r with
    | stk m => simp [AV.under.go, AV.under] at hu; exact .row (by simp only [G.ref] at *; rw [List.getElem?_take]; simp [hu.1, h1]) h2 h3 (ih hu.2)
    | heap m => simp [AV.under.go, AV.under] at hu; exact .row h1 h2 h3 (ih hu)
  | map h1 _ ih => exact .map h1 (ih (by simpa [AV.under.go, AV.under] using hu))
  | fn _ _ _ ih1 ih2 ih => simp [AV.under.go, AV.under] at hu; exact .fn (ih1 hu.1.1) (ih2 hu.1.2) (ih hu.2)
  | yield h1 _ ih => exact .yield h1 (ih (by simpa [AV.under.go, AV.under] using hu))
end
end Go.AM
