import Derived.Test.YthbiajoionockaaAm1
/-! The state, the frame, who owns what; how worlds follow each other. -/
namespace Go.AM
open Go
set_option linter.unusedVariables false

inductive Pl where
  | slot (i : Nat)
  | stk (n i : Nat)
  | heap (n i : Nat)
  deriving DecidableEq

abbrev Own := Pl → Nat → Nat → Prop

/-- The cells behind a slice, free to be written. -/
def Spare (w : World) (o : Nat → Nat → Prop) (a : Addr) (lo hi : Nat) : Prop :=
  ∀ j, lo ≤ j → j < hi → o a.block (a.off + j) ∧ (∃ v, w.cell? ⟨a.block, a.off + j, none⟩ = some v) ∧ w.frozen? ⟨a.block, a.off + j, none⟩ = false

structure Uniq (g : G) (w : World) (o : Nat → Nat → Prop) (sz : Nat) (es : List AV) (v : Value) (a : Addr) (cap : Nat) (xs : List Value) : Prop where
  val : v = .slice (some a) es.length cap
  le : es.length ≤ cap
  pos : 0 < sz
  spot : a.spot = none
  elems : Elems sz es
  low : AV.under.go 0 es = true
  vl : VL g w (es.flatMap AV.cells) xs
  cell : ∀ (i : Nat) (v : Value), xs[i]? = some v → w.cell? ⟨a.block, a.off + i, none⟩ = some v
  spare : Spare w o a 0 (cap * sz)
  off : a.off = 0
  lt : a.block < w.heap.size
  all : ∀ x, g.wr a.block x → o a.block x

/-- A value at a place that owns o. -/
def PV (g : G) (w : World) (o : Nat → Nat → Prop) (x : AV) (v : Value) : Prop :=
  match x with
  | .list .own sz es => V g w (.list .sh sz es) v ∧ ∃ a len cap, v = .slice (some a) len cap ∧ Spare w o a (len * sz) (cap * sz)
  | .list .uniq sz es => ∃ a cap xs, Uniq g w o sz es v a cap xs
  | x => V g w x v

structure OW (g : G) (ow : Own) : Prop where
  wr : ∀ p b o, ow p b o → g.wr b o
  box : ∀ p b o, ow p b o → ¬ g.isBox b
  one : ∀ p q b o, ow p b o → ow q b o → p = q

structure BoxOK (g : G) (w : World) (o : Nat → Nat → Nat → Prop) (b : Nat) (cs : List AV) (xs : Array Value) (E : TypeId) (fz : Nat × Nat) : Prop where
  obj : w.heap[b]? = some (.cells xs E fz)
  le : cs.length ≤ xs.size
  val : ∀ (i : Nat) (a : AV), cs[i]? = some a → ∃ v, xs[i]? = some v ∧ PV g w (o i) a v ∧ a.isCell = true
  wr : ∀ i, i < cs.length → g.wr b i ∧ ¬ (fz.1 ≤ i ∧ i < fz.2)

structure EntryOK (g : G) (w : World) (e : Entry) (x : MapEntry) : Prop where
  key : V g w e.key x.key
  val : V g w e.val x.val
  born : x.born = e.born
  low : AV.under 0 e.val = true
  plain : e.key.toV = some x.key

structure MapOK (g : G) (w : World) (b : Nat) (es : List Entry) (c : Nat) (xs : Array MapEntry) : Prop where
  obj : w.heap[b]? = some (.map xs c)
  size : xs.size = es.length
  val : ∀ (i : Nat) (e : Entry), es[i]? = some e → ∃ x, xs[i]? = some x ∧ EntryOK g w e x
  wr : g.wr b 0

def loopState (l : LoopA) : LoopState :=
  if l.ready then .ready else match l.pending with
    | none => .busy
    | some _ => .done

structure LoopOK (g : G) (w : World) (b : Nat) (l : LoopA) (r : Loop) : Prop where
  obj : w.heap[b]? = some (.loop r)
  params : r.params.toList = l.params
  assign : r.assign = l.assign
  body : r.body = l.body
  state : r.state = loopState l
  pending : r.pending = l.pending.map Ex.toCode
  fr : VL g w l.fr r.tmps.toList
  low : AV.under.go 0 l.fr = true
  wr : g.wr b 0

structure SS (g : G) (w : World) (ow : Own) (σ : St) : Prop where
  slen : g.sb.length = σ.stk.length
  hlen : g.hb.length = σ.heap.length
  nodup : (g.sb ++ g.hb).Nodup
  lt : ∀ b o, g.wr b o → b < w.heap.size
  stk : ∀ (n : Nat) (cs : List AV), σ.stk[n]? = some cs → AV.under.go n cs = true ∧ ∃ b xs E fz, g.sb[n]? = some b ∧ BoxOK g w (fun i => ow (.stk n i)) b cs xs E fz
  heap : ∀ (n : Nat) (cs : List AV), σ.heap[n]? = some (.cells cs) → AV.under.go 0 cs = true ∧ ∃ b xs E fz, g.hb[n]? = some b ∧ BoxOK g w (fun i => ow (.heap n i)) b cs xs E fz
  maps : ∀ (n : Nat) (es : List Entry) (c : Nat), σ.heap[n]? = some (.map es c) → ∃ b xs, g.hb[n]? = some b ∧ MapOK g w b es c xs
  loops : ∀ (n : Nat) (l : LoopA), σ.heap[n]? = some (.loop l) → ∃ b r, g.hb[n]? = some b ∧ LoopOK g w b l r
  dead : ∀ (n : Nat), σ.heap[n]? = some .dead → ∃ b, g.hb[n]? = some b ∧ b < w.heap.size

structure SF (g : G) (w : World) (ow : Own) (fr : Fr) (tm : Array Value) : Prop where
  size : tm.size = fr.length
  val : ∀ (i : Nat) (a : AV), fr[i]? = some a → ∃ v, tm[i]? = some v ∧ PV g w (ow (.slot i)) a v

/-- What may be written at all by the call that goes on. -/
def May (g : G) (ow : Own) (b o : Nat) : Prop := (g.isBox b ∧ g.wr b o) ∨ ∃ p, ow p b o

def SameEnv (w w' : World) : Prop := w'.os = w.os ∧ w'.tape = w.tape ∧ w'.output = w.output

structure Tr (M : Nat → Nat → Prop) (g : G) (w : World) (g' : G) (w' : World) : Prop where
  size : w.heap.size ≤ w'.heap.size
  obj : ∀ b, b < w.heap.size → (∀ o, ¬ M b o) → w'.heap[b]? = w.heap[b]?
  cell : ∀ b o, b < w.heap.size → ¬ M b o → w'.cell? ⟨b, o, none⟩ = w.cell? ⟨b, o, none⟩
  live : ∀ b o v, w.cell? ⟨b, o, none⟩ = some v → ∃ v', w'.cell? ⟨b, o, none⟩ = some v'
  froz : ∀ b o, b < w.heap.size → w'.frozen? ⟨b, o, none⟩ = w.frozen? ⟨b, o, none⟩
  wr : ∀ b o, g'.wr b o → g.wr b o ∨ w.heap.size ≤ b
  sb : ∀ (n b : Nat), g.sb[n]? = some b → g'.sb[n]? = some b
  hb : ∀ (n b : Nat), g.hb[n]? = some b → g'.hb[n]? = some b
  env : SameEnv w w'

section
variable {g g' g'' : G} {w w' w'' : World} {ow ow' : Own} {M M' : Nat → Nat → Prop}

theorem cell_lt {w : World} {b o : Nat} {v : Value} (h : w.cell? ⟨b, o, none⟩ = some v) : b < w.heap.size := by
  unfold World.cell? at h
  rcases Nat.lt_or_ge b w.heap.size with h1 | h1
  · exact h1
  · simp [Array.getElem?_eq_none h1] at h

theorem Tr.refl (M : Nat → Nat → Prop) (g : G) (w : World) : Tr M g w g w :=
  ⟨Nat.le_refl _, fun _ _ _ => rfl, fun _ _ _ _ => rfl, fun _ _ v h => ⟨v, h⟩, fun _ _ _ => rfl, fun _ _ h => .inl h, fun _ _ h => h, fun _ _ h => h, ⟨rfl, rfl, rfl⟩⟩

theorem Tr.weaken (t : Tr M g w g' w') (h : ∀ b o, M b o → M' b o) : Tr M' g w g' w' :=
  ⟨t.size, fun b hb hm => t.obj b hb fun o hM => hm o (h _ _ hM), fun b o hb hm => t.cell b o hb fun hM => hm (h _ _ hM), t.live, t.froz, t.wr, t.sb, t.hb, t.env⟩

theorem Tr.trans (t : Tr M g w g' w') (t' : Tr M' g' w' g'' w'') (h : ∀ b o, M' b o → M b o ∨ w.heap.size ≤ b) : Tr M g w g'' w'' where
  size := Nat.le_trans t.size t'.size
  obj b hb hm := by
    rw [t'.obj b (Nat.lt_of_lt_of_le hb t.size) fun o hM => (h b o hM).elim (hm o) fun h2 => by omega, t.obj b hb hm]
  cell b o hb hm := by
    rw [t'.cell b o (Nat.lt_of_lt_of_le hb t.size) fun hM => (h b o hM).elim hm fun h2 => by omega, t.cell b o hb hm]
  live b o v hv := by obtain ⟨v', h1⟩ := t.live b o v hv; exact t'.live b o v' h1
  froz b o hb := by rw [t'.froz b o (Nat.lt_of_lt_of_le hb t.size), t.froz b o hb]
  wr b o hw := by
    rcases t'.wr b o hw with h1 | h1
    · exact t.wr b o h1
    · exact .inr (Nat.le_trans t.size h1)
  sb n b hb := t'.sb n b (t.sb n b hb)
  hb n b hb := t'.hb n b (t.hb n b hb)
  env := ⟨t'.env.1.trans t.env.1, t'.env.2.1.trans t.env.2.1, t'.env.2.2.trans t.env.2.2⟩

theorem Tr.later (t : Tr M g w g' w') (h : ∀ b o, M b o → g.wr b o) : Later g w g' w' where
  sb := t.sb
  hb := t.hb
  cell b o v hv hw := by
    have hb := cell_lt hv
    refine ⟨by rw [t.cell b o hb fun hM => hw (h _ _ hM)]; exact hv, fun hw' => ?_⟩
    rcases t.wr b o hw' with h1 | h1
    · exact hw h1
    · omega

theorem Spare.later (t : Tr M g w g' w') {o : Nat → Nat → Prop} {a : Addr} {lo hi : Nat} (h : Spare w o a lo hi) : Spare w' o a lo hi := by
  intro j h1 h2
  obtain ⟨h3, ⟨v, h4⟩, h5⟩ := h j h1 h2
  exact ⟨h3, t.live _ _ _ h4, by rw [t.froz _ _ (cell_lt h4)]; exact h5⟩

theorem Uniq.len {o : Nat → Nat → Prop} {sz : Nat} {es : List AV} {v : Value} {a : Addr} {cap : Nat} {xs : List Value} (h : Uniq g w o sz es v a cap xs) : xs.length = es.length * sz := by
  have h1 : ∀ {l : List AV}, (∀ e ∈ l, e.cells.length = sz) → (l.flatMap AV.cells).length = l.length * sz := by
    intro l
    induction l with
    | nil => intro _; simp
    | cons e l ih =>
      intro he
      rw [List.flatMap_cons, List.length_append, ih fun e h => he e (by simp [h]), he e (by simp), List.length_cons, Nat.add_mul, Nat.one_mul, Nat.add_comm]
  rw [h.vl.length, h1 fun e he => (h.elems e he).1]

theorem PV.later (t : Tr M g w g' w') (hM : ∀ b o, M b o → g.wr b o) {o : Nat → Nat → Prop} (ho : ∀ b i, o b i → ¬ M b i) {x : AV} {v : Value} (h : PV g w o x v) : PV g' w' o x v := by
  have L := t.later hM
  cases x with
  | list fl sz es =>
    cases fl with
    | own =>
      obtain ⟨h1, a, len, cap, h2, h3⟩ := h
      exact ⟨VL.later L h1, a, len, cap, h2, h3.later t⟩
    | uniq =>
      obtain ⟨a, cap, xs, u⟩ := h
      refine ⟨a, cap, xs, u.val, u.le, u.pos, u.spot, u.elems, u.low, u.vl.later L, fun i v hi => ?_, u.spare.later t, u.off, Nat.lt_of_lt_of_le u.lt t.size, fun x hx => u.all x ((t.wr _ _ hx).resolve_right (by have := u.lt; omega))⟩
      have hc := u.cell i v hi
      have hl : i < cap * sz := Nat.lt_of_lt_of_le (List.getElem?_eq_some_iff.1 hi).1 (by rw [u.len]; exact Nat.mul_le_mul_right _ u.le)
      rw [t.cell _ _ (cell_lt hc) (by have := (u.spare i (Nat.zero_le _) hl).1; exact ho _ _ this)]
      exact hc
    | sh => exact VL.later L h
    | full => exact VL.later L h
  | _ => exact VL.later L h

/-- What is not a list of one's own is a plain value. -/
def AV.common : AV → Bool
  | .list .own _ _ | .list .uniq _ _ => false
  | _ => true

theorem PV.of {o : Nat → Nat → Prop} {x : AV} {v : Value} (h : V g w x v) : PV g w o x v := by
  cases x with
  | list fl sz es =>
    cases fl with
    | own => cases h with | list h1 => simp at h1
    | uniq => cases h with | list h1 => simp at h1
    | sh => exact h
    | full => exact h
  | _ => exact h

theorem PV.plain {o : Nat → Nat → Prop} {x : AV} {v : Value} (h : PV g w o x v) (hc : x.common = true) : V g w x v := by
  cases x with
  | list fl sz es => cases fl <;> first | exact h | simp [AV.common] at hc
  | _ => exact h

/-- Another owner, of as much. -/
theorem PV.move {o o' : Nat → Nat → Prop} {x : AV} {v : Value} (h : PV g w o x v) (ho : ∀ b i, o b i → o' b i) : PV g w o' x v := by
  have hs : ∀ a lo hi, Spare w o a lo hi → Spare w o' a lo hi := fun a lo hi h j h1 h2 => ⟨ho _ _ (h j h1 h2).1, (h j h1 h2).2⟩
  cases x with
  | list fl sz es =>
    cases fl with
    | own => obtain ⟨h1, a, len, cap, h2, h3⟩ := h; exact ⟨h1, a, len, cap, h2, hs _ _ _ h3⟩
    | uniq => obtain ⟨a, cap, xs, u⟩ := h; exact ⟨a, cap, xs, { u with spare := hs _ _ _ u.spare, all := fun x hx => ho _ _ (u.all x hx) }⟩
    | sh => exact h
    | full => exact h
  | _ => exact h
end
end Go.AM
