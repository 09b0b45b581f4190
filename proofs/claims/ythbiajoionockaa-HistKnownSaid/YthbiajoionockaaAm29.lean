import Derived.Test.YthbiajoionockaaAm28
import Derived.Lib.BytesEntry
import Derived.Below
/-! The model's own functions, and a call that stands alone. -/
namespace Go.AM
open Go
set_option linter.unusedVariables false
set_option linter.unusedSimpArgs false

def asBytes (σ : St) (x : AV) : Option (List UInt8) :=
  match x with
  | .s .nilS => some []
  | .s (.str l) => some l
  | .list _ 1 es => bytesIn es
  | .row r off len _ => (readCells σ (.ptr r off) len).bind bytesIn
  | _ => none

def primIndexByte : List AV → St → Option (AV × St)
  | [.s (.str l), .s (.int .u8 c)], σ => some (.i (Lib.indexByte l c.toNat.toUInt8), σ)
  | _, _ => none

def primCompare : List AV → St → Option (AV × St)
  | [a, b], σ => match asBytes σ a, asBytes σ b with
    | some x, some y => some (.i (Lib.compareBytes x y), σ)
    | _, _ => none
  | _, _ => none

section
variable {P : Program} {cfg : Cfg} {f : FuncId} {g g' : G} {w w' : World} {ow ow' : Own} {σ σ' : St} {fr fr' : Fr} {tm : Array Value}

theorem Ret.scalar (r : Rel g w ow fr tm σ) (x : Sc) : ∃ g' ow', Ret g w ow (.s x) σ x.toV g' w ow' := by
  let ow' : Own := fun p => match p with | .slot _ => Nobody | p => ow p
  have hsub : ∀ p b i, ow' p b i → ow p b i := by
    intro p b i hp
    cases p with
    | slot j => exact (show Nobody b i from hp).elim
    | stk m j => exact hp
    | heap m j => exact hp
  refine ⟨g, ow', ⟨r.ss.own (fun _ _ _ _ h => h) fun _ _ _ _ h => h, ⟨fun p b i hp => r.own.wr _ _ _ (hsub _ _ _ hp), fun p b i hp => r.own.box _ _ _ (hsub _ _ _ hp), fun p q b i hp hq => r.own.one _ _ _ _ (hsub _ _ _ hp) (hsub _ _ _ hq)⟩, ⟨rfl, fun i y hi => ?_⟩⟩, Way.only hsub, rfl⟩
  cases i with
  | zero => simp at hi; subst hi; exact ⟨_, rfl, PV.of (.sc x .nil)⟩
  | succ i => simp at hi

theorem loadBytes_cells {ns : List Int} {ad : Addr} (h : ∀ (i : Nat) (v : Value), (ns.map (Value.int .u8))[i]? = some v → w.cell? (ad.add i) = some v) :
    (Extern.Bytes.loadBytes ad ns.length .empty).run P w = .ok ⟨(ns.map fun n => UInt8.ofNat n.toNat).toArray⟩ w := by
  rw [Lib.run_loadBytesX w ns ad .empty fun j x hj => h j _ (by rw [List.getElem?_map, hj]; rfl)]
  congr 2
  simp [Lib.bytesOf]

theorem addr_add {a : Addr} (hs : a.spot = none) (i : Nat) : a.add i = ⟨a.block, a.off + i, none⟩ := by
  obtain ⟨b, o, s⟩ := a
  dsimp only at hs; subst hs
  unfold Addr.add; split <;> simp_all

theorem bytes_run (s : SS g w ow σ) {o : Nat → Nat → Prop} {x : AV} {v : Value} {l : List UInt8} (h : asBytes σ x = some l) (hx : PV g w o x v) : (Extern.Bytes.bytesOf v).run P w = .ok ⟨l.toArray⟩ w := by
  have list : ∀ {es : List AV} {ad : Addr} {n c : Nat} {xs : List Value}, bytesIn es = some l → n = es.length → ad.spot = none → VL g w (es.flatMap AV.cells) xs → (∀ (i : Nat) (v : Value), xs[i]? = some v → w.cell? ⟨ad.block, ad.off + i, none⟩ = some v) →
      (Extern.Bytes.bytesOf (.slice (some ad) n c)).run P w = .ok ⟨l.toArray⟩ w := by
    intro es ad n c xs hb hn hs hv hc
    rw [bytesIn_cells hb] at hv
    obtain ⟨ns, k1, k2⟩ := bytesIn_V hv hb
    subst k1; subst k2
    have hl : ns.length = n := by have := hv.length; simp at this; omega
    show (Extern.Bytes.loadBytes ad n .empty).run P w = _
    rw [← hl]
    exact loadBytes_cells fun i v hi => by rw [addr_add hs]; exact hc i v hi
  unfold asBytes at h
  split at h
  · injection h with h; subst h
    have := (show V g w (.s .nilS) v from hx).sc_inv
    subst this; rfl
  · injection h with h; subst h
    have := (show V g w (.s (.str _)) v from hx).sc_inv
    subst this; rfl
  · rename_i fl es
    have shared : V g w (.list .sh 1 es) v → (Extern.Bytes.bytesOf v).run P w = .ok ⟨l.toArray⟩ w := by
      intro hV
      cases hV with
      | list h1 h2 h3 h4 h5 h6 h7 h8 h9 _ => exact list h h2 h5 h8 fun i v hi => (h9 i v hi).1
    cases fl with
    | sh => exact shared hx
    | own => exact shared hx.1
    | full =>
      cases (show V g w (.list .full 1 es) v from hx) with
      | list h1 h2 h3 h4 h5 h6 h7 h8 h9 _ => exact list h h2 h5 h8 fun i v hi => (h9 i v hi).1
    | uniq =>
      obtain ⟨a, cap, xs, u⟩ := hx
      have := u.val
      subst this
      exact list h rfl u.spot u.vl u.cell
  · rename_i r off len cap
    obtain ⟨b, c, rfl, hr, _, _⟩ := (show V g w (.row r off len cap) v from hx).row_inv
    cases hc : readCells σ (.ptr r off) len with
    | none => rw [hc] at h; cases h
    | some cs =>
      rw [hc] at h
      simp only [Option.bind_some] at h
      obtain ⟨a, xs, e, hs, hl, hv, hcell, hrd⟩ := read_run s hc (.ptr hr .nil)
      simp only [Value.pointer.injEq, Option.some.injEq] at e
      subst e
      obtain ⟨ns, k1, k2⟩ := bytesIn_V hv h
      subst k1; subst k2
      have hl' : ns.length = len := by have := hv.length; simp at this; omega
      show (Extern.Bytes.loadBytes _ len .empty).run P w = _
      rw [← hl']
      exact loadBytes_cells hrd
  · cases h

/-- The frame of a call, as a list. -/
theorem SF.two {x y : AV} {xs : Array Value} (s : SF g w ow [x, y] xs) : ∃ u v, xs = #[u, v] ∧ PV g w (ow (.slot 0)) x u ∧ PV g w (ow (.slot 1)) y v := by
  obtain ⟨u, h1, h2⟩ := s.val 0 x rfl
  obtain ⟨v, h3, h4⟩ := s.val 1 y rfl
  refine ⟨u, v, ?_, h2, h4⟩
  have hsz : xs.size = 2 := s.size
  apply Array.ext_getElem?
  intro i
  match i with
  | 0 => rw [h1]; rfl
  | 1 => rw [h3]; rfl
  | i + 2 => rw [Array.getElem?_eq_none (by omega)]; simp

theorem indexByte_prim {fn : Func} (hf : P.funcs[f]? = some fn) (hname : (fn.name == "runtime.NumGoroutine") = false) (hb : fn.body.isNone = true) (hn : Extern.findNext fn = none) (he : Extern.find fn = some Extern.BytealgIndexByte.indexByte)
    {args : List AV} {v : AV} (h : primIndexByte args σ = some (v, σ')) {xs : Array Value} (r : Rel g w ow args xs σ) : Runs P (callFunc f xs) w fun rv w' => ∃ g' ow', Ret g w ow v σ' rv g' w' ow' := by
  unfold primIndexByte at h
  split at h
  case h_2 => cases h
  rename_i l c
  simp only [Option.some.injEq, Prod.mk.injEq] at h
  obtain ⟨rfl, rfl⟩ := h
  obtain ⟨u, v, rfl, h1, h2⟩ := r.sf.two
  have e1 := (show V g w (.s (.str l)) u from h1).sc_inv
  have e2 := (show V g w (.s (.int .u8 c)) v from h2).sc_inv
  subst e1; subst e2
  refine .inr (.inl ⟨_, w, ?_, Ret.scalar r (.int .i64 (Lib.indexByte l c.toNat.toUInt8))⟩)
  rw [run_callFunc_extern hf hname hb hn he]
  show (Sem.run P (Extern.BytealgIndexByte.indexByte #[.string ⟨l.toArray⟩, .int .u8 c]) w).andThen _ = _
  rw [run_indexByte_string, Lib.firstIdx_eq]
  rfl

theorem compare_prim {fn : Func} (hf : P.funcs[f]? = some fn) (hname : (fn.name == "runtime.NumGoroutine") = false) (hb : fn.body.isNone = true) (hn : Extern.findNext fn = none) (he : Extern.find fn = some Extern.BytealgCompare.compare)
    {args : List AV} {v : AV} (h : primCompare args σ = some (v, σ')) {xs : Array Value} (r : Rel g w ow args xs σ) : Runs P (callFunc f xs) w fun rv w' => ∃ g' ow', Ret g w ow v σ' rv g' w' ow' := by
  unfold primCompare at h
  split at h
  case h_2 => cases h
  rename_i x y
  split at h
  case h_2 => cases h
  rename_i lx ly hx hy
  simp only [Option.some.injEq, Prod.mk.injEq] at h
  obtain ⟨rfl, rfl⟩ := h
  obtain ⟨u, v, rfl, h1, h2⟩ := r.sf.two
  refine .inr (.inl ⟨_, w, ?_, Ret.scalar r (.int .i64 (Lib.compareBytes lx ly))⟩)
  rw [run_callFunc_extern hf hname hb hn he]
  show (Sem.run P (do pure (goInt (Extern.BytealgCompare.cmp (← Extern.Bytes.bytesOf u) (← Extern.Bytes.bytesOf v)))) w).andThen _ = _
  rw [Sem.run_bind, bytes_run r.ss hx h1]
  simp only [Result.andThen_ok]
  rw [Sem.run_bind, bytes_run r.ss hy h2]
  simp only [Result.andThen_ok]
  rw [Lib.cmp_eq]
  rfl

/-! ### A call that stands alone -/
def G.none : G := ⟨[], [], fun _ _ => False⟩
def Own.none : Own := fun _ => Nobody

theorem rel_none (w : World) {args : List AV} {xs : Array Value} (hl : xs.size = args.length) (h : ∀ (i : Nat) (a : AV), args[i]? = some a → ∃ v, xs[i]? = some v ∧ V G.none w a v) : Rel G.none w Own.none args xs ⟨[], []⟩ where
  ss := ⟨rfl, rfl, by simp [G.none], fun _ _ h => h.elim, fun n cs h => by simp at h, fun n cs h => by simp at h, fun n es c h => by simp at h, fun n l h => by simp at h, fun n h => by simp at h⟩
  own := ⟨fun _ _ _ h => h.elim, fun _ _ _ h => h.elim, fun _ _ _ _ h => h.elim⟩
  sf := ⟨hl, fun i a hi => by obtain ⟨v, h1, h2⟩ := h i a hi; exact ⟨v, h1, PV.of h2⟩⟩

theorem may_none {b o : Nat} (h : May G.none Own.none b o) : False := by
  rcases h with ⟨_, h⟩ | ⟨_, h⟩ <;> exact h

/-- A call without a hand in what was there: all of it is as before. -/
theorem calls_alone {C : CallF} (hC : Sound P C) {fn : Func} (hf : P.funcs[f]? = some fn) (hname : fn.name ≠ "runtime.NumGoroutine") (hb : fn.body.isSome = true) {args : List AV} {x : Sc} {σ' : St} (h : C (.fn f) args ⟨[], []⟩ = some (.s x, σ')) (w : World) {xs : Array Value} (hl : xs.size = args.length)
    (hx : ∀ (i : Nat) (a : AV), args[i]? = some a → ∃ v, xs[i]? = some v ∧ V G.none w a v) : Calls P f xs w fun e w' => e = .returned x.toV ∧ RowKit.Below w.heap.size w w' := by
  have hrun := hC (.fn f) args _ _ _ h G.none w Own.none xs (rel_none w hl hx) _ rfl
  have hent : (callFunc f xs).run P w = .ok (.enter f xs) w := by
    have hb' : fn.body.isNone = false := by cases hbb : fn.body <;> simp_all
    simp [callFunc, Sem.run, hf, hname]
    cases hbb : fn.body with
    | none => simp [hbb] at hb
    | some c => simp [Sem.run]
  rcases hrun with ⟨f', args', e1, hc⟩ | ⟨rv, w', he, _⟩ | ⟨l, fn', tm', as', bd', he, _⟩
  · rw [hent] at e1
    simp only [Result.ok.injEq, Next.enter.injEq, and_true] at e1
    obtain ⟨rfl, rfl⟩ := e1
    refine Calls.mono hc fun e w' he => ?_
    cases e with
    | returned rv =>
      obtain ⟨g', ow', hr⟩ := he
      obtain ⟨u, h1, h2⟩ := hr.rel.sf.val 0 (.s x) rfl
      simp at h1; subst h1
      have := (show V g' w' (.s x) rv from h2).sc_inv
      subst this
      exact ⟨rfl, hr.way.tr.env.1, hr.way.tr.env.2.1, hr.way.tr.env.2.2, hr.way.tr.size, fun b hbl => hr.way.tr.obj b hbl fun o hm => may_none hm⟩
    | _ => exact he.elim
  · rw [hent] at he; cases he
  · rw [hent] at he; cases he
end
end Go.AM
