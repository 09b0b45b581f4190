import Derived.Test.YtdkchnnbicfikaaM12
set_option linter.unusedSimpArgs false
set_option linter.unusedVariables false
namespace Go.AM
open Go
variable {P : Program}
theorem wT {α : Type} {p : α → Prop} (h : ∃ x, p x) : ∃ x, p x ∧ True := h.imp fun _ e => ⟨e, trivial⟩
theorem of_eachQ {α : Type} {f : α → AV} {Q : α → Prop} : ∀ (es : List AV), (∀ x ∈ es, ∃ a, x = f a ∧ Q a) → ∃ l : List α, es = l.map f ∧ ∀ a ∈ l, Q a
  | [], _ => ⟨[], rfl, fun a h => by cases h⟩
  | x :: es, h => by
    obtain ⟨a, rfl, hq⟩ := h x (List.mem_cons_self ..)
    obtain ⟨l, rfl, hl⟩ := of_eachQ es fun y hy => h y (List.mem_cons_of_mem _ hy)
    exact ⟨a :: l, rfl, fun b hb => by rcases List.mem_cons.1 hb with rfl | hb; exact hq; exact hl b hb⟩
theorem shp_sliceQ {d : Nat} {t e : TypeId} {c : Nat} {as : List AV} {α : Type} (f : α → AV) (Q : α → Prop) (ht : P.underlying t = some (.slice e)) (hc : P.cellsOf e = c) (he : ∀ x : AV, shp P d e x.cells → (isAgg P e = true → x = .agg x.cells) → (isAgg P e = false → x.cells = [x]) → ∃ a, x = f a ∧ Q a) (h : shp P (d + 1) t as) :
    ∃ l : List α, as = [.list .sh c (l.map f)] ∧ l.length ≤ 9223372036854775807 ∧ ∀ a ∈ l, Q a := by
  subst hc
  unfold shp at h; rw [ht] at h
  obtain ⟨es, rfl, hl, hall⟩ := h
  obtain ⟨l, rfl, hq⟩ := of_eachQ (f := f) es fun x hx => he x (hall x hx).1 (hall x hx).2.1 (hall x hx).2.2
  refine ⟨l, rfl, ?_, hq⟩
  rw [List.length_map] at hl
  unfold maxLen at hl; omega
theorem shp_i64 {d : Nat} {t : TypeId} {as : List AV} (ht : P.underlying t = some (.int .i64)) (h : shp P (d + 1) t as) : ∃ i : Int, as = [.s (.int .i64 i)] ∧ -9223372036854775808 ≤ i ∧ i ≤ 9223372036854775807 := by
  obtain ⟨i, rfl, hw⟩ := shp_int ht h
  refine ⟨i, rfl, ?_⟩
  unfold Lit.wf at hw
  rw [Bool.and_eq_true] at hw
  have h1 := of_decide_eq_true hw.1
  have h2 := of_decide_eq_true hw.2
  simp [IntKind.min, IntKind.max, IntKind.signed, IntKind.bits] at h1 h2
  omega
end Go.AM
