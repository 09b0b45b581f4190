import Derived.Test.YthbiajoionockaaAm18
/-! Maps. -/
namespace Go.AM
open Go
set_option linter.unusedVariables false
set_option linter.unusedSimpArgs false

section
variable {P : Program} {g g' : G} {w w' : World} {ow ow' ow1 : Own} {σ σ' : St} {fr fr' : Fr} {tm : Array Value} {a : Act} {dst : Option Tmp}

/-- Entries, one by one. -/
def EntriesOK (g : G) (w : World) (es : List Entry) (xs : List MapEntry) : Prop := xs.length = es.length ∧ ∀ (i : Nat) (e : Entry), es[i]? = some e → ∃ x, xs[i]? = some x ∧ EntryOK g w e x

theorem EntriesOK.tail {e : Entry} {x : MapEntry} {es : List Entry} {xs : List MapEntry} (h : EntriesOK g w (e :: es) (x :: xs)) : EntryOK g w e x ∧ EntriesOK g w es xs := by
  refine ⟨?_, by simpa using h.1, fun i e' hi => h.2 (i + 1) e' hi⟩
  obtain ⟨x', h1, h2⟩ := h.2 0 e rfl
  simp at h1; subst h1; exact h2

theorem findNow_run {d : TypeDesc} (hd : nowKind d = true) {kT : TypeId} (hu : P.underlying kT = some d) {k : AV} {kv : Value} (hk : k.toV = some kv) : ∀ {es : List Entry} {xs : List MapEntry} {i : Nat} {r : Option (Nat × Entry)},
    EntriesOK g w es xs → findA P kT k es i = some r → Instr.findNow d kv xs i = some (r.bind fun (j, e) => (xs[j - i]?).map fun x => (j, x.val)) ∧ ∀ j e, r = some (j, e) → i ≤ j ∧ es[j - i]? = some e
  | [], xs, i, r, h, hf => by
    have : xs = [] := List.length_eq_zero_iff.1 h.1
    subst this
    simp [findA] at hf; subst hf
    exact ⟨rfl, fun _ _ h => by cases h⟩
  | e :: es, [], i, r, h, hf => by have := h.1; simp at this
  | e :: es, x :: xs, i, r, h, hf => by
    obtain ⟨h1, h2⟩ := h.tail
    simp only [findA, keyEq, hk, h1.plain, hu, hd, if_true] at hf
    cases hs : Instr.sameNow d kv x.key with
    | none => simp [hs] at hf
    | some b =>
      simp only [hs] at hf
      cases b with
      | true =>
        simp only [Option.some.injEq] at hf; subst hf
        refine ⟨by simp [Instr.findNow, hs], fun j e' h => ?_⟩
        simp only [Option.some.injEq, Prod.mk.injEq] at h
        obtain ⟨rfl, rfl⟩ := h
        exact ⟨Nat.le_refl _, by simp⟩
      | false =>
        simp only at hf
        obtain ⟨k1, k2⟩ := findNow_run hd hu hk h2 hf
        refine ⟨?_, fun j e' h => ?_⟩
        · simp only [Instr.findNow, hs, k1]
          cases r with
          | none => rfl
          | some q =>
            obtain ⟨j, e'⟩ := q
            have := (k2 j e' rfl).1
            simp only [Option.bind_some]
            rw [show j - i = (j - (i + 1)) + 1 by omega, List.getElem?_cons_succ]
        · obtain ⟨m1, m2⟩ := k2 j e' h
          refine ⟨by omega, ?_⟩
          rw [show j - i = (j - (i + 1)) + 1 by omega, List.getElem?_cons_succ]; exact m2

theorem findAsking_run {d : TypeDesc} (hd : nowKind d = false) {kT : TypeId} (hu : P.underlying kT = some d) {k : AV} {kv : Value} (hk : k.toV = some kv) : ∀ {es : List Entry} {xs : List MapEntry} {i : Nat} {r : Option (Nat × Entry)},
    EntriesOK g w es xs → findA P kT k es i = some r → (Instr.findAsking kT kv xs i).run P w = .ok (r.bind fun (j, e) => (xs[j - i]?).map fun x => (j, x.val)) w ∧ ∀ j e, r = some (j, e) → i ≤ j ∧ es[j - i]? = some e
  | [], xs, i, r, h, hf => by
    have : xs = [] := List.length_eq_zero_iff.1 h.1
    subst this
    simp [findA] at hf; subst hf
    exact ⟨rfl, fun _ _ h => by cases h⟩
  | e :: es, [], i, r, h, hf => by have := h.1; simp at this
  | e :: es, x :: xs, i, r, h, hf => by
    obtain ⟨h1, h2⟩ := h.tail
    simp only [findA, keyEq, hk, h1.plain, hu, hd, Bool.false_eq_true, if_false] at hf
    cases hs : val P (Op.equal kT kv x.key) with
    | none => simp [hs] at hf
    | some b =>
      simp only [hs] at hf
      have hrun := val_run hs w
      cases b with
      | true =>
        simp only [Option.some.injEq] at hf; subst hf
        refine ⟨by simp [Instr.findAsking, hrun], fun j e' h => ?_⟩
        simp only [Option.some.injEq, Prod.mk.injEq] at h
        obtain ⟨rfl, rfl⟩ := h
        exact ⟨Nat.le_refl _, by simp⟩
      | false =>
        simp only at hf
        obtain ⟨k1, k2⟩ := findAsking_run hd hu hk h2 hf
        refine ⟨?_, fun j e' h => ?_⟩
        · simp [Instr.findAsking, hrun, k1]
          cases r with
          | none => rfl
          | some q =>
            obtain ⟨j, e'⟩ := q
            have := (k2 j e' rfl).1
            simp only [Option.bind_some]
            rw [show j - i = (j - (i + 1)) + 1 by omega, List.getElem?_cons_succ]
        · obtain ⟨m1, m2⟩ := k2 j e' h
          refine ⟨by omega, ?_⟩
          rw [show j - i = (j - (i + 1)) + 1 by omega, List.getElem?_cons_succ]; exact m2

theorem sameNow_none {d : TypeDesc} (hd : nowKind d = false) (a b : Value) : Instr.sameNow d a b = none := by
  cases d <;> simp [nowKind] at hd <;> rfl

theorem findKey_run {kT : TypeId} {k : AV} {kv : Value} (hk : k.toV = some kv) {es : List Entry} {xs : List MapEntry} {r : Option (Nat × Entry)} (hu : (P.underlying kT).isSome = true) (h : EntriesOK g w es xs) (hf : findA P kT k es 0 = some r) :
    (Instr.findKey kT kv xs).run P w = .ok (r.bind fun (j, e) => (xs[j]?).map fun x => (j, x.val)) w ∧ ∀ j e, r = some (j, e) → es[j]? = some e := by
  obtain ⟨d, hd⟩ := Option.isSome_iff_exists.1 hu
  cases hn : nowKind d with
  | true =>
    obtain ⟨k1, k2⟩ := findNow_run hn hd hk h hf
    exact ⟨by simp [Instr.findKey, run_underlying hd, k1], fun j e he => by simpa using (k2 j e he).2⟩
  | false =>
    obtain ⟨k1, k2⟩ := findAsking_run hn hd hk h hf
    refine ⟨?_, fun j e he => by simpa using (k2 j e he).2⟩
    cases xs with
    | nil =>
      have hr : r = none := by
        have : es = [] := List.length_eq_zero_iff.1 h.1.symm
        subst this; simp [findA] at hf; exact hf.symm
      subst hr
      simp [Instr.findKey, run_underlying hd, Instr.findNow]
    | cons x xs =>
      have : Instr.findNow d kv (x :: xs) 0 = none := by simp [Instr.findNow, sameNow_none hn]
      simp [Instr.findKey, run_underlying hd, this]
      simpa using k1

theorem keyMay_run {kT : TypeId} {k : AV} (h : keyMay P kT k = true) : ∃ kv, k.toV = some kv ∧ (∀ b w, (Instr.checkKey b 10000 kT kv).run P w = .ok () w) := by
  unfold keyMay at h
  split at h
  case h_2 => cases h
  rename_i kv hk
  simp only [Bool.and_eq_true] at h
  obtain ⟨h1, h2⟩ := h
  obtain ⟨u1, k1⟩ := Option.isSome_iff_exists.1 h1
  obtain ⟨u2, k2⟩ := Option.isSome_iff_exists.1 h2
  exact ⟨kv, hk, fun b w => by
    cases b
    · exact val_run k1 w
    · exact val_run k2 w⟩

theorem SS.map (s : SS g w ow σ) {h : Nat} {es : List Entry} {c : Nat} (hm : mapOf σ (.map h) = some (es, c)) : σ.heap[h]? = some (.map es c) ∧ ∃ b xs, g.hb[h]? = some b ∧ MapOK g w b es c xs := by
  unfold mapOf at hm
  simp only at hm
  split at hm
  · rename_i es' c' hh
    simp only [Option.some.injEq, Prod.mk.injEq] at hm
    obtain ⟨rfl, rfl⟩ := hm
    exact ⟨hh, s.maps _ _ _ hh⟩
  · cases hm

theorem MapOK.entries {b : Nat} {es : List Entry} {c : Nat} {xs : Array MapEntry} (h : MapOK g w b es c xs) : EntriesOK g w es xs.toList :=
  ⟨by simpa using h.size, fun i e hi => by obtain ⟨x, h1, h2⟩ := h.val i e hi; exact ⟨x, by simpa using h1, h2⟩⟩

theorem lookup_run (s : SS g w ow σ) {t : TypeId} {m k v : AV} {mv kv : Value} {ok : Bool} (h : lookup P t m k ok σ = some v) (hm : V g w m mv) (hk : V g w k kv) :
    ∃ val, (Instr.lookup t mv kv ok).run P w = .ok val w ∧ V g w v val := by
  unfold lookup at h
  split at h
  case h_2 => cases h
  rename_i kT eT ht
  split at h
  · cases h
  rename_i hmay
  simp only [Bool.not_eq_true', Bool.not_eq_false] at hmay
  obtain ⟨kv', hk1, hk2⟩ := keyMay_run hmay
  obtain rfl := toV_eq hk hk1
  split at h
  · cases h
  rename_i es c hmo
  have hkT : (P.underlying kT).isSome = true := by
    have := hmay
    unfold keyMay at this
    rw [hk1] at this
    simp only [Bool.and_eq_true] at this
    obtain ⟨u, hu⟩ := Option.isSome_iff_exists.1 this.1
    have := val_run hu w
    cases hd : P.underlying kT with
    | some d => rfl
    | none =>
      unfold Instr.checkKey at this
      simp [underlying, hd, stuck, Sem.run] at this
  -- the entries that the run sees
  have hes : ∃ xs : Array MapEntry, EntriesOK g w es xs.toList ∧ ((mv = .map none ∧ xs = #[]) ∨ ∃ b, mv = .map (some b) ∧ (getObj b).run P w = .ok (.map xs c) w) := by
    cases m with
    | s y =>
      cases y <;> simp [mapOf] at hmo
      obtain ⟨rfl, rfl⟩ := hmo
      exact ⟨#[], ⟨rfl, fun i e h => by simp at h⟩, .inl ⟨hm.sc_inv, rfl⟩⟩
    | map n =>
      obtain ⟨_, b, xs, hb, hM⟩ := s.map hmo
      obtain ⟨b', rfl, hb'⟩ := hm.map_inv
      rw [hb] at hb'; injection hb' with hb'; subst hb'
      exact ⟨xs, hM.entries, .inr ⟨b, rfl, by simp [getObj, Sem.run, hM.obj]⟩⟩
    | _ => simp [mapOf] at hmo
  obtain ⟨xs, hE, hK⟩ := hes
  have hrun : ∀ r, findA P kT k es 0 = some r → (Instr.findKey kT kv xs.toList).run P w = .ok (r.bind fun (j, e) => (xs[j]?).map fun x => (j, x.val)) w ∧ ∀ j e, r = some (j, e) → es[j]? = some e := fun r hr => by
    obtain ⟨k1, k2⟩ := findKey_run (w := w) hk1 hkT hE hr
    exact ⟨by simpa using k1, k2⟩
  split at h
  · rename_i j e hf
    injection h with h
    obtain ⟨k1, k2⟩ := hrun _ hf
    obtain ⟨x, hx1, hx2⟩ := hE.2 j e (k2 j e rfl)
    have hx1' : xs[j]? = some x := by simpa using hx1
    simp only [Option.bind_some, hx1', Option.map_some] at k1
    refine ⟨if ok then .tuple #[x.val, .bool true] else x.val, ?_, ?_⟩
    · rcases hK with ⟨rfl, rfl⟩ | ⟨b, rfl, hg⟩
      · simp at hx1
      · simp [Instr.lookup, run_underlying ht, hg, hk2, k1]
    · rw [← h]
      cases ok
      · exact hx2.val
      · exact .tup (xs := #[x.val, .bool true]) (VL.cons_of hx2.val (.sc (.bool true) .nil)) .nil
  · rename_i hf
    cases hz : zeroA P eT with
    | none => simp [hz] at h
    | some z =>
      simp only [hz, Option.map_some, Option.some.injEq] at h
      obtain ⟨k1, _⟩ := hrun _ hf
      simp only [Option.bind_none] at k1
      obtain ⟨zv, hz1, hz2, _⟩ := zeroA_run hz
      have hzV := (ofPlain_V (g := g) (w := w) hz2).1
      refine ⟨if ok then .tuple #[zv, .bool false] else zv, ?_, ?_⟩
      · rcases hK with ⟨rfl, rfl⟩ | ⟨b, rfl, hg⟩
        · simp at k1
          simp [Instr.lookup, run_underlying ht, hk2, k1, hz1]
        · simp [Instr.lookup, run_underlying ht, hg, hk2, k1, hz1]
      · rw [← h]
        cases ok
        · exact hzV
        · exact .tup (xs := #[zv, .bool false]) (VL.cons_of hzV (.sc (.bool false) .nil)) .nil
  · cases h
end
end Go.AM
