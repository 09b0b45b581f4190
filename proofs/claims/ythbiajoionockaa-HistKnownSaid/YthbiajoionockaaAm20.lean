import Derived.Test.YthbiajoionockaaAm19
/-! Maps that are made and written. -/
namespace Go.AM
open Go
set_option linter.unusedVariables false
set_option linter.unusedSimpArgs false

section
variable {P : Program} {g g' : G} {w w' : World} {ow ow' ow1 : Own} {σ σ' : St} {fr fr' : Fr} {tm : Array Value} {a : Act} {dst : Option Tmp}

theorem setObj_run {b : Nat} {xs xs' : Array MapEntry} {c c' : Nat} (h : w.heap[b]? = some (.map xs c)) : (setObj b (.map xs' c')).run P w = .ok () { w with heap := w.heap.setIfInBounds b (.map xs' c') } := by
  simp [setObj, Sem.run, h]

theorem Rel.setMap (r : Rel g w ow fr tm σ) {h b : Nat} {es es' : List Entry} {c c' : Nat} {xs xs' : Array MapEntry} (hh : σ.heap[h]? = some (.map es c)) (hb : g.hb[h]? = some b) (hM : MapOK g w b es c xs) (hE : EntriesOK g w es' xs'.toList) :
    Rel g { w with heap := w.heap.setIfInBounds b (.map xs' c') } ow fr tm (setMap σ h es' c') ∧ Tr (May g ow) g w g { w with heap := w.heap.setIfInBounds b (.map xs' c') } := by
  have hblt : b < w.heap.size := (Array.getElem?_eq_some_iff.1 hM.obj).1
  have hisb : g.isBox b := .inr (List.mem_of_getElem? hb)
  have hnc : ∀ o, w.cell? ⟨b, o, none⟩ = none := fun o => by simp [World.cell?, hM.obj]
  have hget : ∀ b', (w.heap.setIfInBounds b (.map xs' c'))[b']? = if b' = b then some (.map xs' c') else w.heap[b']? := fun b' => by
    by_cases e : b' = b
    · subst e; rw [if_pos rfl, Array.getElem?_setIfInBounds_self_of_lt hblt]
    · rw [if_neg e, Array.getElem?_setIfInBounds_ne (Ne.symm e)]
  have t : Tr (fun b' o => b' = b ∧ o = 0) g w g { w with heap := w.heap.setIfInBounds b (.map xs' c') } := {
    env := ⟨rfl, rfl, rfl⟩
    size := by simp
    obj := fun b' hb' hm => by
      have e : b' ≠ b := fun e => hm 0 ⟨e, rfl⟩
      show (w.heap.setIfInBounds b (.map xs' c'))[b']? = _
      rw [hget, if_neg e]
    cell := fun b' o _ _ => by
      by_cases e : b' = b
      · subst e
        rw [hnc]
        show World.cell? _ _ = none
        unfold World.cell?
        show (match (w.heap.setIfInBounds b' (.map xs' c'))[b']? with | some (.cells c _ _) => _ | _ => none) = none
        rw [hget, if_pos rfl]
      · unfold World.cell?
        show (match (w.heap.setIfInBounds b (.map xs' c'))[b']? with | some (.cells c _ _) => _ | _ => none) = _
        rw [hget, if_neg e]; rfl
    live := fun b' o v hv => by
      have e : b' ≠ b := fun e => by subst e; rw [hnc] at hv; cases hv
      refine ⟨v, ?_⟩
      unfold World.cell? at *
      show (match (w.heap.setIfInBounds b (.map xs' c'))[b']? with | some (.cells c _ _) => _ | _ => none) = _
      rw [hget, if_neg e]; exact hv
    froz := fun b' o _ => by
      by_cases e : b' = b
      · subst e
        unfold World.frozen?
        show (match (w.heap.setIfInBounds b' (.map xs' c'))[b']? with | some (.cells _ _ (lo, hi)) => _ | _ => false) = _
        rw [hget, if_pos rfl, hM.obj]
      · unfold World.frozen?
        show (match (w.heap.setIfInBounds b (.map xs' c'))[b']? with | some (.cells _ _ (lo, hi)) => _ | _ => false) = _
        rw [hget, if_neg e]; rfl
    wr := fun _ _ h => .inl h
    sb := fun _ _ h => h
    hb := fun _ _ h => h }
  have hMw : ∀ b' o, (b' = b ∧ o = 0) → b' = b ∧ g.wr b' o := fun b' o h => by obtain ⟨rfl, rfl⟩ := h; exact ⟨rfl, hM.wr⟩
  have L := t.later fun b' o h => (hMw b' o h).2
  obtain ⟨n1, n2, n3⟩ := nodup_ref r.ss.nodup
  refine ⟨⟨?_, r.own, r.sf.later t (fun b' o h => (hMw b' o h).2) (fun i b' x h h' => r.own.box _ _ _ h (h'.1 ▸ hisb)) fun _ _ _ h => h⟩, t.weaken fun b' o h => .inl ⟨(hMw _ _ h).1 ▸ hisb, (hMw _ _ h).2⟩⟩
  have hl : h < σ.heap.length := (List.getElem?_eq_some_iff.1 hh).1
  refine r.ss.replace r.own hisb t hMw (fun b' o h => t.lt (r.ss.lt _ _ h)) rfl rfl (fun _ _ _ _ h => h) rfl (by simp [AM.setMap]) ?_ ?_ ?_ ?_ (fun _ _ => rfl) ?_ (fun _ _ _ _ _ h => h) (fun _ _ _ _ _ h => h)
  · intro n cs _ hmb; exact (n3 _ _ _ hmb hb).elim
  · intro n cs hn hmb
    obtain rfl := n2 _ _ _ hmb hb
    simp only [AM.setMap] at hn
    rw [List.getElem?_set_self hl] at hn; simp at hn
  · intro n es'' c'' hn hmb
    obtain rfl := n2 _ _ _ hmb hb
    simp only [AM.setMap] at hn
    rw [List.getElem?_set_self hl] at hn
    simp at hn
    obtain ⟨rfl, rfl⟩ := hn
    refine ⟨xs', by show (w.heap.setIfInBounds b (.map xs' c'))[b]? = _; rw [hget, if_pos rfl], by simpa using hE.1, fun i e hi => ?_, hM.wr⟩
    obtain ⟨x, h1, h2⟩ := hE.2 i e hi
    exact ⟨x, by simpa using h1, h2.later L⟩
  · intro n l hn hmb
    obtain rfl := n2 _ _ _ hmb hb
    simp only [AM.setMap] at hn
    rw [List.getElem?_set_self hl] at hn; simp at hn
  · intro n hne
    have e : h ≠ n := fun e => hne (e ▸ hb)
    simp only [AM.setMap]; rw [List.getElem?_set_ne e]

theorem Out.setMap (r : Rel g w ow fr tm σ) {h b : Nat} {es es' : List Entry} {c c' : Nat} {xs xs' : Array MapEntry} {v : AV} {val : Value} (hh : σ.heap[h]? = some (.map es c)) (hb : g.hb[h]? = some b) (hM : MapOK g w b es c xs) (hE : EntriesOK g w es' xs'.toList)
    (hv : V g { w with heap := w.heap.setIfInBounds b (.map xs' c') } v val) : ∃ g' ow', Out g w ow dst v fr (AM.setMap σ h es' c') tm g' { w with heap := w.heap.setIfInBounds b (.map xs' c') } ow' val := by
  obtain ⟨r', t⟩ := r.setMap (c' := c') hh hb hM hE
  obtain ⟨ow', ho⟩ := Out.of (g := g) (w := w) (ow := ow) (dst := dst) r' (PV.of (o := Nobody) hv) (Free.nobody _ _) t (fun p b o h => .inl (.own h)) (fun b o h => h.elim) (fun b o h1 h2 => .inl (.inl ⟨h1, h2⟩)) (fun _ _ h => .inr h) (fun _ h => .inl h)
  exact ⟨g, ow', ho⟩

theorem update_out (r : Rel g w ow fr a.tmps σ) {t : TypeId} {m k v : AV} {mv kv vv : Value} (h : update P t m k v σ = some σ') (hm : V g w m mv) (hk : V g w k kv) (hv : V g w v vv) :
    ∃ w', (Instr.mapUpdate t mv kv vv).run P w = .ok () w' ∧ ∃ g' ow', Out g w ow dst .undef fr σ' a.tmps g' w' ow' undef := by
  unfold update at h
  split at h
  case h_2 => cases h
  rename_i kT eT ht
  split at h
  · cases h
  rename_i hmay
  simp only [Bool.or_eq_true, Bool.not_eq_true', not_or, Bool.not_eq_false] at hmay
  obtain ⟨hmay, hlow⟩ := hmay
  obtain ⟨kv', hk1, hk2⟩ := keyMay_run hmay
  obtain rfl := toV_eq hk hk1
  have hkT : (P.underlying kT).isSome = true := by
    have := hmay
    unfold keyMay at this
    rw [hk1] at this
    simp only [Bool.and_eq_true] at this
    obtain ⟨u, hu⟩ := Option.isSome_iff_exists.1 this.1
    have := val_run hu w
    cases hd : P.underlying kT with
    | some d => rfl
    | none =>
      unfold Instr.checkKey at this
      simp [underlying, hd, stuck, Sem.run] at this
  split at h
  case h_2 => cases h
  rename_i n
  split at h
  · cases h
  rename_i es c hmo
  obtain ⟨hh, b, xs, hb, hM⟩ := r.ss.map hmo
  obtain ⟨b', rfl, hb'⟩ := hm.map_inv
  rw [hb] at hb'; injection hb' with hb'; subst hb'
  have hg : (getObj b).run P w = .ok (.map xs c) w := by simp [getObj, Sem.run, hM.obj]
  split at h
  · rename_i j e hf
    obtain ⟨k1, k2⟩ := findKey_run (w := w) hk1 hkT hM.entries hf
    have hj := k2 j e rfl
    obtain ⟨x, hx1, hx2⟩ := hM.val j e hj
    simp only [Option.bind_some, Array.getElem?_toList, hx1, Option.map_some] at k1
    split at h
    case h_2 => cases h
    rename_i old new ho hn
    split at h
    case isFalse => cases h
    rename_i hsame
    injection h with h; subst h
    rw [hk1] at hn; injection hn with hn; subst hn
    rw [hx2.plain] at ho; injection ho with ho; subst ho
    refine ⟨{ w with heap := w.heap.setIfInBounds b (.map (xs.modify j fun e => { e with key := kv, val := vv }) c) }, ?_, Out.setMap r hh hb hM ?_ (.undef undef .nil)⟩
    · have hks : (Instr.keyThatStays x.key kv).run P w = .ok kv w := by simp [Instr.keyThatStays, hsame]
      simp [Instr.mapUpdate, run_underlying ht, hg, hk2, k1, hx1, hks, setObj_run hM.obj]
    · refine ⟨by simp [hM.size], fun i e' hi => ?_⟩
      by_cases e1 : i = j
      · subst e1
        have hl : i < es.length := (List.getElem?_eq_some_iff.1 hj).1
        rw [List.getElem?_set_self hl] at hi
        injection hi with hi; subst hi
        exact ⟨{ x with key := kv, val := vv }, by simp [Array.getElem?_modify, hx1], hk, hv, hx2.born, hlow, hk1⟩
      · rw [List.getElem?_set_ne (Ne.symm e1)] at hi
        obtain ⟨y, hy1, hy2⟩ := hM.val i e' hi
        exact ⟨y, by simp [Array.getElem?_modify, Ne.symm e1, hy1], hy2⟩
  · rename_i hf
    injection h with h; subst h
    obtain ⟨k1, _⟩ := findKey_run (w := w) hk1 hkT hM.entries hf
    simp only [Option.bind_none] at k1
    refine ⟨{ w with heap := w.heap.setIfInBounds b (.map (xs.push { key := kv, val := vv, born := c }) (c + 1)) }, ?_, Out.setMap r hh hb hM ?_ (.undef undef .nil)⟩
    · simp [Instr.mapUpdate, run_underlying ht, hg, hk2, k1, setObj_run hM.obj]
    · refine ⟨by simp [hM.size], fun i e' hi => ?_⟩
      by_cases e1 : i < es.length
      · rw [List.getElem?_append_left e1] at hi
        obtain ⟨y, hy1, hy2⟩ := hM.val i e' hi
        exact ⟨y, by rw [Array.getElem?_toList, Array.getElem?_push_lt (by rw [hM.size]; exact e1)]; rw [← hy1]; exact (Array.getElem?_eq_getElem _).symm, hy2⟩
      · have e2 : i = es.length := by have := (List.getElem?_eq_some_iff.1 hi).1; simp at this; omega
        subst e2
        rw [List.getElem?_append_right (Nat.le_refl _)] at hi
        simp at hi; subst hi
        exact ⟨{ key := kv, val := vv, born := c }, by simp [← hM.size], hk, hv, rfl, hlow, hk1⟩
  · cases h

theorem delete_out (r : Rel g w ow fr a.tmps σ) {t ty : TypeId} {m k : AV} {mv kv : Value} (h : deleteA P t m k σ = some σ') (hm : V g w m mv) (hk : V g w k kv) :
    ∃ w', (Builtin.delete_ #[t] ty #[mv, kv]).run P w = .ok (.tuple #[]) w' ∧ ∃ g' ow', Out g w ow dst (.tup []) fr σ' a.tmps g' w' ow' (.tuple #[]) := by
  unfold deleteA at h
  split at h
  case h_2 => cases h
  rename_i kT eT ht
  split at h
  · cases h
  rename_i hmay
  simp only [Bool.not_eq_true', Bool.not_eq_false] at hmay
  obtain ⟨kv', hk1, hk2⟩ := keyMay_run hmay
  obtain rfl := toV_eq hk hk1
  have hkT : (P.underlying kT).isSome = true := by
    have := hmay
    unfold keyMay at this
    rw [hk1] at this
    simp only [Bool.and_eq_true] at this
    obtain ⟨u, hu⟩ := Option.isSome_iff_exists.1 this.1
    have := val_run hu w
    cases hd : P.underlying kT with
    | some d => rfl
    | none =>
      unfold Instr.checkKey at this
      simp [underlying, hd, stuck, Sem.run] at this
  split at h
  · injection h with h; subst h
    obtain rfl := hm.sc_inv
    exact ⟨w, by simp [Builtin.delete_, run_underlying ht, Sc.toV, hk2], g, Out.pure r (.tup (xs := #[]) .nil .nil)⟩
  · rename_i n
    split at h
    · cases h
    rename_i es c hmo
    obtain ⟨hh, b, xs, hb, hM⟩ := r.ss.map hmo
    obtain ⟨b', rfl, hb'⟩ := hm.map_inv
    rw [hb] at hb'; injection hb' with hb'; subst hb'
    have hg : (getObj b).run P w = .ok (.map xs c) w := by simp [getObj, Sem.run, hM.obj]
    split at h
    · rename_i j e hf
      injection h with h; subst h
      obtain ⟨k1, k2⟩ := findKey_run (w := w) hk1 hkT hM.entries hf
      have hj := k2 j e rfl
      obtain ⟨x, hx1, hx2⟩ := hM.val j e hj
      simp only [Option.bind_some, Array.getElem?_toList, hx1, Option.map_some] at k1
      refine ⟨{ w with heap := w.heap.setIfInBounds b (.map (xs.eraseIdxIfInBounds j) c) }, by simp [Builtin.delete_, run_underlying ht, hg, hk2, k1, setObj_run hM.obj], Out.setMap r hh hb hM ?_ (.tup (xs := #[]) .nil .nil)⟩
      have hlt : j < xs.size := (Array.getElem?_eq_some_iff.1 hx1).1
      have hlt' : j < es.length := (List.getElem?_eq_some_iff.1 hj).1
      have htl : (xs.eraseIdxIfInBounds j).toList = xs.toList.eraseIdx j := by simp [Array.eraseIdxIfInBounds, hlt]
      rw [htl]
      refine ⟨by rw [List.length_eraseIdx, List.length_eraseIdx]; simp [hM.size, hlt'], fun i e' hi => ?_⟩
      rw [List.getElem?_eraseIdx] at hi ⊢
      split at hi
      · rename_i hlt2
        obtain ⟨y, hy1, hy2⟩ := hM.val i e' hi
        exact ⟨y, by rw [if_pos hlt2]; simpa using hy1, hy2⟩
      · rename_i hlt2
        obtain ⟨y, hy1, hy2⟩ := hM.val (i + 1) e' hi
        exact ⟨y, by rw [if_neg hlt2]; simpa using hy1, hy2⟩
    · rename_i hf
      injection h with h; subst h
      obtain ⟨k1, _⟩ := findKey_run (w := w) hk1 hkT hM.entries hf
      simp only [Option.bind_none] at k1
      exact ⟨{ w with heap := w.heap.setIfInBounds b (.map xs c) }, by simp [Builtin.delete_, run_underlying ht, hg, hk2, k1, setObj_run hM.obj], Out.setMap r hh hb hM hM.entries (.tup (xs := #[]) .nil .nil)⟩
    · cases h
  · cases h

/-- A new map. -/
theorem newMap_out (r : Rel g w ow fr tm σ) : ∃ g' ow', Out g w ow dst (.map σ.heap.length) fr { σ with heap := σ.heap ++ [.map [] 0] } tm g' (w.alloc (.map #[] 0)) ow' (.map (some w.heap.size)) := by
  have hnew : (w.alloc (.map #[] 0)).heap[w.heap.size]? = some (.map #[] 0) := by
    show (w.heap.push _)[w.heap.size]? = _
    simp
  have hlt : ∀ {b : Nat}, g.isBox b → b ≠ w.heap.size := fun hb e => by have := G.isBox_lt r.ss hb; omega
  have t : Tr Nought g w ⟨g.sb, g.hb ++ [w.heap.size], fun b o => g.wr b o ∨ b = w.heap.size ∧ o = 0⟩ (w.alloc (.map #[] 0)) := Tr.new (ob := .map #[] 0) rfl (X := fun o => o = 0) (fun _ _ h => h) (fun n b hn => by rw [List.getElem?_append_left (List.getElem?_eq_some_iff.1 hn).1]; exact hn)
  have hib : ∀ b, (⟨g.sb, g.hb ++ [w.heap.size], fun b o => g.wr b o ∨ b = w.heap.size ∧ o = 0⟩ : G).isBox b → g.isBox b ∨ b = w.heap.size := fun b hb => by
    rcases hb with hb | hb
    · exact .inl (.inl hb)
    · rcases List.mem_append.1 hb with hb | hb
      · exact .inl (.inr hb)
      · exact .inr (by simpa using hb)
  have hown : ∀ p b o, ow p b o → b < w.heap.size := fun p b o h => r.ss.lt _ _ (r.own.wr _ _ _ h)
  have s' : SS ⟨g.sb, g.hb ++ [w.heap.size], fun b o => g.wr b o ∨ b = w.heap.size ∧ o = 0⟩ (w.alloc (.map #[] 0)) ow { σ with heap := σ.heap ++ [.map [] 0] } := {
    slen := r.ss.slen
    hlen := by simp [r.ss.hlen]
    nodup := by
      have h0 := r.ss.nodup
      have hn : w.heap.size ∉ g.sb ++ g.hb := fun hm => hlt (List.mem_append.1 hm) rfl
      show (g.sb ++ (g.hb ++ [w.heap.size])).Nodup
      rw [← List.append_assoc, (List.perm_append_singleton _ _).nodup_iff]
      exact List.nodup_cons.2 ⟨hn, h0⟩
    lt := fun b o h => by
      rcases h with h | h
      · exact t.lt (r.ss.lt _ _ h)
      · rw [h.1]; simp
    stk := fun n c hn => by
      obtain ⟨h0, b, xs, E, fz, h1, h2⟩ := r.ss.stk n c hn
      exact ⟨h0, b, xs, E, fz, h1, h2.still t (fun i b x h => h) fun o h => .inl h⟩
    heap := fun n c hn => by
      by_cases e : n < σ.heap.length
      · rw [List.getElem?_append_left e] at hn
        obtain ⟨h0, b, xs, E, fz, h1, h2⟩ := r.ss.heap n c hn
        exact ⟨h0, b, xs, E, fz, t.hb _ _ h1, h2.still t (fun i b x h => h) fun o h => .inl h⟩
      · have e' : n = σ.heap.length := by
          have := (List.getElem?_eq_some_iff.1 hn).1
          simp at this; omega
        subst e'
        rw [List.getElem?_append_right (Nat.le_refl _)] at hn
        simp at hn
    maps := fun n es c hn => by
      by_cases e : n < σ.heap.length
      · rw [List.getElem?_append_left e] at hn
        obtain ⟨b, xs, h1, h2⟩ := r.ss.maps n es c hn
        exact ⟨b, xs, t.hb _ _ h1, h2.still t fun o h => .inl h⟩
      · have e' : n = σ.heap.length := by
          have := (List.getElem?_eq_some_iff.1 hn).1
          simp at this; omega
        subst e'
        rw [List.getElem?_append_right (Nat.le_refl _)] at hn
        simp at hn
        obtain ⟨rfl, rfl⟩ := hn
        exact ⟨w.heap.size, #[], by simp [← r.ss.hlen], hnew, rfl, fun i e h => by simp at h, .inr ⟨rfl, rfl⟩⟩
    loops := fun n l hn => by
      by_cases e : n < σ.heap.length
      · rw [List.getElem?_append_left e] at hn
        obtain ⟨b, q, h1, h2⟩ := r.ss.loops n l hn
        exact ⟨b, q, t.hb _ _ h1, h2.still t fun o h => .inl h⟩
      · have e' : n = σ.heap.length := by
          have := (List.getElem?_eq_some_iff.1 hn).1
          simp at this; omega
        subst e'
        rw [List.getElem?_append_right (Nat.le_refl _)] at hn
        simp at hn
    dead := fun n hn => by
      by_cases e : n < σ.heap.length
      · rw [List.getElem?_append_left e] at hn
        obtain ⟨b, h1, h2⟩ := r.ss.dead n hn
        exact ⟨b, t.hb _ _ h1, t.lt h2⟩
      · have e' : n = σ.heap.length := by
          have := (List.getElem?_eq_some_iff.1 hn).1
          simp at this; omega
        subst e'
        rw [List.getElem?_append_right (Nat.le_refl _)] at hn
        simp at hn }
  have o' : OW ⟨g.sb, g.hb ++ [w.heap.size], fun b o => g.wr b o ∨ b = w.heap.size ∧ o = 0⟩ ow := ⟨fun p b o h => .inl (r.own.wr _ _ _ h), fun p b o h hb => (hib b hb).elim (r.own.box _ _ _ h) fun e => by have := hown _ _ _ h; omega, r.own.one⟩
  have r' : Rel ⟨g.sb, g.hb ++ [w.heap.size], fun b o => g.wr b o ∨ b = w.heap.size ∧ o = 0⟩ (w.alloc (.map #[] 0)) ow fr tm { σ with heap := σ.heap ++ [.map [] 0] } := ⟨s', o', r.sf.later t (fun _ _ h => h.elim) (fun _ _ _ _ h => h) fun _ _ _ h => h⟩
  obtain ⟨ow'', ho⟩ := Out.of (g := g) (w := w) (ow := ow) (dst := dst) (v := .map σ.heap.length) (val := .map (some w.heap.size)) r' (PV.of (o := Nobody) (.map (by simp [← r.ss.hlen]) .nil)) (Free.nobody _ _) t.nought (fun p b o h => .inl (.own h)) (fun b o h => h.elim) (fun b o hb hw => by
    rcases hib b hb with hb | hb
    · rcases hw with hw | hw
      · exact .inl (.inl ⟨hb, hw⟩)
      · exact .inr (Nat.le_of_eq hw.1.symm)
    · exact .inr (Nat.le_of_eq hb.symm)) (fun _ _ h => .inr (.inl h)) (fun b hb => (List.mem_append.1 hb).imp id fun h => Nat.le_of_eq ((List.mem_singleton.1 h).symm))
  exact ⟨_, ow'', ho⟩
end
end Go.AM
