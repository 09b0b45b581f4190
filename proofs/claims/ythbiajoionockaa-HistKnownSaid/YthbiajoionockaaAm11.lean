import Derived.Test.YthbiajoionockaaAm10
/-! Operators, conversions, lengths, lookups, struct literals. -/
namespace Go.AM
open Go
set_option linter.unusedVariables false

section
variable {P : Program} {g : G} {w : World} {ow : Own} {σ : St}

theorem ofVs_V : ∀ {vs : List Value} {cs : List AV}, Sc.ofVs vs = some cs → VL g w cs vs ∧ (∀ c ∈ cs, c.isCell = true) ∧ AV.under.go 0 cs = true
  | [], cs, h => by simp [Sc.ofVs] at h; subst h; exact ⟨.nil, by simp, rfl⟩
  | v :: vs, cs, h => by
    simp only [Sc.ofVs] at h
    split at h
    · rename_i x l h1 h2
      injection h with h; subst h
      obtain ⟨k1, k2, k3⟩ := ofVs_V h2
      refine ⟨?_, ?_, ?_⟩
      · rw [← Sc.toV_ofV h1]; exact .sc x k1
      · intro c hc
        rcases List.mem_cons.1 hc with rfl | hc
        · rfl
        · exact k2 c hc
      · simp [AV.under.go, AV.under, k3]
    · cases h

theorem ofPlain_V {v : Value} {z : AV} (h : AV.ofPlain v = some z) : V g w z v ∧ VL g w z.cells v.cells.toList ∧ (∀ c ∈ z.cells, c.isCell = true) ∧ AV.under.go 0 z.cells = true ∧ AV.under 0 z = true ∧ z.common = true := by
  unfold AV.ofPlain at h
  split at h
  · rename_i cs
    cases h1 : Sc.ofVs cs.toList with
    | none => simp [h1] at h
    | some l =>
      simp [h1] at h; subst h
      obtain ⟨k1, k2, k3⟩ := ofVs_V (g := g) (w := w) h1
      exact ⟨.agg k2 k1 .nil, k1, k2, k3, by simpa [AV.under] using k3, rfl⟩
  · rename_i hne
    cases h1 : Sc.ofV v with
    | none => simp [h1] at h
    | some x =>
      simp [h1] at h; subst h
      have hv := Sc.toV_ofV h1
      have hc : v.cells = #[v] := by
        cases v with
        | agg cs => exact (hne cs rfl).elim
        | _ => rfl
      have hV : V g w (.s x) v := by rw [← hv]; exact .sc x .nil
      exact ⟨hV, by rw [hc]; exact hV, by intro c hc; simp [AV.cells] at hc; subst hc; rfl, rfl, rfl, rfl⟩

theorem scalars_eq : ∀ {cs : List AV} {vs ls : List Value}, VL g w cs vs → scalars cs = some ls → vs = ls
  | [], vs, ls, h, hs => by simp [scalars] at hs; subst hs; exact h.nil_left
  | c :: cs, vs, ls, h, hs => by
    obtain ⟨v, vs', rfl, h1, h2⟩ := h.cons_left
    cases c with
    | s x =>
      simp only [scalars] at hs
      cases hl : scalars cs with
      | none => simp [hl] at hs
      | some l =>
        simp [hl] at hs; subst hs
        rw [h1.sc_inv, scalars_eq h2 hl]
    | _ => simp [scalars] at hs

theorem toV_eq {x : AV} {v a : Value} (h : V g w x v) (hx : x.toV = some a) : v = a := by
  cases x with
  | s x => simp [AV.toV] at hx; subst hx; exact h.sc_inv
  | agg cs =>
    obtain ⟨xs, rfl, _, h1⟩ := h.agg_inv
    simp only [AV.toV] at hx
    cases hl : scalars cs with
    | none => simp [hl] at hx
    | some l =>
      simp [hl] at hx; subst hx
      rw [← scalars_eq h1 hl]
  | _ => simp [AV.toV] at hx

theorem PV.toV {o : Nat → Nat → Prop} {x : AV} {v a : Value} (h : PV g w o x v) (hx : x.toV = some a) : v = a := by
  refine toV_eq (h.plain ?_) hx
  cases x with
  | list fl sz es => simp [AV.toV] at hx
  | _ => rfl

theorem refKind_value {o : Nat → Nat → Prop} {x : AV} {v : Value} {k : Nat} (h : PV g w o x v) (hk : x.refKind = some k) :
    (k = 0 ∧ ∃ a, v = .pointer (some a)) ∨ (k = 1 ∧ ∃ a n c, v = .slice (some a) n c) ∨ (k = 2 ∧ ∃ b, v = .map (some b)) ∨ (k = 3 ∧ ∃ f xs ys, v = .func f xs ys) := by
  cases x <;> simp only [AV.refKind] at hk <;> first | (injection hk with hk; subst hk) | (cases hk; done)
  case ptr r off => obtain ⟨b, rfl, _⟩ := V.ptr_inv h; exact .inl ⟨rfl, _, rfl⟩
  case rop cs => obtain ⟨a, rfl⟩ := V.rop_inv h; exact .inl ⟨rfl, _, rfl⟩
  case list fl sz es =>
    refine .inr (.inl ⟨rfl, ?_⟩)
    cases fl with
    | own => obtain ⟨_, a, n, c, rfl, _⟩ := h; exact ⟨_, _, _, rfl⟩
    | uniq => obtain ⟨a, c, xs, u⟩ := h; exact ⟨_, _, _, u.val⟩
    | sh => obtain ⟨a, c, rfl, _⟩ := V.list_inv h; exact ⟨_, _, _, rfl⟩
    | full => obtain ⟨a, c, rfl, _⟩ := V.list_inv h; exact ⟨_, _, _, rfl⟩
  case row r off len cap => obtain ⟨b, c, rfl, _⟩ := V.row_inv h; exact .inr (.inl ⟨rfl, _, _, _, rfl⟩)
  case map n => obtain ⟨b, rfl, _⟩ := V.map_inv h; exact .inr (.inr (.inl ⟨rfl, _, rfl⟩))
  case fn f p c => obtain ⟨xs, ys, rfl, _⟩ := V.fn_inv h; exact .inr (.inr (.inr ⟨rfl, _, _, _, rfl⟩))

theorem nilKind_value {o : Nat → Nat → Prop} {x : AV} {v : Value} {k : Nat} (h : PV g w o x v) (hk : x.nilKind = some k) :
    (k = 0 ∧ v = .pointer none) ∨ (k = 1 ∧ v = .slice none 0 0) ∨ (k = 2 ∧ v = .map none) ∨ (k = 3 ∧ v = .nilFunc) := by
  cases x <;> simp only [AV.nilKind] at hk <;> try (cases hk; done)
  rename_i y
  have hv := V.sc_inv h
  cases y <;> simp at hk <;> subst hk <;> subst hv <;> simp [Sc.toV]

theorem equal_of {t : TypeId} {x y : Value} {b : Bool} (h : ∀ d, (Op.equalIn (d + 1) t x y).run P w = .ok b w) : (Op.equal t x y).run P w = .ok b w := h 9999

theorem eqGuard_quiet {a b : Value} (h1 : ∀ c, a ≠ .agg c) (h2 : a ≠ .nilIface) (op : BinOp) (t : TypeId) (xo yo : Operand) : (eqGuard op t xo yo a b).run P w = .ok () w := by
  unfold eqGuard
  cases op <;> cases a <;> first | rfl | (exact (h1 _ rfl).elim) | (exact (h2 rfl).elim)

theorem cmp_of {t : TypeId} {x y : Value} (h : (Op.equal t x y).run P w = .ok false w) (h1 : Go.binOp .eql t x y = do pure (.bool (← Op.equal t x y))) (h2 : Go.binOp .neq t x y = do pure (.bool (!(← Op.equal t x y)))) :
    (Go.binOp .eql t x y).run P w = .ok (.bool false) w ∧ (Go.binOp .neq t x y).run P w = .ok (.bool true) w := by
  rw [h1, h2]
  constructor <;> simp [h]

theorem oneNil_run {t : TypeId} {x y : AV} {xv yv : Value} {o o' : Nat → Nat → Prop} (h : oneNil P t x y = true) (hx : PV g w o x xv) (hy : PV g w o' y yv) :
    (∀ op xo yo, (eqGuard op t xo yo xv yv).run P w = .ok () w) ∧ (Go.binOp .eql t xv yv).run P w = .ok (.bool false) w ∧ (Go.binOp .neq t xv yv).run P w = .ok (.bool true) w := by
  unfold oneNil at h
  split at h
  case h_2 => cases h
  rename_i k ht
  have hu : (k = 0 ∧ ∃ e, P.underlying t = some (.pointer e)) ∨ (k = 1 ∧ ∃ e, P.underlying t = some (.slice e)) ∨ (k = 2 ∧ ∃ a b, P.underlying t = some (.map a b)) ∨ (k = 3 ∧ ∃ a b c, P.underlying t = some (.func a b c)) := by
    unfold typeKind at ht
    split at ht <;> simp at ht <;> subst ht <;> simp_all
  simp only [Bool.or_eq_true, Bool.and_eq_true, beq_iff_eq] at h
  rcases h with ⟨h1, h2⟩ | ⟨h1, h2⟩
  · rcases hu with ⟨rfl, e, hu⟩ | ⟨rfl, e, hu⟩ | ⟨rfl, e, e', hu⟩ | ⟨rfl, e, e', e'', hu⟩ <;>
    rcases refKind_value hx h1 with ⟨h3, a, rfl⟩ | ⟨h3, a, n, c, rfl⟩ | ⟨h3, b, rfl⟩ | ⟨h3, f, xs, ys, rfl⟩ <;> try (cases h3; done)
    all_goals (rcases nilKind_value hy h2 with ⟨h4, rfl⟩ | ⟨h4, rfl⟩ | ⟨h4, rfl⟩ | ⟨h4, rfl⟩ <;> try (cases h4; done))
    all_goals exact ⟨fun op xo yo => eqGuard_quiet (by simp) (by simp) op t xo yo, cmp_of (equal_of fun d => by simp only [Op.equalIn, Sem.run_bind, run_underlying hu, Result.andThen_ok]; rfl) rfl rfl⟩
  · rcases hu with ⟨rfl, e, hu⟩ | ⟨rfl, e, hu⟩ | ⟨rfl, e, e', hu⟩ | ⟨rfl, e, e', e'', hu⟩ <;>
    rcases refKind_value hy h2 with ⟨h3, a, rfl⟩ | ⟨h3, a, n, c, rfl⟩ | ⟨h3, b, rfl⟩ | ⟨h3, f, xs, ys, rfl⟩ <;> try (cases h3; done)
    all_goals (rcases nilKind_value hx h1 with ⟨h4, rfl⟩ | ⟨h4, rfl⟩ | ⟨h4, rfl⟩ | ⟨h4, rfl⟩ <;> try (cases h4; done))
    all_goals exact ⟨fun op xo yo => eqGuard_quiet (by simp) (by simp) op t xo yo, cmp_of (equal_of fun d => by simp only [Op.equalIn, Sem.run_bind, run_underlying hu, Result.andThen_ok]; rfl) rfl rfl⟩

theorem binOp_run {op : BinOp} {t : TypeId} {xo yo : Operand} {x y v : AV} {xv yv : Value} {o o' : Nat → Nat → Prop} (h : AM.binOp P op t xo yo x y = some v) (hx : PV g w o x xv) (hy : PV g w o' y yv) :
    ∃ val, (do eqGuard op t xo yo xv yv; Go.binOp op t xv yv : Sem Value).run P w = .ok val w ∧ V g w v val := by
  unfold AM.binOp at h
  split at h
  · rename_i a b ha hb
    obtain rfl := hx.toV ha
    obtain rfl := hy.toV hb
    cases hv : val P (do eqGuard op t xo yo xv yv; Go.binOp op t xv yv) with
    | none => rw [hv] at h; cases h
    | some z =>
      rw [hv] at h
      exact ⟨z, val_run hv w, (ofPlain_V h).1⟩
  · -- a value against nil
    split at h
    case isFalse => cases h
    rename_i hn
    have hq := oneNil_run (P := P) hn hx hy
    split at h
    · injection h with h; subst h
      exact ⟨.bool false, by simp [hq.1 .eql xo yo, hq.2.1], .sc (.bool false) .nil⟩
    · injection h with h; subst h
      exact ⟨.bool true, by simp [hq.1 .neq xo yo, hq.2.2], .sc (.bool true) .nil⟩
    · cases h

theorem unOp_run {op : UnOp} {x v : AV} {xv : Value} {o : Nat → Nat → Prop} (h : unOp P op x = some v) (hx : PV g w o x xv) : ∃ val, (Op.unary op xv).run P w = .ok val w ∧ V g w v val := by
  unfold unOp at h
  split at h
  case h_2 => cases h
  rename_i y
  obtain rfl := V.sc_inv hx
  cases hv : val P (Op.unary op y.toV) with
  | none => rw [hv] at h; cases h
  | some z => rw [hv] at h; exact ⟨z, val_run hv w, (ofPlain_V h).1⟩

theorem V_len_slice {o : Nat → Nat → Prop} {fl : Fl} {sz : Nat} {es : List AV} {v : Value} (h : PV g w o (.list fl sz es) v) : ∃ a cap, v = .slice (some a) es.length cap ∧ es.length ≤ cap ∧ (fl = .full → cap = es.length) ∧ 0 < sz := by
  have key : ∀ {fl : Fl} {v : Value}, V g w (.list fl sz es) v → ∃ a cap, v = .slice (some a) es.length cap ∧ es.length ≤ cap ∧ (fl = .full → cap = es.length) ∧ 0 < sz := by
    intro fl v h
    cases h with
    | @list _ _ _ a len cap _ _ _ h1 h2 h3 h4 h5 h6 h7 h8 h9 _ =>
      subst h2
      refine ⟨_, _, rfl, h3, fun hf => ?_, h4⟩
      rcases h1 with h1 | ⟨_, h1⟩
      · rw [hf] at h1; cases h1
      · exact h1
  cases fl with
  | own =>
    obtain ⟨h1, _⟩ := h
    obtain ⟨a, cap, e, h2, _, h3⟩ := key h1
    exact ⟨a, cap, e, h2, fun h => (by cases h), h3⟩
  | uniq => obtain ⟨a, c, xs, u⟩ := h; exact ⟨a, c, u.val, u.le, fun h => (by cases h), u.pos⟩
  | sh => exact key h
  | full => exact key h

theorem lenOf_run {t : TypeId} {x : AV} {xv : Value} {o : Nat → Nat → Prop} {n : Nat} {ty : TypeId} (s : SS g w ow σ) (h : lenOf P t x σ = some n) (hx : PV g w o x xv) : (Builtin.len_ #[t] ty #[xv]).run P w = .ok (goInt n) w := by
  unfold lenOf at h
  split at h <;> try (injection h with h; subst h)
  · rename_i l hu; obtain rfl := V.sc_inv hx; have hs : (ByteArray.mk l.toArray).size = l.length := by simp [ByteArray.size]
    simp [Builtin.len_, run_underlying hu, Sc.toV, hs]
  · rename_i e hu; obtain rfl := V.sc_inv hx; simp [Builtin.len_, run_underlying hu, Sc.toV]
  · rename_i e fl sz es hu
    obtain ⟨a, cap, rfl, _⟩ := V_len_slice hx
    simp [Builtin.len_, run_underlying hu]
  · rename_i e r off len cap hu
    obtain ⟨b, c, rfl, _⟩ := V.row_inv hx
    simp [Builtin.len_, run_underlying hu]
  · rename_i k e hu; obtain rfl := V.sc_inv hx; simp [Builtin.len_, run_underlying hu, Sc.toV]
  · rename_i k e m hu
    split at h
    · rename_i es c hm
      injection h with h; subst h
      obtain ⟨b, xs, h1, h2⟩ := s.maps _ _ _ hm
      obtain ⟨b', rfl, h3⟩ := V.map_inv hx
      rw [h1] at h3; injection h3 with h3; subst h3
      simp [Builtin.len_, run_underlying hu, getObj, Sem.run, h2.obj, h2.size]
    · cases h
  · rename_i m e cs hu
    obtain ⟨xs, rfl, _⟩ := V.agg_inv hx
    simp [Builtin.len_, run_underlying hu]
  · cases h

theorem capOf_run {t : TypeId} {x : AV} {xv : Value} {o : Nat → Nat → Prop} {n : Nat} {ty : TypeId} (h : capOf P t x = some n) (hx : PV g w o x xv) : (Builtin.cap_ #[t] ty #[xv]).run P w = .ok (goInt n) w := by
  unfold capOf at h
  split at h <;> try (injection h with h; subst h)
  · rename_i e hu; obtain rfl := V.sc_inv hx; simp [Builtin.cap_, run_underlying hu, Sc.toV]
  · rename_i e sz es hu
    obtain ⟨a, cap, rfl, _, h1, _⟩ := V_len_slice hx
    simp [Builtin.cap_, run_underlying hu, h1 rfl]
  · cases h

/-! Struct and array literals. -/
theorem foldl_set (off : Nat) : ∀ (vs : List Value) (k : Nat) (cells : Array Value), off + k + vs.length ≤ cells.size →
    ((vs.zipIdx k).foldl (fun cs (p : Value × Nat) => cs.setIfInBounds (off + p.2) p.1) cells).size = cells.size ∧
    ∀ (i : Nat), ((vs.zipIdx k).foldl (fun cs (p : Value × Nat) => cs.setIfInBounds (off + p.2) p.1) cells)[i]? = if off + k ≤ i ∧ i < off + k + vs.length then vs[i - (off + k)]? else cells[i]?
  | [], k, cells, _ => ⟨rfl, fun i => by simp; intro h1 h2; omega⟩
  | v :: vs, k, cells, h => by
    simp only [List.length_cons] at h
    obtain ⟨h1, h2⟩ := foldl_set off vs (k + 1) (cells.setIfInBounds (off + k) v) (by simp; omega)
    simp only [List.zipIdx_cons, List.foldl_cons]
    refine ⟨by rw [h1]; simp, fun i => ?_⟩
    rw [h2 i]
    by_cases e : i = off + k
    · subst e
      rw [if_neg (by omega), if_pos (by simp), Nat.sub_self, Array.getElem?_setIfInBounds_self_of_lt (by omega)]; rfl
    · by_cases h4 : off + (k + 1) ≤ i ∧ i < off + (k + 1) + vs.length
      · rw [if_pos h4, if_pos (by simp only [List.length_cons]; omega), show i - (off + k) = (i - (off + (k + 1))) + 1 by omega, List.getElem?_cons_succ]
      · rw [if_neg h4, if_neg (by simp only [List.length_cons]; omega), Array.getElem?_setIfInBounds_ne (Ne.symm e)]

theorem V.cells {x : AV} {v : Value} (h : V g w x v) (hf : x.fit = true) : VL g w x.cells v.cells.toList ∧ ∀ c ∈ x.cells, c.isCell = true := by
  have one : (∀ cs, v ≠ .agg cs) → x.cells = [x] → x.isCell = true → VL g w x.cells v.cells.toList ∧ ∀ c ∈ x.cells, c.isCell = true := by
    intro h1 h2 h3
    have hv : v.cells = #[v] := by cases v <;> first | rfl | exact (h1 _ rfl).elim
    rw [h2, hv]
    exact ⟨h, fun c hc => by simp at hc; subst hc; exact h3⟩
  cases x with
  | agg cs => obtain ⟨xs, rfl, h0, h1⟩ := h.agg_inv; exact ⟨h1, h0⟩
  | undef => simp [AV.fit] at hf
  | tup vs => simp [AV.fit] at hf
  | s y => obtain rfl := h.sc_inv; exact one (fun cs => by cases y <;> simp [Sc.toV]) rfl rfl
  | list fl sz es =>
    obtain ⟨a, cap, rfl, _⟩ := h.list_inv
    exact one (by simp) rfl (by cases fl <;> first | rfl | (cases h with | list h1 => simp at h1))
  | rop cs => obtain ⟨a, rfl⟩ := h.rop_inv; exact one (by simp) rfl rfl
  | ptr r off => obtain ⟨b, rfl, _⟩ := h.ptr_inv; exact one (by simp) rfl rfl
  | row r off len cap => obtain ⟨b, c, rfl, _⟩ := h.row_inv; exact one (by simp) rfl rfl
  | map n => obtain ⟨b, rfl, _⟩ := h.map_inv; exact one (by simp) rfl rfl
  | fn f p c => obtain ⟨xs, ys, rfl, _⟩ := h.fn_inv; exact one (by simp) rfl rfl
  | yield n =>
    have : ∃ b, v = .func (.yield b) #[] #[] := by cases h with | yield _ _ => exact ⟨_, rfl⟩
    obtain ⟨b, rfl⟩ := this; exact one (by simp) rfl rfl

theorem fill_run (place : Nat → Option (Nat × Nat)) : ∀ (parts : List (Nat × AV)) (vparts : List (Nat × Value)) (cs cs' : List AV) (xs : Array Value),
    fillA place cs parts = some cs' → parts.length = vparts.length → (∀ (j : Nat) p q, parts[j]? = some p → vparts[j]? = some q → p.1 = q.1 ∧ V g w p.2 q.2) → VL g w cs xs.toList → (∀ c ∈ cs, c.isCell = true) →
    ∃ xs', Instr.fill place xs vparts = some xs' ∧ VL g w cs' xs'.toList ∧ (∀ c ∈ cs', c.isCell = true)
  | [], vparts, cs, cs', xs, h, hl, hp, hx, hc => by
    simp only [fillA] at h; injection h with h; subst h
    have : vparts = [] := by cases vparts with | nil => rfl | cons _ _ => simp at hl
    subst this
    exact ⟨xs, rfl, hx, hc⟩
  | (i, v) :: rest, [], cs, cs', xs, h, hl, hp, hx, hc => by simp at hl
  | (i, v) :: rest, (i', u) :: vrest, cs, cs', xs, h, hl, hp, hx, hc => by
    obtain ⟨e1, hv⟩ := hp 0 _ _ rfl rfl
    dsimp only at e1 hv
    subst e1
    simp only [fillA] at h
    split at h
    · cases h
    rename_i off size hpl
    split at h
    · cases h
    rename_i hcond
    simp only [not_or, Decidable.not_not, Bool.not_eq_true'] at hcond
    obtain ⟨h1, h2, h3⟩ := hcond
    have hf : v.fit = true := by simpa using h3
    obtain ⟨k1, k2⟩ := hv.cells hf
    have hus : u.cells.size = size := by have := k1.length; simp at this; omega
    have hxs : xs.size = cs.length := by have := hx.length; simpa using this
    obtain ⟨m1, m2⟩ := foldl_set off u.cells.toList 0 xs (by simp; omega)
    simp only [Nat.add_zero, Array.length_toList, hus] at m1 m2
    -- the cells behind this part
    let xs2 := u.cells.toList.zipIdx.foldl (fun cs (p : Value × Nat) => cs.setIfInBounds (off + p.2) p.1) xs
    have hlen : (cs.take off ++ v.cells ++ cs.drop (off + size)).length = cs.length := by simp; omega
    have hvl : VL g w (cs.take off ++ v.cells ++ cs.drop (off + size)) xs2.toList := by
      refine VL.of_get (by rw [hlen, Array.length_toList]; exact m1.trans hxs) fun j c hj => ?_
      have hm := m2 j
      have h2' : xs2.toList[j]? = if off ≤ j ∧ j < off + size then u.cells.toList[j - off]? else xs[j]? := by rw [Array.getElem?_toList]; exact hm
      have ht : (cs.take off).length = off := by rw [List.length_take]; omega
      rw [List.append_assoc] at hj
      rw [h2']
      by_cases e : j < off
      · rw [List.getElem?_append_left (by omega), List.getElem?_take_of_lt e] at hj
        rw [if_neg (by omega)]
        obtain ⟨z, hz, hz'⟩ := hx.get hj
        exact ⟨z, by simpa using hz, hz'⟩
      · rw [List.getElem?_append_right (by omega), ht] at hj
        by_cases e2 : j < off + size
        · rw [List.getElem?_append_left (by omega)] at hj
          rw [if_pos (by omega)]
          exact k1.get hj
        · rw [List.getElem?_append_right (by omega), List.getElem?_drop] at hj
          rw [if_neg (by omega)]
          rw [show off + size + (j - off - v.cells.length) = j by omega] at hj
          obtain ⟨z, hz, hz'⟩ := hx.get hj
          exact ⟨z, by simpa using hz, hz'⟩
    have hcc : ∀ c ∈ cs.take off ++ v.cells ++ cs.drop (off + size), c.isCell = true := by
      intro c hcm
      rcases List.mem_append.1 hcm with hcm | hcm
      · rcases List.mem_append.1 hcm with hcm | hcm
        · exact hc c (List.mem_of_mem_take hcm)
        · exact k2 c hcm
      · exact hc c (List.mem_of_mem_drop hcm)
    obtain ⟨xs', r1, r2, r3⟩ := fill_run place rest vrest _ cs' xs2 h (by simpa using hl) (fun j p q hj hq => hp (j + 1) p q hj hq) hvl hcc
    refine ⟨xs', ?_, r2, r3⟩
    have hz : u.cells.zipIdx.foldl (fun cs (p : Value × Nat) => cs.setIfInBounds (off + p.2) p.1) xs = xs2 := by
      rw [← Array.foldl_toList, Array.toList_zipIdx]
    simp only [Instr.fill, hpl, hus, ne_eq, not_true_eq_false, decide_false, Bool.false_or, decide_eq_true_eq]
    rw [if_neg (by omega)]
    rw [← r1]
    congr 1
end
end Go.AM
