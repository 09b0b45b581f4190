import Derived.Test.YthbiajoionockaaAm26
/-! The code, the calls: what the abstract machine evaluates, the model computes. -/
namespace Go.AM
open Go
set_option linter.unusedVariables false
set_option linter.unusedSimpArgs false

section
variable {P : Program} {C : CallF} {cfg : Cfg} {f : FuncId} {g g' g0 g1 g2 : G} {w w' w0 : World} {ow ow' ow0 ow1 : Own} {σ σ' : St} {fr fr' : Fr} {tm : Array Value} {a : Act} {ops : Array Oper} {Q : Exit → Act → World → Prop}

/-- Where a part of the code ends. -/
structure Post (g : G) (w : World) (ow : Own) (a : Act) (fr' : Fr) (σ' : St) (a' : Act) (w' : World) : Prop where
  out : ∃ g' ow', Rel g' w' ow' fr' a'.tmps σ' ∧ Way g w ow g' w' ow'
  defers : a'.defers = a.defers

theorem Post.after {a1 a' : Act} (hw : Way g w ow g1 w0 ow1) (hlt : ∀ b o, g.wr b o → b < w.heap.size) (hd : a1.defers = a.defers) (h : Post g1 w0 ow1 a1 fr' σ' a' w') : Post g w ow a fr' σ' a' w' := by
  obtain ⟨⟨g', ow', h1, h2⟩, h3⟩ := h
  exact ⟨⟨g', ow', h1, hw.trans h2 hlt⟩, h3.trans hd⟩

theorem V_bool {b : Bool} {v : Value} (h : V g w (.s (.bool b)) v) : v = .bool b := by cases h; rfl

theorem guardA_wanted {o : Oper} {b : Bool} (s : SF g w ow fr a.tmps) (h : guardA ops fr o = some b) : Region.wanted o (yielded ops a.tmps) = b := by
  unfold guardA at h
  unfold Region.wanted
  cases hg : o.guard with
  | none => rw [hg] at h; dsimp only at h ⊢; exact Option.some.inj h
  | some jw =>
    obtain ⟨j, want⟩ := jw
    rw [hg] at h
    dsimp only at h ⊢
    cases hd : (ops[j]?).bind (·.dst) with
    | none => rw [hd] at h; cases h
    | some d =>
      rw [hd] at h
      dsimp only at h
      have hy : ∀ v, a.tmps[d]? = some v → yielded ops a.tmps j = (match v with | .bool b => some b | _ => none) := by
        intro v hv
        unfold yielded
        rw [hd]
        simp only [Option.bind_some, hv]
        cases v <;> rfl
      split at h
      · rename_i b' hb
        obtain ⟨v, h1, h2⟩ := s.val d _ hb
        have h3 := V_bool (PV.plain h2 rfl)
        rw [hy v h1, h3]
        exact Option.some.inj h
      · rename_i hb
        obtain ⟨v, h1, h2⟩ := s.val d _ hb
        have h3 : V g w (.tup []) v := PV.plain h2 rfl
        cases h3 with
        | tup _ _ =>
          rw [hy _ h1]
          exact Option.some.inj h
      · cases h

theorem act_defers (a : Act) (dst : Option Tmp) (v : Value) : (a.put dst v).defers = a.defers := by cases dst <;> rfl

theorem undef_tup : V g w (.tup []) undef := .tup .nil .nil

/-- One step of a region. -/
theorem step_wp (hC : Sound P C) {i : Nat} {K : Act → World → Prop} (h : stepA C P cfg f ops i fr σ = some (fr', σ')) (r : Rel g w ow fr a.tmps σ)
    (hK : ∀ a' w', Post g w ow a fr' σ' a' w' → K a' w') : wpOp P ops Q i K a w := by
  unfold stepA at h
  unfold wpOp
  cases hi : ops[i]? with
  | none => rw [hi] at h; cases h
  | some o =>
    rw [hi] at h
    dsimp only at h ⊢
    cases hg : guardA ops fr o with
    | none => rw [hg] at h; cases h
    | some b =>
      rw [hg] at h
      rw [guardA_wanted r.sf hg]
      cases b with
      | true =>
        dsimp only at h
        simp only [if_true]
        split at h
        · rename_i v fr1 σ1 he
          simp only [Option.some.injEq, Prod.mk.injEq] at h
          obtain ⟨rfl, rfl⟩ := h
          obtain ⟨g1, ow1, r1, W1⟩ := settle_way (settled o.op) r
          refine .inl (evOp_wp hC r1 he fun g' w' ow' val ho => hK _ _ ?_)
          refine ⟨⟨g', ow', ?_, W1.trans ho.way r.ss.lt⟩, act_defers _ _ _⟩
          rw [act_put]; exact ho.rel
        · cases h
      | false =>
        simp only [Option.some.injEq, Prod.mk.injEq] at h
        obtain ⟨rfl, rfl⟩ := h
        simp only [Bool.false_eq_true, if_false]
        obtain ⟨ow', r', k1, _, _⟩ := r.put (dst := o.dst) (PV.of (o := Nobody) (undef_tup (g := g) (w := w))) (Free.nobody _ _)
        refine hK _ _ ⟨⟨g, ow', by rw [act_put]; exact r', Way.only fun p b o h => (k1 p b o h).resolve_right id⟩, act_defers _ _ _⟩

theorem ops_wp (hC : Sound P C) : ∀ (l : List Nat) {fr : Fr} {σ : St} {g : G} {w : World} {ow : Own} {a : Act}, evOps C P cfg f ops l fr σ = some (fr', σ') → Rel g w ow fr a.tmps σ →
    (∀ a' w', Post g w ow a fr' σ' a' w' → Q .normal a' w') → wpOps P ops Q l a w
  | [], fr, σ, g, w, ow, a, h, r, hQ => by
    simp only [evOps, Option.some.injEq, Prod.mk.injEq] at h
    obtain ⟨rfl, rfl⟩ := h
    exact hQ a w ⟨⟨g, ow, r, Way.refl _ _ _⟩, rfl⟩
  | i :: l, fr, σ, g, w, ow, a, h, r, hQ => by
    simp only [evOps] at h
    split at h
    · rename_i fr1 σ1 hs
      rw [wpOps_cons]
      refine step_wp hC hs r fun a1 w1 hp => ?_
      obtain ⟨⟨g1, ow1, r1, W1⟩, hd⟩ := hp
      exact ops_wp hC l h r1 fun a' w' hp' => hQ a' w' (hp'.after W1 r.ss.lt hd)
    · cases h

theorem any_wp (hC : Sound P C) {J : Array Bool → St → Prop} : ∀ (n : Nat) {listed : Array Bool} {fr : Fr} {σ : St} {g : G} {w : World} {ow : Own} {a : Act}, AnyJ C P cfg f ops J (fr', σ') n listed fr σ → Rel g w ow fr a.tmps σ →
    (∀ a' w', Post g w ow a fr' σ' a' w' → Q .normal a' w') → wpAny P .any ops Q n listed a w
  | 0, listed, fr, σ, g, w, ow, a, h, r, hQ => by
    obtain ⟨h1, h2, _⟩ := h
    simp only [Prod.mk.injEq] at h2
    obtain ⟨rfl, rfl⟩ := h2
    exact ⟨h1, hQ a w ⟨⟨g, ow, r, Way.refl _ _ _⟩, rfl⟩⟩
  | n + 1, listed, fr, σ, g, w, ow, a, h, r, hQ => by
    obtain ⟨_, h1, h2⟩ := h
    refine ⟨fun he => ?_, fun i hi => ?_⟩
    · have h3 := h1 he
      simp only [Prod.mk.injEq] at h3
      obtain ⟨rfl, rfl⟩ := h3
      exact hQ a w ⟨⟨g, ow, r, Way.refl _ _ _⟩, rfl⟩
    · obtain ⟨fr1, σ1, h3, h4⟩ := h2 i hi
      refine step_wp hC h3 r fun a1 w1 hp => ?_
      obtain ⟨⟨g1, ow1, r1, W1⟩, hd⟩ := hp
      exact any_wp hC n h4 r1 fun a' w' hp' => hQ a' w' (hp'.after W1 r.ss.lt hd)

theorem Rel.heap (r : Rel g w ow fr tm σ) (h : w'.heap = w.heap) (he : SameEnv w w' := by exact ⟨rfl, rfl, rfl⟩) : Rel g w' ow fr tm σ := by
  have t : Tr Nought g w g w' := Tr.heap h he
  exact ⟨r.ss.still t (fun b o hw => by rw [h]; exact r.ss.lt b o hw) rfl rfl (fun _ _ _ h => h) (fun _ _ _ _ h => h) (fun _ _ _ _ h => h), r.own,
    r.sf.later t (fun _ _ h => h.elim) (fun _ _ _ _ h => h) (fun _ _ _ h => h)⟩

theorem Way.heap (h : w'.heap = w.heap) (he : SameEnv w w' := by exact ⟨rfl, rfl, rfl⟩) : Way g w ow g w' ow := ⟨Tr.heap h he, fun _ _ h => .inl h, fun _ _ h => .inr h, fun _ h => .inl h⟩

def Ex.toExit : Ex → Exit
  | .normal => .normal
  | .exit id => .exit id
  | .ret => .ret

theorem exists_least {p : Nat → Prop} (h : ∃ n, p n) : ∃ n, p n ∧ ∀ m, p m → n ≤ m := by
  obtain ⟨n, hn⟩ := h
  induction n using Nat.strongRecOn with
  | _ n ih =>
    by_cases hm : ∃ m, m < n ∧ p m
    · obtain ⟨m, h1, h2⟩ := hm; exact ih m h1 h2
    · exact ⟨n, hn, fun m h2 => Nat.le_of_not_lt fun h1 => hm ⟨m, h1, h2⟩⟩

open Classical in
noncomputable def least (p : Nat → Prop) : Nat := if h : ∃ n, p n then Classical.choose (exists_least h) else 0

theorem least_spec {p : Nat → Prop} (h : ∃ n, p n) : p (least p) ∧ ∀ m, p m → least p ≤ m := by
  unfold least; rw [dif_pos h]; exact Classical.choose_spec (exists_least h)

/-- A loop whose rounds are counted. -/
theorem wp_loop_n {c : Code} (I : Nat → Act → World → Prop) {n : Nat} (h0 : I n a w) (round : ∀ n a w, I n a w → c.wp P (Exit.then (fun a' w' => ∃ m, m < n ∧ I m a' w') Q) a w) : (Code.loop c).wp P Q a w := by
  refine wp_loop (fun a w => ∃ n, I n a w) (fun a w => least fun n => I n a w) ⟨n, h0⟩ fun a w hI => ?_
  obtain ⟨h1, h2⟩ := least_spec hI
  refine wp_mono (round _ a w h1) fun e a' w' hq => ?_
  cases e with
  | normal =>
    obtain ⟨m, h3, h4⟩ := hq
    exact ⟨⟨m, h4⟩, Nat.lt_of_le_of_lt ((least_spec ⟨m, h4⟩).2 m h4) h3⟩
  | _ => exact hq

def BodySound (P : Program) (C : CallF) (cfg : Cfg) (n : Nat) (f : FuncId) (c : Code) : Prop :=
  ∀ (k : Nat) (fr : Fr) (σ : St) (e : Ex) (fr' : Fr) (σ' : St), evCode C P cfg n f k c fr σ = some (e, fr', σ') → ∀ (g : G) (w : World) (ow : Own) (a : Act) (Q : Exit → Act → World → Prop), Rel g w ow fr a.tmps σ →
    (∀ a' w', Post g w ow a fr' σ' a' w' → Q e.toExit a' w') → c.wp P Q a w

theorem loop_wp {c : Code} {n k : Nat} (hb : BodySound P C cfg n f c) {mask : List Bool} {n0 : Nat} {e : Ex} {a0 : Act} (hn0 : g0.sb.length = n0) (hlt0 : ∀ b o, g0.wr b o → b < w0.heap.size)
    (hQ : ∀ a' w', Post g0 w0 ow0 a0 fr' σ' a' w' → Q e.toExit a' w') {m : Nat} (h : evLoop (evCode C P cfg n f k c) mask n0 m fr σ = some (e, fr', σ')) (r : Rel g w ow fr a.tmps σ) (W : Way g0 w0 ow0 g w ow) (hd : a.defers = a0.defers) : (Code.loop c).wp P Q a w := by
  refine wp_loop_n (fun m a w => ∃ fr σ g ow, evLoop (evCode C P cfg n f k c) mask n0 m fr σ = some (e, fr', σ') ∧ Rel g w ow fr a.tmps σ ∧ Way g0 w0 ow0 g w ow ∧ a.defers = a0.defers) ⟨fr, σ, g, ow, h, r, W, hd⟩ ?_
  rintro m a w ⟨fr, σ, g, ow, h, r, W, hd⟩
  cases m with
  | zero => simp only [evLoop] at h; cases h
  | succ m =>
    simp only [evLoop] at h
    split at h
    case isFalse => cases h
    rename_i hu
    have rk := (r.keep mask).cut n0 hu
    have Wk := W.cut hn0
    cases hbody : evCode C P cfg n f k c (AM.keep mask fr) (σ.cut n0) with
    | none => simp only [St.cut] at hbody; rw [hbody] at h; cases h
    | some res =>
      obtain ⟨e1, fr1, σ1⟩ := res
      have hb' := hbody
      simp only [St.cut] at hb'
      rw [hb'] at h
      refine hb k _ _ e1 fr1 σ1 hbody (g.cut n0) w ow a _ rk fun a' w' hp => ?_
      have hp' : Post g0 w0 ow0 a0 fr1 σ1 a' w' := hp.after Wk hlt0 hd
      cases e1 with
      | normal =>
        dsimp only at h
        obtain ⟨⟨g', ow', h1, h2⟩, h3⟩ := hp'
        exact ⟨m, Nat.lt_succ_self m, fr1, σ1, g', ow', h, h1, h2, h3⟩
      | exit id =>
        simp only [Option.some.injEq, Prod.mk.injEq] at h
        obtain ⟨rfl, rfl, rfl⟩ := h
        exact hQ a' w' hp'
      | ret =>
        simp only [Option.some.injEq, Prod.mk.injEq] at h
        obtain ⟨rfl, rfl, rfl⟩ := h
        exact hQ a' w' hp'

theorem mask_bit : ∀ (l : List Nat) (t : Nat), (maskOf l).testBit t = true ↔ t ∈ l
  | [], t => by simp [maskOf]
  | x :: l, t => by
    simp only [maskOf, Nat.testBit_or, Bool.or_eq_true, mask_bit l t, Nat.testBit_two_pow, decide_eq_true_eq, List.mem_cons]
    constructor
    · rintro (h | h)
      · exact .inr h
      · exact .inl h.symm
    · rintro (h | h)
      · exact .inr h.symm
      · exact .inl h

theorem and_sub {a b : Nat} : (a &&& b == a) = true ↔ ∀ t, a.testBit t = true → b.testBit t = true := by
  rw [beq_iff_eq]
  constructor
  · intro h t ht
    have := congrArg (·.testBit t) h
    simp only [Nat.testBit_and, ht, Bool.true_and] at this
    exact this
  · intro h
    apply Nat.eq_of_testBit_eq
    intro t
    rw [Nat.testBit_and]
    cases ha : a.testBit t with
    | false => rfl
    | true => rw [h t ha]; rfl

theorem allFrom_spec {p : Info → Nat → Bool} : ∀ {l : List Info} {k : Nat}, allFrom p l k = true → ∀ j I, l[j]? = some I → p I (k + j) = true
  | [], k, _, j, I, hj => by simp at hj
  | J :: l, k, h, j, I, hj => by
    simp only [allFrom, Bool.and_eq_true] at h
    cases j with
    | zero => simp at hj; subst hj; exact h.1
    | succ j =>
      have := allFrom_spec h.2 j I (by simpa using hj)
      rw [show k + (j + 1) = k + 1 + j by omega]; exact this

theorem nth_get : ∀ {l : List Info} {j : Nat}, nth l j = l[j]?
  | [], j => by simp [nth]
  | I :: l, 0 => by simp [nth]
  | I :: l, j + 1 => by simp [nth, nth_get]

/-- The same that is listed. -/
structure SameL (n : Nat) (mask : Nat) (l : Array Bool) : Prop where
  size : l.size = n
  bit : ∀ x, mask.testBit x = l.getD x false

theorem SameL.set {n mask i : Nat} {l : Array Bool} (h : SameL n mask l) (hi : i < n) : SameL n (mask ||| 2 ^ i) (l.setIfInBounds i true) := by
  refine ⟨by simp [h.size], fun x => ?_⟩
  rw [Nat.testBit_or, Nat.testBit_two_pow, h.bit]
  by_cases e : i = x
  · subst e; simp [h.size, hi]
  · rw [getD_set_ne false e]; simp [e]

theorem info_ready {n mask : Nat} {l : Array Bool} (h : SameL n mask l) (hn : n = ops.size) {i : Nat} {o : Oper} (ho : ops[i]? = some o) : (infoOf cfg f ops o).ready i mask = true ↔ i ∈ Region.ready .any ops l := by
  have hi : i < l.size := by rw [h.size, hn]; exact (Array.getElem?_eq_some_iff.1 ho).1
  have hd : l.getD i true = l.getD i false := by simp [hi]
  rw [mem_ready, hd]
  simp only [Info.ready, infoOf, Bool.and_eq_true, Bool.not_eq_true', and_sub, h.bit, mask_bit]
  refine and_congr_right fun _ => ?_
  constructor
  · intro hall
    refine ⟨o, ho, fun e he hb => ?_⟩
    exact hall e.on (List.mem_map.2 ⟨e, List.mem_filter.2 ⟨Array.mem_toList_iff.2 he, hb⟩, rfl⟩)
  · rintro ⟨o', ho', hall⟩ t ht
    rw [ho] at ho'
    injection ho' with ho'; subst ho'
    obtain ⟨e, he, rfl⟩ := List.mem_map.1 ht
    obtain ⟨h1, h2⟩ := List.mem_filter.1 he
    exact hall e (Array.mem_toList_iff.1 h1) h2

theorem info_apart {x y : Oper} (h : (infoOf cfg f ops x).apart (infoOf cfg f ops y) = true) : x.apart ops y = true := by
  have hm : ∀ (o : Oper) (d : Nat), ((infoOf cfg f ops o).looks.testBit d) = (o.looksAt ops).contains d := by
    intro o d
    have := mask_bit (o.looksAt ops) d
    show (maskOf (o.looksAt ops)).testBit d = _
    cases hc : (o.looksAt ops).contains d with
    | true => exact this.2 (by simpa using hc)
    | false =>
      cases hb : (maskOf (o.looksAt ops)).testBit d with
      | false => rfl
      | true => exact absurd (this.1 hb) (by simpa using hc)
  unfold Info.apart at h
  simp only [hm] at h
  exact h

theorem plan_fast : ∀ (l : List Nat) (mask : Nat) (listed : Array Bool), SameL ops.size mask listed → planFast (ops.toList.map (infoOf cfg f ops)) l mask = true → PlanP cfg f ops l listed
  | [], mask, listed, hs, h => by
    simp only [planFast] at h
    apply List.eq_nil_iff_forall_not_mem.2
    intro j hj
    obtain ⟨_, o, ho, _⟩ := mem_ready.1 hj
    have := allFrom_spec h j (infoOf cfg f ops o) (by rw [List.getElem?_map, Array.getElem?_toList, ho]; rfl)
    rw [Nat.zero_add, (info_ready hs rfl ho).2 hj] at this
    cases this
  | i :: rest, mask, listed, hs, h => by
    simp only [planFast, nth_get, List.getElem?_map, Array.getElem?_toList] at h
    cases ho : ops[i]? with
    | none => rw [ho] at h; cases h
    | some oi =>
      rw [ho] at h
      simp only [Option.map_some, Bool.and_eq_true] at h
      obtain ⟨⟨h1, h2⟩, h3⟩ := h
      have hi : i < ops.size := (Array.getElem?_eq_some_iff.1 ho).1
      have hrd : isReader cfg f ops i = (infoOf cfg f ops oi).rd := by simp [isReader, ho, infoOf]
      refine ⟨(info_ready hs rfl ho).1 h1, fun o' ho' hr j oj hj hne hun hno => ?_, fun hr j hj => ?_, plan_fast rest _ _ (hs.set hi) h3⟩
      · rw [ho] at ho'; injection ho' with ho'; subst ho'
        rw [← hrd, hr] at h2
        simp only [if_true] at h2
        have := allFrom_spec h2 j (infoOf cfg f ops oj) (by rw [List.getElem?_map, Array.getElem?_toList, hj]; rfl)
        rw [Nat.zero_add] at this
        simp only [Bool.or_eq_true, beq_iff_eq] at this
        rcases this with ((h4 | h4) | h4) | h4
        · exact (hne h4).elim
        · have hjl : j < listed.size := by rw [hs.size]; exact (Array.getElem?_eq_some_iff.1 hj).1
          rw [hs.bit] at h4
          simp [hjl] at h4 hun
          rw [h4] at hun; cases hun
        · rw [show (infoOf cfg f ops oj).edges = maskOf ((oj.after.toList.filter (Region.binds .any)).map (·.on)) from rfl, mask_bit] at h4
          obtain ⟨e, he, hei⟩ := List.mem_map.1 h4
          obtain ⟨h5, h6⟩ := List.mem_filter.1 he
          exact (hno e (Array.mem_toList_iff.1 h5) h6 hei).elim
        · exact info_apart h4
      · rw [← hrd, hr] at h2
        simp only [Bool.false_eq_true, if_false] at h2
        obtain ⟨_, o, hjo, _⟩ := mem_ready.1 hj
        have := allFrom_spec h2 j (infoOf cfg f ops o) (by rw [List.getElem?_map, Array.getElem?_toList, hjo]; rfl)
        rw [Nat.zero_add, (info_ready hs rfl hjo).2 hj] at this
        simpa using this

theorem closed_none (ops : Array Oper) (n : Nat) : Closed ops (Array.replicate n false) := by
  intro j k hj _
  exfalso
  by_cases hl : j < n
  · simp [Array.getElem?_eq_getElem, hl] at hj
  · simp [Array.getElem?_eq_none, hl] at hj

theorem same_none (n : Nat) : SameL n 0 (Array.replicate n false) := by
  refine ⟨by simp, fun x => ?_⟩
  by_cases hl : x < n
  · simp [Array.getElem?_eq_getElem, hl]
  · simp [Array.getElem?_eq_none, hl]

theorem code_wp (hC : Sound P C) (hm : P.follows .mixedOrders = true) {n : Nat} : ∀ (c : Code), plansIn cfg f c = true → BodySound P C cfg n f c
  | .skip, _ => fun k fr σ e fr' σ' h g w ow a Q r hQ => by
    simp only [evCode, Option.some.injEq, Prod.mk.injEq] at h
    obtain ⟨rfl, rfl, rfl⟩ := h
    exact wp_skip (hQ a w ⟨⟨g, ow, r, Way.refl _ _ _⟩, rfl⟩)
  | .region id ops false, _ => fun k fr σ e fr' σ' h g w ow a Q r hQ => by
    simp only [evCode] at h
    obtain ⟨⟨fr1, σ1⟩, h1, h2⟩ := map_some h
    simp only [Prod.mk.injEq] at h2
    obtain ⟨rfl, rfl, rfl⟩ := h2
    exact wp_region (ops_wp hC _ h1 r hQ)
  | .region id ops true, hp => fun k fr σ e fr' σ' h g w ow a Q r hQ => by
    simp only [evCode] at h
    split at h
    · cases h
    rename_i hne
    obtain ⟨⟨fr1, σ1⟩, h1, h2⟩ := map_some h
    simp only [Prod.mk.injEq] at h2
    obtain ⟨rfl, rfl, rfl⟩ := h2
    simp only [plansIn, Bool.or_eq_true, Bool.and_eq_true, decide_eq_true_eq] at hp
    have hp' := hp.resolve_left hne
    have hany := evPlan_any _ ops.size _ _ _ _ hp'.1 (plan_fast _ 0 _ (same_none _) hp'.2) (closed_none _ _) (fun c hc => by cases hc) h1
    refine wp_region_any hm (any_wp hC _ hany (r.heap rfl) fun a' w' hpost => hQ a' w' ?_)
    exact Post.after (g1 := g) (w0 := { w with drawn := w.drawn + 1 }) (ow1 := ow) (a1 := a) (Way.heap rfl) r.ss.lt rfl hpost
  | .seq x y, hp => fun k fr σ e fr' σ' h g w ow a Q r hQ => by
    simp only [plansIn, Bool.and_eq_true] at hp
    simp only [evCode] at h
    cases hx : evCode C P cfg n f k x fr σ with
    | none => rw [hx] at h; cases h
    | some res =>
      obtain ⟨e1, fr1, σ1⟩ := res
      rw [hx] at h
      refine wp_seq (code_wp hC hm x hp.1 k fr σ e1 fr1 σ1 hx g w ow a _ r fun a1 w1 hpost => ?_)
      cases e1 with
      | normal =>
        dsimp only at h
        obtain ⟨⟨g1, ow1, r1, W1⟩, hd⟩ := hpost
        exact code_wp hC hm y hp.2 k fr1 σ1 e fr' σ' h g1 w1 ow1 a1 Q r1 fun a' w' hp' => hQ a' w' (hp'.after W1 r.ss.lt hd)
      | exit id =>
        simp only [Option.some.injEq, Prod.mk.injEq] at h
        obtain ⟨rfl, rfl, rfl⟩ := h
        exact hQ a1 w1 hpost
      | ret =>
        simp only [Option.some.injEq, Prod.mk.injEq] at h
        obtain ⟨rfl, rfl, rfl⟩ := h
        exact hQ a1 w1 hpost
  | .cond c x y, hp => fun k fr σ e fr' σ' h g w ow a Q r hQ => by
    simp only [plansIn, Bool.and_eq_true] at hp
    simp only [evCode] at h
    have hc := r.sf.opnd c
    split at h
    · rename_i hb
      rw [hb] at hc
      exact wp_cond_true (V_bool (PV.plain hc rfl)) (code_wp hC hm x hp.1 k fr σ e fr' σ' h g w ow a Q r hQ)
    · rename_i hb
      rw [hb] at hc
      exact wp_cond_false (V_bool (PV.plain hc rfl)) (code_wp hC hm y hp.2 k fr σ e fr' σ' h g w ow a Q r hQ)
    · cases h
  | .block id x, hp => fun k fr σ e fr' σ' h g w ow a Q r hQ => by
    simp only [plansIn] at hp
    simp only [evCode] at h
    cases hx : evCode C P cfg n f id x fr σ with
    | none => rw [hx] at h; cases h
    | some res =>
      obtain ⟨e1, fr1, σ1⟩ := res
      rw [hx] at h
      refine wp_block (code_wp hC hm x hp id fr σ e1 fr1 σ1 hx g w ow a _ r fun a1 w1 hpost => ?_)
      cases e1 with
      | normal =>
        simp only [Option.some.injEq, Prod.mk.injEq] at h
        obtain ⟨rfl, rfl, rfl⟩ := h
        exact hQ a1 w1 hpost
      | exit id' =>
        dsimp only at h
        show if id' = id then Q .normal a1 w1 else Q (.exit id') a1 w1
        split at h
        · rename_i he
          simp only [Option.some.injEq, Prod.mk.injEq] at h
          obtain ⟨rfl, rfl, rfl⟩ := h
          rw [if_pos he]; exact hQ a1 w1 hpost
        · rename_i he
          simp only [Option.some.injEq, Prod.mk.injEq] at h
          obtain ⟨rfl, rfl, rfl⟩ := h
          rw [if_neg he]; exact hQ a1 w1 hpost
      | ret =>
        simp only [Option.some.injEq, Prod.mk.injEq] at h
        obtain ⟨rfl, rfl, rfl⟩ := h
        exact hQ a1 w1 hpost
  | .loop x, hp => fun k fr σ e fr' σ' h g w ow a Q r hQ => by
    simp only [plansIn] at hp
    simp only [evCode] at h
    exact loop_wp (code_wp hC hm x hp) r.ss.slen r.ss.lt hQ h r (Way.refl _ _ _) rfl
  | .exit id, _ => fun k fr σ e fr' σ' h g w ow a Q r hQ => by
    simp only [evCode, Option.some.injEq, Prod.mk.injEq] at h
    obtain ⟨rfl, rfl, rfl⟩ := h
    exact wp_exit (hQ a w ⟨⟨g, ow, r, Way.refl _ _ _⟩, rfl⟩)
  | .ret, _ => fun k fr σ e fr' σ' h g w ow a Q r hQ => by
    simp only [evCode, Option.some.injEq, Prod.mk.injEq] at h
    obtain ⟨rfl, rfl, rfl⟩ := h
    exact wp_ret (hQ a w ⟨⟨g, ow, r, Way.refl _ _ _⟩, rfl⟩)
  | .label _, _ => fun k fr σ e fr' σ' h => by simp only [evCode] at h; cases h
  | .goto _, _ => fun k fr σ e fr' σ' h => by simp only [evCode] at h; cases h
  | .rangeFunc .., _ => fun k fr σ e fr' σ' h => by simp only [evCode] at h; cases h
  | .scope .., _ => fun k fr σ e fr' σ' h => by simp only [evCode] at h; cases h
  | .refuse _, _ => fun k fr σ e fr' σ' h => by simp only [evCode] at h; cases h

theorem plansOK_body (hp : plansOK P cfg = true) {fn : Func} {c : Code} (hf : P.funcs[f]? = some fn) (hb : fn.body = some c) : plansIn cfg f c = true := by
  have hl : f < P.funcs.size := (Array.getElem?_eq_some_iff.1 hf).1
  have := List.all_eq_true.1 hp f (List.mem_range.2 hl)
  rw [hf] at this
  dsimp only at this
  rw [hb] at this
  exact this

/-- A function's body. -/
theorem body_runs (hC : Sound P C) (hm : P.follows .mixedOrders = true) (hp : plansOK P cfg = true) (hn : ∀ fn, P.funcs[f]? = some fn → fn.name ≠ "runtime.NumGoroutine") {n : Nat} {args : List AV} {v : AV} (h : evBody C P cfg n f args σ = some (v, σ'))
    {xs : Array Value} (r : Rel g w ow args xs σ) : Runs P f xs w fun rv w' => ∃ g' ow', Ret g w ow v σ' rv g' w' ow' := by
  unfold evBody at h
  split at h
  case h_2 => cases h
  rename_i fn hf
  split at h
  case h_2 => cases h
  rename_i c hb
  have hent : (callFunc f xs).run P w = .ok (.enter f xs) w := by
    have := hn fn hf
    simp [callFunc, Sem.run, hf, hb, this]
  refine .inl ⟨hent, calls_of_wp hf hb ?_⟩
  have hsz := r.sf.size
  have r0 : Rel g w ow (args ++ List.replicate (fn.ntmps - args.length) .undef) (xs ++ Array.replicate (fn.ntmps - xs.size) undef) σ := by
    refine ⟨r.ss, r.own, by simp [hsz], fun i x hi => ?_⟩
    by_cases hl : i < args.length
    · rw [List.getElem?_append_left hl] at hi
      obtain ⟨u, h1, h2⟩ := r.sf.val i x hi
      exact ⟨u, by rw [Array.getElem?_append_left (by rw [hsz]; exact hl)]; exact h1, h2⟩
    · rw [List.getElem?_append_right (by omega)] at hi
      have hi' := List.getElem?_eq_some_iff.1 hi
      obtain ⟨h1, h2⟩ := hi'
      rw [List.getElem_replicate] at h2; subst h2
      refine ⟨undef, ?_, PV.undef _⟩
      rw [List.length_replicate] at h1
      rw [Array.getElem?_append_right (by omega), Array.getElem?_eq_getElem (by rw [Array.size_replicate]; omega), Array.getElem_replicate]
  split at h
  · rename_i fr1 σ1 he
    refine code_wp hC hm c (plansOK_body hp hf hb) 0 _ _ _ _ _ he g w ow _ _ r0 fun a' w' hpost => ?_
    obtain ⟨⟨g', ow', r1, W1⟩, hd⟩ := hpost
    obtain ⟨rv, g2, ow2, h1, h2⟩ := finish_run r1 W1 r.ss.slen h
    exact ⟨hd, rv, h1, g2, ow2, h2⟩
  · rename_i fr1 σ1 he
    refine code_wp hC hm c (plansOK_body hp hf hb) 0 _ _ _ _ _ he g w ow _ _ r0 fun a' w' hpost => ?_
    obtain ⟨⟨g', ow', r1, W1⟩, hd⟩ := hpost
    obtain ⟨rv, g2, ow2, h1, h2⟩ := finish_run r1 W1 r.ss.slen h
    exact ⟨hd, rv, h1, g2, ow2, h2⟩
  · cases h

/-- The functions that are no code of the program do as the configuration says. -/
def PrimOK (P : Program) (cfg : Cfg) : Prop :=
  ∀ (f : FuncId) p, cfg.prim f = some p → ∀ (args : List AV) (σ : St) (v : AV) (σ' : St), p args σ = some (v, σ') → ∀ (g : G) (w : World) (ow : Own) (xs : Array Value), Rel g w ow args xs σ →
    Runs P f xs w fun rv w' => ∃ g' ow', Ret g w ow v σ' rv g' w' ow'

/-- What the abstract machine evaluates, the model computes. -/
theorem ev_sound (hm : P.follows .mixedOrders = true) (hp : plansOK P cfg = true) (hn : ∀ (f : FuncId) (fn : Func), P.funcs[f]? = some fn → fn.name ≠ "runtime.NumGoroutine") (hpr : PrimOK P cfg) : ∀ (n : Nat), Sound P (ev P cfg n)
  | 0 => fun h args σ v σ' he => by simp only [ev] at he; cases he
  | n + 1 => fun h args σ v σ' he g w ow xs r => by
    simp only [ev] at he
    split at he
    · rename_i p hp'
      exact hpr h p hp' args σ v σ' he g w ow xs r
    · exact body_runs (ev_sound hm hp hn hpr n) hm hp (hn h) he r
end
end Go.AM
