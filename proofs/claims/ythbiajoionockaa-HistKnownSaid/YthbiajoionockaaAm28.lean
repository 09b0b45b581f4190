import Derived.Test.YthbiajoionockaaAm27
/-! The code, the calls: what the abstract machine evaluates, the model computes. -/
namespace Go.AM
open Go
set_option linter.unusedVariables false
set_option linter.unusedSimpArgs false

section
variable {P : Program} {C : CallF} {cfg : Cfg} {f : FuncId} {g g' g0 g1 g2 : G} {w w' w0 : World} {ow ow' ow0 ow1 : Own} {σ σ' : St} {fr fr' : Fr} {tm : Array Value} {a : Act} {ops : Array Oper} {Q : Exit → Act → World → Prop}

/-- The marks that ranges over functions have left, with their blocks. -/
def markOf (b : Nat) : Deferred := { target := .collected b, args := #[] }

def Marks (g' : G) (w' : World) (lo : Nat) (ds ds' : List Deferred) : Prop :=
  ∃ bs : List Nat, ds' = bs.map markOf ++ ds ∧ bs.Nodup ∧ ∀ b ∈ bs, lo ≤ b ∧ w'.heap[b]? = some (.deferred (some [])) ∧ ∀ o, ¬ g'.wr b o

/-- Where a part of the code ends. -/
structure Post (g : G) (w : World) (ow : Own) (a : Act) (fr' : Fr) (σ' : St) (a' : Act) (w' : World) : Prop where
  out : ∃ g' ow', Rel g' w' ow' fr' a'.tmps σ' ∧ Way g w ow g' w' ow' ∧ Marks g' w' w.heap.size a.defers a'.defers

theorem Marks.none (g : G) (w : World) (lo : Nat) (ds : List Deferred) : Marks g w lo ds ds := ⟨[], rfl, List.nodup_nil, fun _ h => by cases h⟩

theorem Marks.along {lo : Nat} {ds ds' : List Deferred} (m : Marks g w lo ds ds') (o : OW g ow) (W : Way g w ow g' w' ow') : Marks g' w' lo ds ds' := by
  obtain ⟨bs, h1, h2, h3⟩ := m
  refine ⟨bs, h1, h2, fun b hb => ?_⟩
  obtain ⟨k1, k2, k3⟩ := h3 b hb
  have hl := (Array.getElem?_eq_some_iff.1 k2).1
  refine ⟨k1, ?_, fun i hw => ?_⟩
  · rw [W.tr.obj b hl fun i hm => ?_]
    · exact k2
    · rcases hm with hm | ⟨p, hp⟩
      · exact k3 i hm.2
      · exact k3 i (o.wr _ _ _ hp)
  · rcases W.tr.wr b i hw with h | h
    · exact k3 i h
    · omega

theorem Marks.trans {lo lo' : Nat} {d0 d1 d2 : List Deferred} (m : Marks g w lo d0 d1) (hlo : lo ≤ lo') (o : OW g ow) (W : Way g w ow g' w' ow') (hs : w.heap.size ≤ lo') (m' : Marks g' w' lo' d1 d2) : Marks g' w' lo d0 d2 := by
  obtain ⟨bs, h1, h2, h3⟩ := m.along o W
  obtain ⟨bs0, h10, h20, h30⟩ := m
  obtain ⟨bs', k1, k2, k3⟩ := m'
  have e : bs.map markOf = bs0.map markOf := List.append_cancel_right (h1.symm.trans h10)
  have e' : bs = bs0 := by
    have : Function.Injective markOf := fun x y h => by injection h with h; injection h
    exact (List.map_inj_right fun x y h => this h).1 e
  subst e'
  refine ⟨bs' ++ bs, by rw [k1, h1]; simp, List.nodup_append.2 ⟨k2, h2, fun x hx y hy => ?_⟩, fun b hb => ?_⟩
  · have a1 := (k3 x hx).1
    have a2 := (Array.getElem?_eq_some_iff.1 (h30 y hy).2.1).1
    omega
  · rcases List.mem_append.1 hb with hb | hb
    · obtain ⟨a1, a2, a3⟩ := k3 b hb; exact ⟨Nat.le_trans hlo a1, a2, a3⟩
    · exact h3 b hb

theorem Post.after {a1 a' : Act} (hw : Way g w ow g1 w0 ow1) (hlt : ∀ b o, g.wr b o → b < w.heap.size) (ho : OW g1 ow1) (hd : Marks g1 w0 w.heap.size a.defers a1.defers) (h : Post g1 w0 ow1 a1 fr' σ' a' w') : Post g w ow a fr' σ' a' w' := by
  obtain ⟨g', ow', h1, h2, h3⟩ := h.out
  exact ⟨⟨g', ow', h1, hw.trans h2 hlt, hd.trans hw.tr.size ho h2 (Nat.le_refl _) h3⟩⟩

theorem Post.here {a' : Act} (r : Rel g w ow fr a'.tmps σ) (hd : a'.defers = a.defers) : Post g w ow a fr σ a' w := ⟨⟨g, ow, r, Way.refl _ _ _, hd ▸ Marks.none _ _ _ _⟩⟩

theorem V_bool {b : Bool} {v : Value} (h : V g w (.s (.bool b)) v) : v = .bool b := by cases h; rfl

theorem guardA_wanted {o : Oper} {b : Bool} (s : SF g w ow fr a.tmps) (h : guardA ops fr o = some b) : Region.wanted o (yielded ops a.tmps) = b := by
  unfold guardA at h
  unfold Region.wanted
  cases hg : o.guard with
  | none => rw [hg] at h; dsimp only at h ⊢; exact Option.some.inj h
  | some jw =>
    obtain ⟨j, want⟩ := jw
    rw [hg] at h
    dsimp only at h ⊢
    cases hd : (ops[j]?).bind (·.dst) with
    | none => rw [hd] at h; cases h
    | some d =>
      rw [hd] at h
      dsimp only at h
      have hy : ∀ v, a.tmps[d]? = some v → yielded ops a.tmps j = (match v with | .bool b => some b | _ => none) := by
        intro v hv
        unfold yielded
        rw [hd]
        simp only [Option.bind_some, hv]
        cases v <;> rfl
      split at h
      · rename_i b' hb
        obtain ⟨v, h1, h2⟩ := s.val d _ hb
        have h3 := V_bool (PV.plain h2 rfl)
        rw [hy v h1, h3]
        exact Option.some.inj h
      · rename_i hb
        obtain ⟨v, h1, h2⟩ := s.val d _ hb
        have h3 : V g w (.tup []) v := PV.plain h2 rfl
        cases h3 with
        | tup _ _ =>
          rw [hy _ h1]
          exact Option.some.inj h
      · cases h

theorem act_defers (a : Act) (dst : Option Tmp) (v : Value) : (a.put dst v).defers = a.defers := by cases dst <;> rfl

theorem undef_tup : V g w (.tup []) undef := .tup .nil .nil

/-- One step of a region. -/
theorem step_wp {rd : Option Nat} (hC : Sound P C) {i : Nat} {K : Act → World → Prop} (h : stepA C P cfg f ops i fr σ = some (fr', σ')) (r : Rel g w ow fr a.tmps σ)
    (hK : ∀ a' w', Post g w ow a fr' σ' a' w' → K a' w') : wpOpIn (FW rd) 0 P ops Q i K a w := by
  unfold stepA at h
  unfold wpOpIn
  cases hi : ops[i]? with
  | none => rw [hi] at h; cases h
  | some o =>
    rw [hi] at h
    dsimp only at h ⊢
    cases hg : guardA ops fr o with
    | none => rw [hg] at h; cases h
    | some b =>
      rw [hg] at h
      rw [guardA_wanted r.sf hg]
      cases b with
      | true =>
        dsimp only at h
        simp only [if_true]
        split at h
        · rename_i v fr1 σ1 he
          simp only [Option.some.injEq, Prod.mk.injEq] at h
          obtain ⟨rfl, rfl⟩ := h
          obtain ⟨g1, ow1, r1, W1⟩ := settle_way (settled o.op) r
          refine evOp_wp hC r1 he fun g' w' ow' val ho => hK _ _ ?_
          refine ⟨⟨g', ow', ?_, W1.trans ho.way r.ss.lt, by rw [act_defers]; exact Marks.none _ _ _ _⟩⟩
          rw [act_put]; exact ho.rel
        · cases h
      | false =>
        simp only [Option.some.injEq, Prod.mk.injEq] at h
        obtain ⟨rfl, rfl⟩ := h
        simp only [Bool.false_eq_true, if_false]
        obtain ⟨ow', r', k1, _, _⟩ := r.put (dst := o.dst) (PV.of (o := Nobody) (undef_tup (g := g) (w := w))) (Free.nobody _ _)
        refine ⟨fun f _ => FW_fn rd f, hK _ _ ⟨⟨g, ow', by rw [act_put]; exact r', Way.only fun p b o h => (k1 p b o h).resolve_right id, by rw [act_defers]; exact Marks.none _ _ _ _⟩⟩⟩

theorem ops_wp {rd : Option Nat} (hC : Sound P C) : ∀ (l : List Nat) {fr : Fr} {σ : St} {g : G} {w : World} {ow : Own} {a : Act}, evOps C P cfg f ops l fr σ = some (fr', σ') → Rel g w ow fr a.tmps σ →
    (∀ a' w', Post g w ow a fr' σ' a' w' → Q .normal a' w') → wpOpsIn (FW rd) 0 P ops Q l a w
  | [], fr, σ, g, w, ow, a, h, r, hQ => by
    simp only [evOps, Option.some.injEq, Prod.mk.injEq] at h
    obtain ⟨rfl, rfl⟩ := h
    exact hQ a w (Post.here r rfl)
  | i :: l, fr, σ, g, w, ow, a, h, r, hQ => by
    simp only [evOps] at h
    split at h
    · rename_i fr1 σ1 hs
      rw [wpOpsIn_cons]
      refine step_wp hC hs r fun a1 w1 hp => ?_
      obtain ⟨g1, ow1, r1, W1, hd⟩ := hp.out
      exact ops_wp hC l h r1 fun a' w' hp' => hQ a' w' (hp'.after W1 r.ss.lt r1.own hd)
    · cases h

theorem any_wp {rd : Option Nat} (hC : Sound P C) {J : Array Bool → St → Prop} : ∀ (n : Nat) {listed : Array Bool} {fr : Fr} {σ : St} {g : G} {w : World} {ow : Own} {a : Act}, AnyJ C P cfg f ops J (fr', σ') n listed fr σ → Rel g w ow fr a.tmps σ →
    (∀ a' w', Post g w ow a fr' σ' a' w' → Q .normal a' w') → wpAnyIn (FW rd) 0 P .any ops Q n listed a w
  | 0, listed, fr, σ, g, w, ow, a, h, r, hQ => by
    obtain ⟨h1, h2, _⟩ := h
    simp only [Prod.mk.injEq] at h2
    obtain ⟨rfl, rfl⟩ := h2
    exact ⟨h1, hQ a w (Post.here r rfl)⟩
  | n + 1, listed, fr, σ, g, w, ow, a, h, r, hQ => by
    obtain ⟨_, h1, h2⟩ := h
    refine ⟨fun he => ?_, fun i hi => ?_⟩
    · have h3 := h1 he
      simp only [Prod.mk.injEq] at h3
      obtain ⟨rfl, rfl⟩ := h3
      exact hQ a w (Post.here r rfl)
    · obtain ⟨fr1, σ1, h3, h4⟩ := h2 i hi
      refine step_wp hC h3 r fun a1 w1 hp => ?_
      obtain ⟨g1, ow1, r1, W1, hd⟩ := hp.out
      exact any_wp hC n h4 r1 fun a' w' hp' => hQ a' w' (hp'.after W1 r.ss.lt r1.own hd)

theorem Rel.heap (r : Rel g w ow fr tm σ) (h : w'.heap = w.heap) (he : SameEnv w w' := by exact ⟨rfl, rfl, rfl⟩) : Rel g w' ow fr tm σ := by
  have t : Tr Nought g w g w' := Tr.heap h he
  exact ⟨r.ss.still t (fun b o hw => by rw [h]; exact r.ss.lt b o hw) rfl rfl (fun _ _ _ h => h) (fun _ _ _ _ h => h) (fun _ _ _ _ h => h), r.own,
    r.sf.later t (fun _ _ h => h.elim) (fun _ _ _ _ h => h) (fun _ _ _ h => h)⟩

theorem Way.heap (h : w'.heap = w.heap) (he : SameEnv w w' := by exact ⟨rfl, rfl, rfl⟩) : Way g w ow g w' ow := ⟨Tr.heap h he, fun _ _ h => .inl h, fun _ _ h => .inr h, fun _ h => .inl h⟩

def Ex.toExit : Ex → Exit
  | .normal => .normal
  | .exit id => .exit id
  | .ret => .ret

theorem exists_least {p : Nat → Prop} (h : ∃ n, p n) : ∃ n, p n ∧ ∀ m, p m → n ≤ m := by
  obtain ⟨n, hn⟩ := h
  induction n using Nat.strongRecOn with
  | _ n ih =>
    by_cases hm : ∃ m, m < n ∧ p m
    · obtain ⟨m, h1, h2⟩ := hm; exact ih m h1 h2
    · exact ⟨n, hn, fun m h2 => Nat.le_of_not_lt fun h1 => hm ⟨m, h1, h2⟩⟩

open Classical in
noncomputable def least (p : Nat → Prop) : Nat := if h : ∃ n, p n then Classical.choose (exists_least h) else 0

theorem least_spec {p : Nat → Prop} (h : ∃ n, p n) : p (least p) ∧ ∀ m, p m → least p ≤ m := by
  unfold least; rw [dif_pos h]; exact Classical.choose_spec (exists_least h)

/-- A loop whose rounds are counted. -/
theorem wp_loop_n {rd : Option Nat} {c : Code} (I : Nat → Act → World → Prop) {n : Nat} (h0 : I n a w) (round : ∀ n a w, I n a w → c.wpIn (FW rd) 0 P (Exit.then (fun a' w' => ∃ m, m < n ∧ I m a' w') Q) a w) : (Code.loop c).wpIn (FW rd) 0 P Q a w := by
  refine wpIn_loop (fun a w => ∃ n, I n a w) (fun a w => least fun n => I n a w) ⟨n, h0⟩ fun a w hI => ?_
  obtain ⟨h1, h2⟩ := least_spec hI
  refine wpIn_mono (round _ a w h1) fun e a' w' hq => ?_
  cases e with
  | normal =>
    obtain ⟨m, h3, h4⟩ := hq
    exact ⟨⟨m, h4⟩, Nat.lt_of_le_of_lt ((least_spec ⟨m, h4⟩).2 m h4) h3⟩
  | _ => exact hq

def BodySound (P : Program) (C : CallF) (cfg : Cfg) (n : Nat) (rd : Option Nat) (f : FuncId) (c : Code) : Prop :=
  ∀ (k : Nat) (fr : Fr) (σ : St) (e : Ex) (fr' : Fr) (σ' : St), evCode C P cfg n rd.isSome f k c fr σ = some (e, fr', σ') → ∀ (g : G) (w : World) (ow : Own) (a : Act) (Q : Exit → Act → World → Prop), Rel g w ow fr a.tmps σ →
    (∀ a' w', Post g w ow a fr' σ' a' w' → Q e.toExit a' w') → c.wpIn (FW rd) 0 P Q a w

theorem loop_wp {rd : Option Nat} {c : Code} {n k : Nat} (hb : BodySound P C cfg n rd f c) {mask : List Bool} {n0 : Nat} {e : Ex} {a0 : Act} (hn0 : g0.sb.length = n0) (hlt0 : ∀ b o, g0.wr b o → b < w0.heap.size)
    (hQ : ∀ a' w', Post g0 w0 ow0 a0 fr' σ' a' w' → Q e.toExit a' w') {m : Nat} (h : evLoop (evCode C P cfg n rd.isSome f k c) mask n0 m fr σ = some (e, fr', σ')) (r : Rel g w ow fr a.tmps σ) (W : Way g0 w0 ow0 g w ow) (hd : Marks g w w0.heap.size a0.defers a.defers) : (Code.loop c).wpIn (FW rd) 0 P Q a w := by
  refine wp_loop_n (fun m a w => ∃ fr σ g ow, evLoop (evCode C P cfg n rd.isSome f k c) mask n0 m fr σ = some (e, fr', σ') ∧ Rel g w ow fr a.tmps σ ∧ Way g0 w0 ow0 g w ow ∧ Marks g w w0.heap.size a0.defers a.defers) ⟨fr, σ, g, ow, h, r, W, hd⟩ ?_
  rintro m a w ⟨fr, σ, g, ow, h, r, W, hd⟩
  cases m with
  | zero => simp only [evLoop] at h; cases h
  | succ m =>
    simp only [evLoop] at h
    split at h
    case isFalse => cases h
    rename_i hu
    have rk := (r.keep mask).cut n0 hu
    have Wk := W.cut hn0
    cases hbody : evCode C P cfg n rd.isSome f k c (AM.keep mask fr) (σ.cut n0) with
    | none => simp only [St.cut] at hbody; rw [hbody] at h; cases h
    | some res =>
      obtain ⟨e1, fr1, σ1⟩ := res
      have hb' := hbody
      simp only [St.cut] at hb'
      rw [hb'] at h
      refine hb k _ _ e1 fr1 σ1 hbody (g.cut n0) w ow a _ rk fun a' w' hp => ?_
      have hp' : Post g0 w0 ow0 a0 fr1 σ1 a' w' := hp.after Wk hlt0 rk.own hd
      cases e1 with
      | normal =>
        dsimp only at h
        obtain ⟨g', ow', h1, h2, h3⟩ := hp'.out
        exact ⟨m, Nat.lt_succ_self m, fr1, σ1, g', ow', h, h1, h2, h3⟩
      | exit id =>
        simp only [Option.some.injEq, Prod.mk.injEq] at h
        obtain ⟨rfl, rfl, rfl⟩ := h
        exact hQ a' w' hp'
      | ret =>
        simp only [Option.some.injEq, Prod.mk.injEq] at h
        obtain ⟨rfl, rfl, rfl⟩ := h
        exact hQ a' w' hp'

theorem mask_bit : ∀ (l : List Nat) (t : Nat), (maskOf l).testBit t = true ↔ t ∈ l
  | [], t => by simp [maskOf]
  | x :: l, t => by
    simp only [maskOf, Nat.testBit_or, Bool.or_eq_true, mask_bit l t, Nat.testBit_two_pow, decide_eq_true_eq, List.mem_cons]
    constructor
    · rintro (h | h)
      · exact .inr h
      · exact .inl h.symm
    · rintro (h | h)
      · exact .inr h.symm
      · exact .inl h

theorem and_sub {a b : Nat} : (a &&& b == a) = true ↔ ∀ t, a.testBit t = true → b.testBit t = true := by
  rw [beq_iff_eq]
  constructor
  · intro h t ht
    have := congrArg (·.testBit t) h
    simp only [Nat.testBit_and, ht, Bool.true_and] at this
    exact this
  · intro h
    apply Nat.eq_of_testBit_eq
    intro t
    rw [Nat.testBit_and]
    cases ha : a.testBit t with
    | false => rfl
    | true => rw [h t ha]; rfl

theorem allFrom_spec {p : Info → Nat → Bool} : ∀ {l : List Info} {k : Nat}, allFrom p l k = true → ∀ j I, l[j]? = some I → p I (k + j) = true
  | [], k, _, j, I, hj => by simp at hj
  | J :: l, k, h, j, I, hj => by
    simp only [allFrom, Bool.and_eq_true] at h
    cases j with
    | zero => simp at hj; subst hj; exact h.1
    | succ j =>
      have := allFrom_spec h.2 j I (by simpa using hj)
      rw [show k + (j + 1) = k + 1 + j by omega]; exact this

theorem nth_get : ∀ {l : List Info} {j : Nat}, nth l j = l[j]?
  | [], j => by simp [nth]
  | I :: l, 0 => by simp [nth]
  | I :: l, j + 1 => by simp [nth, nth_get]

/-- The same that is listed. -/
structure SameL (n : Nat) (mask : Nat) (l : Array Bool) : Prop where
  size : l.size = n
  bit : ∀ x, mask.testBit x = l.getD x false

theorem SameL.set {n mask i : Nat} {l : Array Bool} (h : SameL n mask l) (hi : i < n) : SameL n (mask ||| 2 ^ i) (l.setIfInBounds i true) := by
  refine ⟨by simp [h.size], fun x => ?_⟩
  rw [Nat.testBit_or, Nat.testBit_two_pow, h.bit]
  by_cases e : i = x
  · subst e; simp [h.size, hi]
  · rw [getD_set_ne false e]; simp [e]

theorem info_ready {n mask : Nat} {l : Array Bool} (h : SameL n mask l) (hn : n = ops.size) {i : Nat} {o : Oper} (ho : ops[i]? = some o) : (infoOf cfg f ops o).ready i mask = true ↔ i ∈ Region.ready .any ops l := by
  have hi : i < l.size := by rw [h.size, hn]; exact (Array.getElem?_eq_some_iff.1 ho).1
  have hd : l.getD i true = l.getD i false := by simp [hi]
  rw [mem_ready, hd]
  simp only [Info.ready, infoOf, Bool.and_eq_true, Bool.not_eq_true', and_sub, h.bit, mask_bit]
  refine and_congr_right fun _ => ?_
  constructor
  · intro hall
    refine ⟨o, ho, fun e he hb => ?_⟩
    exact hall e.on (List.mem_map.2 ⟨e, List.mem_filter.2 ⟨Array.mem_toList_iff.2 he, hb⟩, rfl⟩)
  · rintro ⟨o', ho', hall⟩ t ht
    rw [ho] at ho'
    injection ho' with ho'; subst ho'
    obtain ⟨e, he, rfl⟩ := List.mem_map.1 ht
    obtain ⟨h1, h2⟩ := List.mem_filter.1 he
    exact hall e (Array.mem_toList_iff.1 h1) h2

theorem info_apart {x y : Oper} (h : (infoOf cfg f ops x).apart (infoOf cfg f ops y) = true) : x.apart ops y = true := by
  have hm : ∀ (o : Oper) (d : Nat), ((infoOf cfg f ops o).looks.testBit d) = (o.looksAt ops).contains d := by
    intro o d
    have := mask_bit (o.looksAt ops) d
    show (maskOf (o.looksAt ops)).testBit d = _
    cases hc : (o.looksAt ops).contains d with
    | true => exact this.2 (by simpa using hc)
    | false =>
      cases hb : (maskOf (o.looksAt ops)).testBit d with
      | false => rfl
      | true => exact absurd (this.1 hb) (by simpa using hc)
  unfold Info.apart at h
  simp only [hm] at h
  exact h

theorem plan_fast : ∀ (l : List Nat) (mask : Nat) (listed : Array Bool), SameL ops.size mask listed → planFast (ops.toList.map (infoOf cfg f ops)) l mask = true → PlanP cfg f ops l listed
  | [], mask, listed, hs, h => by
    simp only [planFast] at h
    apply List.eq_nil_iff_forall_not_mem.2
    intro j hj
    obtain ⟨_, o, ho, _⟩ := mem_ready.1 hj
    have := allFrom_spec h j (infoOf cfg f ops o) (by rw [List.getElem?_map, Array.getElem?_toList, ho]; rfl)
    rw [Nat.zero_add, (info_ready hs rfl ho).2 hj] at this
    cases this
  | i :: rest, mask, listed, hs, h => by
    simp only [planFast, nth_get, List.getElem?_map, Array.getElem?_toList] at h
    cases ho : ops[i]? with
    | none => rw [ho] at h; cases h
    | some oi =>
      rw [ho] at h
      simp only [Option.map_some, Bool.and_eq_true] at h
      obtain ⟨⟨h1, h2⟩, h3⟩ := h
      have hi : i < ops.size := (Array.getElem?_eq_some_iff.1 ho).1
      have hrd : isReader cfg f ops i = (infoOf cfg f ops oi).rd := by simp [isReader, ho, infoOf]
      refine ⟨(info_ready hs rfl ho).1 h1, fun o' ho' hr j oj hj hne hun hno => ?_, fun hr j hj => ?_, plan_fast rest _ _ (hs.set hi) h3⟩
      · rw [ho] at ho'; injection ho' with ho'; subst ho'
        rw [← hrd, hr] at h2
        simp only [if_true] at h2
        have := allFrom_spec h2 j (infoOf cfg f ops oj) (by rw [List.getElem?_map, Array.getElem?_toList, hj]; rfl)
        rw [Nat.zero_add] at this
        simp only [Bool.or_eq_true, beq_iff_eq] at this
        rcases this with ((h4 | h4) | h4) | h4
        · exact (hne h4).elim
        · have hjl : j < listed.size := by rw [hs.size]; exact (Array.getElem?_eq_some_iff.1 hj).1
          rw [hs.bit] at h4
          simp [hjl] at h4 hun
          rw [h4] at hun; cases hun
        · rw [show (infoOf cfg f ops oj).edges = maskOf ((oj.after.toList.filter (Region.binds .any)).map (·.on)) from rfl, mask_bit] at h4
          obtain ⟨e, he, hei⟩ := List.mem_map.1 h4
          obtain ⟨h5, h6⟩ := List.mem_filter.1 he
          exact (hno e (Array.mem_toList_iff.1 h5) h6 hei).elim
        · exact info_apart h4
      · rw [← hrd, hr] at h2
        simp only [Bool.false_eq_true, if_false] at h2
        obtain ⟨_, o, hjo, _⟩ := mem_ready.1 hj
        have := allFrom_spec h2 j (infoOf cfg f ops o) (by rw [List.getElem?_map, Array.getElem?_toList, hjo]; rfl)
        rw [Nat.zero_add, (info_ready hs rfl hjo).2 hj] at this
        simpa using this

theorem closed_none (ops : Array Oper) (n : Nat) : Closed ops (Array.replicate n false) := by
  intro j k hj _
  exfalso
  by_cases hl : j < n
  · simp [Array.getElem?_eq_getElem, hl] at hj
  · simp [Array.getElem?_eq_none, hl] at hj

theorem same_none (n : Nat) : SameL n 0 (Array.replicate n false) := by
  refine ⟨by simp, fun x => ?_⟩
  by_cases hl : x < n
  · simp [Array.getElem?_eq_getElem, hl]
  · simp [Array.getElem?_eq_none, hl]

theorem lasting_V {v : AV} {x : Value} {o : Nat → Nat → Prop} (h : PV g w o v x) : V g w (lasting v) x := by
  unfold lasting
  split
  · exact h.look
  · exact VL.undef _ .nil

theorem lasting_low (v : AV) : AV.under 0 (lasting v) = true := by
  unfold lasting
  split
  · rename_i h; exact h
  · rfl

theorem lasting_VL (s : SF g w ow fr tm) : VL g w (fr.map lasting) tm.toList := by
  refine VL.of_get (by rw [List.length_map, Array.length_toList]; exact s.size) fun i v hi => ?_
  rw [List.getElem?_map] at hi
  obtain ⟨x, h1, rfl⟩ := map_some hi
  obtain ⟨y, h2, h3⟩ := s.val i x h1
  exact ⟨y, by rw [Array.getElem?_toList]; exact h2, lasting_V h3⟩

/-- A range over a function. -/
theorem rangeFunc_wp (hC : Sound P C) (hn : ∀ (f : FuncId) (fn : Func), P.funcs[f]? = some fn → fn.name ≠ "runtime.NumGoroutine") {gop : Operand} {ps : Array Tmp} {as bd : Code} {e : Ex}
    (h : (match AM.seen fr gop with
    | .fn (.func h) first captured =>
      if !hasBody P h then none else
      match C (.fn h) (first ++ [.yield σ.heap.length] ++ captured) { σ with heap := σ.heap ++ [.loop { fid := f, fr := fr.map lasting, params := ps.toList, assign := as, body := bd, ready := true, pending := none }] } with
      | some (_, σ') => match σ'.heap[σ.heap.length]? with
        | some (.loop l) => if l.ready || l.pending.isSome then some (l.pending.getD .normal, fr, { σ' with heap := σ'.heap.set σ.heap.length .dead }) else none
        | _ => none
      | none => none
    | _ => none) = some (e, fr', σ')) (r : Rel g w ow fr a.tmps σ) (hQ : ∀ a' w', Post g w ow a fr' σ' a' w' → Q e.toExit a' w') : (Code.rangeFunc gop ps as bd).wpIn (FW none) 0 P Q a w := by
  split at h
  case h_2 => cases h
  rename_i hf first captured hg
  split at h
  · cases h
  rename_i hbody
  split at h
  case h_2 => cases h
  rename_i v σ2 hcall
  split at h
  case h_2 => cases h
  rename_i l hl
  split at h
  case isFalse => cases h
  rename_i hst
  simp only [Option.some.injEq, Prod.mk.injEq] at h
  obtain ⟨rfl, rfl, rfl⟩ := h
  refine wpIn_rangeFunc fun fn _ => ?_
  -- the record
  obtain ⟨r1, W1⟩ := r.other_new (.deferred (some []))
  let q : Loop := { state := .ready, pending := none, fn, tmps := a.tmps, params := ps, assign := as, body := bd, defers := w.heap.size }
  obtain ⟨g2, r2, W2, hb2, hsb2, hwr2⟩ := r1.newLoop (l := { fid := f, fr := fr.map lasting, params := ps.toList, assign := as, body := bd, ready := true, pending := none }) (q := q) rfl rfl rfl rfl rfl (lasting_VL r1.sf) (under_mem.2 fun x hx => by obtain ⟨y, _, rfl⟩ := List.mem_map.1 hx; exact lasting_low y)
  have hsz : (w.alloc (.deferred (some []))).heap.size = w.heap.size + 1 := by show (w.heap.push _).size = _; simp
  rw [hsz] at hb2
  -- the function
  have hV := r2.sf.seen gop
  rw [hg] at hV
  generalize hgv : a.eval gop = gv at hV
  cases hV with
  | @fn _ _ _ xs ys _ _ v1 v2 _ =>
    have rc := callee_rel (O := fun _ => Nobody) (vs := [.yield σ.heap.length]) (vv := [.func (.yield (w.heap.size + 1)) #[] #[]]) r2 v1 v2 rfl (fun i x hi => by
      cases i with
      | zero => simp at hi; subst hi; exact ⟨_, rfl, PV.of (.yield hb2 .nil)⟩
      | succ i => simp at hi) (fun _ => Free.nobody _ _) (fun _ _ _ _ h => h.elim)
    have hrun := hC (.fn hf) _ _ _ _ hcall _ _ _ _ rc _ rfl
    have hent : ∀ (args : Array Value) (w : World), (callFunc hf args).run P w = .ok (.enter hf args) w := by
      intro args w
      have hb' : hasBody P hf = true := by simpa using hbody
      unfold hasBody at hb'
      split at hb'
      · rename_i fn' hfn
        have h1 := hn _ _ hfn
        cases hfb : fn'.body with
        | none => rw [hfb] at hb'; cases hb'
        | some c => simp [callFunc, Sem.run, hfn, hfb, h1]
      · cases hb'
    have eargs : (xs.toList ++ [Value.func (.yield (w.heap.size + 1)) #[] #[]] ++ ys.toList).toArray = xs ++ #[.func (.yield (w.heap.size + 1)) #[] #[]] ++ ys := by
      apply Array.ext'; simp
    rw [eargs] at hrun
    refine ⟨w.heap.size + 1, [markOf w.heap.size], (w.alloc (.deferred (some []))).alloc (.loop q), { target := .fn (.func hf) ys, args := xs ++ #[.func (.yield (w.heap.size + 1)) #[] #[]] }, (w.alloc (.deferred (some []))).alloc (.loop q), hf, xs ++ #[.func (.yield (w.heap.size + 1)) #[] #[]] ++ ys, (w.alloc (.deferred (some []))).alloc (.loop q), run_enterLoop_outer fn a.tmps ps as bd, ?_, fun f' _ => FW_fn none f', ?_, FW_depth none 0, ?_⟩
    · simp only [resolve, hgv, map_one]; rfl
    · exact hent _ _
    · rcases hrun with ⟨f', args', e1, e2⟩ | ⟨v', w', e1, _⟩ | ⟨l', fn', tm', as', bd', e1, _⟩
      case inr.inl => rw [hent] at e1; cases e1
      case inr.inr => rw [hent] at e1; cases e1
      rw [hent] at e1
      simp only [Result.ok.injEq, Next.enter.injEq, and_true] at e1
      obtain ⟨rfl, rfl⟩ := e1
      refine FW_calls (Calls.mono e2 fun e w3 he => ?_)
      cases e with
      | returned rv =>
        obtain ⟨g3, ow3, hret⟩ := he
        obtain ⟨ow4, ho⟩ := ret_out (dst := none) r2 (fun _ => Free.nobody _ _) (fun _ _ _ h => h) (fun _ _ _ h => h.elim) hret
        have r4 : Rel g3 w3 ow4 fr a.tmps σ2 := ho.rel
        obtain ⟨b', q3, hb3, hq3⟩ := r4.ss.loops _ _ hl
        have hb3' : b' = w.heap.size + 1 := Option.some.inj (hb3.symm.trans (ho.tr.hb _ _ hb2))
        subst hb3'
        have hnb : q3.state ≠ .busy := by
          rw [hq3.state]
          unfold loopState
          split
          · simp
          · rename_i hr
            split
            · rename_i hpn; simp [hr, hpn] at hst
            · simp
        obtain ⟨r5, W5⟩ := r4.killLoop (q' := { q3 with state := .exhausted }) hl hb3 hq3
        have W : Way g w ow g3 (w3.putObj (w.heap.size + 1) (.loop { q3 with state := .exhausted })) ow4 :=
          ((W1.trans W2 r.ss.lt).trans ho.way r.ss.lt).trans W5 r.ss.lt
        have hmark : Marks g3 (w3.putObj (w.heap.size + 1) (.loop { q3 with state := .exhausted })) w.heap.size a.defers ([markOf w.heap.size] ++ a.defers) := by
          have m0 : Marks g (w.alloc (.deferred (some []))) w.heap.size a.defers ([markOf w.heap.size] ++ a.defers) := by
            refine ⟨[w.heap.size], rfl, by simp, fun b hb => ?_⟩
            rw [List.mem_singleton.1 hb]
            exact ⟨Nat.le_refl _, World.alloc_heap_new w _, fun o hw => absurd (r.ss.lt _ _ hw) (Nat.lt_irrefl _)⟩
          exact ((m0.along r1.own W2).along r2.own ho.way).along r4.own W5
        have post : Post g w ow a fr { σ2 with heap := σ2.heap.set σ.heap.length .dead } { a with defers := [markOf w.heap.size] ++ a.defers } (w3.putObj (w.heap.size + 1) (.loop { q3 with state := .exhausted })) := ⟨⟨g3, ow4, r5, W, hmark⟩⟩
        have key : ∀ (j : Option Code) (a' : Act) (W : World), j = l.pending.map Ex.toCode → Post g w ow a fr { σ2 with heap := σ2.heap.set σ.heap.length .dead } a' W →
            (match j with
             | none => Q .normal a' W
             | some c => c.wpIn (FW none) 0 P Q a' W) := by
          intro j a' W hj hp
          subst hj
          have hq' := hQ _ _ hp
          cases hpd : l.pending with
          | none => rw [hpd] at hq'; exact hq'
          | some x =>
            rw [hpd] at hq'
            cases x with
            | normal => exact wpIn_skip hq'
            | exit id => exact wpIn_exit hq'
            | ret => exact wpIn_ret hq'
        exact ⟨q3.pending, _, run_endLoop hq3.obj hnb, key _ _ _ hq3.pending post⟩
      | _ => exact he.elim

theorem code_wp {rd : Option Nat} (hC : Sound P C) (hn : ∀ (f : FuncId) (fn : Func), P.funcs[f]? = some fn → fn.name ≠ "runtime.NumGoroutine") (hm : P.follows .mixedOrders = true) {n : Nat} : ∀ (c : Code), plansIn cfg f c = true → BodySound P C cfg n rd f c
  | .skip, _ => fun k fr σ e fr' σ' h g w ow a Q r hQ => by
    simp only [evCode, Option.some.injEq, Prod.mk.injEq] at h
    obtain ⟨rfl, rfl, rfl⟩ := h
    exact wpIn_skip (hQ a w (Post.here r rfl))
  | .region id ops false, _ => fun k fr σ e fr' σ' h g w ow a Q r hQ => by
    simp only [evCode] at h
    obtain ⟨⟨fr1, σ1⟩, h1, h2⟩ := map_some h
    simp only [Prod.mk.injEq] at h2
    obtain ⟨rfl, rfl, rfl⟩ := h2
    exact wpIn_region (ops_wp hC _ h1 r hQ)
  | .region id ops true, hp => fun k fr σ e fr' σ' h g w ow a Q r hQ => by
    simp only [evCode] at h
    split at h
    · cases h
    rename_i hne
    obtain ⟨⟨fr1, σ1⟩, h1, h2⟩ := map_some h
    simp only [Prod.mk.injEq] at h2
    obtain ⟨rfl, rfl, rfl⟩ := h2
    simp only [plansIn, Bool.or_eq_true, Bool.and_eq_true, decide_eq_true_eq] at hp
    have hp' := hp.resolve_left hne
    have hany := evPlan_any _ ops.size _ _ _ _ hp'.1 (plan_fast _ 0 _ (same_none _) hp'.2) (closed_none _ _) (fun c hc => by cases hc) h1
    refine wpIn_region_any hm (any_wp hC _ hany (r.heap rfl) fun a' w' hpost => hQ a' w' ?_)
    exact Post.after (g1 := g) (w0 := { w with drawn := w.drawn + 1 }) (ow1 := ow) (a1 := a) (Way.heap rfl) r.ss.lt r.own (Marks.none _ _ _ _) hpost
  | .seq x y, hp => fun k fr σ e fr' σ' h g w ow a Q r hQ => by
    simp only [plansIn, Bool.and_eq_true] at hp
    simp only [evCode] at h
    cases hx : evCode C P cfg n rd.isSome f k x fr σ with
    | none => rw [hx] at h; cases h
    | some res =>
      obtain ⟨e1, fr1, σ1⟩ := res
      rw [hx] at h
      refine wpIn_seq (code_wp hC hn hm x hp.1 k fr σ e1 fr1 σ1 hx g w ow a _ r fun a1 w1 hpost => ?_)
      cases e1 with
      | normal =>
        dsimp only at h
        obtain ⟨g1, ow1, r1, W1, hd⟩ := hpost.out
        exact code_wp hC hn hm y hp.2 k fr1 σ1 e fr' σ' h g1 w1 ow1 a1 Q r1 fun a' w' hp' => hQ a' w' (hp'.after W1 r.ss.lt r1.own hd)
      | exit id =>
        simp only [Option.some.injEq, Prod.mk.injEq] at h
        obtain ⟨rfl, rfl, rfl⟩ := h
        exact hQ a1 w1 hpost
      | ret =>
        simp only [Option.some.injEq, Prod.mk.injEq] at h
        obtain ⟨rfl, rfl, rfl⟩ := h
        exact hQ a1 w1 hpost
  | .cond c x y, hp => fun k fr σ e fr' σ' h g w ow a Q r hQ => by
    simp only [plansIn, Bool.and_eq_true] at hp
    simp only [evCode] at h
    have hc := r.sf.opnd c
    split at h
    · rename_i hb
      rw [hb] at hc
      exact wpIn_cond_true (V_bool (PV.plain hc rfl)) (code_wp hC hn hm x hp.1 k fr σ e fr' σ' h g w ow a Q r hQ)
    · rename_i hb
      rw [hb] at hc
      exact wpIn_cond_false (V_bool (PV.plain hc rfl)) (code_wp hC hn hm y hp.2 k fr σ e fr' σ' h g w ow a Q r hQ)
    · cases h
  | .block id x, hp => fun k fr σ e fr' σ' h g w ow a Q r hQ => by
    simp only [plansIn] at hp
    simp only [evCode] at h
    cases hx : evCode C P cfg n rd.isSome f id x fr σ with
    | none => rw [hx] at h; cases h
    | some res =>
      obtain ⟨e1, fr1, σ1⟩ := res
      rw [hx] at h
      refine wpIn_block (code_wp hC hn hm x hp id fr σ e1 fr1 σ1 hx g w ow a _ r fun a1 w1 hpost => ?_)
      cases e1 with
      | normal =>
        simp only [Option.some.injEq, Prod.mk.injEq] at h
        obtain ⟨rfl, rfl, rfl⟩ := h
        exact hQ a1 w1 hpost
      | exit id' =>
        dsimp only at h
        show if id' = id then Q .normal a1 w1 else Q (.exit id') a1 w1
        split at h
        · rename_i he
          simp only [Option.some.injEq, Prod.mk.injEq] at h
          obtain ⟨rfl, rfl, rfl⟩ := h
          rw [if_pos he]; exact hQ a1 w1 hpost
        · rename_i he
          simp only [Option.some.injEq, Prod.mk.injEq] at h
          obtain ⟨rfl, rfl, rfl⟩ := h
          rw [if_neg he]; exact hQ a1 w1 hpost
      | ret =>
        simp only [Option.some.injEq, Prod.mk.injEq] at h
        obtain ⟨rfl, rfl, rfl⟩ := h
        exact hQ a1 w1 hpost
  | .loop x, hp => fun k fr σ e fr' σ' h g w ow a Q r hQ => by
    simp only [plansIn] at hp
    simp only [evCode] at h
    exact loop_wp (code_wp hC hn hm x hp) r.ss.slen r.ss.lt hQ h r (Way.refl _ _ _) (Marks.none _ _ _ _)
  | .exit id, _ => fun k fr σ e fr' σ' h g w ow a Q r hQ => by
    simp only [evCode, Option.some.injEq, Prod.mk.injEq] at h
    obtain ⟨rfl, rfl, rfl⟩ := h
    exact wpIn_exit (hQ a w (Post.here r rfl))
  | .ret, _ => fun k fr σ e fr' σ' h g w ow a Q r hQ => by
    simp only [evCode, Option.some.injEq, Prod.mk.injEq] at h
    obtain ⟨rfl, rfl, rfl⟩ := h
    exact wpIn_ret (hQ a w (Post.here r rfl))
  | .label _, _ => fun k fr σ e fr' σ' h => by simp only [evCode] at h; cases h
  | .goto _, _ => fun k fr σ e fr' σ' h => by simp only [evCode] at h; cases h
  | .rangeFunc gop ps as bd, hp => fun k fr σ e fr' σ' h g w ow a Q r hQ => by
    simp only [evCode] at h
    split at h
    · cases h
    rename_i hrd
    have hrd' : rd = none := by cases rd <;> simp_all
    subst hrd'
    exact rangeFunc_wp hC hn h r hQ
  | .scope .., _ => fun k fr σ e fr' σ' h => by simp only [evCode] at h; cases h
  | .refuse _, _ => fun k fr σ e fr' σ' h => by simp only [evCode] at h; cases h

theorem plansOK_body (hp : plansOK P cfg = true) {fn : Func} {c : Code} (hf : P.funcs[f]? = some fn) (hb : fn.body = some c) : plansIn cfg f c = true := by
  have hl : f < P.funcs.size := (Array.getElem?_eq_some_iff.1 hf).1
  have := List.all_eq_true.1 hp f (List.mem_range.2 hl)
  rw [hf] at this
  dsimp only at this
  rw [hb] at this
  exact this

/-- The marks are come to, one by one. -/
theorem leaves_marks {fn : Func} {R : Ending → World → Prop} : ∀ (bs : List Nat) {w : World}, bs.Nodup → (∀ b ∈ bs, w0.heap.size ≤ b ∧ w.heap[b]? = some (.deferred (some []))) → Rel g w ow fr tm σ → Way g0 w0 ow0 g w ow →
    (∀ w', Rel g w' ow fr tm σ → Way g0 w0 ow0 g w' ow → ∃ v, (results fn tm).run P w' = .ok v w' ∧ R (.returned v) w') → LeavesInM (FW none) 0 P fn tm R (bs.map markOf) .returning w
  | [], w, _, _, r, W, hR => hR w r W
  | b :: bs, w, hn, hb, r, W, hR => by
    obtain ⟨k1, k2⟩ := hb b (by simp)
    rw [List.nodup_cons] at hn
    refine ⟨by simp, .inl ⟨b, w.putObj b (.deferred none), rfl, run_takeDeferred k2, ?_⟩⟩
    refine leaves_marks bs hn.2 (fun b' hb' => ?_) (r.other_put k2) (W.other_put k2 k1) hR
    obtain ⟨k3, k4⟩ := hb b' (by simp [hb'])
    refine ⟨k3, ?_⟩
    have e : b' ≠ b := fun e => hn.1 (e ▸ hb')
    rw [World.putObj_heap_other e]; exact k4

/-- A function's body. -/
theorem body_runs (hC : Sound P C) (hm : P.follows .mixedOrders = true) (hp : plansOK P cfg = true) (hn : ∀ (f : FuncId) (fn : Func), P.funcs[f]? = some fn → fn.name ≠ "runtime.NumGoroutine") {n : Nat} {args : List AV} {v : AV} (h : evBody C P cfg n f args σ = some (v, σ'))
    {xs : Array Value} (r : Rel g w ow args xs σ) : Runs P (callFunc f xs) w fun rv w' => ∃ g' ow', Ret g w ow v σ' rv g' w' ow' := by
  unfold evBody at h
  split at h
  case h_2 => cases h
  rename_i fn hf
  split at h
  case h_2 => cases h
  rename_i c hb
  have hent : (callFunc f xs).run P w = .ok (.enter f xs) w := by
    have := hn f fn hf
    simp [callFunc, Sem.run, hf, hb, this]
  refine .inl ⟨f, xs, hent, (callsIn_wide (n := 0)).1 (callsIn_of_wp_marks hf hb trivial ?_)⟩
  have hsz := r.sf.size
  have r0 : Rel g w ow (args ++ List.replicate (fn.ntmps - args.length) .undef) (xs ++ Array.replicate (fn.ntmps - xs.size) undef) σ := by
    refine ⟨r.ss, r.own, by simp [hsz], fun i x hi => ?_⟩
    by_cases hl : i < args.length
    · rw [List.getElem?_append_left hl] at hi
      obtain ⟨u, h1, h2⟩ := r.sf.val i x hi
      exact ⟨u, by rw [Array.getElem?_append_left (by rw [hsz]; exact hl)]; exact h1, h2⟩
    · rw [List.getElem?_append_right (by omega)] at hi
      have hi' := List.getElem?_eq_some_iff.1 hi
      obtain ⟨h1, h2⟩ := hi'
      rw [List.getElem_replicate] at h2; subst h2
      refine ⟨undef, ?_, PV.undef _⟩
      rw [List.length_replicate] at h1
      rw [Array.getElem?_append_right (by omega), Array.getElem?_eq_getElem (by rw [Array.size_replicate]; omega), Array.getElem_replicate]
  have ends : ∀ {fr1 : Fr} {σ1 : St} {a' : Act} {w' : World}, finish P σ.stk.length fn fr1 σ1 = some (v, σ') → Post g w ow { tmps := xs ++ Array.replicate (fn.ntmps - xs.size) undef, defers := [] } fr1 σ1 a' w' →
      LeavesInM (FW none) 0 P fn a'.tmps (fun e w' => match e with | .returned v_1 => ∃ g' ow', Ret g w ow v σ' v_1 g' w' ow' | _ => False) a'.defers .returning w' := by
    intro fr1 σ1 a' w' h hpost
    obtain ⟨g', ow', r1, W1, bs, hds, hnd, hbs⟩ := hpost.out
    rw [List.append_nil] at hds
    rw [hds]
    refine leaves_marks bs hnd (fun b hb => ⟨(hbs b hb).1, (hbs b hb).2.1⟩) r1 W1 fun w'' r2 W2 => ?_
    obtain ⟨rv, g2, ow2, h1, h2⟩ := finish_run r2 W2 r.ss.slen h
    exact ⟨rv, h1, g2, ow2, h2⟩
  split at h
  · rename_i fr1 σ1 he
    exact code_wp (rd := none) hC hn hm c (plansOK_body hp hf hb) 0 _ _ _ _ _ he g w ow _ _ r0 fun a' w' hpost => ends h hpost
  · rename_i fr1 σ1 he
    exact code_wp (rd := none) hC hn hm c (plansOK_body hp hf hb) 0 _ _ _ _ _ he g w ow _ _ r0 fun a' w' hpost => ends h hpost
  · cases h

theorem loopOf_some {h : Nat} {l : LoopA} (e : loopOf σ h = some l) : σ.heap[h]? = some (.loop l) := by
  unfold loopOf at e
  split at e
  · rename_i l' hl; injection e with e; subst e; exact hl
  · cases e

theorem setAll_V : ∀ (ts : List Tmp) (vs : List AV) (xs : List Value) {fr : Fr} {tm : Array Value}, VL g w vs xs → VL g w fr tm.toList →
    VL g w (setAll ts vs fr) ((ts.zip xs).foldl (fun tm (t, v) => tm.setIfInBounds t v) tm).toList
  | [], _, _, fr, tm, _, h => by cases ‹List AV› <;> exact h
  | t :: ts, [], xs, fr, tm, hv, h => by rw [hv.nil_left]; exact h
  | t :: ts, v :: vs, xs, fr, tm, hv, h => by
    obtain ⟨x, xs', rfl, h1, h2⟩ := hv.cons_left
    simp only [setAll, List.zip_cons_cons, List.foldl_cons]
    refine setAll_V ts vs xs' h2 ?_
    refine VL.of_get (by simp [h.length]) fun i y hi => ?_
    rw [Array.toList_setIfInBounds]
    by_cases e : i = t
    · subst e
      have hl : i < fr.length := by
        rcases Nat.lt_or_ge i fr.length with h | h
        · exact h
        · rw [List.getElem?_eq_none (by simpa using h)] at hi; simp at hi
      rw [List.getElem?_set_self hl] at hi
      injection hi with hi; subst hi
      exact ⟨x, by rw [List.getElem?_set_self (by rw [h.length]; exact hl)], h1⟩
    · rw [List.getElem?_set_ne (Ne.symm e)] at hi
      obtain ⟨u, k1, k2⟩ := h.get hi
      exact ⟨u, by rw [List.getElem?_set_ne (Ne.symm e)]; exact k1, k2⟩

theorem look_VL {fr : Fr} {tm : Array Value} (s : SF g w ow fr tm) : VL g w (fr.map AV.look) tm.toList := by
  refine VL.of_get (by rw [List.length_map, Array.length_toList]; exact s.size) fun i v hi => ?_
  rw [List.getElem?_map] at hi
  obtain ⟨x, h1, rfl⟩ := map_some hi
  obtain ⟨y, h2, h3⟩ := s.val i x h1
  exact ⟨y, by rw [Array.getElem?_toList]; exact h2, h3.look⟩

/-- Nobody but the memory owns. -/
def Own.mem (ow : Own) : Own := fun p => match p with | .slot _ => Nobody | p => ow p

theorem Own.mem_sub (ow : Own) : ∀ p b i, ow.mem p b i → ow p b i := by
  intro p b i hp
  cases p with
  | slot j => exact (show Nobody b i from hp).elim
  | stk m j => exact hp
  | heap m j => exact hp

theorem Rel.mem (r : Rel g w ow fr tm σ) {fr' : Fr} {tm' : Array Value} (h : VL g w fr' tm'.toList) : Rel g w ow.mem fr' tm' σ where
  ss := r.ss.own (fun _ _ _ _ h => h) fun _ _ _ _ h => h
  own := ⟨fun p b i hp => r.own.wr _ _ _ (ow.mem_sub _ _ _ hp), fun p b i hp => r.own.box _ _ _ (ow.mem_sub _ _ _ hp), fun p q b i hp hq => r.own.one _ _ _ _ (ow.mem_sub _ _ _ hp) (ow.mem_sub _ _ _ hq)⟩
  sf := ⟨by have := h.length; simpa using this, fun i x hi => by
    obtain ⟨v, h1, h2⟩ := h.get hi
    exact ⟨v, by rw [← Array.getElem?_toList]; exact h1, PV.of h2⟩⟩

/-- A round. -/
theorem round_runs (hC : Sound P C) (hm : P.follows .mixedOrders = true) (hn : ∀ (f : FuncId) (fn : Func), P.funcs[f]? = some fn → fn.name ≠ "runtime.NumGoroutine") {n h b : Nat} {args : List AV} {v : AV} (he : evRound C P cfg n h args σ = some (v, σ'))
    {xs : Array Value} (r : Rel g w ow args xs σ) (hb : g.hb[h]? = some b) : Runs P (Instr.yield b xs) w fun rv w' => ∃ g' ow', Ret g w ow v σ' rv g' w' ow' := by
  unfold evRound at he
  split at he
  case h_2 => cases he
  rename_i l hl
  split at he
  case isFalse => cases he
  rename_i hc
  simp only [Bool.and_eq_true, decide_eq_true_eq] at hc
  obtain ⟨⟨hlen, hpa⟩, hpb⟩ := hc
  split at he
  case h_2 => cases he
  rename_i fr1 σ1 has
  split at he
  case h_2 => cases he
  rename_i l1 hl1
  split at he
  case isFalse => cases he
  rename_i hrdy
  simp only [Bool.and_eq_true, Option.isNone_iff_eq_none] at hrdy
  split at he
  case h_2 => cases he
  rename_i e fr2 σ2 hbd
  split at he
  case h_2 => cases he
  rename_i l2 hl2
  simp only [Option.some.injEq, Prod.mk.injEq] at he
  obtain ⟨rfl, rfl⟩ := he
  obtain ⟨b0, q, hb0, hq⟩ := r.ss.loops _ _ (loopOf_some hl)
  have : b0 = b := Option.some.inj (hb0.symm.trans hb)
  subst this
  have hsz : xs.size = q.params.size := by rw [r.sf.size, hlen, ← hq.params]; simp
  refine .inr (.inr ⟨b0, q.fn, _, q.assign, q.body, run_yield hq.obj hsz, roundIn_of_wpIn trivial ?_⟩)
  have hfold : VL g w (setAll l.params (args.map AV.look) l.fr) ((q.params.zip xs).foldl (fun tmps (t, a) => tmps.setIfInBounds t a) q.tmps).toList := by
    have := setAll_V q.params.toList (args.map AV.look) xs.toList (look_VL r.sf) hq.fr
    rw [← Array.toList_zip, Array.foldl_toList, hq.params] at this
    exact this
  have r0 := r.mem hfold
  rw [hq.assign]
  refine code_wp (rd := some b0) hC hn hm l.assign hpa 0 _ _ _ _ _ has g w ow.mem { tmps := _, defers := [] } _ r0 fun a1 w1 hp1 => ?_
  obtain ⟨g1, ow1, r1, W1, _⟩ := hp1.out
  obtain ⟨b1, q1, hb1, hq1⟩ := r1.ss.loops _ _ (loopOf_some hl1)
  have : b1 = b0 := Option.some.inj (hb1.symm.trans (W1.tr.hb _ _ hb))
  subst this
  have hq1r : q1.state = .ready := by rw [hq1.state]; unfold loopState; rw [hrdy.1]; rfl
  refine ⟨_, run_beginRound hq1.obj hq1r, ?_⟩
  obtain ⟨r2, W2⟩ := r1.setLoop (l' := { l1 with ready := false }) (q' := { q1 with state := .busy }) (loopOf_some hl1) hb1 hq1 hq1.params hq1.assign hq1.body (by unfold loopState; simp [hrdy.2]) hq1.pending rfl rfl
  rw [hq.body]
  refine code_wp (rd := some b1) hC hn hm l.body hpb 0 _ _ _ _ _ hbd g1 _ ow1 a1 _ r2 fun a2 w2 hp2 => ?_
  obtain ⟨g3, ow3, r3, W3, _⟩ := hp2.out
  obtain ⟨b3, q3, hb3, hq3⟩ := r3.ss.loops _ _ (loopOf_some hl2)
  have : b3 = b1 := Option.some.inj (hb3.symm.trans (W3.tr.hb _ _ hb1))
  subst this
  have Wmem : Way g w ow g w ow.mem := Way.only ow.mem_sub
  have W13 : Way g w ow g3 w2 ow3 := ((Wmem.trans W1 r.ss.lt).trans W2 r.ss.lt).trans W3 r.ss.lt
  have fin : ∀ (jump : Option Ex), (jump.isNone = decide (e = .normal)) → (jump = if e = .normal then none else some e) →
      ∃ v w', (Instr.endRound b3 (jump.map Ex.toCode)).run P w2 = .ok v w' ∧ ∃ g' ow', Ret g w ow (.bool (e = .normal)) { AM.setLoop σ2 h { l2 with ready := decide (e = .normal), pending := if e = .normal then none else some e } with stk := σ2.stk.take σ.stk.length } v g' w' ow' := by
    intro jump hj hj'
    refine ⟨_, _, run_endRound (jump.map Ex.toCode) hq3.obj, ?_⟩
    have hjn : (jump.map Ex.toCode).isNone = decide (e = .normal) := by rw [← hj]; cases jump <;> rfl
    obtain ⟨r4, W4⟩ := r3.setLoop (l' := { l2 with ready := decide (e = .normal), pending := if e = .normal then none else some e }) (q' := { q3 with state := if (jump.map Ex.toCode).isNone then .ready else .done, pending := jump.map Ex.toCode }) (loopOf_some hl2) hb3 hq3 hq3.params hq3.assign hq3.body
      (by rw [hjn]; unfold loopState; by_cases hen : e = .normal <;> simp [hen]) (by rw [hj']) rfl rfl
    have r5 := r4.mem (fr' := [.bool (e = .normal)]) (tm' := #[.bool (jump.map Ex.toCode).isNone]) (by rw [hjn]; exact .sc (.bool (decide (e = .normal))) .nil)
    have W5 : Way g w ow g3 (w2.putObj b3 (.loop { q3 with state := if (jump.map Ex.toCode).isNone then .ready else .done, pending := jump.map Ex.toCode })) ow3.mem := (W13.trans W4 r.ss.lt).trans (Way.only ow3.mem_sub) r.ss.lt
    exact ⟨g3.cut σ.stk.length, ow3.mem, r5.cut σ.stk.length rfl, W5.cut r.ss.slen, W5.sb_cut r.ss.slen⟩
  cases e with
  | normal => exact fin none rfl rfl
  | exit id => exact fin (some (.exit id)) rfl rfl
  | ret => exact fin (some .ret) rfl rfl

/-- The functions that are no code of the program do as the configuration says. -/
def PrimOK (P : Program) (cfg : Cfg) : Prop :=
  ∀ (f : FuncId) p, cfg.prim f = some p → ∀ (args : List AV) (σ : St) (v : AV) (σ' : St), p args σ = some (v, σ') → ∀ (g : G) (w : World) (ow : Own) (xs : Array Value), Rel g w ow args xs σ →
    Runs P (callFunc f xs) w fun rv w' => ∃ g' ow', Ret g w ow v σ' rv g' w' ow'

/-- What the abstract machine evaluates, the model computes. -/
theorem ev_sound (hm : P.follows .mixedOrders = true) (hp : plansOK P cfg = true) (hn : ∀ (f : FuncId) (fn : Func), P.funcs[f]? = some fn → fn.name ≠ "runtime.NumGoroutine") (hpr : PrimOK P cfg) : ∀ (n : Nat), Sound P (ev P cfg n)
  | 0 => fun t args σ v σ' he => by simp only [ev] at he; cases he
  | n + 1 => fun t args σ v σ' he g w ow xs r s hs => by
    cases t with
    | fn f =>
      simp only [Tgt.sem, Option.some.injEq] at hs
      subst hs
      simp only [ev] at he
      split at he
      · rename_i p hp'
        exact hpr f p hp' args σ v σ' he g w ow xs r
      · exact body_runs (ev_sound hm hp hn hpr n) hm hp hn he r
    | yield h =>
      simp only [ev] at he
      simp only [Tgt.sem] at hs
      obtain ⟨b, hb, rfl⟩ := map_some hs
      exact round_runs (ev_sound hm hp hn hpr n) hm hn he r hb
end
end Go.AM
