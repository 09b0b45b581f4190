import Derived.Test.YthbiajoionockaaM2
import Derived.Lib.BytesEntry
import Derived.Below
import Derived.Laws.IdiomRangeMap
/-! The code, the calls: what the abstract machine evaluates, the model computes. -/
namespace Go.AM
open Go
set_option linter.unusedVariables false
set_option linter.unusedSimpArgs false

section
variable {P : Program} {C : CallF} {cfg : Cfg} {f : FuncId} {g g' g0 g1 g2 : G} {w w' w0 : World} {ow ow' ow0 ow1 : Own} {σ σ' : St} {fr fr' : Fr} {tm : Array Value} {a : Act} {ops : Array Oper} {Q : Exit → Act → World → Prop}

/-- The marks that ranges over functions have left, with their blocks. -/
def markOf (b : Nat) : Deferred := { target := .collected b, args := #[] }

def Marks (g' : G) (w' : World) (lo : Nat) (ds ds' : List Deferred) : Prop :=
  ∃ bs : List Nat, ds' = bs.map markOf ++ ds ∧ bs.Nodup ∧ ∀ b ∈ bs, lo ≤ b ∧ w'.heap[b]? = some (.deferred (some [])) ∧ ∀ o, ¬ g'.wr b o

/-- Where a part of the code ends. -/
structure Post (g : G) (w : World) (ow : Own) (a : Act) (fr' : Fr) (σ' : St) (a' : Act) (w' : World) : Prop where
  out : ∃ g' ow', Rel g' w' ow' fr' a'.tmps σ' ∧ Way g w ow g' w' ow' ∧ Marks g' w' w.heap.size a.defers a'.defers

theorem Marks.none (g : G) (w : World) (lo : Nat) (ds : List Deferred) : Marks g w lo ds ds := ⟨[], rfl, List.nodup_nil, fun _ h => by cases h⟩

theorem Marks.along {lo : Nat} {ds ds' : List Deferred} (m : Marks g w lo ds ds') (o : OW g ow) (W : Way g w ow g' w' ow') : Marks g' w' lo ds ds' := by
  obtain ⟨bs, h1, h2, h3⟩ := m
  refine ⟨bs, h1, h2, fun b hb => ?_⟩
  obtain ⟨k1, k2, k3⟩ := h3 b hb
  have hl := (Array.getElem?_eq_some_iff.1 k2).1
  refine ⟨k1, ?_, fun i hw => ?_⟩
  · rw [W.tr.obj b hl fun i hm => ?_]
    · exact k2
    · rcases hm with hm | ⟨p, hp⟩
      · exact k3 i hm.2
      · exact k3 i (o.wr _ _ _ hp)
  · rcases W.tr.wr b i hw with h | h
    · exact k3 i h
    · omega

theorem Marks.trans {lo lo' : Nat} {d0 d1 d2 : List Deferred} (m : Marks g w lo d0 d1) (hlo : lo ≤ lo') (o : OW g ow) (W : Way g w ow g' w' ow') (hs : w.heap.size ≤ lo') (m' : Marks g' w' lo' d1 d2) : Marks g' w' lo d0 d2 := by
  obtain ⟨bs, h1, h2, h3⟩ := m.along o W
  obtain ⟨bs0, h10, h20, h30⟩ := m
  obtain ⟨bs', k1, k2, k3⟩ := m'
  have e : bs.map markOf = bs0.map markOf := List.append_cancel_right (h1.symm.trans h10)
  have e' : bs = bs0 := by
    have : Function.Injective markOf := fun x y h => by injection h with h; injection h
    exact (List.map_inj_right fun x y h => this h).1 e
  subst e'
  refine ⟨bs' ++ bs, by rw [k1, h1]; simp, List.nodup_append.2 ⟨k2, h2, fun x hx y hy => ?_⟩, fun b hb => ?_⟩
  · have a1 := (k3 x hx).1
    have a2 := (Array.getElem?_eq_some_iff.1 (h30 y hy).2.1).1
    omega
  · rcases List.mem_append.1 hb with hb | hb
    · obtain ⟨a1, a2, a3⟩ := k3 b hb; exact ⟨Nat.le_trans hlo a1, a2, a3⟩
    · exact h3 b hb

theorem Post.after {a1 a' : Act} (hw : Way g w ow g1 w0 ow1) (hlt : ∀ b o, g.wr b o → b < w.heap.size) (ho : OW g1 ow1) (hd : Marks g1 w0 w.heap.size a.defers a1.defers) (h : Post g1 w0 ow1 a1 fr' σ' a' w') : Post g w ow a fr' σ' a' w' := by
  obtain ⟨g', ow', h1, h2, h3⟩ := h.out
  exact ⟨⟨g', ow', h1, hw.trans h2 hlt, hd.trans hw.tr.size ho h2 (Nat.le_refl _) h3⟩⟩

theorem Post.here {a' : Act} (r : Rel g w ow fr a'.tmps σ) (hd : a'.defers = a.defers) : Post g w ow a fr σ a' w := ⟨⟨g, ow, r, Way.refl _ _ _, hd ▸ Marks.none _ _ _ _⟩⟩

theorem V_bool {b : Bool} {v : Value} (h : V g w (.s (.bool b)) v) : v = .bool b := by cases h; rfl

theorem guardA_wanted {o : Oper} {b : Bool} (s : SF g w ow fr a.tmps) (h : guardA ops fr o = some b) : Region.wanted o (yielded ops a.tmps) = b := by
  unfold guardA at h
  unfold Region.wanted
  cases hg : o.guard with
  | none => rw [hg] at h; dsimp only at h ⊢; exact Option.some.inj h
  | some jw =>
    obtain ⟨j, want⟩ := jw
    rw [hg] at h
    dsimp only at h ⊢
    cases hd : (ops[j]?).bind (·.dst) with
    | none => rw [hd] at h; cases h
    | some d =>
      rw [hd] at h
      dsimp only at h
      have hy : ∀ v, a.tmps[d]? = some v → yielded ops a.tmps j = (match v with | .bool b => some b | _ => none) := by
        intro v hv
        unfold yielded
        rw [hd]
        simp only [Option.bind_some, hv]
        cases v <;> rfl
      split at h
      · rename_i b' hb
        obtain ⟨v, h1, h2⟩ := s.val d _ hb
        have h3 := V_bool (PV.plain h2 rfl)
        rw [hy v h1, h3]
        exact Option.some.inj h
      · rename_i hb
        obtain ⟨v, h1, h2⟩ := s.val d _ hb
        have h3 : V g w (.tup []) v := PV.plain h2 rfl
        cases h3 with
        | tup _ _ =>
          rw [hy _ h1]
          exact Option.some.inj h
      · cases h

theorem act_defers (a : Act) (dst : Option Tmp) (v : Value) : (a.put dst v).defers = a.defers := by cases dst <;> rfl

theorem undef_tup : V g w (.tup []) undef := .tup .nil .nil

/-- One step of a region. -/
theorem step_wp {rd : Option Nat} (hC : Sound P C) {i : Nat} {K : Act → World → Prop} (h : stepA C P cfg f ops i fr σ = some (fr', σ')) (r : Rel g w ow fr a.tmps σ)
    (hK : ∀ a' w', Post g w ow a fr' σ' a' w' → K a' w') : wpOpIn (FW rd) 0 P ops Q i K a w := by
  unfold stepA at h
  unfold wpOpIn
  cases hi : ops[i]? with
  | none => rw [hi] at h; cases h
  | some o =>
    rw [hi] at h
    dsimp only at h ⊢
    cases hg : guardA ops fr o with
    | none => rw [hg] at h; cases h
    | some b =>
      rw [hg] at h
      rw [guardA_wanted r.sf hg]
      cases b with
      | true =>
        dsimp only at h
        simp only [if_true]
        split at h
        · rename_i v fr1 σ1 he
          simp only [Option.some.injEq, Prod.mk.injEq] at h
          obtain ⟨rfl, rfl⟩ := h
          obtain ⟨g1, ow1, r1, W1⟩ := settle_way (settled o.op) r
          refine evOp_wp hC r1 he fun g' w' ow' val ho => hK _ _ ?_
          refine ⟨⟨g', ow', ?_, W1.trans ho.way r.ss.lt, by rw [act_defers]; exact Marks.none _ _ _ _⟩⟩
          rw [act_put]; exact ho.rel
        · cases h
      | false =>
        simp only [Option.some.injEq, Prod.mk.injEq] at h
        obtain ⟨rfl, rfl⟩ := h
        simp only [Bool.false_eq_true, if_false]
        obtain ⟨ow', r', k1, _, _⟩ := r.put (dst := o.dst) (PV.of (o := Nobody) (undef_tup (g := g) (w := w))) (Free.nobody _ _)
        refine ⟨fun f _ => FW_fn rd f, hK _ _ ⟨⟨g, ow', by rw [act_put]; exact r', Way.only fun p b o h => (k1 p b o h).resolve_right id, by rw [act_defers]; exact Marks.none _ _ _ _⟩⟩⟩

theorem ops_wp {rd : Option Nat} (hC : Sound P C) : ∀ (l : List Nat) {fr : Fr} {σ : St} {g : G} {w : World} {ow : Own} {a : Act}, evOps C P cfg f ops l fr σ = some (fr', σ') → Rel g w ow fr a.tmps σ →
    (∀ a' w', Post g w ow a fr' σ' a' w' → Q .normal a' w') → wpOpsIn (FW rd) 0 P ops Q l a w
  | [], fr, σ, g, w, ow, a, h, r, hQ => by
    simp only [evOps, Option.some.injEq, Prod.mk.injEq] at h
    obtain ⟨rfl, rfl⟩ := h
    exact hQ a w (Post.here r rfl)
  | i :: l, fr, σ, g, w, ow, a, h, r, hQ => by
    simp only [evOps] at h
    split at h
    · rename_i fr1 σ1 hs
      rw [wpOpsIn_cons]
      refine step_wp hC hs r fun a1 w1 hp => ?_
      obtain ⟨g1, ow1, r1, W1, hd⟩ := hp.out
      exact ops_wp hC l h r1 fun a' w' hp' => hQ a' w' (hp'.after W1 r.ss.lt r1.own hd)
    · cases h

theorem any_wp {rd : Option Nat} (hC : Sound P C) {J : Array Bool → St → Prop} : ∀ (n : Nat) {listed : Array Bool} {fr : Fr} {σ : St} {g : G} {w : World} {ow : Own} {a : Act}, AnyJ C P cfg f ops J (fr', σ') n listed fr σ → Rel g w ow fr a.tmps σ →
    (∀ a' w', Post g w ow a fr' σ' a' w' → Q .normal a' w') → wpAnyIn (FW rd) 0 P .any ops Q n listed a w
  | 0, listed, fr, σ, g, w, ow, a, h, r, hQ => by
    obtain ⟨h1, h2, _⟩ := h
    simp only [Prod.mk.injEq] at h2
    obtain ⟨rfl, rfl⟩ := h2
    exact ⟨h1, hQ a w (Post.here r rfl)⟩
  | n + 1, listed, fr, σ, g, w, ow, a, h, r, hQ => by
    obtain ⟨_, h1, h2⟩ := h
    refine ⟨fun he => ?_, fun i hi => ?_⟩
    · have h3 := h1 he
      simp only [Prod.mk.injEq] at h3
      obtain ⟨rfl, rfl⟩ := h3
      exact hQ a w (Post.here r rfl)
    · obtain ⟨fr1, σ1, h3, h4⟩ := h2 i hi
      refine step_wp hC h3 r fun a1 w1 hp => ?_
      obtain ⟨g1, ow1, r1, W1, hd⟩ := hp.out
      exact any_wp hC n h4 r1 fun a' w' hp' => hQ a' w' (hp'.after W1 r.ss.lt r1.own hd)

theorem Rel.heap (r : Rel g w ow fr tm σ) (h : w'.heap = w.heap) (he : SameEnv w w' := by exact ⟨rfl, rfl, rfl⟩) : Rel g w' ow fr tm σ := by
  have t : Tr Nought g w g w' := Tr.heap h he
  exact ⟨r.ss.still t (fun b o hw => by rw [h]; exact r.ss.lt b o hw) rfl rfl (fun _ _ _ h => h) (fun _ _ _ _ h => h) (fun _ _ _ _ h => h), r.own,
    r.sf.later t (fun _ _ h => h.elim) (fun _ _ _ _ h => h) (fun _ _ _ h => h)⟩

theorem Way.heap (h : w'.heap = w.heap) (he : SameEnv w w' := by exact ⟨rfl, rfl, rfl⟩) : Way g w ow g w' ow := ⟨Tr.heap h he, fun _ _ h => .inl h, fun _ _ h => .inr h, fun _ h => .inl h⟩

def Ex.toExit : Ex → Exit
  | .normal => .normal
  | .exit id => .exit id
  | .ret => .ret

theorem exists_least {p : Nat → Prop} (h : ∃ n, p n) : ∃ n, p n ∧ ∀ m, p m → n ≤ m := by
  obtain ⟨n, hn⟩ := h
  induction n using Nat.strongRecOn with
  | _ n ih =>
    by_cases hm : ∃ m, m < n ∧ p m
    · obtain ⟨m, h1, h2⟩ := hm; exact ih m h1 h2
    · exact ⟨n, hn, fun m h2 => Nat.le_of_not_lt fun h1 => hm ⟨m, h1, h2⟩⟩

open Classical in
noncomputable def least (p : Nat → Prop) : Nat := if h : ∃ n, p n then Classical.choose (exists_least h) else 0

theorem least_spec {p : Nat → Prop} (h : ∃ n, p n) : p (least p) ∧ ∀ m, p m → least p ≤ m := by
  unfold least; rw [dif_pos h]; exact Classical.choose_spec (exists_least h)

/-- A loop whose rounds are counted. -/
theorem wp_loop_n {rd : Option Nat} {c : Code} (I : Nat → Act → World → Prop) {n : Nat} (h0 : I n a w) (round : ∀ n a w, I n a w → c.wpIn (FW rd) 0 P (Exit.then (fun a' w' => ∃ m, m < n ∧ I m a' w') Q) a w) : (Code.loop c).wpIn (FW rd) 0 P Q a w := by
  refine wpIn_loop (fun a w => ∃ n, I n a w) (fun a w => least fun n => I n a w) ⟨n, h0⟩ fun a w hI => ?_
  obtain ⟨h1, h2⟩ := least_spec hI
  refine wpIn_mono (round _ a w h1) fun e a' w' hq => ?_
  cases e with
  | normal =>
    obtain ⟨m, h3, h4⟩ := hq
    exact ⟨⟨m, h4⟩, Nat.lt_of_le_of_lt ((least_spec ⟨m, h4⟩).2 m h4) h3⟩
  | _ => exact hq

def BodySound (P : Program) (C : CallF) (cfg : Cfg) (n : Nat) (rd : Option Nat) (f : FuncId) (c : Code) : Prop :=
  ∀ (k : Nat) (fr : Fr) (σ : St) (e : Ex) (fr' : Fr) (σ' : St), evCode C P cfg n rd.isSome f k c fr σ = some (e, fr', σ') → ∀ (g : G) (w : World) (ow : Own) (a : Act) (Q : Exit → Act → World → Prop), Rel g w ow fr a.tmps σ →
    (∀ a' w', Post g w ow a fr' σ' a' w' → Q e.toExit a' w') → c.wpIn (FW rd) 0 P Q a w

theorem loop_wp {rd : Option Nat} {c : Code} {n k : Nat} (hb : BodySound P C cfg n rd f c) {mask : List Bool} {n0 : Nat} {e : Ex} {a0 : Act} (hn0 : g0.sb.length = n0) (hlt0 : ∀ b o, g0.wr b o → b < w0.heap.size)
    (hQ : ∀ a' w', Post g0 w0 ow0 a0 fr' σ' a' w' → Q e.toExit a' w') {m : Nat} (h : evLoop (evCode C P cfg n rd.isSome f k c) mask n0 m fr σ = some (e, fr', σ')) (r : Rel g w ow fr a.tmps σ) (W : Way g0 w0 ow0 g w ow) (hd : Marks g w w0.heap.size a0.defers a.defers) : (Code.loop c).wpIn (FW rd) 0 P Q a w := by
  refine wp_loop_n (fun m a w => ∃ fr σ g ow, evLoop (evCode C P cfg n rd.isSome f k c) mask n0 m fr σ = some (e, fr', σ') ∧ Rel g w ow fr a.tmps σ ∧ Way g0 w0 ow0 g w ow ∧ Marks g w w0.heap.size a0.defers a.defers) ⟨fr, σ, g, ow, h, r, W, hd⟩ ?_
  rintro m a w ⟨fr, σ, g, ow, h, r, W, hd⟩
  cases m with
  | zero => simp only [evLoop] at h; cases h
  | succ m =>
    simp only [evLoop] at h
    split at h
    case isFalse => cases h
    rename_i hu
    have rk := (r.keep mask).cut n0 hu
    have Wk := W.cut hn0
    cases hbody : evCode C P cfg n rd.isSome f k c (AM.keep mask fr) (σ.cut n0) with
    | none => simp only [St.cut] at hbody; rw [hbody] at h; cases h
    | some res =>
      obtain ⟨e1, fr1, σ1⟩ := res
      have hb' := hbody
      simp only [St.cut] at hb'
      rw [hb'] at h
      refine hb k _ _ e1 fr1 σ1 hbody (g.cut n0) w ow a _ rk fun a' w' hp => ?_
      have hp' : Post g0 w0 ow0 a0 fr1 σ1 a' w' := hp.after Wk hlt0 rk.own hd
      cases e1 with
      | normal =>
        dsimp only at h
        obtain ⟨g', ow', h1, h2, h3⟩ := hp'.out
        exact ⟨m, Nat.lt_succ_self m, fr1, σ1, g', ow', h, h1, h2, h3⟩
      | exit id =>
        simp only [Option.some.injEq, Prod.mk.injEq] at h
        obtain ⟨rfl, rfl, rfl⟩ := h
        exact hQ a' w' hp'
      | ret =>
        simp only [Option.some.injEq, Prod.mk.injEq] at h
        obtain ⟨rfl, rfl, rfl⟩ := h
        exact hQ a' w' hp'

theorem mask_bit : ∀ (l : List Nat) (t : Nat), (maskOf l).testBit t = true ↔ t ∈ l
  | [], t => by simp [maskOf]
  | x :: l, t => by
    simp only [maskOf, Nat.testBit_or, Bool.or_eq_true, mask_bit l t, Nat.testBit_two_pow, decide_eq_true_eq, List.mem_cons]
    constructor
    · rintro (h | h)
      · exact .inr h
      · exact .inl h.symm
    · rintro (h | h)
      · exact .inr h.symm
      · exact .inl h

theorem and_sub {a b : Nat} : (a &&& b == a) = true ↔ ∀ t, a.testBit t = true → b.testBit t = true := by
  rw [beq_iff_eq]
  constructor
  · intro h t ht
    have := congrArg (·.testBit t) h
    simp only [Nat.testBit_and, ht, Bool.true_and] at this
    exact this
  · intro h
    apply Nat.eq_of_testBit_eq
    intro t
    rw [Nat.testBit_and]
    cases ha : a.testBit t with
    | false => rfl
    | true => rw [h t ha]; rfl

theorem allFrom_spec {p : Info → Nat → Bool} : ∀ {l : List Info} {k : Nat}, allFrom p l k = true → ∀ j I, l[j]? = some I → p I (k + j) = true
  | [], k, _, j, I, hj => by simp at hj
  | J :: l, k, h, j, I, hj => by
    simp only [allFrom, Bool.and_eq_true] at h
    cases j with
    | zero => simp at hj; subst hj; exact h.1
    | succ j =>
      have := allFrom_spec h.2 j I (by simpa using hj)
      rw [show k + (j + 1) = k + 1 + j by omega]; exact this

theorem nth_get : ∀ {l : List Info} {j : Nat}, nth l j = l[j]?
  | [], j => by simp [nth]
  | I :: l, 0 => by simp [nth]
  | I :: l, j + 1 => by simp [nth, nth_get]

/-- The same that is listed. -/
structure SameL (n : Nat) (mask : Nat) (l : Array Bool) : Prop where
  size : l.size = n
  bit : ∀ x, mask.testBit x = l.getD x false

theorem SameL.set {n mask i : Nat} {l : Array Bool} (h : SameL n mask l) (hi : i < n) : SameL n (mask ||| 2 ^ i) (l.setIfInBounds i true) := by
  refine ⟨by simp [h.size], fun x => ?_⟩
  rw [Nat.testBit_or, Nat.testBit_two_pow, h.bit]
  by_cases e : i = x
  · subst e; simp [h.size, hi]
  · rw [getD_set_ne false e]; simp [e]

theorem info_ready {n mask : Nat} {l : Array Bool} (h : SameL n mask l) (hn : n = ops.size) {i : Nat} {o : Oper} (ho : ops[i]? = some o) : (infoOf cfg f ops o).ready i mask = true ↔ i ∈ Region.ready .any ops l := by
  have hi : i < l.size := by rw [h.size, hn]; exact (Array.getElem?_eq_some_iff.1 ho).1
  have hd : l.getD i true = l.getD i false := by simp [hi]
  rw [mem_ready, hd]
  simp only [Info.ready, infoOf, Bool.and_eq_true, Bool.not_eq_true', and_sub, h.bit, mask_bit]
  refine and_congr_right fun _ => ?_
  constructor
  · intro hall
    refine ⟨o, ho, fun e he hb => ?_⟩
    exact hall e.on (List.mem_map.2 ⟨e, List.mem_filter.2 ⟨Array.mem_toList_iff.2 he, hb⟩, rfl⟩)
  · rintro ⟨o', ho', hall⟩ t ht
    rw [ho] at ho'
    injection ho' with ho'; subst ho'
    obtain ⟨e, he, rfl⟩ := List.mem_map.1 ht
    obtain ⟨h1, h2⟩ := List.mem_filter.1 he
    exact hall e (Array.mem_toList_iff.1 h1) h2

theorem info_apart {x y : Oper} (h : (infoOf cfg f ops x).apart (infoOf cfg f ops y) = true) : x.apart ops y = true := by
  have hm : ∀ (o : Oper) (d : Nat), ((infoOf cfg f ops o).looks.testBit d) = (o.looksAt ops).contains d := by
    intro o d
    have := mask_bit (o.looksAt ops) d
    show (maskOf (o.looksAt ops)).testBit d = _
    cases hc : (o.looksAt ops).contains d with
    | true => exact this.2 (by simpa using hc)
    | false =>
      cases hb : (maskOf (o.looksAt ops)).testBit d with
      | false => rfl
      | true => exact absurd (this.1 hb) (by simpa using hc)
  unfold Info.apart at h
  simp only [hm] at h
  exact h

theorem plan_fast : ∀ (l : List Nat) (mask : Nat) (listed : Array Bool), SameL ops.size mask listed → planFast (ops.toList.map (infoOf cfg f ops)) l mask = true → PlanP cfg f ops l listed
  | [], mask, listed, hs, h => by
    simp only [planFast] at h
    apply List.eq_nil_iff_forall_not_mem.2
    intro j hj
    obtain ⟨_, o, ho, _⟩ := mem_ready.1 hj
    have := allFrom_spec h j (infoOf cfg f ops o) (by rw [List.getElem?_map, Array.getElem?_toList, ho]; rfl)
    rw [Nat.zero_add, (info_ready hs rfl ho).2 hj] at this
    cases this
  | i :: rest, mask, listed, hs, h => by
    simp only [planFast, nth_get, List.getElem?_map, Array.getElem?_toList] at h
    cases ho : ops[i]? with
    | none => rw [ho] at h; cases h
    | some oi =>
      rw [ho] at h
      simp only [Option.map_some, Bool.and_eq_true] at h
      obtain ⟨⟨h1, h2⟩, h3⟩ := h
      have hi : i < ops.size := (Array.getElem?_eq_some_iff.1 ho).1
      have hrd : isReader cfg f ops i = (infoOf cfg f ops oi).rd := by simp [isReader, ho, infoOf]
      refine ⟨(info_ready hs rfl ho).1 h1, fun o' ho' hr j oj hj hne hun hno => ?_, fun hr j hj => ?_, plan_fast rest _ _ (hs.set hi) h3⟩
      · rw [ho] at ho'; injection ho' with ho'; subst ho'
        rw [← hrd, hr] at h2
        simp only [if_true] at h2
        have := allFrom_spec h2 j (infoOf cfg f ops oj) (by rw [List.getElem?_map, Array.getElem?_toList, hj]; rfl)
        rw [Nat.zero_add] at this
        simp only [Bool.or_eq_true, beq_iff_eq] at this
        rcases this with ((h4 | h4) | h4) | h4
        · exact (hne h4).elim
        · have hjl : j < listed.size := by rw [hs.size]; exact (Array.getElem?_eq_some_iff.1 hj).1
          rw [hs.bit] at h4
          simp [hjl] at h4 hun
          rw [h4] at hun; cases hun
        · rw [show (infoOf cfg f ops oj).edges = maskOf ((oj.after.toList.filter (Region.binds .any)).map (·.on)) from rfl, mask_bit] at h4
          obtain ⟨e, he, hei⟩ := List.mem_map.1 h4
          obtain ⟨h5, h6⟩ := List.mem_filter.1 he
          exact (hno e (Array.mem_toList_iff.1 h5) h6 hei).elim
        · exact info_apart h4
      · rw [← hrd, hr] at h2
        simp only [Bool.false_eq_true, if_false] at h2
        obtain ⟨_, o, hjo, _⟩ := mem_ready.1 hj
        have := allFrom_spec h2 j (infoOf cfg f ops o) (by rw [List.getElem?_map, Array.getElem?_toList, hjo]; rfl)
        rw [Nat.zero_add, (info_ready hs rfl hjo).2 hj] at this
        simpa using this

theorem closed_none (ops : Array Oper) (n : Nat) : Closed ops (Array.replicate n false) := by
  intro j k hj _
  exfalso
  by_cases hl : j < n
  · simp [Array.getElem?_eq_getElem, hl] at hj
  · simp [Array.getElem?_eq_none, hl] at hj

theorem same_none (n : Nat) : SameL n 0 (Array.replicate n false) := by
  refine ⟨by simp, fun x => ?_⟩
  by_cases hl : x < n
  · simp [Array.getElem?_eq_getElem, hl]
  · simp [Array.getElem?_eq_none, hl]

theorem lasting_V {v : AV} {x : Value} {o : Nat → Nat → Prop} (h : PV g w o v x) : V g w (lasting v) x := by
  unfold lasting
  split
  · exact h.look
  · exact VL.undef _ .nil

theorem lasting_low (v : AV) : AV.under 0 (lasting v) = true := by
  unfold lasting
  split
  · rename_i h; exact h
  · rfl

theorem lasting_VL (s : SF g w ow fr tm) : VL g w (fr.map lasting) tm.toList := by
  refine VL.of_get (by rw [List.length_map, Array.length_toList]; exact s.size) fun i v hi => ?_
  rw [List.getElem?_map] at hi
  obtain ⟨x, h1, rfl⟩ := map_some hi
  obtain ⟨y, h2, h3⟩ := s.val i x h1
  exact ⟨y, by rw [Array.getElem?_toList]; exact h2, lasting_V h3⟩

/-- A range over a function. -/
theorem rangeFunc_wp (hC : Sound P C) (hn : ∀ (f : FuncId) (fn : Func), P.funcs[f]? = some fn → fn.name ≠ "runtime.NumGoroutine") {gop : Operand} {ps : Array Tmp} {as bd : Code} {e : Ex}
    (h : (match AM.seen fr gop with
    | .fn (.func h) first captured =>
      if !hasBody P h then none else
      match C (.fn h) (first ++ [.yield σ.heap.length] ++ captured) { σ with heap := σ.heap ++ [.loop { fid := f, fr := fr.map lasting, params := ps.toList, assign := as, body := bd, ready := true, pending := none }] } with
      | some (_, σ') => match σ'.heap[σ.heap.length]? with
        | some (.loop l) => if l.ready || l.pending.isSome then some (l.pending.getD .normal, fr, { σ' with heap := σ'.heap.set σ.heap.length .dead }) else none
        | _ => none
      | none => none
    | _ => none) = some (e, fr', σ')) (r : Rel g w ow fr a.tmps σ) (hQ : ∀ a' w', Post g w ow a fr' σ' a' w' → Q e.toExit a' w') : (Code.rangeFunc gop ps as bd).wpIn (FW none) 0 P Q a w := by
  split at h
  case h_2 => cases h
  rename_i hf first captured hg
  split at h
  · cases h
  rename_i hbody
  split at h
  case h_2 => cases h
  rename_i v σ2 hcall
  split at h
  case h_2 => cases h
  rename_i l hl
  split at h
  case isFalse => cases h
  rename_i hst
  simp only [Option.some.injEq, Prod.mk.injEq] at h
  obtain ⟨rfl, rfl, rfl⟩ := h
  refine wpIn_rangeFunc fun fn _ => ?_
  -- the record
  obtain ⟨r1, W1⟩ := r.other_new (.deferred (some []))
  let q : Loop := { state := .ready, pending := none, fn, tmps := a.tmps, params := ps, assign := as, body := bd, defers := w.heap.size }
  obtain ⟨g2, r2, W2, hb2, hsb2, hwr2⟩ := r1.newLoop (l := { fid := f, fr := fr.map lasting, params := ps.toList, assign := as, body := bd, ready := true, pending := none }) (q := q) rfl rfl rfl rfl rfl (lasting_VL r1.sf) (under_mem.2 fun x hx => by obtain ⟨y, _, rfl⟩ := List.mem_map.1 hx; exact lasting_low y)
  have hsz : (w.alloc (.deferred (some []))).heap.size = w.heap.size + 1 := by show (w.heap.push _).size = _; simp
  rw [hsz] at hb2
  -- the function
  have hV := r2.sf.seen gop
  rw [hg] at hV
  generalize hgv : a.eval gop = gv at hV
  cases hV with
  | @fn _ _ _ xs ys _ _ v1 v2 _ =>
    have rc := callee_rel (O := fun _ => Nobody) (vs := [.yield σ.heap.length]) (vv := [.func (.yield (w.heap.size + 1)) #[] #[]]) r2 v1 v2 rfl (fun i x hi => by
      cases i with
      | zero => simp at hi; subst hi; exact ⟨_, rfl, PV.of (.yield hb2 .nil)⟩
      | succ i => simp at hi) (fun _ => Free.nobody _ _) (fun _ _ _ _ h => h.elim)
    have hrun := hC (.fn hf) _ _ _ _ hcall _ _ _ _ rc _ rfl
    have hent : ∀ (args : Array Value) (w : World), (callFunc hf args).run P w = .ok (.enter hf args) w := by
      intro args w
      have hb' : hasBody P hf = true := by simpa using hbody
      unfold hasBody at hb'
      split at hb'
      · rename_i fn' hfn
        have h1 := hn _ _ hfn
        cases hfb : fn'.body with
        | none => rw [hfb] at hb'; cases hb'
        | some c => simp [callFunc, Sem.run, hfn, hfb, h1]
      · cases hb'
    have eargs : (xs.toList ++ [Value.func (.yield (w.heap.size + 1)) #[] #[]] ++ ys.toList).toArray = xs ++ #[.func (.yield (w.heap.size + 1)) #[] #[]] ++ ys := by
      apply Array.ext'; simp
    rw [eargs] at hrun
    refine ⟨w.heap.size + 1, [markOf w.heap.size], (w.alloc (.deferred (some []))).alloc (.loop q), { target := .fn (.func hf) ys, args := xs ++ #[.func (.yield (w.heap.size + 1)) #[] #[]] }, (w.alloc (.deferred (some []))).alloc (.loop q), hf, xs ++ #[.func (.yield (w.heap.size + 1)) #[] #[]] ++ ys, (w.alloc (.deferred (some []))).alloc (.loop q), run_enterLoop_outer fn a.tmps ps as bd, ?_, fun f' _ => FW_fn none f', ?_, FW_depth none 0, ?_⟩
    · simp only [resolve, hgv, map_one]; rfl
    · exact hent _ _
    · rcases hrun with ⟨f', args', e1, e2⟩ | ⟨v', w', e1, _⟩ | ⟨l', fn', tm', as', bd', e1, _⟩
      case inr.inl => rw [hent] at e1; cases e1
      case inr.inr => rw [hent] at e1; cases e1
      rw [hent] at e1
      simp only [Result.ok.injEq, Next.enter.injEq, and_true] at e1
      obtain ⟨rfl, rfl⟩ := e1
      refine FW_calls (Calls.mono e2 fun e w3 he => ?_)
      cases e with
      | returned rv =>
        obtain ⟨g3, ow3, hret⟩ := he
        obtain ⟨ow4, ho⟩ := ret_out (dst := none) r2 (fun _ => Free.nobody _ _) (fun _ _ _ h => h) (fun _ _ _ h => h.elim) hret
        have r4 : Rel g3 w3 ow4 fr a.tmps σ2 := ho.rel
        obtain ⟨b', q3, hb3, hq3⟩ := r4.ss.loops _ _ hl
        have hb3' : b' = w.heap.size + 1 := Option.some.inj (hb3.symm.trans (ho.tr.hb _ _ hb2))
        subst hb3'
        have hnb : q3.state ≠ .busy := by
          rw [hq3.state]
          unfold loopState
          split
          · simp
          · rename_i hr
            split
            · rename_i hpn; simp [hr, hpn] at hst
            · simp
        obtain ⟨r5, W5⟩ := r4.killLoop (q' := { q3 with state := .exhausted }) hl hb3 hq3
        have W : Way g w ow g3 (w3.putObj (w.heap.size + 1) (.loop { q3 with state := .exhausted })) ow4 :=
          ((W1.trans W2 r.ss.lt).trans ho.way r.ss.lt).trans W5 r.ss.lt
        have hmark : Marks g3 (w3.putObj (w.heap.size + 1) (.loop { q3 with state := .exhausted })) w.heap.size a.defers ([markOf w.heap.size] ++ a.defers) := by
          have m0 : Marks g (w.alloc (.deferred (some []))) w.heap.size a.defers ([markOf w.heap.size] ++ a.defers) := by
            refine ⟨[w.heap.size], rfl, by simp, fun b hb => ?_⟩
            rw [List.mem_singleton.1 hb]
            exact ⟨Nat.le_refl _, World.alloc_heap_new w _, fun o hw => absurd (r.ss.lt _ _ hw) (Nat.lt_irrefl _)⟩
          exact ((m0.along r1.own W2).along r2.own ho.way).along r4.own W5
        have post : Post g w ow a fr { σ2 with heap := σ2.heap.set σ.heap.length .dead } { a with defers := [markOf w.heap.size] ++ a.defers } (w3.putObj (w.heap.size + 1) (.loop { q3 with state := .exhausted })) := ⟨⟨g3, ow4, r5, W, hmark⟩⟩
        have key : ∀ (j : Option Code) (a' : Act) (W : World), j = l.pending.map Ex.toCode → Post g w ow a fr { σ2 with heap := σ2.heap.set σ.heap.length .dead } a' W →
            (match j with
             | none => Q .normal a' W
             | some c => c.wpIn (FW none) 0 P Q a' W) := by
          intro j a' W hj hp
          subst hj
          have hq' := hQ _ _ hp
          cases hpd : l.pending with
          | none => rw [hpd] at hq'; exact hq'
          | some x =>
            rw [hpd] at hq'
            cases x with
            | normal => exact wpIn_skip hq'
            | exit id => exact wpIn_exit hq'
            | ret => exact wpIn_ret hq'
        exact ⟨q3.pending, _, run_endLoop hq3.obj hnb, key _ _ _ hq3.pending post⟩
      | _ => exact he.elim

theorem code_wp {rd : Option Nat} (hC : Sound P C) (hn : ∀ (f : FuncId) (fn : Func), P.funcs[f]? = some fn → fn.name ≠ "runtime.NumGoroutine") (hm : P.follows .mixedOrders = true) {n : Nat} : ∀ (c : Code), plansIn cfg f c = true → BodySound P C cfg n rd f c
  | .skip, _ => fun k fr σ e fr' σ' h g w ow a Q r hQ => by
    simp only [evCode, Option.some.injEq, Prod.mk.injEq] at h
    obtain ⟨rfl, rfl, rfl⟩ := h
    exact wpIn_skip (hQ a w (Post.here r rfl))
  | .region id ops false, _ => fun k fr σ e fr' σ' h g w ow a Q r hQ => by
    simp only [evCode] at h
    obtain ⟨⟨fr1, σ1⟩, h1, h2⟩ := map_some h
    simp only [Prod.mk.injEq] at h2
    obtain ⟨rfl, rfl, rfl⟩ := h2
    exact wpIn_region (ops_wp hC _ h1 r hQ)
  | .region id ops true, hp => fun k fr σ e fr' σ' h g w ow a Q r hQ => by
    simp only [evCode] at h
    split at h
    · cases h
    rename_i hne
    obtain ⟨⟨fr1, σ1⟩, h1, h2⟩ := map_some h
    simp only [Prod.mk.injEq] at h2
    obtain ⟨rfl, rfl, rfl⟩ := h2
    simp only [plansIn, Bool.or_eq_true, Bool.and_eq_true, decide_eq_true_eq] at hp
    have hp' := hp.resolve_left hne
    have hany := evPlan_any _ ops.size _ _ _ _ hp'.1 (plan_fast _ 0 _ (same_none _) hp'.2) (closed_none _ _) (fun c hc => by cases hc) h1
    refine wpIn_region_any hm (any_wp hC _ hany (r.heap rfl) fun a' w' hpost => hQ a' w' ?_)
    exact Post.after (g1 := g) (w0 := { w with drawn := w.drawn + 1 }) (ow1 := ow) (a1 := a) (Way.heap rfl) r.ss.lt r.own (Marks.none _ _ _ _) hpost
  | .seq x y, hp => fun k fr σ e fr' σ' h g w ow a Q r hQ => by
    simp only [plansIn, Bool.and_eq_true] at hp
    simp only [evCode] at h
    cases hx : evCode C P cfg n rd.isSome f k x fr σ with
    | none => rw [hx] at h; cases h
    | some res =>
      obtain ⟨e1, fr1, σ1⟩ := res
      rw [hx] at h
      refine wpIn_seq (code_wp hC hn hm x hp.1 k fr σ e1 fr1 σ1 hx g w ow a _ r fun a1 w1 hpost => ?_)
      cases e1 with
      | normal =>
        dsimp only at h
        obtain ⟨g1, ow1, r1, W1, hd⟩ := hpost.out
        exact code_wp hC hn hm y hp.2 k fr1 σ1 e fr' σ' h g1 w1 ow1 a1 Q r1 fun a' w' hp' => hQ a' w' (hp'.after W1 r.ss.lt r1.own hd)
      | exit id =>
        simp only [Option.some.injEq, Prod.mk.injEq] at h
        obtain ⟨rfl, rfl, rfl⟩ := h
        exact hQ a1 w1 hpost
      | ret =>
        simp only [Option.some.injEq, Prod.mk.injEq] at h
        obtain ⟨rfl, rfl, rfl⟩ := h
        exact hQ a1 w1 hpost
  | .cond c x y, hp => fun k fr σ e fr' σ' h g w ow a Q r hQ => by
    simp only [plansIn, Bool.and_eq_true] at hp
    simp only [evCode] at h
    have hc := r.sf.opnd c
    split at h
    · rename_i hb
      rw [hb] at hc
      exact wpIn_cond_true (V_bool (PV.plain hc rfl)) (code_wp hC hn hm x hp.1 k fr σ e fr' σ' h g w ow a Q r hQ)
    · rename_i hb
      rw [hb] at hc
      exact wpIn_cond_false (V_bool (PV.plain hc rfl)) (code_wp hC hn hm y hp.2 k fr σ e fr' σ' h g w ow a Q r hQ)
    · cases h
  | .block id x, hp => fun k fr σ e fr' σ' h g w ow a Q r hQ => by
    simp only [plansIn] at hp
    simp only [evCode] at h
    cases hx : evCode C P cfg n rd.isSome f id x fr σ with
    | none => rw [hx] at h; cases h
    | some res =>
      obtain ⟨e1, fr1, σ1⟩ := res
      rw [hx] at h
      refine wpIn_block (code_wp hC hn hm x hp id fr σ e1 fr1 σ1 hx g w ow a _ r fun a1 w1 hpost => ?_)
      cases e1 with
      | normal =>
        simp only [Option.some.injEq, Prod.mk.injEq] at h
        obtain ⟨rfl, rfl, rfl⟩ := h
        exact hQ a1 w1 hpost
      | exit id' =>
        dsimp only at h
        show if id' = id then Q .normal a1 w1 else Q (.exit id') a1 w1
        split at h
        · rename_i he
          simp only [Option.some.injEq, Prod.mk.injEq] at h
          obtain ⟨rfl, rfl, rfl⟩ := h
          rw [if_pos he]; exact hQ a1 w1 hpost
        · rename_i he
          simp only [Option.some.injEq, Prod.mk.injEq] at h
          obtain ⟨rfl, rfl, rfl⟩ := h
          rw [if_neg he]; exact hQ a1 w1 hpost
      | ret =>
        simp only [Option.some.injEq, Prod.mk.injEq] at h
        obtain ⟨rfl, rfl, rfl⟩ := h
        exact hQ a1 w1 hpost
  | .loop x, hp => fun k fr σ e fr' σ' h g w ow a Q r hQ => by
    simp only [plansIn] at hp
    simp only [evCode] at h
    exact loop_wp (code_wp hC hn hm x hp) r.ss.slen r.ss.lt hQ h r (Way.refl _ _ _) (Marks.none _ _ _ _)
  | .exit id, _ => fun k fr σ e fr' σ' h g w ow a Q r hQ => by
    simp only [evCode, Option.some.injEq, Prod.mk.injEq] at h
    obtain ⟨rfl, rfl, rfl⟩ := h
    exact wpIn_exit (hQ a w (Post.here r rfl))
  | .ret, _ => fun k fr σ e fr' σ' h g w ow a Q r hQ => by
    simp only [evCode, Option.some.injEq, Prod.mk.injEq] at h
    obtain ⟨rfl, rfl, rfl⟩ := h
    exact wpIn_ret (hQ a w (Post.here r rfl))
  | .label _, _ => fun k fr σ e fr' σ' h => by simp only [evCode] at h; cases h
  | .goto _, _ => fun k fr σ e fr' σ' h => by simp only [evCode] at h; cases h
  | .rangeFunc gop ps as bd, hp => fun k fr σ e fr' σ' h g w ow a Q r hQ => by
    simp only [evCode] at h
    split at h
    · cases h
    rename_i hrd
    have hrd' : rd = none := by cases rd <;> simp_all
    subst hrd'
    exact rangeFunc_wp hC hn h r hQ
  | .scope .., _ => fun k fr σ e fr' σ' h => by simp only [evCode] at h; cases h
  | .refuse _, _ => fun k fr σ e fr' σ' h => by simp only [evCode] at h; cases h

theorem plansOK_body (hp : plansOK P cfg = true) {fn : Func} {c : Code} (hf : P.funcs[f]? = some fn) (hb : fn.body = some c) : plansIn cfg f c = true := by
  have hl : f < P.funcs.size := (Array.getElem?_eq_some_iff.1 hf).1
  have := List.all_eq_true.1 hp f (List.mem_range.2 hl)
  rw [hf] at this
  dsimp only at this
  rw [hb] at this
  exact this

/-- The marks are come to, one by one. -/
theorem leaves_marks {fn : Func} {R : Ending → World → Prop} : ∀ (bs : List Nat) {w : World}, bs.Nodup → (∀ b ∈ bs, w0.heap.size ≤ b ∧ w.heap[b]? = some (.deferred (some []))) → Rel g w ow fr tm σ → Way g0 w0 ow0 g w ow →
    (∀ w', Rel g w' ow fr tm σ → Way g0 w0 ow0 g w' ow → ∃ v, (results fn tm).run P w' = .ok v w' ∧ R (.returned v) w') → LeavesInM (FW none) 0 P fn tm R (bs.map markOf) .returning w
  | [], w, _, _, r, W, hR => hR w r W
  | b :: bs, w, hn, hb, r, W, hR => by
    obtain ⟨k1, k2⟩ := hb b (by simp)
    rw [List.nodup_cons] at hn
    refine ⟨by simp, .inl ⟨b, w.putObj b (.deferred none), rfl, run_takeDeferred k2, ?_⟩⟩
    refine leaves_marks bs hn.2 (fun b' hb' => ?_) (r.other_put k2) (W.other_put k2 k1) hR
    obtain ⟨k3, k4⟩ := hb b' (by simp [hb'])
    refine ⟨k3, ?_⟩
    have e : b' ≠ b := fun e => hn.1 (e ▸ hb')
    rw [World.putObj_heap_other e]; exact k4

/-- A function's body. -/
theorem body_runs (hC : Sound P C) (hm : P.follows .mixedOrders = true) (hp : plansOK P cfg = true) (hn : ∀ (f : FuncId) (fn : Func), P.funcs[f]? = some fn → fn.name ≠ "runtime.NumGoroutine") {n : Nat} {args : List AV} {v : AV} (h : evBody C P cfg n f args σ = some (v, σ'))
    {xs : Array Value} (r : Rel g w ow args xs σ) : Runs P (callFunc f xs) w fun rv w' => ∃ g' ow', Ret g w ow v σ' rv g' w' ow' := by
  unfold evBody at h
  split at h
  case h_2 => cases h
  rename_i fn hf
  split at h
  case h_2 => cases h
  rename_i c hb
  have hent : (callFunc f xs).run P w = .ok (.enter f xs) w := by
    have := hn f fn hf
    simp [callFunc, Sem.run, hf, hb, this]
  refine .inl ⟨f, xs, hent, (callsIn_wide (n := 0)).1 (callsIn_of_wp_marks hf hb trivial ?_)⟩
  have hsz := r.sf.size
  have r0 : Rel g w ow (args ++ List.replicate (fn.ntmps - args.length) .undef) (xs ++ Array.replicate (fn.ntmps - xs.size) undef) σ := by
    refine ⟨r.ss, r.own, by simp [hsz], fun i x hi => ?_⟩
    by_cases hl : i < args.length
    · rw [List.getElem?_append_left hl] at hi
      obtain ⟨u, h1, h2⟩ := r.sf.val i x hi
      exact ⟨u, by rw [Array.getElem?_append_left (by rw [hsz]; exact hl)]; exact h1, h2⟩
    · rw [List.getElem?_append_right (by omega)] at hi
      have hi' := List.getElem?_eq_some_iff.1 hi
      obtain ⟨h1, h2⟩ := hi'
      rw [List.getElem_replicate] at h2; subst h2
      refine ⟨undef, ?_, PV.undef _⟩
      rw [List.length_replicate] at h1
      rw [Array.getElem?_append_right (by omega), Array.getElem?_eq_getElem (by rw [Array.size_replicate]; omega), Array.getElem_replicate]
  have ends : ∀ {fr1 : Fr} {σ1 : St} {a' : Act} {w' : World}, finish P σ.stk.length fn fr1 σ1 = some (v, σ') → Post g w ow { tmps := xs ++ Array.replicate (fn.ntmps - xs.size) undef, defers := [] } fr1 σ1 a' w' →
      LeavesInM (FW none) 0 P fn a'.tmps (fun e w' => match e with | .returned v_1 => ∃ g' ow', Ret g w ow v σ' v_1 g' w' ow' | _ => False) a'.defers .returning w' := by
    intro fr1 σ1 a' w' h hpost
    obtain ⟨g', ow', r1, W1, bs, hds, hnd, hbs⟩ := hpost.out
    rw [List.append_nil] at hds
    rw [hds]
    refine leaves_marks bs hnd (fun b hb => ⟨(hbs b hb).1, (hbs b hb).2.1⟩) r1 W1 fun w'' r2 W2 => ?_
    obtain ⟨rv, g2, ow2, h1, h2⟩ := finish_run r2 W2 r.ss.slen h
    exact ⟨rv, h1, g2, ow2, h2⟩
  split at h
  · rename_i fr1 σ1 he
    exact code_wp (rd := none) hC hn hm c (plansOK_body hp hf hb) 0 _ _ _ _ _ he g w ow _ _ r0 fun a' w' hpost => ends h hpost
  · rename_i fr1 σ1 he
    exact code_wp (rd := none) hC hn hm c (plansOK_body hp hf hb) 0 _ _ _ _ _ he g w ow _ _ r0 fun a' w' hpost => ends h hpost
  · cases h

theorem loopOf_some {h : Nat} {l : LoopA} (e : loopOf σ h = some l) : σ.heap[h]? = some (.loop l) := by
  unfold loopOf at e
  split at e
  · rename_i l' hl; injection e with e; subst e; exact hl
  · cases e

theorem setAll_V : ∀ (ts : List Tmp) (vs : List AV) (xs : List Value) {fr : Fr} {tm : Array Value}, VL g w vs xs → VL g w fr tm.toList →
    VL g w (setAll ts vs fr) ((ts.zip xs).foldl (fun tm (t, v) => tm.setIfInBounds t v) tm).toList
  | [], _, _, fr, tm, _, h => by cases ‹List AV› <;> exact h
  | t :: ts, [], xs, fr, tm, hv, h => by rw [hv.nil_left]; exact h
  | t :: ts, v :: vs, xs, fr, tm, hv, h => by
    obtain ⟨x, xs', rfl, h1, h2⟩ := hv.cons_left
    simp only [setAll, List.zip_cons_cons, List.foldl_cons]
    refine setAll_V ts vs xs' h2 ?_
    refine VL.of_get (by simp [h.length]) fun i y hi => ?_
    rw [Array.toList_setIfInBounds]
    by_cases e : i = t
    · subst e
      have hl : i < fr.length := by
        rcases Nat.lt_or_ge i fr.length with h | h
        · exact h
        · rw [List.getElem?_eq_none (by simpa using h)] at hi; simp at hi
      rw [List.getElem?_set_self hl] at hi
      injection hi with hi; subst hi
      exact ⟨x, by rw [List.getElem?_set_self (by rw [h.length]; exact hl)], h1⟩
    · rw [List.getElem?_set_ne (Ne.symm e)] at hi
      obtain ⟨u, k1, k2⟩ := h.get hi
      exact ⟨u, by rw [List.getElem?_set_ne (Ne.symm e)]; exact k1, k2⟩

theorem look_VL {fr : Fr} {tm : Array Value} (s : SF g w ow fr tm) : VL g w (fr.map AV.look) tm.toList := by
  refine VL.of_get (by rw [List.length_map, Array.length_toList]; exact s.size) fun i v hi => ?_
  rw [List.getElem?_map] at hi
  obtain ⟨x, h1, rfl⟩ := map_some hi
  obtain ⟨y, h2, h3⟩ := s.val i x h1
  exact ⟨y, by rw [Array.getElem?_toList]; exact h2, h3.look⟩

/-- Nobody but the memory owns. -/
def Own.mem (ow : Own) : Own := fun p => match p with | .slot _ => Nobody | p => ow p

theorem Own.mem_sub (ow : Own) : ∀ p b i, ow.mem p b i → ow p b i := by
  intro p b i hp
  cases p with
  | slot j => exact (show Nobody b i from hp).elim
  | stk m j => exact hp
  | heap m j => exact hp

theorem Rel.mem (r : Rel g w ow fr tm σ) {fr' : Fr} {tm' : Array Value} (h : VL g w fr' tm'.toList) : Rel g w ow.mem fr' tm' σ where
  ss := r.ss.own (fun _ _ _ _ h => h) fun _ _ _ _ h => h
  own := ⟨fun p b i hp => r.own.wr _ _ _ (ow.mem_sub _ _ _ hp), fun p b i hp => r.own.box _ _ _ (ow.mem_sub _ _ _ hp), fun p q b i hp hq => r.own.one _ _ _ _ (ow.mem_sub _ _ _ hp) (ow.mem_sub _ _ _ hq)⟩
  sf := ⟨by have := h.length; simpa using this, fun i x hi => by
    obtain ⟨v, h1, h2⟩ := h.get hi
    exact ⟨v, by rw [← Array.getElem?_toList]; exact h1, PV.of h2⟩⟩

/-- A round. -/
theorem round_runs (hC : Sound P C) (hm : P.follows .mixedOrders = true) (hn : ∀ (f : FuncId) (fn : Func), P.funcs[f]? = some fn → fn.name ≠ "runtime.NumGoroutine") {n h b : Nat} {args : List AV} {v : AV} (he : evRound C P cfg n h args σ = some (v, σ'))
    {xs : Array Value} (r : Rel g w ow args xs σ) (hb : g.hb[h]? = some b) : Runs P (Instr.yield b xs) w fun rv w' => ∃ g' ow', Ret g w ow v σ' rv g' w' ow' := by
  unfold evRound at he
  split at he
  case h_2 => cases he
  rename_i l hl
  split at he
  case isFalse => cases he
  rename_i hc
  simp only [Bool.and_eq_true, decide_eq_true_eq] at hc
  obtain ⟨⟨hlen, hpa⟩, hpb⟩ := hc
  split at he
  case h_2 => cases he
  rename_i fr1 σ1 has
  split at he
  case h_2 => cases he
  rename_i l1 hl1
  split at he
  case isFalse => cases he
  rename_i hrdy
  simp only [Bool.and_eq_true, Option.isNone_iff_eq_none] at hrdy
  split at he
  case h_2 => cases he
  rename_i e fr2 σ2 hbd
  split at he
  case h_2 => cases he
  rename_i l2 hl2
  simp only [Option.some.injEq, Prod.mk.injEq] at he
  obtain ⟨rfl, rfl⟩ := he
  obtain ⟨b0, q, hb0, hq⟩ := r.ss.loops _ _ (loopOf_some hl)
  have : b0 = b := Option.some.inj (hb0.symm.trans hb)
  subst this
  have hsz : xs.size = q.params.size := by rw [r.sf.size, hlen, ← hq.params]; simp
  refine .inr (.inr ⟨b0, q.fn, _, q.assign, q.body, run_yield hq.obj hsz, roundIn_of_wpIn trivial ?_⟩)
  have hfold : VL g w (setAll l.params (args.map AV.look) l.fr) ((q.params.zip xs).foldl (fun tmps (t, a) => tmps.setIfInBounds t a) q.tmps).toList := by
    have := setAll_V q.params.toList (args.map AV.look) xs.toList (look_VL r.sf) hq.fr
    rw [← Array.toList_zip, Array.foldl_toList, hq.params] at this
    exact this
  have r0 := r.mem hfold
  rw [hq.assign]
  refine code_wp (rd := some b0) hC hn hm l.assign hpa 0 _ _ _ _ _ has g w ow.mem { tmps := _, defers := [] } _ r0 fun a1 w1 hp1 => ?_
  obtain ⟨g1, ow1, r1, W1, _⟩ := hp1.out
  obtain ⟨b1, q1, hb1, hq1⟩ := r1.ss.loops _ _ (loopOf_some hl1)
  have : b1 = b0 := Option.some.inj (hb1.symm.trans (W1.tr.hb _ _ hb))
  subst this
  have hq1r : q1.state = .ready := by rw [hq1.state]; unfold loopState; rw [hrdy.1]; rfl
  refine ⟨_, run_beginRound hq1.obj hq1r, ?_⟩
  obtain ⟨r2, W2⟩ := r1.setLoop (l' := { l1 with ready := false }) (q' := { q1 with state := .busy }) (loopOf_some hl1) hb1 hq1 hq1.params hq1.assign hq1.body (by unfold loopState; simp [hrdy.2]) hq1.pending rfl rfl
  rw [hq.body]
  refine code_wp (rd := some b1) hC hn hm l.body hpb 0 _ _ _ _ _ hbd g1 _ ow1 a1 _ r2 fun a2 w2 hp2 => ?_
  obtain ⟨g3, ow3, r3, W3, _⟩ := hp2.out
  obtain ⟨b3, q3, hb3, hq3⟩ := r3.ss.loops _ _ (loopOf_some hl2)
  have : b3 = b1 := Option.some.inj (hb3.symm.trans (W3.tr.hb _ _ hb1))
  subst this
  have Wmem : Way g w ow g w ow.mem := Way.only ow.mem_sub
  have W13 : Way g w ow g3 w2 ow3 := ((Wmem.trans W1 r.ss.lt).trans W2 r.ss.lt).trans W3 r.ss.lt
  have fin : ∀ (jump : Option Ex), (jump.isNone = decide (e = .normal)) → (jump = if e = .normal then none else some e) →
      ∃ v w', (Instr.endRound b3 (jump.map Ex.toCode)).run P w2 = .ok v w' ∧ ∃ g' ow', Ret g w ow (.bool (e = .normal)) { AM.setLoop σ2 h { l2 with ready := decide (e = .normal), pending := if e = .normal then none else some e } with stk := σ2.stk.take σ.stk.length } v g' w' ow' := by
    intro jump hj hj'
    refine ⟨_, _, run_endRound (jump.map Ex.toCode) hq3.obj, ?_⟩
    have hjn : (jump.map Ex.toCode).isNone = decide (e = .normal) := by rw [← hj]; cases jump <;> rfl
    obtain ⟨r4, W4⟩ := r3.setLoop (l' := { l2 with ready := decide (e = .normal), pending := if e = .normal then none else some e }) (q' := { q3 with state := if (jump.map Ex.toCode).isNone then .ready else .done, pending := jump.map Ex.toCode }) (loopOf_some hl2) hb3 hq3 hq3.params hq3.assign hq3.body
      (by rw [hjn]; unfold loopState; by_cases hen : e = .normal <;> simp [hen]) (by rw [hj']) rfl rfl
    have r5 := r4.mem (fr' := [.bool (e = .normal)]) (tm' := #[.bool (jump.map Ex.toCode).isNone]) (by rw [hjn]; exact .sc (.bool (decide (e = .normal))) .nil)
    have W5 : Way g w ow g3 (w2.putObj b3 (.loop { q3 with state := if (jump.map Ex.toCode).isNone then .ready else .done, pending := jump.map Ex.toCode })) ow3.mem := (W13.trans W4 r.ss.lt).trans (Way.only ow3.mem_sub) r.ss.lt
    exact ⟨g3.cut σ.stk.length, ow3.mem, r5.cut σ.stk.length rfl, W5.cut r.ss.slen, W5.sb_cut r.ss.slen⟩
  cases e with
  | normal => exact fin none rfl rfl
  | exit id => exact fin (some (.exit id)) rfl rfl
  | ret => exact fin (some .ret) rfl rfl

/-- The functions that are no code of the program do as the configuration says. -/
def PrimOK (P : Program) (cfg : Cfg) : Prop :=
  ∀ (f : FuncId) p, cfg.prim f = some p → ∀ (args : List AV) (σ : St) (v : AV) (σ' : St), p args σ = some (v, σ') → ∀ (g : G) (w : World) (ow : Own) (xs : Array Value), Rel g w ow args xs σ →
    Runs P (callFunc f xs) w fun rv w' => ∃ g' ow', Ret g w ow v σ' rv g' w' ow'

/-- What the abstract machine evaluates, the model computes. -/
theorem ev_sound (hm : P.follows .mixedOrders = true) (hp : plansOK P cfg = true) (hn : ∀ (f : FuncId) (fn : Func), P.funcs[f]? = some fn → fn.name ≠ "runtime.NumGoroutine") (hpr : PrimOK P cfg) : ∀ (n : Nat), Sound P (ev P cfg n)
  | 0 => fun t args σ v σ' he => by simp only [ev] at he; cases he
  | n + 1 => fun t args σ v σ' he g w ow xs r s hs => by
    cases t with
    | fn f =>
      simp only [Tgt.sem, Option.some.injEq] at hs
      subst hs
      simp only [ev] at he
      split at he
      · rename_i p hp'
        exact hpr f p hp' args σ v σ' he g w ow xs r
      · exact body_runs (ev_sound hm hp hn hpr n) hm hp hn he r
    | yield h =>
      simp only [ev] at he
      simp only [Tgt.sem] at hs
      obtain ⟨b, hb, rfl⟩ := map_some hs
      exact round_runs (ev_sound hm hp hn hpr n) hm hn he r hb
end
end Go.AM
/-! The model's own functions, and a call that stands alone. -/
namespace Go.AM
open Go
set_option linter.unusedVariables false
set_option linter.unusedSimpArgs false

def asBytes (σ : St) (x : AV) : Option (List UInt8) :=
  match x with
  | .s .nilS => some []
  | .s (.str l) => some l
  | .list _ 1 es => bytesIn es
  | .row r off len _ => (readCells σ (.ptr r off) len).bind bytesIn
  | _ => none

def primIndexByte : List AV → St → Option (AV × St)
  | [.s (.str l), .s (.int .u8 c)], σ => some (.i (Lib.indexByte l c.toNat.toUInt8), σ)
  | _, _ => none

def primCompare : List AV → St → Option (AV × St)
  | [a, b], σ => match asBytes σ a, asBytes σ b with
    | some x, some y => some (.i (Lib.compareBytes x y), σ)
    | _, _ => none
  | _, _ => none

section
variable {P : Program} {cfg : Cfg} {f : FuncId} {g g' : G} {w w' : World} {ow ow' : Own} {σ σ' : St} {fr fr' : Fr} {tm : Array Value}

theorem Ret.scalar (r : Rel g w ow fr tm σ) (x : Sc) : ∃ g' ow', Ret g w ow (.s x) σ x.toV g' w ow' := by
  let ow' : Own := fun p => match p with | .slot _ => Nobody | p => ow p
  have hsub : ∀ p b i, ow' p b i → ow p b i := by
    intro p b i hp
    cases p with
    | slot j => exact (show Nobody b i from hp).elim
    | stk m j => exact hp
    | heap m j => exact hp
  refine ⟨g, ow', ⟨r.ss.own (fun _ _ _ _ h => h) fun _ _ _ _ h => h, ⟨fun p b i hp => r.own.wr _ _ _ (hsub _ _ _ hp), fun p b i hp => r.own.box _ _ _ (hsub _ _ _ hp), fun p q b i hp hq => r.own.one _ _ _ _ (hsub _ _ _ hp) (hsub _ _ _ hq)⟩, ⟨rfl, fun i y hi => ?_⟩⟩, Way.only hsub, rfl⟩
  cases i with
  | zero => simp at hi; subst hi; exact ⟨_, rfl, PV.of (.sc x .nil)⟩
  | succ i => simp at hi

theorem loadBytes_cells {ns : List Int} {ad : Addr} (h : ∀ (i : Nat) (v : Value), (ns.map (Value.int .u8))[i]? = some v → w.cell? (ad.add i) = some v) :
    (Extern.Bytes.loadBytes ad ns.length .empty).run P w = .ok ⟨(ns.map fun n => UInt8.ofNat n.toNat).toArray⟩ w := by
  rw [Lib.run_loadBytesX w ns ad .empty fun j x hj => h j _ (by rw [List.getElem?_map, hj]; rfl)]
  congr 2
  simp [Lib.bytesOf]

theorem addr_add {a : Addr} (hs : a.spot = none) (i : Nat) : a.add i = ⟨a.block, a.off + i, none⟩ := by
  obtain ⟨b, o, s⟩ := a
  dsimp only at hs; subst hs
  unfold Addr.add; split <;> simp_all

theorem bytes_run (s : SS g w ow σ) {o : Nat → Nat → Prop} {x : AV} {v : Value} {l : List UInt8} (h : asBytes σ x = some l) (hx : PV g w o x v) : (Extern.Bytes.bytesOf v).run P w = .ok ⟨l.toArray⟩ w := by
  have list : ∀ {es : List AV} {ad : Addr} {n c : Nat} {xs : List Value}, bytesIn es = some l → n = es.length → (es = [] ∨ ad.spot = none) → VL g w (es.flatMap AV.cells) xs → (∀ (i : Nat) (v : Value), xs[i]? = some v → w.cell? ⟨ad.block, ad.off + i, none⟩ = some v) →
      (Extern.Bytes.bytesOf (.slice (some ad) n c)).run P w = .ok ⟨l.toArray⟩ w := by
    intro es ad n c xs hb hn hs hv hc
    rw [bytesIn_cells hb] at hv
    obtain ⟨ns, k1, k2⟩ := bytesIn_V hv hb
    subst k1; subst k2
    have hl : ns.length = n := by have := hv.length; simp at this; omega
    show (Extern.Bytes.loadBytes ad n .empty).run P w = _
    rw [← hl]
    exact loadBytes_cells fun i v hi => by
      rcases hs with rfl | hs
      · have hz : ns.length = 0 := by rw [hl, hn]; rfl
        have := (List.getElem?_eq_some_iff.1 hi).1
        simp at this; omega
      · rw [addr_add hs]; exact hc i v hi
  unfold asBytes at h
  split at h
  · injection h with h; subst h
    have := (show V g w (.s .nilS) v from hx).sc_inv
    subst this; rfl
  · injection h with h; subst h
    have := (show V g w (.s (.str _)) v from hx).sc_inv
    subst this; rfl
  · rename_i fl es
    have shared : V g w (.list .sh 1 es) v → (Extern.Bytes.bytesOf v).run P w = .ok ⟨l.toArray⟩ w := by
      intro hV
      cases hV with
      | list h1 h2 h3 h4 h5 h6 h7 h8 h9 _ => exact list h h2 h5 h8 fun i v hi => (h9 i v hi).1
      | lnil _ _ =>
        have : l = [] := by simpa [bytesIn] using h.symm
        subst this; rfl
    cases fl with
    | sh => exact shared hx
    | own => exact shared hx.1
    | full =>
      cases (show V g w (.list .full 1 es) v from hx) with
      | list h1 h2 h3 h4 h5 h6 h7 h8 h9 _ => exact list h h2 h5 h8 fun i v hi => (h9 i v hi).1
    | uniq =>
      obtain ⟨a, cap, xs, u⟩ := hx
      have := u.val
      subst this
      exact list h rfl (.inr u.spot) u.vl u.cell
  · rename_i r off len cap
    obtain ⟨b, c, rfl, hr, _, _⟩ := (show V g w (.row r off len cap) v from hx).row_inv
    cases hc : readCells σ (.ptr r off) len with
    | none => rw [hc] at h; cases h
    | some cs =>
      rw [hc] at h
      simp only [Option.bind_some] at h
      obtain ⟨a, xs, e, hs, hl, hv, hcell, hrd⟩ := read_run s hc (.ptr hr .nil)
      simp only [Value.pointer.injEq, Option.some.injEq] at e
      subst e
      obtain ⟨ns, k1, k2⟩ := bytesIn_V hv h
      subst k1; subst k2
      have hl' : ns.length = len := by have := hv.length; simp at this; omega
      show (Extern.Bytes.loadBytes _ len .empty).run P w = _
      rw [← hl']
      exact loadBytes_cells hrd
  · cases h

/-- The frame of a call, as a list. -/
theorem SF.two {x y : AV} {xs : Array Value} (s : SF g w ow [x, y] xs) : ∃ u v, xs = #[u, v] ∧ PV g w (ow (.slot 0)) x u ∧ PV g w (ow (.slot 1)) y v := by
  obtain ⟨u, h1, h2⟩ := s.val 0 x rfl
  obtain ⟨v, h3, h4⟩ := s.val 1 y rfl
  refine ⟨u, v, ?_, h2, h4⟩
  have hsz : xs.size = 2 := s.size
  apply Array.ext_getElem?
  intro i
  match i with
  | 0 => rw [h1]; rfl
  | 1 => rw [h3]; rfl
  | i + 2 => rw [Array.getElem?_eq_none (by omega)]; simp

theorem indexByte_prim {fn : Func} (hf : P.funcs[f]? = some fn) (hname : (fn.name == "runtime.NumGoroutine") = false) (hb : fn.body.isNone = true) (hn : Extern.findNext fn = none) (he : Extern.find fn = some Extern.BytealgIndexByte.indexByte)
    {args : List AV} {v : AV} (h : primIndexByte args σ = some (v, σ')) {xs : Array Value} (r : Rel g w ow args xs σ) : Runs P (callFunc f xs) w fun rv w' => ∃ g' ow', Ret g w ow v σ' rv g' w' ow' := by
  unfold primIndexByte at h
  split at h
  case h_2 => cases h
  rename_i l c
  simp only [Option.some.injEq, Prod.mk.injEq] at h
  obtain ⟨rfl, rfl⟩ := h
  obtain ⟨u, v, rfl, h1, h2⟩ := r.sf.two
  have e1 := (show V g w (.s (.str l)) u from h1).sc_inv
  have e2 := (show V g w (.s (.int .u8 c)) v from h2).sc_inv
  subst e1; subst e2
  refine .inr (.inl ⟨_, w, ?_, Ret.scalar r (.int .i64 (Lib.indexByte l c.toNat.toUInt8))⟩)
  rw [run_callFunc_extern hf hname hb hn he]
  show (Sem.run P (Extern.BytealgIndexByte.indexByte #[.string ⟨l.toArray⟩, .int .u8 c]) w).andThen _ = _
  rw [run_indexByte_string, Lib.firstIdx_eq]
  rfl

theorem compare_prim {fn : Func} (hf : P.funcs[f]? = some fn) (hname : (fn.name == "runtime.NumGoroutine") = false) (hb : fn.body.isNone = true) (hn : Extern.findNext fn = none) (he : Extern.find fn = some Extern.BytealgCompare.compare)
    {args : List AV} {v : AV} (h : primCompare args σ = some (v, σ')) {xs : Array Value} (r : Rel g w ow args xs σ) : Runs P (callFunc f xs) w fun rv w' => ∃ g' ow', Ret g w ow v σ' rv g' w' ow' := by
  unfold primCompare at h
  split at h
  case h_2 => cases h
  rename_i x y
  split at h
  case h_2 => cases h
  rename_i lx ly hx hy
  simp only [Option.some.injEq, Prod.mk.injEq] at h
  obtain ⟨rfl, rfl⟩ := h
  obtain ⟨u, v, rfl, h1, h2⟩ := r.sf.two
  refine .inr (.inl ⟨_, w, ?_, Ret.scalar r (.int .i64 (Lib.compareBytes lx ly))⟩)
  rw [run_callFunc_extern hf hname hb hn he]
  show (Sem.run P (do pure (goInt (Extern.BytealgCompare.cmp (← Extern.Bytes.bytesOf u) (← Extern.Bytes.bytesOf v)))) w).andThen _ = _
  rw [Sem.run_bind, bytes_run r.ss hx h1]
  simp only [Result.andThen_ok]
  rw [Sem.run_bind, bytes_run r.ss hy h2]
  simp only [Result.andThen_ok]
  rw [Lib.cmp_eq]
  rfl

/-! ### A call that stands alone -/
def G.none : G := ⟨[], [], fun _ _ => False⟩
def Own.none : Own := fun _ => Nobody

theorem rel_none (w : World) {args : List AV} {xs : Array Value} (hl : xs.size = args.length) (h : ∀ (i : Nat) (a : AV), args[i]? = some a → ∃ v, xs[i]? = some v ∧ V G.none w a v) : Rel G.none w Own.none args xs ⟨[], []⟩ where
  ss := ⟨rfl, rfl, by simp [G.none], fun _ _ h => h.elim, fun n cs h => by simp at h, fun n cs h => by simp at h, fun n es c h => by simp at h, fun n l h => by simp at h, fun n l h => by simp at h, fun n h => by simp at h⟩
  own := ⟨fun _ _ _ h => h.elim, fun _ _ _ h => h.elim, fun _ _ _ _ h => h.elim⟩
  sf := ⟨hl, fun i a hi => by obtain ⟨v, h1, h2⟩ := h i a hi; exact ⟨v, h1, PV.of h2⟩⟩

theorem may_none {b o : Nat} (h : May G.none Own.none b o) : False := by
  rcases h with ⟨_, h⟩ | ⟨_, h⟩ <;> exact h

/-- A call without a hand in what was there: all of it is as before. -/
theorem calls_alone {C : CallF} (hC : Sound P C) {fn : Func} (hf : P.funcs[f]? = some fn) (hname : fn.name ≠ "runtime.NumGoroutine") (hb : fn.body.isSome = true) {args : List AV} {x : Sc} {σ' : St} (h : C (.fn f) args ⟨[], []⟩ = some (.s x, σ')) (w : World) {xs : Array Value} (hl : xs.size = args.length)
    (hx : ∀ (i : Nat) (a : AV), args[i]? = some a → ∃ v, xs[i]? = some v ∧ V G.none w a v) : Calls P f xs w fun e w' => e = .returned x.toV ∧ RowKit.Below w.heap.size w w' := by
  have hrun := hC (.fn f) args _ _ _ h G.none w Own.none xs (rel_none w hl hx) _ rfl
  have hent : (callFunc f xs).run P w = .ok (.enter f xs) w := by
    have hb' : fn.body.isNone = false := by cases hbb : fn.body <;> simp_all
    simp [callFunc, Sem.run, hf, hname]
    cases hbb : fn.body with
    | none => simp [hbb] at hb
    | some c => simp [Sem.run]
  rcases hrun with ⟨f', args', e1, hc⟩ | ⟨rv, w', he, _⟩ | ⟨l, fn', tm', as', bd', he, _⟩
  · rw [hent] at e1
    simp only [Result.ok.injEq, Next.enter.injEq, and_true] at e1
    obtain ⟨rfl, rfl⟩ := e1
    refine Calls.mono hc fun e w' he => ?_
    cases e with
    | returned rv =>
      obtain ⟨g', ow', hr⟩ := he
      obtain ⟨u, h1, h2⟩ := hr.rel.sf.val 0 (.s x) rfl
      simp at h1; subst h1
      have := (show V g' w' (.s x) rv from h2).sc_inv
      subst this
      exact ⟨rfl, hr.way.tr.env.1, hr.way.tr.env.2.1, hr.way.tr.env.2.2, hr.way.tr.size, fun b hbl => hr.way.tr.obj b hbl fun o hm => may_none hm⟩
    | _ => exact he.elim
  · rw [hent] at he; cases he
  · rw [hent] at he; cases he
end
end Go.AM
/-! Values told less sharply: who owns a slice, is it nil. -/
namespace Go.AM
open Go
set_option linter.unusedVariables false
set_option linter.unusedSimpArgs false

inductive WkL : List AV → List AV → Prop
  | nil : WkL [] []
  | same {a : AV} {as bs : List AV} : WkL as bs → WkL (a :: as) (a :: bs)
  | nilS {sz : Nat} {as bs : List AV} : 0 < sz → WkL as bs → WkL (.s .nilS :: as) (.list .sh sz [] :: bs)
  | full {fl : Fl} {sz : Nat} {es : List AV} {as bs : List AV} : WkL as bs → WkL (.list fl sz es :: as) (.list .sh sz es :: bs)
  | list {fl : Fl} {sz : Nat} {es es' : List AV} {as bs : List AV} : WkL (es.flatMap AV.cells) (es'.flatMap AV.cells) → es'.length = es.length → Elems sz es' → AV.under.go 0 es' = true → WkL as bs → WkL (.list fl sz es :: as) (.list .sh sz es' :: bs)
  | agg {cs cs' : List AV} {as bs : List AV} : WkL cs cs' → (∀ c ∈ cs', c.isCell = true) → WkL as bs → WkL (.agg cs :: as) (.agg cs' :: bs)
  | tup {cs cs' : List AV} {as bs : List AV} : WkL cs cs' → WkL as bs → WkL (.tup cs :: as) (.tup cs' :: bs)
  | rop {cs cs' : List AV} {as bs : List AV} : WkL cs cs' → (∀ c ∈ cs', c.isCell = true) → AV.under.go 0 cs' = true → WkL as bs → WkL (.rop cs :: as) (.rop cs' :: bs)

theorem WkL.refl : ∀ (l : List AV), WkL l l
  | [] => .nil
  | _ :: l => .same (WkL.refl l)

theorem WkL.app {as bs cs ds : List AV} (h : WkL as bs) (h' : WkL cs ds) : WkL (as ++ cs) (bs ++ ds) := by
  induction h with
  | nil => exact h'
  | same _ ih => exact .same ih
  | nilS h _ ih => exact .nilS h ih
  | full _ ih => exact .full ih
  | list h1 h2 h3 h4 _ _ ih => exact .list h1 h2 h3 h4 ih
  | agg h1 h2 _ _ ih => exact .agg h1 h2 ih
  | tup h1 _ _ ih => exact .tup h1 ih
  | rop h1 h2 h3 _ _ ih => exact .rop h1 h2 h3 ih

theorem VL.full_sh {g : G} {w : World} {fl : Fl} {sz : Nat} {es : List AV} {v : Value} (h : V g w (.list fl sz es) v) : V g w (.list .sh sz es) v := by
  cases h with
  | list h1 h2 h3 h4 h5 h6 h7 h8 h9 _ => exact .list (.inl rfl) h2 h3 h4 h5 h6 h7 h8 h9 .nil
  | lnil h1 _ => exact .lnil h1 .nil

theorem VL.weak {g : G} {w : World} {as bs : List AV} (h : WkL as bs) : ∀ {vs : List Value}, VL g w as vs → VL g w bs vs := by
  induction h with
  | nil => exact fun h => h
  | same _ ih =>
    intro vs hv
    obtain ⟨v, vs', rfl, h1, h2⟩ := hv.cons_left
    exact VL.cons_of h1 (ih h2)
  | nilS h _ ih =>
    intro vs hv
    cases hv with
    | sc _ t => exact .lnil h (ih t)
  | full _ ih =>
    intro vs hv
    obtain ⟨v, vs', rfl, h1, h2⟩ := hv.cons_left
    exact VL.cons_of h1.full_sh (ih h2)
  | list h1 h2 h3 h4 _ ih1 ih =>
    intro vs hv
    obtain ⟨v, vs', rfl, k1, k2⟩ := hv.cons_left
    refine VL.cons_of ?_ (ih k2)
    cases k1.full_sh with
    | list c1 c2 c3 c4 c5 c6 c7 c8 c9 _ => exact .list (.inl rfl) (by rw [c2, h2]) c3 c4 (c5.imp (fun e => List.length_eq_zero_iff.1 (by rw [h2, e]; rfl)) id) h3 h4 (ih1 c8) c9 .nil
    | lnil c1 _ =>
      have : _ = [] := List.length_eq_zero_iff.1 (by simpa using h2)
      subst this
      exact .lnil c1 .nil
  | agg h1 h2 _ ih1 ih =>
    intro vs hv
    cases hv with
    | agg c1 c2 t => exact .agg h2 (ih1 c2) (ih t)
  | tup h1 _ ih1 ih =>
    intro vs hv
    cases hv with
    | tup c2 t => exact .tup (ih1 c2) (ih t)
  | rop h1 h2 h3 _ ih1 ih =>
    intro vs hv
    cases hv with
    | rop c1 c2 c3 c4 c5 t => exact .rop c1 h2 h3 (ih1 c4) c5 (ih t)

theorem taken_fst (fr : Fr) (i : Nat) : (taken false fr (.tmp i)).1 = (fr.getD i .undef).sh := by
  simp only [taken, Bool.false_eq_true, if_false]
  split
  · rename_i h; rw [h]; rfl
  · rfl

theorem takenF_set (fr : Fr) (i : Nat) (b : AV) : (taken false fr (.tmp i)).2.set i b = fr.set i b := by
  simp only [taken, Bool.false_eq_true, if_false]
  split
  · simp
  · rfl

/-- A value of the frame is told less sharply. -/
theorem Rel.weakAt {g : G} {w : World} {ow : Own} {fr : Fr} {tm : Array Value} {σ : St} (r : Rel g w ow fr tm σ) {i : Nat} {a b : AV} (hi : fr[i]? = some a) (h : WkL [a.sh] [b]) :
    ∃ g' ow', Rel g' w ow' (fr.set i b) tm σ ∧ Way g w ow g' w ow' ∧ g'.sb = g.sb ∧ g'.hb = g.hb := by
  obtain ⟨g1, ow1, h1, h2, h3, h4, h5, h6, h7, h8, h9⟩ := taken_false (a := ⟨tm, []⟩) r (.tmp i)
  have hg : fr.getD i .undef = a := by simp [List.getD, hi]
  rw [taken_fst, hg] at h2
  have hl : i < fr.length := (List.getElem?_eq_some_iff.1 hi).1
  have hli : i < tm.size := by rw [r.sf.size]; exact hl
  have hv : V g1 w b (tm.getD i undef) := VL.weak h h2
  refine ⟨g1, ow1, ⟨h1.ss, h1.own, ?_⟩, ⟨h3, fun b o hm => .inl ?_, fun b o hw => ?_, fun b hb => .inl (h9 ▸ hb)⟩, h8, h9⟩
  · have hs := h1.sf.set (d := i) (ow' := ow1) (PV.of hv) fun _ _ => rfl
    rw [takenF_set] at hs
    have e : tm.setIfInBounds i (tm.getD i undef) = tm := by
      apply Array.ext_getElem?
      intro j
      by_cases e : j = i
      · subst e; rw [Array.getElem?_setIfInBounds_self_of_lt hli]; simp [Array.getD, hli]
      · rw [Array.getElem?_setIfInBounds_ne (Ne.symm e)]
    have e' : ({ tmps := tm, defers := [] } : Act).tmps = tm := rfl
    rw [e', e] at hs
    exact hs
  · rcases hm with ⟨k1, k2⟩ | ⟨p, hp⟩
    · exact .inl ⟨h6 b k1, h5 b o k2⟩
    · exact .inr ⟨p, h4 p b o hp⟩
  · rcases h7 b o hw with h | ⟨p, hp⟩
    · exact .inr h
    · exact .inl (.inr ⟨p, hp⟩)
end Go.AM
/-! The abstract machine as a predicate transformer: calls, ranges over maps in whatever order, regions with a tree of orders. -/
namespace Go.AM
open Go
set_option linter.unusedVariables false

abbrev CallW := Tgt → List AV → St → (AV → St → Prop) → Prop

def noC : CallF := fun _ _ _ => none

/-- The call that an operation is, if it calls a value. -/
def callOf : Op → Option (Call × Operand)
  | .call c => match c.callee with
    | .value g => some (c, g)
    | _ => none
  | _ => none

def setHeap (σ : St) (n : Nat) (o : HObj) : St := { σ with heap := σ.heap.set n o }

def iterOf (σ : St) (x : AV) : Option (Nat × IterA) :=
  match x with
  | .ptr (.heap n) 0 => match σ.heap[n]? with
    | some (.iter i) => some (n, i)
    | _ => none
  | _ => none

/-- Of an operation: what must hold, that K holds of whatever comes. -/
def opW (C : CallW) (P : Program) (cfg : Cfg) (f : FuncId) (o : Oper) (fr : Fr) (σ : St) (K : AV → Fr → St → Prop) : Prop :=
  match o.op with
  | .range t x => match P.underlying t, seen fr x with
    | some (.map ..), .map h => match mapOf σ (.map h) with
      | some (_, c) => K (.ptr (.heap σ.heap.length) 0) fr { σ with heap := σ.heap ++ [.iter ⟨some h, c, [], c⟩] }
      | none => False
    | some (.map ..), .s .nilM => K (.ptr (.heap σ.heap.length) 0) fr { σ with heap := σ.heap ++ [.iter ⟨none, 0, [], 0⟩] }
    | _, _ => False
  | .next x false => match iterOf σ (seen fr x) with
    | some (n, i) => match i.map with
      | none => K (.tup [.bool false]) fr σ
      | some h => match mapOf σ (.map h) with
        | some (es, c) => (i.seen = [] ∨ es = [] ∨ ∃ e ∈ es, e.born < i.stepped) ∧
            ((∀ e ∈ es, e.born ∈ i.seen ∨ i.since ≤ e.born) → K (.tup [.bool false]) fr σ) ∧
            ∀ e ∈ es, e.born ∉ i.seen → K (.tup [.bool true, e.key, e.val]) fr (setHeap σ n (.iter { i with seen := i.seen ++ [e.born], stepped := c }))
        | none => False
    | none => False
  | .entry x => match iterOf σ (seen fr x) with
    | some (n, i) => match i.map, i.seen.getLast? with
      | some h, some b => match mapOf σ (.map h) with
        | some (es, c) => c = i.stepped ∧ match es.find? (fun e => e.born == b) with
          | some e => K (.tup [e.key, e.val]) fr σ
          | none => False
        | none => False
      | _, _ => False
    | none => False
  | op => match callOf op with
    | some (c, g) => match seen fr g with
      | .fn (.func h) first captured => C (.fn h) (first ++ (takenAll fr c.args.toList).1 ++ captured) σ fun v σ' => K v (takenAll fr c.args.toList).2 σ'
      | .yield h => C (.yield h) (takenAll fr c.args.toList).1 σ fun v σ' => K v (takenAll fr c.args.toList).2 σ'
      | _ => False
    | none => match evOp noC P cfg f o fr σ with
      | some (v, fr', σ') => K v fr' σ'
      | none => False

def stepW (C : CallW) (P : Program) (cfg : Cfg) (f : FuncId) (ops : Array Oper) (i : Nat) (fr : Fr) (σ : St) (K : Fr → St → Prop) : Prop :=
  match ops[i]? with
  | none => False
  | some o => match guardA ops fr o with
    | some true => opW C P cfg f o (settle fr (settled o.op)) σ fun v fr' σ' => K (putA o.dst v fr') σ'
    | some false => K (putA o.dst (.tup []) fr) σ
    | none => False

/-- An empty list that may be nil, and nil. -/
def maybeNil : AV → AV → Bool
  | .list .sh _ [], .s .nilS => true
  | .s .nilS, .list .sh _ [] => true
  | _, _ => false

def isEq : BinOp → Bool
  | .eql | .neq => true
  | _ => false

def maybeOf (P : Program) (fr : Fr) : Op → Bool
  | .binOp op t x y _ => isEq op && typeKind P t == some 1 && maybeNil (seen fr x) (seen fr y)
  | _ => false

/-- Is something asked that is not known: is an empty slice nil? -/
def maybeW (P : Program) (ops : Array Oper) (i : Nat) (fr : Fr) : Bool :=
  match ops[i]? with
  | some o => (match guardA ops fr o with
    | some true => true
    | _ => false) && maybeOf P fr o.op
  | none => false

def opsW (C : CallW) (P : Program) (cfg : Cfg) (f : FuncId) (ops : Array Oper) : List Nat → Fr → St → (Fr → St → Prop) → Prop
  | [], fr, σ, K => K fr σ
  | i :: rest, fr, σ, K => stepW C P cfg f ops i fr σ (fun fr σ => opsW C P cfg f ops rest fr σ K) ∨
      (maybeW P ops i fr = true ∧ ∀ b, opsW C P cfg f ops rest (putA (dstOf ops i) (.bool b) fr) σ K)

/-- A tree of orders: readers come as they are told; of what moves any may come first that is told beside the others. -/
inductive PT where
  | done
  | rd (i : Nat) (rest : PT)
  | mv (i : Nat) (rest alt : PT)
  | stop
  deriving Inhabited

/-- Of each operation all that come ahead of it for sure, by way of others too. -/
def closeMasks : List Oper → List Nat → List Nat
  | [], acc => acc
  | o :: os, acc => closeMasks os (acc ++ [o.after.toList.foldl (fun m e => if Region.binds .any e then m ||| 2 ^ e.on ||| acc.getD e.on 0 else m) 0])

/-- Is it sure that j comes behind k? -/
def hangs (ops : Array Oper) (j k : Nat) : Bool := ((closeMasks ops.toList []).getD j 0).testBit k

def planW (C : CallW) (P : Program) (cfg : Cfg) (f : FuncId) (ops : Array Oper) : PT → Fr → St → List (Nat × (St → Bool)) → (Fr → St → Prop) → Prop
  | .done, fr, σ, _, K => K fr σ
  | .rd i rest, fr, σ, chk, K => match readV noC P cfg f ops i fr σ with
    | some v => planW C P cfg f ops rest (putA (dstOf ops i) v fr) σ (if depA ops i fr then (i, fun σ' => sameV (readV noC P cfg f ops i fr σ') v) :: chk else chk) K
    | none => False
  | .mv i rest alt, fr, σ, chk, K =>
    (stepW C P cfg f ops i fr σ fun fr' σ' => (chk.filter fun c => !hangs ops i c.1).all (fun c => c.2 σ') = true ∧ planW C P cfg f ops rest fr' σ' (chk.filter fun c => !hangs ops i c.1) K) ∧
    planW C P cfg f ops alt fr σ chk K
  | .stop, _, _, _, _ => True

def PT.alts : PT → List Nat
  | .mv i _ alt => i :: alt.alts
  | _ => []

def PT.depth : PT → Nat
  | .rd _ rest => rest.depth + 1
  | .mv _ rest alt => max (rest.depth + 1) alt.depth
  | _ => 0

/-- 'top': no branch of others. -/
def treeFast (is : List Info) : PT → Bool → Nat → Bool
  | .done, top, listed => top && allFrom (fun I i => !I.ready i listed) is 0
  | .rd i rest, top, listed => top && match nth is i with
    | none => false
    | some I => I.ready i listed && I.rd && allFrom (fun J j => j == i || listed.testBit j || J.edges.testBit i || I.apart J) is 0 && treeFast is rest true (listed ||| 2 ^ i)
  | .mv i rest alt, top, listed => (!top || allFrom (fun J j => j == i || alt.alts.contains j || !J.ready j listed) is 0) && (match nth is i with
    | none => false
    | some I => I.ready i listed && !I.rd) && treeFast is rest true (listed ||| 2 ^ i) && treeFast is alt false listed
  | .stop, top, _ => !top

abbrev Trees := FuncId → Nat → PT

def treesIn (cfg : Cfg) (tr : Trees) (f : FuncId) : Code → Bool
  | .region id ops true => (match tr f id with
    | .stop => true
    | t => decide (t.depth ≤ ops.size) && treeFast (ops.toList.map (infoOf cfg f ops)) t true 0)
  | .seq a b => treesIn cfg tr f a && treesIn cfg tr f b
  | .cond _ a b => treesIn cfg tr f a && treesIn cfg tr f b
  | .block _ b => treesIn cfg tr f b
  | .loop b => treesIn cfg tr f b
  | .rangeFunc _ _ a b => treesIn cfg tr f a && treesIn cfg tr f b
  | _ => true

def treesOK (P : Program) (cfg : Cfg) (tr : Trees) : Bool :=
  (List.range P.funcs.size).all fun f => match P.funcs[f]? with
    | some fn => match fn.body with
      | some c => treesIn cfg tr f c
      | none => true
    | none => true

abbrev KC := Ex → Fr → St → Prop

/-- What of a loop's round goes on to K. -/
def roundK (I : Fr → St → Prop) (K : KC) : KC := fun e fr σ => match e with
  | .normal => I fr σ
  | .exit id => K (.exit id) fr σ
  | .ret => K .ret fr σ

def blockK (id : Nat) (K : KC) : KC := fun e fr σ => match e with
  | .normal => K .normal fr σ
  | .exit id' => if id' = id then K .normal fr σ else K (.exit id') fr σ
  | .ret => K .ret fr σ

def loopW (body : Fr → St → KC → Prop) (mask : List Bool) (n0 : Nat) (fr : Fr) (σ : St) (K : KC) : Prop :=
  ∀ I : Fr → St → Prop, (∀ fr σ, underL n0 (keep mask fr) = true → body (keep mask fr) { σ with stk := σ.stk.take n0 } (roundK I K) → I fr σ) → I fr σ

def isStop : PT → Bool
  | .stop => true
  | _ => false

def codeW (C : CallW) (P : Program) (cfg : Cfg) (tr : Trees) (rd : Bool) (f : FuncId) : Nat → Code → Fr → St → KC → Prop
  | _, .skip, fr, σ, K => K .normal fr σ
  | _, .region _ ops false, fr, σ, K => opsW C P cfg f ops (List.range ops.size) fr σ (K .normal)
  | _, .region id ops true, fr, σ, K => isStop (tr f id) = false ∧ planW C P cfg f ops (tr f id) fr σ [] (K .normal)
  | k, .seq a b, fr, σ, K => codeW C P cfg tr rd f k a fr σ (roundK (fun fr σ => codeW C P cfg tr rd f k b fr σ K) K)
  | k, .cond c a b, fr, σ, K => match opnd fr c with
    | .s (.bool x) => (x = true → codeW C P cfg tr rd f k a fr σ K) ∧ (x = false → codeW C P cfg tr rd f k b fr σ K)
    | _ => False
  | _, .block id b, fr, σ, K => codeW C P cfg tr rd f id b fr σ (blockK id K)
  | k, .loop b, fr, σ, K => loopW (codeW C P cfg tr rd f k b) (cfg.mask f k) σ.stk.length fr σ K
  | _, .exit id, fr, σ, K => K (.exit id) fr σ
  | _, .ret, fr, σ, K => K .ret fr σ
  | _, .rangeFunc g ps a b, fr, σ, K => rd = false ∧
    match seen fr g with
    | .fn (.func h) first captured => hasBody P h = true ∧
      C (.fn h) (first ++ [.yield σ.heap.length] ++ captured) { σ with heap := σ.heap ++ [.loop { fid := f, fr := fr.map lasting, params := ps.toList, assign := a, body := b, ready := true, pending := none }] }
        fun _ σ' => match σ'.heap[σ.heap.length]? with
          | some (.loop l) => (l.ready || l.pending.isSome) = true ∧ K (l.pending.getD .normal) fr { σ' with heap := σ'.heap.set σ.heap.length .dead }
          | _ => False
    | _ => False
  | _, _, _, _, _ => False

def finishW (P : Program) (base : Nat) (fn : Func) (K : AV → St → Prop) : KC := fun e fr σ => match e with
  | .exit _ => False
  | _ => match finish P base fn fr σ with
    | some (v, σ') => K v σ'
    | none => False

def bodyW (C : CallW) (P : Program) (cfg : Cfg) (tr : Trees) (f : FuncId) (args : List AV) (σ : St) (K : AV → St → Prop) : Prop :=
  match P.funcs[f]? with
  | some fn => match fn.body with
    | some c => codeW C P cfg tr false f 0 c (args ++ List.replicate (fn.ntmps - args.length) .undef) σ (finishW P σ.stk.length fn K)
    | none => False
  | none => False

def roundW (C : CallW) (P : Program) (cfg : Cfg) (tr : Trees) (h : Nat) (args : List AV) (σ : St) (K : AV → St → Prop) : Prop :=
  match loopOf σ h with
  | some l => args.length = l.params.length ∧ treesIn cfg tr l.fid l.assign = true ∧ treesIn cfg tr l.fid l.body = true ∧
      codeW C P cfg tr true l.fid 0 l.assign (setAll l.params (args.map AV.look) l.fr) σ fun e fr σ1 => e = .normal ∧ match loopOf σ1 h with
        | some l1 => l1.ready = true ∧ l1.pending = none ∧ codeW C P cfg tr true l.fid 0 l.body fr (setLoop σ1 h { l1 with ready := false }) fun e _ σ' => match loopOf σ' h with
          | some l2 => K (.bool (e = .normal)) { setLoop σ' h { l2 with ready := decide (e = .normal), pending := if e = .normal then none else some e } with stk := σ'.stk.take σ.stk.length }
          | none => False
        | none => False
  | none => False

def unfoldW (C : CallW) (P : Program) (cfg : Cfg) (tr : Trees) : CallW := fun t args σ K =>
  match t with
  | .fn f => match cfg.prim f with
    | some p => match p args σ with
      | some (v, σ') => K v σ'
      | none => False
    | none => bodyW C P cfg tr f args σ K
  | .yield h => roundW C P cfg tr h args σ K

/-- What holds of calls: what their code does; what is told less sharply of what they are given, and of what they bring. -/
structure ClosedW (P : Program) (cfg : Cfg) (tr : Trees) (X : CallW) : Prop where
  unf : ∀ t args σ K, unfoldW X P cfg tr t args σ K → X t args σ K
  arg : ∀ t (args : List AV) (i : Nat) (a b : AV) σ K, args[i]? = some a → WkL [a.sh] [b] → X t (args.set i b) σ K → X t args σ K
  res : ∀ t args σ (K : AV → St → Prop), X t args σ (fun v s => ∃ b, (b = v ∨ WkL [v.sh] [b]) ∧ K b s) → X t args σ K

/-- What a call must be, that K holds of whatever it comes to. -/
def EvW (P : Program) (cfg : Cfg) (tr : Trees) : CallW := fun t args σ K => ∀ X : CallW, ClosedW P cfg tr X → X t args σ K

/-! ### Greater and less -/
section
variable {P : Program} {cfg : Cfg} {tr : Trees} {f : FuncId} {C C' : CallW} {ops : Array Oper}

def LeC (C C' : CallW) : Prop := ∀ t args σ (K K' : AV → St → Prop), (∀ v s, K v s → K' v s) → C t args σ K → C' t args σ K'

theorem opW_mono (hC : LeC C C') {o : Oper} {fr : Fr} {σ : St} {K K' : AV → Fr → St → Prop} (hK : ∀ v fr s, K v fr s → K' v fr s) (h : opW C P cfg f o fr σ K) : opW C' P cfg f o fr σ K' := by
  unfold opW at h ⊢
  split at h
  · split at h
    · split at h
      · exact hK _ _ _ h
      · exact h.elim
    · exact hK _ _ _ h
    · exact h.elim
  · split at h
    · split at h
      · exact hK _ _ _ h
      · split at h
        · exact ⟨h.1, fun k => hK _ _ _ (h.2.1 k), fun e he hs => hK _ _ _ (h.2.2 e he hs)⟩
        · exact h.elim
    · exact h.elim
  · split at h
    · split at h
      · split at h
        · refine ⟨h.1, ?_⟩
          have h2 := h.2
          split at h2
          · exact hK _ _ _ h2
          · exact h2.elim
        · exact h.elim
      · exact h.elim
    · exact h.elim
  · split at h
    · split at h
      · exact hC _ _ _ _ _ (fun v s k => hK _ _ _ k) h
      · exact hC _ _ _ _ _ (fun v s k => hK _ _ _ k) h
      · exact h.elim
    · split at h
      · exact hK _ _ _ h
      · exact h.elim

theorem stepW_mono (hC : LeC C C') {i : Nat} {fr : Fr} {σ : St} {K K' : Fr → St → Prop} (hK : ∀ fr s, K fr s → K' fr s) (h : stepW C P cfg f ops i fr σ K) : stepW C' P cfg f ops i fr σ K' := by
  unfold stepW at h ⊢
  split at h
  · exact h.elim
  · split at h
    · exact opW_mono hC (fun _ _ _ k => hK _ _ k) h
    · exact hK _ _ h
    · exact h.elim

theorem opsW_mono (hC : LeC C C') : ∀ (l : List Nat) {fr : Fr} {σ : St} {K K' : Fr → St → Prop}, (∀ fr s, K fr s → K' fr s) → opsW C P cfg f ops l fr σ K → opsW C' P cfg f ops l fr σ K'
  | [], fr, σ, K, K', hK, h => hK _ _ h
  | i :: l, fr, σ, K, K', hK, h => h.imp (fun h => stepW_mono hC (fun fr s k => opsW_mono hC l hK k) h) fun h => ⟨h.1, fun b => opsW_mono hC l hK (h.2 b)⟩

theorem planW_mono (hC : LeC C C') : ∀ (t : PT) {fr : Fr} {σ : St} {chk : List (Nat × (St → Bool))} {K K' : Fr → St → Prop}, (∀ fr s, K fr s → K' fr s) → planW C P cfg f ops t fr σ chk K → planW C' P cfg f ops t fr σ chk K'
  | .done, fr, σ, chk, K, K', hK, h => hK _ _ h
  | .rd i rest, fr, σ, chk, K, K', hK, h => by
    simp only [planW] at h ⊢
    split at h
    · exact planW_mono hC rest hK h
    · exact h.elim
  | .mv i rest alt, fr, σ, chk, K, K', hK, h => ⟨stepW_mono hC (fun fr s k => ⟨k.1, planW_mono hC rest hK k.2⟩) h.1, planW_mono hC alt hK h.2⟩
  | .stop, fr, σ, chk, K, K', hK, h => trivial

theorem roundK_mono {I I' : Fr → St → Prop} {K K' : KC} (hI : ∀ fr s, I fr s → I' fr s) (hK : ∀ e fr s, K e fr s → K' e fr s) : ∀ e fr s, roundK I K e fr s → roundK I' K' e fr s := by
  intro e fr s h
  cases e with
  | normal => exact hI _ _ h
  | exit id => exact hK _ _ _ h
  | ret => exact hK _ _ _ h

theorem blockK_mono {id : Nat} {K K' : KC} (hK : ∀ e fr s, K e fr s → K' e fr s) : ∀ e fr s, blockK id K e fr s → blockK id K' e fr s := by
  intro e fr s h
  cases e with
  | normal => exact hK _ _ _ h
  | exit id' =>
    simp only [blockK] at h ⊢
    by_cases e : id' = id
    · rw [if_pos e] at h ⊢; exact hK _ _ _ h
    · rw [if_neg e] at h ⊢; exact hK _ _ _ h
  | ret => exact hK _ _ _ h

theorem codeW_mono (hC : LeC C C') {rd : Bool} : ∀ (c : Code) {k : Nat} {fr : Fr} {σ : St} {K K' : KC}, (∀ e fr s, K e fr s → K' e fr s) → codeW C P cfg tr rd f k c fr σ K → codeW C' P cfg tr rd f k c fr σ K'
  | .skip, k, fr, σ, K, K', hK, h => hK _ _ _ h
  | .region id ops false, k, fr, σ, K, K', hK, h => by
    simp only [codeW] at h ⊢
    exact opsW_mono hC _ (fun _ _ k => hK _ _ _ k) h
  | .region id ops true, k, fr, σ, K, K', hK, h => by
    simp only [codeW] at h ⊢
    exact ⟨h.1, planW_mono hC _ (fun _ _ k => hK _ _ _ k) h.2⟩
  | .seq a b, k, fr, σ, K, K', hK, h => by
    simp only [codeW] at h ⊢
    exact codeW_mono hC a (roundK_mono (fun fr s h => codeW_mono hC b hK h) hK) h
  | .cond c a b, k, fr, σ, K, K', hK, h => by
    simp only [codeW] at h ⊢
    split at h
    · exact ⟨fun hx => codeW_mono hC a hK (h.1 hx), fun hx => codeW_mono hC b hK (h.2 hx)⟩
    · exact h.elim
  | .block id b, k, fr, σ, K, K', hK, h => by
    simp only [codeW] at h ⊢
    exact codeW_mono hC b (blockK_mono hK) h
  | .loop b, k, fr, σ, K, K', hK, h => by
    simp only [codeW] at h ⊢
    intro I hI
    exact h I fun fr s hu hb => hI fr s hu (codeW_mono hC b (roundK_mono (fun _ _ h => h) hK) hb)
  | .exit id, k, fr, σ, K, K', hK, h => hK _ _ _ h
  | .ret, k, fr, σ, K, K', hK, h => hK _ _ _ h
  | .rangeFunc g ps a b, k, fr, σ, K, K', hK, h => by
    simp only [codeW] at h ⊢
    refine ⟨h.1, ?_⟩
    have h2 := h.2
    split at h2
    · refine ⟨h2.1, hC _ _ _ _ _ (fun v s hk => ?_) h2.2⟩
      split at hk
      · exact ⟨hk.1, hK _ _ _ hk.2⟩
      · exact hk.elim
    · exact h2.elim
  | .label _, k, fr, σ, K, K', hK, h => by simp only [codeW] at h
  | .goto _, k, fr, σ, K, K', hK, h => by simp only [codeW] at h
  | .scope _, k, fr, σ, K, K', hK, h => by simp only [codeW] at h
  | .refuse _, k, fr, σ, K, K', hK, h => by simp only [codeW] at h

theorem unfoldW_mono (hC : LeC C C') : LeC (unfoldW C P cfg tr) (unfoldW C' P cfg tr) := by
  intro t args σ K K' hK h
  unfold unfoldW at h ⊢
  split at h
  · split at h
    · split at h
      · exact hK _ _ h
      · exact h.elim
    · unfold bodyW at h ⊢
      split at h
      · split at h
        · refine codeW_mono hC _ (fun e fr s k => ?_) h
          unfold finishW at k ⊢
          split at k
          · exact k.elim
          · split at k
            · exact hK _ _ k
            · exact k.elim
        · exact h.elim
      · exact h.elim
  · unfold roundW at h ⊢
    split at h
    · refine ⟨h.1, h.2.1, h.2.2.1, codeW_mono hC _ (fun e fr s k => ⟨k.1, ?_⟩) h.2.2.2⟩
      have k2 := k.2
      split at k2
      · refine ⟨k2.1, k2.2.1, codeW_mono hC _ (fun e fr s k => ?_) k2.2.2⟩
        split at k
        · exact hK _ _ k
        · exact k.elim
      · exact k2.elim
    · exact h.elim

theorem EvW.le : LeC (EvW P cfg tr) (EvW P cfg tr) := by
  intro t args σ K K' hK h X hX
  refine h (fun t args σ K => ∀ K', (∀ v s, K v s → K' v s) → X t args σ K') ⟨fun t args σ K h K' hK => hX.unf _ _ _ _ (unfoldW_mono (fun t args σ K K1 h1 h2 => h2 K1 h1) t args σ K K' hK h), ?_, ?_⟩ K' hK
  · intro t args i a b σ K hi hw h K' hK
    exact hX.arg _ _ _ _ _ _ _ hi hw (h K' hK)
  · intro t args σ K h K' hK
    exact hX.res _ _ _ _ (h _ fun v s ⟨b, h1, h2⟩ => ⟨b, h1, hK _ _ h2⟩)

theorem EvW.mono {t : Tgt} {args : List AV} {σ : St} {K K' : AV → St → Prop} (h : EvW P cfg tr t args σ K) (hK : ∀ v s, K v s → K' v s) : EvW P cfg tr t args σ K' := EvW.le t args σ K K' hK h

theorem EvW.fold {t : Tgt} {args : List AV} {σ : St} {K : AV → St → Prop} (h : unfoldW (EvW P cfg tr) P cfg tr t args σ K) : EvW P cfg tr t args σ K := by
  intro X hX
  have hle : LeC (EvW P cfg tr) X := fun t args σ K K' hK h => EvW.mono h hK X hX
  exact hX.unf _ _ _ _ (unfoldW_mono hle t args σ K K (fun _ _ h => h) h)

theorem EvW.arg {t : Tgt} {args : List AV} {i : Nat} {a b : AV} {σ : St} {K : AV → St → Prop} (hi : args[i]? = some a) (hw : WkL [a.sh] [b]) (h : EvW P cfg tr t (args.set i b) σ K) : EvW P cfg tr t args σ K :=
  fun X hX => hX.arg _ _ _ _ _ _ _ hi hw (h X hX)

theorem EvW.res {t : Tgt} {args : List AV} {σ : St} {K : AV → St → Prop} (h : EvW P cfg tr t args σ fun v s => ∃ b, (b = v ∨ WkL [v.sh] [b]) ∧ K b s) : EvW P cfg tr t args σ K :=
  fun X hX => hX.res _ _ _ _ (h X hX)

/-- All that a call is given, told less sharply. -/
inductive WkF : List AV → List AV → Prop
  | nil : WkF [] []
  | same {a : AV} {as bs : List AV} : WkF as bs → WkF (a :: as) (a :: bs)
  | wk {a b : AV} {as bs : List AV} : WkL [a.sh] [b] → WkF as bs → WkF (a :: as) (b :: bs)

theorem EvW.args {t : Tgt} {as bs : List AV} {σ : St} {K : AV → St → Prop} (hw : WkF as bs) (h : EvW P cfg tr t bs σ K) : EvW P cfg tr t as σ K := by
  have main : ∀ (pre : List AV), EvW P cfg tr t (pre ++ bs) σ K → EvW P cfg tr t (pre ++ as) σ K := by
    clear h
    induction hw with
    | nil => exact fun _ h => h
    | @same a as bs _ ih => intro pre h; have := ih (pre ++ [a]) (by simpa using h); simpa using this
    | @wk a b as bs h1 _ ih =>
      intro pre h
      refine EvW.arg (i := pre.length) (a := a) (b := b) (by simp) h1 ?_
      have := ih (pre ++ [b]) (by simpa using h)
      simpa using this
  exact main [] h
end
end Go.AM
/-! The code, lowered: all that the tables of the program tell is told in the operations. -/
namespace Go.AM
open Go
set_option linter.unusedVariables false

inductive Opd where
  | t (n : Nat)
  | c (x : Sc)
  | f (n : FuncId)
  | no
  deriving DecidableEq

def Opd.of (x : Operand) : Opd :=
  match x with
  | .tmp n => .t n
  | .const v => match Sc.ofV v with
    | some x => .c x
    | none => .no
  | .func n => .f n
  | .global _ => .no

def opL (fr : Fr) : Opd → AV
  | .t n => fr.getD n .undef
  | .c x => .s x
  | .f n => .fn (.func n) [] []
  | .no => .undef

def seL (fr : Fr) (x : Opd) : AV := (opL fr x).look

def sharedL (t : Nat) (fr : Fr) : AV → AV × Fr
  | .list .uniq sz es => (.list .sh sz es, fr.set t (.list .own sz es))
  | v => (v.sh, fr)

def tkL (tk : Bool) (fr : Fr) : Opd → AV × Fr
  | .t t => match tk with
    | true => (fr.getD t .undef, fr.set t (fr.getD t .undef).left)
    | false => sharedL t fr (fr.getD t .undef)
  | x => (opL fr x, fr)

def tkAllL (fr : Fr) : List Opd → List AV × Fr
  | [] => ([], fr)
  | x :: xs => ((tkL true fr x).1 :: (tkAllL (tkL true fr x).2 xs).1, (tkAllL (tkL true fr x).2 xs).2)

def settleL (fr : Fr) : List Opd → Fr
  | [] => fr
  | x :: xs => settleL (tkL false fr x).2 xs

/-- An element's type: its cells, is it of several, its bytes, its nought. -/
structure ET where
  c : Nat
  ag : Bool
  bytes : Nat
  z : AV

/-- The parts of what can be compared. -/
inductive LK where
  | int (k : IntKind)
  | str
  | bool
  deriving DecidableEq

def LK.fits : LK → AV → Bool
  | .int k, .s (.int k' _) => decide (k = k')
  | .str, .s (.str _) => true
  | .bool, .s (.bool _) => true
  | _, _ => false

def fitsL : List LK → List AV → Bool
  | [], [] => true
  | k :: ks, x :: xs => k.fits x && fitsL ks xs
  | _, _ => false

/-- What two operands are. -/
inductive BK where
  | sc
  | bl
  | leaf (ls : List LK)
  | ref (k : Nat)
  deriving DecidableEq

/-- Keys of maps. -/
inductive KK where
  | one (k : LK)
  | leaf (ls : List LK)
  deriving DecidableEq

inductive CK where
  | int (k : IntKind)
  | str
  | toBytes
  | ofBytes
  deriving DecidableEq

/-- What is sliced. -/
inductive SK where
  | str
  | sl (c : Nat)
  | arr (n c : Nat)
  deriving DecidableEq

/-- What is indexed. -/
inductive IK where
  | arr (n c : Nat)
  | sl (c : Nat)
  deriving DecidableEq

inductive NK where
  | str
  | sl
  | map
  | arr (n : Nat)
  deriving DecidableEq

inductive LOp where
  | mv (tk : Bool) (x : Opd)
  | thaw (t : Nat)
  | frz (e : ET) (x : Opd)
  | pick (c a b : Opd)
  | alloc (hp : Bool) (z : List AV)
  | box (tk hp : Bool) (x : Opd)
  | build (z : List AV) (parts : List (Nat × Nat × Opd))
  | bsl (e : ET) (n : Nat) (parts : List (Nat × Opd))
  | loadA (n : Nat) (x : Opd)
  | load1 (tk : Bool) (x : Opd)
  | store (n : Nat) (p x : Opd)
  | nilc (x : Opd)
  | bin (op : BinOp) (k : BK) (x y : Opd)
  | un (op : UnOp) (x : Opd)
  | conv (k : CK) (x : Opd)
  | mkfn (f : FuncId) (first caps : List Opd)
  | mkmap (r : Option Opd)
  | mksl (tk hp : Bool) (e : ET) (l c : Opd)
  | slc (k : SK) (x : Opd) (lo hi mx : Option Opd)
  | shift (off : Nat) (x : Opd)
  | part (ag : Option Nat) (off : Nat) (x : Opd)
  | ixa (k : IK) (x i : Opd)
  | ixs (x i : Opd)
  | ixv (n c : Nat) (ag : Bool) (x i : Opd)
  | look (kk : KK) (z : AV) (ok : Bool) (m k : Opd)
  | upd (kk : KK) (m k v : Opd)
  | ext (x : Opd) (i : Nat)
  | len (k : NK) (x : Opd)
  | cap (x : Opd)
  | app (e : ET) (str : Bool) (s x : Opd)
  | cpy (e : ET) (str : Bool) (d x : Opd)
  | del (kk : KK) (m k : Opd)
  | clr (e : ET) (x : Opd)
  | mn (x y : Opd)
  | mx (x y : Opd)
  | call (g : Opd) (args : List Opd)
  | rng (x : Opd)
  | nxt (x : Opd)
  | ent (x : Opd)

/-! ### What they do -/
def packL (e : ET) (cs : List AV) : AV := match e.ag with
  | true => .agg cs
  | false => cs.getD 0 .undef

def groupL (e : ET) : Nat → List AV → List AV
  | 0, _ => []
  | n + 1, cs => packL e (cs.take e.c) :: groupL e n (cs.drop e.c)

def elemsL (e : ET) (x : AV) (σ : St) : Option (List AV) :=
  match x with
  | .s .nilS => some []
  | .s (.str l) => if e.c = 1 then some (l.map fun b => .s (.int .u8 b.toNat)) else none
  | .list _ sz es => if sz = e.c then some es else none
  | .row r off len _ => if e.ag || e.c == 1 then (readCells σ (.ptr r off) (len * e.c)).map (groupL e len) else none
  | _ => none

def freezeL (e : ET) (v : AV) (σ : St) : Option (AV × St) :=
  match v with
  | .row (.stk n) 0 len _ =>
    (readCells σ (.ptr (.stk n) 0) (len * e.c)).bind fun cs =>
      if underL 0 cs ∧ 0 < e.c ∧ (e.ag || e.c == 1) then some (.list .sh e.c (groupL e len cs), { σ with stk := σ.stk.set n [] }) else none
  | .s .nilS => some (.nilS, σ)
  | _ => none

def fillL (cs : List AV) : List (Nat × Nat × AV) → Option (List AV)
  | [] => some cs
  | (off, size, v) :: rest => if v.cells.length ≠ size ∨ off + size > cs.length ∨ !v.fit then none else fillL (cs.take off ++ v.cells ++ cs.drop (off + size)) rest

def bslL (e : ET) (len : Nat) (parts : List (Nat × AV)) : Option AV :=
  if len = 0 then (if parts.isEmpty then some (.list .full e.c []) else none) else
  if len * e.c > 2 ^ 24 then none else (fillE e.c (List.replicate len e.z) parts).map (.list .full e.c)

def load1L (tk : Bool) (p : AV) (σ : St) : Option (AV × St) :=
  match tk, p with
  | true, .ptr r off => (boxOf σ r).bind fun cs => match cs[off]? with
    | some v => some (v, setBox σ r (splice cs off [v.sh]))
    | none => none
  | _, .ptr r off => (boxOf σ r).bind fun cs => match cs[off]? with
    | some v => some (v.look, σ)
    | none => none
  | _, .rop (v :: _) => some (v, σ)
  | _, _ => none

def storeL (n : Nat) (p v : AV) (σ : St) : Option St :=
  match p with
  | .ptr r off => if v.cells.length = n ∧ n ≠ 0 ∧ v.fit then writeCells σ r off v.cells else none
  | _ => none

/-- Operators on whole numbers, and what they come to. -/
def intBin (op : BinOp) (k : IntKind) (a b : Int) : Option Sc :=
  match op with
  | .add => some (.int k (k.wrap (a + b)))
  | .sub => some (.int k (k.wrap (a - b)))
  | .mul => some (.int k (k.wrap (a * b)))
  | .quo => if b = 0 then none else some (.int k (k.wrap (a.tdiv b)))
  | .rem => if b = 0 then none else some (.int k (a.tmod b))
  | .and => some (.int k (k.wrap (BitVec.ofInt k.bits a &&& BitVec.ofInt k.bits b).toNat))
  | .or => some (.int k (k.wrap (BitVec.ofInt k.bits a ||| BitVec.ofInt k.bits b).toNat))
  | .xor => some (.int k (k.wrap (BitVec.ofInt k.bits a ^^^ BitVec.ofInt k.bits b).toNat))
  | .andNot => some (.int k (k.wrap (BitVec.ofInt k.bits a &&& ~~~ BitVec.ofInt k.bits b).toNat))
  | .eql => some (.bool (decide (a = b)))
  | .neq => some (.bool (!decide (a = b)))
  | .lss => some (.bool (decide (a < b)))
  | .leq => some (.bool (decide (a ≤ b)))
  | .gtr => some (.bool (decide (a > b)))
  | .geq => some (.bool (decide (a ≥ b)))
  | _ => none

def intShift (op : BinOp) (k : IntKind) (a b : Int) : Option Sc :=
  if b < 0 then none else
  match op with
  | .shl => some (.int k (k.wrap (a * 2 ^ (min b.toNat k.bits))))
  | .shr => some (.int k (a.fdiv (2 ^ (min b.toNat k.bits))))
  | _ => none

def scBin (op : BinOp) (x y : Sc) : Option Sc :=
  match op, x, y with
  | .shl, .int k a, .int _ b => intShift .shl k a b
  | .shr, .int k a, .int _ b => intShift .shr k a b
  | op, .int k a, .int k' b => if k = k' then intBin op k a b else none
  | .eql, .str a, .str b => some (.bool (decide (a = b)))
  | .neq, .str a, .str b => some (.bool (!decide (a = b)))
  | _, _, _ => none

def blBin (op : BinOp) (x y : Sc) : Option Sc :=
  match op, x, y with
  | .eql, .bool a, .bool b => some (.bool (decide (a = b)))
  | .neq, .bool a, .bool b => some (.bool (!decide (a = b)))
  | _, _, _ => none

def cellsEq (a b : List AV) : Bool := AV.beq.go a b

/-- Are two references one? Only nil is told from others. -/
def refEq (k : Nat) (x y : AV) : Option Bool :=
  match x.nilKind, y.nilKind with
  | some a, some b => if a = k ∧ b = k then some true else none
  | some a, none => if a = k ∧ y.refKind = some k then some false else none
  | none, some b => if b = k ∧ x.refKind = some k then some false else none
  | none, none => none

def binL (op : BinOp) (k : BK) (x y : AV) : Option AV :=
  match k with
  | .sc => match x, y with
    | .s a, .s b => (scBin op a b).map .s
    | _, _ => none
  | .bl => match x, y with
    | .s a, .s b => (blBin op a b).map .s
    | _, _ => none
  | .leaf ls => match x, y with
    | .agg a, .agg b => if fitsL ls a ∧ fitsL ls b then (match op with
      | .eql => some (.bool (cellsEq a b))
      | .neq => some (.bool (!cellsEq a b))
      | _ => none) else none
    | _, _ => none
  | .ref k => match op with
    | .eql => (refEq k x y).map .bool
    | .neq => (refEq k x y).map fun b => .bool (!b)
    | _ => none

def unL (op : UnOp) (x : AV) : Option AV :=
  match op, x with
  | .not, .s (.bool b) => some (.bool !b)
  | .neg, .s (.int k n) => some (.s (.int k (k.wrap (0 - n))))
  | .xor, .s (.int k n) => some (.s (.int k (k.wrap (BitVec.ofInt k.bits (if k.signed then -1 else k.max) ^^^ BitVec.ofInt k.bits n).toNat)))
  | _, _ => none

def convL (k : CK) (x : AV) (σ : St) : Option AV :=
  match k, x with
  | .int k, .s (.int _ n) => some (.s (.int k (k.wrap n)))
  | .str, .s (.str l) => some (.str l)
  | .toBytes, .s (.str l) => if l.length < 2 ^ 46 then some (.list .uniq 1 (l.map fun b => .s (.int .u8 b.toNat))) else none
  | .ofBytes, x => if x.isSlice then ((elemsL ⟨1, false, 1, .undef⟩ x σ).bind bytesIn).map .str else none
  | _, _ => none

def sliceL (k : SK) (x : AV) (lo hi mx : Option AV) : Option AV :=
  match k, x with
  | .str, .s (.str l) =>
    match mx, bound lo 0, bound hi l.length with
    | none, some a, some b => if a ≤ b ∧ b ≤ l.length then some (.str ((l.take b).drop a)) else none
    | _, _, _ => none
  | .sl c, .s .nilS =>
    match mx, bound lo 0, bound hi 0 with
    | none, some 0, some 0 => if c ≠ 0 then some .nilS else none
    | _, _, _ => none
  | .sl c, .list fl sz es =>
    if fl = .uniq then none else
    match mx, bound lo 0, bound hi es.length with
    | none, some a, some b => if a ≤ b ∧ b ≤ es.length ∧ sz = c then some (.list (if fl = .full ∧ b = es.length then .full else .sh) sz ((es.take b).drop a)) else none
    | some m, some a, some b => match hi, bound (some m) 0 with
      | some _, some m => if a ≤ b ∧ b = m ∧ m ≤ es.length ∧ sz = c then some (.list (if fl = .sh ∧ es = [] then .sh else .full) sz ((es.take b).drop a)) else none
      | _, _ => none
    | _, _, _ => none
  | .sl c, .row r off len cap =>
    match mx, bound lo 0, bound hi len with
    | none, some a, some b => if a ≤ b ∧ b ≤ cap ∧ a < cap ∧ c ≠ 0 then some (.row r (off + a * c) (b - a) (cap - a)) else none
    | some m, some a, some b => match hi, bound (some m) 0 with
      | some _, some m => if a = b ∧ b = m ∧ m ≤ cap ∧ c ≠ 0 then some (.list .full c []) else none
      | _, _ => none
    | _, _, _ => none
  | .arr n c, .ptr r off =>
    match mx, bound lo 0, bound hi n with
    | none, some a, some b => if a ≤ b ∧ b ≤ n ∧ a < n ∧ c ≠ 0 then some (.row r (off + a * c) (b - a) (n - a)) else none
    | _, _, _ => none
  | .arr n c, .rop cs =>
    match mx, bound lo 0, bound hi n with
    | none, some a, some b => if a ≤ b ∧ b ≤ n ∧ a < n ∧ c = 1 ∧ n ≤ cs.length then some (.list .sh 1 ((cs.take b).drop a)) else none
    | _, _, _ => none
  | _, _ => none

def partL (ag : Option Nat) (cs : List AV) (off : Nat) : Option AV :=
  match ag with
  | some n => if off + n ≤ cs.length ∧ n ≠ 0 then some (.agg ((cs.drop off).take n)) else none
  | none => cs[off]?

def indexAddrL (k : IK) (x ix : AV) : Option AV :=
  match ix with
  | .s (.int _ i) =>
    match k, x with
    | .arr n c, x => if 0 ≤ i ∧ i < n ∧ c ≠ 0 then shift x (i.toNat * c) else none
    | .sl c, .list fl sz es => if fl ≠ .uniq ∧ sz = c ∧ sz ≠ 0 ∧ 0 ≤ i ∧ i < es.length then some (.rop (es.getD i.toNat .undef).cells) else none
    | .sl c, .row r off len _ => if 0 ≤ i ∧ i < len ∧ c ≠ 0 then some (.ptr r (off + i.toNat * c)) else none
    | _, _ => none
  | _ => none

def lenL (k : NK) (x : AV) (σ : St) : Option Nat :=
  match k, x with
  | .str, .s (.str l) => some l.length
  | .sl, .s .nilS => some 0
  | .sl, .list _ _ es => some es.length
  | .sl, .row _ _ len _ => some len
  | .map, .s .nilM => some 0
  | .map, .map h => match σ.heap[h]? with
    | some (.map es _) => some es.length
    | _ => none
  | .arr n, .agg _ => some n
  | _, _ => none

def capL (x : AV) : Option Nat :=
  match x with
  | .s .nilS => some 0
  | .list .full _ es => some es.length
  | _ => none

def srcL (str : Bool) (x : AV) : Bool := match str with
  | true => x.isStr
  | false => x.isSlice

/-- Something is appended. -/
def appItems (e : ET) (s : AV) (items : List AV) (σ : St) : Option (AV × St) :=
  match s with
  | .s .nilS =>
    if items.isEmpty then some (.nilS, σ) else
    if items.length * e.bytes ≤ 2 ^ 48 then some (.list .uniq e.c items, σ) else none
  | .list fl sz es =>
    if sz ≠ e.c then none else
    if items.isEmpty then some (.list fl sz es, σ) else
    match fl with
    | .sh => none
    | .full => if es.isEmpty then (if items.length * e.bytes ≤ 2 ^ 48 then some (.list .uniq sz items, σ) else none)
      else if 2 * (es.length + items.length) * e.bytes ≤ 2 ^ 48 then some (.list .own sz (es ++ items), σ) else none
    | .own => if 2 * (es.length + items.length) * e.bytes ≤ 2 ^ 48 then some (.list .own sz (es ++ items), σ) else none
    | .uniq => if 2 * (es.length + items.length) * e.bytes ≤ 2 ^ 48 then some (.list .uniq sz (es ++ items), σ) else none
  | .row r off len cap =>
    if len + items.length ≤ cap ∧ items.isEmpty = false then
      (writeCells σ r (off + len * e.c) (items.flatMap AV.cells)).map fun σ => (.row r off (len + items.length) cap, σ)
    else none
  | _ => none

def appendL (e : ET) (str : Bool) (s x : AV) (σ : St) : Option (AV × St) :=
  if srcL str x then
    (elemsL e x σ).bind fun items => if AV.under.go 0 items then appItems e s items σ else none
  else none

def copyL (e : ET) (str : Bool) (d x : AV) (σ : St) : Option (AV × St) :=
  if srcL str x then
    match d, elemsL e x σ with
    | .row r off len _, some items =>
      (writeCells σ r off ((items.take len).flatMap AV.cells)).map fun σ => (.i (items.take len).length, σ)
    | _, _ => none
  else none

def KK.fits : KK → AV → Bool
  | .one k, x => k.fits x
  | .leaf ls, .agg cs => fitsL ls cs
  | .leaf _, _ => false

def keyEqL (kk : KK) (a b : AV) : Option Bool := if kk.fits a ∧ kk.fits b then some (AV.beq a b) else none

def findL (kk : KK) (k : AV) : List Entry → Nat → Option (Option (Nat × Entry))
  | [], _ => some none
  | e :: es, i => match keyEqL kk k e.key with
    | some true => some (some (i, e))
    | some false => findL kk k es (i + 1)
    | none => none

def lookupL (kk : KK) (z : AV) (ok : Bool) (m k : AV) (σ : St) : Option AV :=
  if kk.fits k then
    match mapOf σ m with
    | none => none
    | some (es, _) => match findL kk k es 0 with
      | some (some (_, e)) => some (if ok then .tup [e.val, .bool true] else e.val)
      | some none => some (if ok then .tup [z, .bool false] else z)
      | none => none
  else none

def updateL (kk : KK) (m k v : AV) (σ : St) : Option St :=
  if kk.fits k ∧ AV.under 0 v then
    match m with
    | .map h => match mapOf σ (.map h) with
      | none => none
      | some (es, c) => match findL kk k es 0 with
        | some (some (i, e)) => some (setMap σ h (es.set i { e with key := k, val := v }) c)
        | some none => some (setMap σ h (es ++ [⟨k, v, c⟩]) (c + 1))
        | none => none
    | _ => none
  else none

def deleteL (kk : KK) (m k : AV) (σ : St) : Option St :=
  if kk.fits k then
    match m with
    | .s .nilM => some σ
    | .map h => match mapOf σ (.map h) with
      | none => none
      | some (es, c) => match findL kk k es 0 with
        | some (some (i, _)) => some (setMap σ h (es.eraseIdx i) c)
        | some none => some (setMap σ h es c)
        | none => none
    | _ => none
  else none

def clearL (e : ET) (v : AV) (σ : St) : Option St :=
  match v with
  | .row r off len _ => writeCells σ r off (List.replicate len e.z.cells).flatten
  | .s .nilS => some σ
  | .list _ _ [] => some σ
  | _ => none

def mkslL (asList heap : Bool) (e : ET) (len cap : AV) (σ : St) : Option (AV × St) :=
  match len, cap with
  | .s (.int _ l), .s (.int _ c) =>
    if 0 ≤ l ∧ l ≤ c ∧ c ≤ 2 ^ 32 ∧ e.bytes * c ≤ 2 ^ 47 then
      match asList with
      | true => some (.list .uniq e.c (List.replicate l.toNat e.z), σ)
      | false => (newBox heap (List.replicate c.toNat e.z.cells).flatten σ).map fun (r, σ) => (.row r 0 l.toNat c.toNat, σ)
    else none
  | _, _ => none

def readA (σ : St) (p : AV) (n : Nat) : Option AV := (readCells σ p n).map .agg

def intOpt : AV → Option (IntKind × Int)
  | .s (.int k a) => some (k, a)
  | _ => none

/-- What an operation yields, the frame and the state behind it. -/
def evL (o : LOp) (fr : Fr) (σ : St) : Option (AV × Fr × St) :=
  match o with
  | .mv tk x => some ((tkL tk fr x).1, (tkL tk fr x).2, σ)
  | .thaw t => AM.thaw fr (.tmp t) σ
  | .frz e x => (freezeL e (seL fr x) σ).map fun r => (r.1, fr, r.2)
  | .pick c a b => match seL fr c with
    | .s (.bool c) => some ((if c then seL fr a else seL fr b), fr, σ)
    | _ => none
  | .alloc hp z => (newBox hp z σ).map fun r => (.ptr r.1 0, fr, r.2)
  | .box tk hp x => if (tkL tk fr x).1.fit then (newBox hp (tkL tk fr x).1.calm.cells σ).map fun q => (.ptr q.1 0, (tkL tk fr x).2, q.2) else none
  | .build z parts => (fillL z (parts.map fun p => (p.1, p.2.1, seL fr p.2.2))).map fun cs => (.agg cs, fr, σ)
  | .bsl e n parts => (bslL e n (parts.map fun p => (p.1, seL fr p.2))).map fun v => (v, fr, σ)
  | .loadA n x => (readA σ (seL fr x) n).map fun v => (v, fr, σ)
  | .load1 tk x => (load1L tk (seL fr x) σ).map fun r => (r.1, fr, r.2)
  | .store n p x => (storeL n (seL (tkL true fr x).2 p) (tkL true fr x).1.calm σ).map fun σ => (.undef, (tkL true fr x).2, σ)
  | .nilc x => match seL fr x with
    | .ptr r o => some (.ptr r o, fr, σ)
    | .rop cs => some (.rop cs, fr, σ)
    | .map h => some (.map h, fr, σ)
    | .fn (.func g) a c => some (.fn (.func g) a c, fr, σ)
    | _ => none
  | .bin op k x y => (binL op k (seL fr x) (seL fr y)).map fun v => (v, fr, σ)
  | .un op x => (unL op (seL fr x)).map fun v => (v, fr, σ)
  | .conv k x => (convL k (seL fr x) σ).map fun v => (v, fr, σ)
  | .mkfn f first caps => some (.fn (.func f) (first.map (seL fr)) (caps.map (seL fr)), fr, σ)
  | .mkmap r => match r with
    | none => some (.map σ.heap.length, fr, { σ with heap := σ.heap ++ [.map [] 0] })
    | some x => match seL fr x with
      | .s (.int ..) => some (.map σ.heap.length, fr, { σ with heap := σ.heap ++ [.map [] 0] })
      | _ => none
  | .mksl tk hp e l c => (mkslL tk hp e (seL fr l) (seL fr c) σ).map fun r => (r.1, fr, r.2)
  | .slc k x lo hi mx => (sliceL k (seL fr x) (lo.map (seL fr)) (hi.map (seL fr)) (mx.map (seL fr))).map fun v => (v, fr, σ)
  | .shift off x => (shift (seL fr x) off).map fun v => (v, fr, σ)
  | .part ag off x => match seL fr x with
    | .agg cs => (partL ag cs off).map fun v => (v, fr, σ)
    | _ => none
  | .ixa k x i => (indexAddrL k (seL fr x) (seL fr i)).map fun v => (v, fr, σ)
  | .ixs x i => match seL fr x, seL fr i with
    | .s (.str l), .s (.int _ i) => if 0 ≤ i ∧ i < l.length then some (.s (.int .u8 (l.getD i.toNat 0).toNat), fr, σ) else none
    | _, _ => none
  | .ixv n c ag x i => match seL fr x, seL fr i with
    | .agg cs, .s (.int _ i) => if 0 ≤ i ∧ i < n ∧ c ≠ 0 then (partL (if ag then some c else none) cs (i.toNat * c)).map fun v => (v, fr, σ) else none
    | _, _ => none
  | .look kk z ok m k => (lookupL kk z ok (seL fr m) (seL fr k) σ).map fun v => (v, fr, σ)
  | .upd kk m k v => (updateL kk (seL fr m) (seL fr k) (seL fr v) σ).map fun σ => (.undef, fr, σ)
  | .ext x i => match seL fr x with
    | .tup vs => (vs[i]?).map fun v => (v, fr, σ)
    | _ => none
  | .len k x => (lenL k (seL fr x) σ).map fun (n : Nat) => (AV.i n, fr, σ)
  | .cap x => (capL (seL fr x)).map fun (n : Nat) => (AV.i n, fr, σ)
  | .app e str s x => (appendL e str (tkL true fr s).1 (seL (tkL true fr s).2 x) σ).map fun r => (r.1, (tkL true fr s).2, r.2)
  | .cpy e str d x => (copyL e str (seL fr d) (seL fr x) σ).map fun r => (r.1, fr, r.2)
  | .del kk m k => (deleteL kk (seL fr m) (seL fr k) σ).map fun σ => (.tup [], fr, σ)
  | .clr e x => (clearL e (seL fr x) σ).map fun σ => (.tup [], fr, σ)
  | .mn x y => match intOpt (seL fr x), intOpt (seL fr y) with
    | some (k, a), some (k', b) => if k = k' then some (.s (.int k (if b < a then b else a)), fr, σ) else none
    | _, _ => none
  | .mx x y => match intOpt (seL fr x), intOpt (seL fr y) with
    | some (k, a), some (k', b) => if k = k' then some (.s (.int k (if b > a then b else a)), fr, σ) else none
    | _, _ => none
  | .call .. | .rng _ | .nxt _ | .ent _ => none

structure LStep where
  dst : Option Nat
  guard : Option (Nat × Bool)
  op : LOp

def settledL : LOp → List Opd
  | .build _ ps => ps.map (·.2.2)
  | .bsl _ _ ps => ps.map (·.2)
  | .upd _ _ _ v => [v]
  | .app _ _ _ x => [x]
  | .conv _ x => [x]
  | .slc _ x _ _ _ => [x]
  | .ixa _ x _ => [x]
  | .len _ x => [x]
  | .cap x => [x]
  | _ => []

def guardL (fr : Fr) : Option (Nat × Bool) → Option Bool
  | none => some true
  | some (d, want) => match fr[d]? with
    | some (.s (.bool b)) => some (b == want)
    | some (.tup []) => some false
    | _ => none

/-- Of an operation: what must hold, that K holds of whatever comes. -/
def doL (C : CallW) (o : LOp) (fr : Fr) (σ : St) (K : AV → Fr → St → Prop) : Prop :=
  match o with
  | .rng x => match seL fr x with
    | .map h => match mapOf σ (.map h) with
      | some (_, c) => K (.ptr (.heap σ.heap.length) 0) fr { σ with heap := σ.heap ++ [.iter ⟨some h, c, [], c⟩] }
      | none => False
    | .s .nilM => K (.ptr (.heap σ.heap.length) 0) fr { σ with heap := σ.heap ++ [.iter ⟨none, 0, [], 0⟩] }
    | _ => False
  | .nxt x => match iterOf σ (seL fr x) with
    | some (n, i) => match i.map with
      | none => K (.tup [.bool false]) fr σ
      | some h => match mapOf σ (.map h) with
        | some (es, c) => (i.seen = [] ∨ es = [] ∨ ∃ e ∈ es, e.born < i.stepped) ∧
            ((∀ e ∈ es, e.born ∈ i.seen ∨ i.since ≤ e.born) → K (.tup [.bool false]) fr σ) ∧
            ∀ e ∈ es, e.born ∉ i.seen → K (.tup [.bool true, e.key, e.val]) fr (setHeap σ n (.iter { i with seen := i.seen ++ [e.born], stepped := c }))
        | none => False
    | none => False
  | .ent x => match iterOf σ (seL fr x) with
    | some (n, i) => match i.map, i.seen.getLast? with
      | some h, some b => match mapOf σ (.map h) with
        | some (es, c) => c = i.stepped ∧ match es.find? (fun e => e.born == b) with
          | some e => K (.tup [e.key, e.val]) fr σ
          | none => False
        | none => False
      | _, _ => False
    | none => False
  | .call g args => match seL fr g with
    | .fn (.func h) first captured => C (.fn h) (first ++ (tkAllL fr args).1 ++ captured) σ fun v σ' => K v (tkAllL fr args).2 σ'
    | .yield h => C (.yield h) (tkAllL fr args).1 σ fun v σ' => K v (tkAllL fr args).2 σ'
    | _ => False
  | o => match evL o fr σ with
    | some r => K r.1 r.2.1 r.2.2
    | none => False

def stepL (C : CallW) (s : LStep) (fr : Fr) (σ : St) (K : Fr → St → Prop) : Prop :=
  match guardL fr s.guard with
  | some g => (g = true → doL C s.op (settleL fr (settledL s.op)) σ fun v fr' σ' => K (putA s.dst v fr') σ') ∧ (g = false → K (putA s.dst (.tup []) fr) σ)
  | none => False

/-- Is it asked of an empty slice whether it is nil? -/
def maybeS (s : LStep) (fr : Fr) : Bool :=
  match s.op with
  | .bin op (.ref 1) x y => isEq op && maybeNil (seL fr x) (seL fr y) && (match guardL fr s.guard with
    | some true => true
    | _ => false)
  | _ => false

def seqL (C : CallW) : List LStep → Fr → St → (Fr → St → Prop) → Prop
  | [], fr, σ, K => K fr σ
  | s :: rest, fr, σ, K => match maybeS s fr with
    | true => ∀ b, seqL C rest (putA s.dst (.bool b) fr) σ K
    | false => stepL C s fr σ fun fr σ => seqL C rest fr σ K

def calmL (fr : Fr) : Opd → Bool
  | .t t => !(fr.getD t .undef).isUniq
  | _ => true

def LOp.opds : LOp → List Opd
  | .mv _ x | .frz _ x | .box _ _ x | .loadA _ x | .load1 _ x | .nilc x | .un _ x | .conv _ x | .shift _ x | .part _ _ x | .ext x _ | .len _ x | .cap x | .clr _ x | .rng x | .nxt x | .ent x => [x]
  | .thaw t => [.t t]
  | .pick a b c => [a, b, c]
  | .alloc .. => []
  | .build _ ps => ps.map (·.2.2)
  | .bsl _ _ ps => ps.map (·.2)
  | .store _ p x => [p, x]
  | .bin _ _ x y | .ixa _ x y | .ixs x y | .ixv _ _ _ x y | .look _ _ _ x y | .app _ _ x y | .cpy _ _ x y | .del _ x y | .mn x y | .mx x y | .mksl _ _ _ x y => [x, y]
  | .mkfn _ a b => a ++ b
  | .mkmap r => r.toList
  | .slc _ x a b c => x :: (a.toList ++ b.toList ++ c.toList)
  | .upd _ m k v => [m, k, v]
  | .call g args => g :: args

/-- Does what it reads hang on memory that may be written? -/
def depL (fr : Fr) : LOp → Bool
  | .loadA _ x | .load1 _ x => match seL fr x with
    | .rop _ => false
    | _ => true
  | .look .. => true
  | .conv _ x => match seL fr x with
    | .row .. => true
    | _ => false
  | .len _ x | .cap x => match seL fr x with
    | .map _ => true
    | _ => false
  | _ => false

/-- A read that is to be the same at each later move that might have come ahead of it. -/
structure LChk where
  i : Nat
  s : LStep
  fr : Fr
  v : AV

def readL (s : LStep) (fr : Fr) (σ : St) : Option AV := if s.op.opds.all (calmL fr) then (evL s.op fr σ).map (·.1) else none

def LChk.ok (c : LChk) (σ : St) : Bool :=
  match guardL c.fr c.s.guard with
  | some true => sameV (readL c.s c.fr σ) c.v
  | some false => AV.beq (.tup []) c.v
  | none => false

inductive LT where
  | done
  | rd (s : LStep) (i : Nat) (chk : Bool) (rest : LT)
  | mv (s : LStep) (drop : List Nat) (rest alt : LT)
  | stop

def planL (C : CallW) : LT → Fr → St → List LChk → (Fr → St → Prop) → Prop
  | .done, fr, σ, _, K => K fr σ
  | .rd s i ck rest, fr, σ, chk, K => match guardL fr s.guard with
    | some g => (g = true → match readL s fr σ with
        | some v => planL C rest (putA s.dst v fr) σ (if ck && depL fr s.op then ⟨i, s, fr, v⟩ :: chk else chk) K
        | none => False) ∧ (g = false → planL C rest (putA s.dst (.tup []) fr) σ chk K)
    | none => False
  | .mv s drop rest alt, fr, σ, chk, K =>
    (stepL C s fr σ fun fr' σ' => (chk.filter fun c => !drop.contains c.i).all (fun c => c.ok σ') = true ∧ planL C rest fr' σ' (chk.filter fun c => !drop.contains c.i) K) ∧
    planL C alt fr σ chk K
  | .stop, _, _, _, _ => True

inductive LCode where
  | skip
  | sq (l : List LStep)
  | tree (t : LT)
  | seq (a b : LCode)
  | cond (c : Opd) (a b : LCode)
  | block (id : Nat) (b : LCode)
  | loop (mask : List Bool) (b : LCode)
  | exit (id : Nat)
  | ret
  | rfun (g : Opd) (f : FuncId) (ps : Array Tmp) (as bd : Code)
  | bad

def execL (C : CallW) (P : Program) (rd : Bool) : LCode → Fr → St → KC → Prop
  | .skip, fr, σ, K => K .normal fr σ
  | .sq l, fr, σ, K => seqL C l fr σ (K .normal)
  | .tree t, fr, σ, K => planL C t fr σ [] (K .normal)
  | .seq a b, fr, σ, K => execL C P rd a fr σ (roundK (fun fr σ => execL C P rd b fr σ K) K)
  | .cond c a b, fr, σ, K => match opL fr c with
    | .s (.bool x) => (x = true → execL C P rd a fr σ K) ∧ (x = false → execL C P rd b fr σ K)
    | _ => False
  | .block id b, fr, σ, K => execL C P rd b fr σ (blockK id K)
  | .loop mask b, fr, σ, K => loopW (execL C P rd b) mask σ.stk.length fr σ K
  | .exit id, fr, σ, K => K (.exit id) fr σ
  | .ret, fr, σ, K => K .ret fr σ
  | .rfun g f ps a b, fr, σ, K => rd = false ∧
    match seL fr g with
    | .fn (.func h) first captured => hasBody P h = true ∧
      C (.fn h) (first ++ [.yield σ.heap.length] ++ captured) { σ with heap := σ.heap ++ [.loop { fid := f, fr := fr.map lasting, params := ps.toList, assign := a, body := b, ready := true, pending := none }] }
        fun _ σ' => match σ'.heap[σ.heap.length]? with
          | some (.loop l) => (l.ready || l.pending.isSome) = true ∧ K (l.pending.getD .normal) fr { σ' with heap := σ'.heap.set σ.heap.length .dead }
          | _ => False
    | _ => False
  | .bad, _, _, _ => False

inductive LR where
  | t (n : Nat)
  | one (a : Nat)
  | many (a n : Nat)

structure LFn where
  ntmps : Nat
  res : List LR
  code : LCode

def resL (fr : Fr) (σ : St) : LR → Option AV
  | .t n => some (fr.getD n .undef)
  | .one a => (load1L false (fr.getD a .undef) σ).map (·.1)
  | .many a n => readA σ (fr.getD a .undef) n

def ressL (fr : Fr) (σ : St) : List LR → Option (List AV)
  | [] => some []
  | r :: rs => match resL fr σ r, ressL fr σ rs with
    | some v, some vs => some (v :: vs)
    | _, _ => none

def endL (base : Nat) (rs : List LR) (K : AV → St → Prop) (fr : Fr) (σ : St) : Prop :=
  match ressL fr σ rs with
  | some [v] => v.under base = true ∧ K v { σ with stk := σ.stk.take base }
  | some vs => underL base vs = true ∧ K (.tup (vs.map AV.look)) { σ with stk := σ.stk.take base }
  | none => False

def finL (base : Nat) (rs : List LR) (K : AV → St → Prop) : KC := fun e fr σ => match e with
  | .exit _ => False
  | .normal => endL base rs K fr σ
  | .ret => endL base rs K fr σ

/-- A function, lowered, at arguments. -/
def runL (C : CallW) (P : Program) (fn : LFn) (args : List AV) (σ : St) (K : AV → St → Prop) : Prop :=
  execL C P false fn.code (args ++ List.replicate (fn.ntmps - args.length) .undef) σ (finL σ.stk.length fn.res K)

/-! ### Lowering -/
def etOf (P : Program) (e : TypeId) : Option ET := if elemOK P e then (zeroA P e).map fun z => ⟨P.cellsOf e, isAgg P e, bytesOf P e, z⟩ else none

/-- The scalar parts of a type, in their order; none: it is not of such. -/
def leavesIn (P : Program) : Nat → TypeId → Option (List LK)
  | 0, _ => none
  | d + 1, t => match P.underlying t with
    | some (.int k) => some [.int k]
    | some .string => some [.str]
    | some .bool => some [.bool]
    | some (.struct fs) => if P.stoodInHeld t then none else
      fs.toList.foldl (fun acc f => match acc, leavesIn P d f.type with
        | some l, some m => if f.name ≠ "_" ∧ f.offset = l.length ∧ P.cellsOf f.type = m.length then some (l ++ m) else none
        | _, _ => none) (some [])
    | some (.array n e) => match leavesIn P d e with
      | some m => if P.cellsOf e = m.length ∧ m ≠ [] then some (List.replicate n m).flatten else none
      | none => none
    | _ => none

def kkOf (P : Program) (t : TypeId) : Option KK :=
  match P.underlying t with
  | some (.int k) => some (.one (.int k))
  | some .string => some (.one .str)
  | some .bool => some (.one .bool)
  | some (.struct _) | some (.array _ _) => (leavesIn P 10 t).map .leaf
  | _ => none

def bkOf (P : Program) (t : TypeId) : Option BK :=
  match P.underlying t with
  | some (.int _) | some .string => some .sc
  | some .bool => some .bl
  | some (.struct _) | some (.array _ _) => if P.eqGuardType P.depth t then none else (leavesIn P 10 t).map .leaf
  | some (.pointer _) => some (.ref 0)
  | some (.slice _) => some (.ref 1)
  | some (.map ..) => some (.ref 2)
  | some (.func ..) => some (.ref 3)
  | _ => none

def srcKind (P : Program) (t : TypeId) : Option Bool :=
  match P.underlying t with
  | some .string => some true
  | some (.slice _) => some false
  | _ => none

def sliceET (P : Program) (t : TypeId) : Option ET :=
  match P.underlying t with
  | some (.slice e) => etOf P e
  | _ => none

def mapKinds (P : Program) (t : TypeId) : Option (KK × AV) :=
  match P.underlying t with
  | some (.map k e) => match kkOf P k, zeroA P e with
    | some kk, some z => some (kk, z)
    | _, _ => none
  | _ => none

def skOf (P : Program) (t : TypeId) : Option SK :=
  match P.underlying t with
  | some .string => some .str
  | some (.slice e) => some (.sl (P.cellsOf e))
  | some (.array n e) => some (.arr n (P.cellsOf e))
  | _ => none

def ikOf (P : Program) (t : TypeId) : Option IK :=
  match P.underlying t with
  | some (.array n e) => some (.arr n (P.cellsOf e))
  | some (.slice e) => some (.sl (P.cellsOf e))
  | _ => none

def nkOf (P : Program) (t : TypeId) : Option NK :=
  match P.underlying t with
  | some .string => some .str
  | some (.slice _) => some .sl
  | some (.map ..) => some .map
  | some (.array n _) => some (.arr n)
  | _ => none

def lowParts (places : Nat → Option (Nat × Nat)) : List (Nat × Operand) → Option (List (Nat × Nat × Opd))
  | [] => some []
  | (i, x) :: rest => match places i, lowParts places rest with
    | some (off, size), some l => some ((off, size, Opd.of x) :: l)
    | _, _ => none

def lowOp (P : Program) (cfg : Cfg) (f : FuncId) (o : Oper) : Option LOp :=
  let d := o.dst.getD 0
  match o.op with
  | .move x => if cfg.thaw f d then (match x with
      | .tmp t => some (.thaw t)
      | _ => none)
    else if cfg.freeze f d then (sliceET P o.type).map fun e => .frz e (Opd.of x)
    else some (.mv (cfg.take f d) (Opd.of x))
  | .assign x => if cfg.freeze f d then (sliceET P o.type).map fun e => .frz e (Opd.of x) else some (.mv true (Opd.of x))
  | .pick c a b => some (.pick (Opd.of c) (Opd.of a) (Opd.of b))
  | .alloc t => (zeroA P t).map fun z => .alloc (cfg.heap f d) z.cells
  | .box _ x => some (.box (cfg.take f d) (cfg.heap f d) (Opd.of x))
  | .build t parts => match zeroA P t with
    | none => none
    | some z => match structPlaces P t with
      | some places => (lowParts (fun i => places[i]?) parts.toList).map (.build z.cells)
      | none => match arrayCells P t with
        | some n => (lowParts (fun i => some (i * n, n)) parts.toList).map (.build z.cells)
        | none => none
  | .buildSlice t n parts => (sliceET P t).map fun e => .bsl e n (parts.toList.map fun (i, x) => (i, Opd.of x))
  | .load t x => match aggOf P t with
    | some true => if P.cellsOf t = 0 then none else some (.loadA (P.cellsOf t) (Opd.of x))
    | some false => some (.load1 (cfg.take f d) (Opd.of x))
    | none => none
  | .store t p x => some (.store (P.cellsOf t) (Opd.of p) (Opd.of x))
  | .nilCheck x => some (.nilc (Opd.of x))
  | .binOp op t x y _ => (bkOf P t).map fun k => .bin op k (Opd.of x) (Opd.of y)
  | .unOp op _ x => some (.un op (Opd.of x))
  | .convert a b x => match P.underlying a, P.underlying b with
    | some _, some (.int k) => some (.conv (.int k) (Opd.of x))
    | some .string, some .string => some (.conv .str (Opd.of x))
    | some .string, some (.slice e) => match P.underlying e with
      | some (.int .u8) => if elemOK P e ∧ P.cellsOf e = 1 then some (.conv .toBytes (Opd.of x)) else none
      | _ => none
    | some (.slice e), some .string => match P.underlying e with
      | some (.int .u8) => if P.cellsOf e = 1 then some (.conv .ofBytes (Opd.of x)) else none
      | _ => none
    | _, _ => none
  | .makeFunc fn first captured => match fn with
    | .func g => some (.mkfn g (first.toList.map Opd.of) (captured.toList.map Opd.of))
    | _ => none
  | .makeMap t r => match r with
    | none => some (.mkmap none)
    | some x => match P.underlying t with
      | some (.map ..) => some (.mkmap (some (Opd.of x)))
      | _ => none
  | .makeSlice t l c => (sliceET P t).map fun e => .mksl (cfg.take f d) (cfg.heap f d) e (Opd.of l) (Opd.of c)
  | .slice t x lo hi mx => (skOf P t).map fun k => .slc k (Opd.of x) (lo.map Opd.of) (hi.map Opd.of) (mx.map Opd.of)
  | .fieldAddr s x i => (fieldOf P s i).bind fun q => if P.cellsOf q.type = 0 then none else some (.shift q.offset (Opd.of x))
  | .field s x i => (fieldOf P s i).bind fun q => match aggOf P q.type with
    | some true => if P.cellsOf q.type = 0 then none else some (.part (some (P.cellsOf q.type)) q.offset (Opd.of x))
    | some false => some (.part none q.offset (Opd.of x))
    | none => none
  | .indexAddr t x ix => (ikOf P t).map fun k => .ixa k (Opd.of x) (Opd.of ix)
  | .index t x ix => match P.underlying t with
    | some .string => some (.ixs (Opd.of x) (Opd.of ix))
    | some (.array n e) => (aggOf P e).map fun ag => .ixv n (P.cellsOf e) ag (Opd.of x) (Opd.of ix)
    | _ => none
  | .lookup t x ix ok => (mapKinds P t).map fun q => .look q.1 q.2 ok (Opd.of x) (Opd.of ix)
  | .mapUpdate t m k v | .insert t m k v => (mapKinds P t).map fun q => .upd q.1 (Opd.of m) (Opd.of k) (Opd.of v)
  | .extract x i => some (.ext (Opd.of x) i)
  | .range t x => match P.underlying t with
    | some (.map ..) => some (.rng (Opd.of x))
    | _ => none
  | .next x false => some (.nxt (Opd.of x))
  | .entry x => some (.ent (Opd.of x))
  | .call c => match c.callee with
    | .value g => some (.call (Opd.of g) (c.args.toList.map Opd.of))
    | .builtin .len => match c.argTypes.toList, c.args.toList with
      | [t], [x] => (nkOf P t).map fun k => .len k (Opd.of x)
      | _, _ => none
    | .builtin .cap => match c.argTypes.toList, c.args.toList with
      | [t], [x] => match P.underlying t with
        | some (.slice _) => some (.cap (Opd.of x))
        | _ => none
      | _, _ => none
    | .builtin .append => match c.argTypes.toList, c.args.toList with
      | [t, tx], [s, x] => match sliceET P t, srcKind P tx with
        | some e, some b => some (.app e b (Opd.of s) (Opd.of x))
        | _, _ => none
      | _, _ => none
    | .builtin .copy => match c.argTypes.toList, c.args.toList with
      | [t, tx], [d, x] => match sliceET P t, srcKind P tx with
        | some e, some b => some (.cpy e b (Opd.of d) (Opd.of x))
        | _, _ => none
      | _, _ => none
    | .builtin .delete => match c.argTypes.toList, c.args.toList with
      | t :: _, [m, k] => (mapKinds P t).map fun q => .del q.1 (Opd.of m) (Opd.of k)
      | _, _ => none
    | .builtin .clear => match c.argTypes.toList, c.args.toList with
      | [t], [x] => (sliceET P t).map fun e => .clr e (Opd.of x)
      | _, _ => none
    | .builtin .min => match c.args.toList with
      | [x, y] => some (.mn (Opd.of x) (Opd.of y))
      | _ => none
    | .builtin .max => match c.args.toList with
      | [x, y] => some (.mx (Opd.of x) (Opd.of y))
      | _ => none
    | _ => none
  | _ => none

def lowGuard (ops : Array Oper) : Option (Nat × Bool) → Option (Option (Nat × Bool))
  | none => some none
  | some (j, want) => ((ops[j]?).bind (·.dst)).map fun d => some (d, want)

def lowStep (P : Program) (cfg : Cfg) (f : FuncId) (ops : Array Oper) (i : Nat) : Option LStep :=
  match ops[i]? with
  | none => none
  | some o => match lowGuard ops o.guard, lowOp P cfg f o with
    | some g, some l => some ⟨o.dst, g, l⟩
    | _, _ => none

def lowSteps (P : Program) (cfg : Cfg) (f : FuncId) (ops : Array Oper) : List Nat → Option (List LStep)
  | [] => some []
  | i :: rest => match lowStep P cfg f ops i, lowSteps P cfg f ops rest with
    | some s, some l => some (s :: l)
    | _, _ => none

def PT.movers : PT → List Nat
  | .rd _ rest => rest.movers
  | .mv i rest alt => i :: (rest.movers ++ alt.movers)
  | _ => []

def lowTree (P : Program) (cfg : Cfg) (f : FuncId) (ops : Array Oper) : PT → Option LT
  | .done => some .done
  | .rd i rest => if isReader cfg f ops i then match lowStep P cfg f ops i, lowTree P cfg f ops rest with
    | some s, some t => some (.rd s i (rest.movers.any fun j => !hangs ops j i) t)
    | _, _ => none
    else none
  | .mv i rest alt => match lowStep P cfg f ops i, lowTree P cfg f ops rest, lowTree P cfg f ops alt with
    | some s, some t, some u => some (.mv s ((List.range ops.size).filter fun k => hangs ops i k) t u)
    | _, _, _ => none
  | .stop => some .stop

def lowCode (P : Program) (cfg : Cfg) (tr : Trees) (f : FuncId) : Nat → Code → LCode
  | _, .skip => .skip
  | _, .region _ ops false => match lowSteps P cfg f ops (List.range ops.size) with
    | some l => .sq l
    | none => .bad
  | _, .region id ops true => if isStop (tr f id) then .bad else match lowTree P cfg f ops (tr f id) with
    | some t => .tree t
    | none => .bad
  | k, .seq a b => .seq (lowCode P cfg tr f k a) (lowCode P cfg tr f k b)
  | k, .cond c a b => .cond (Opd.of c) (lowCode P cfg tr f k a) (lowCode P cfg tr f k b)
  | _, .block id b => .block id (lowCode P cfg tr f id b)
  | k, .loop b => .loop (cfg.mask f k) (lowCode P cfg tr f k b)
  | _, .exit id => .exit id
  | _, .ret => .ret
  | _, .rangeFunc g ps a b => .rfun (Opd.of g) f ps a b
  | _, _ => .bad

def lowRes (P : Program) : ResultVar → Option LR
  | .tmp t => some (.t t)
  | .cell a t => match aggOf P t with
    | some true => if P.cellsOf t = 0 then none else some (.many a (P.cellsOf t))
    | some false => some (.one a)
    | none => none

def lowFn (P : Program) (cfg : Cfg) (tr : Trees) (f : FuncId) : Option LFn :=
  match P.funcs[f]? with
  | some fn => match fn.body, fn.results.toList.mapM (lowRes P) with
    | some c, some rs => some ⟨fn.ntmps, rs, lowCode P cfg tr f 0 c⟩
    | _, _ => none
  | none => none

end Go.AM
/-! Values that are compared part by part. -/
namespace Go.AM
open Go
set_option linter.unusedVariables false
set_option linter.unusedSimpArgs false

section
variable {P : Program}

theorem val_bind {α β : Type} : ∀ (s : Sem α) (f : α → Sem β), val P (s >>= f) = (val P s).bind fun a => val P (f a)
  | .pure a, f => rfl
  | .program k, f => by
    show val P ((k P).bind f) = _
    exact val_bind (k P) f
  | .load .., f => rfl
  | .store .., f => rfl
  | .new .., f => rfl
  | .shape .., f => rfl
  | .freeze .., f => rfl
  | .frozen .., f => rfl
  | .getObj .., f => rfl
  | .setObj .., f => rfl
  | .choose .., f => rfl
  | .sys .., f => rfl
  | .mark .., f => rfl
  | .halt .., f => rfl

theorem val_pure {α : Type} (a : α) : val P (pure a : Sem α) = some a := rfl
theorem val_program : val P program = some P := rfl

theorem val_underlying {t : TypeId} {d : TypeDesc} (h : P.underlying t = some d) : val P (underlying t) = some d := by
  unfold underlying
  rw [val_bind, val_program]
  simp only [Option.bind_some, h]
  rfl

theorem val_typeInfo {t : TypeId} {i : TypeInfo} (h : P.info? t = some i) : val P (typeInfo t) = some i := by
  unfold typeInfo
  rw [val_bind, val_program]
  simp only [Option.bind_some, h]
  rfl

theorem val_sizeOf {t : TypeId} {i : TypeInfo} (h : P.info? t = some i) : val P (sizeOf t) = some (P.cellsOf t) := by
  unfold sizeOf
  rw [val_bind, val_typeInfo h]
  simp [Program.cellsOf, h, val_pure]

/-- A scalar value of that kind. -/
def LK.okV : LK → Value → Bool
  | .int k, .int k' _ => decide (k = k')
  | .str, .string _ => true
  | .bool, .bool _ => true
  | _, _ => false

def okVs : List LK → List Value → Prop
  | [], [] => True
  | k :: ks, x :: xs => k.okV x = true ∧ okVs ks xs
  | _, _ => False

theorem okVs_len : ∀ {ls : List LK} {xs : List Value}, okVs ls xs → xs.length = ls.length
  | [], [], _ => rfl
  | [], _ :: _, h => h.elim
  | _ :: _, [], h => h.elim
  | _ :: ls, _ :: xs, h => by simp [okVs_len h.2]

theorem okVs_app : ∀ {l m : List LK} {xs : List Value}, okVs (l ++ m) xs → okVs l (xs.take l.length) ∧ okVs m (xs.drop l.length)
  | [], m, xs, h => ⟨by simp [okVs], by simpa using h⟩
  | k :: l, m, [], h => h.elim
  | k :: l, m, x :: xs, h => by
    obtain ⟨h1, h2⟩ := okVs_app (l := l) (m := m) (xs := xs) h.2
    exact ⟨⟨h.1, h1⟩, h2⟩

def vOf (P : Program) (t : TypeId) (xs : List Value) : Value := if AM.isAgg P t then .agg xs.toArray else xs.getD 0 undef

theorem val_isAgg {t : TypeId} {d : TypeDesc} (h : P.underlying t = some d) : val P (Go.isAgg t) = some (AM.isAgg P t) := by
  unfold Go.isAgg AM.isAgg
  rw [val_bind, val_underlying h, h]
  cases d <;> rfl

theorem val_part {t : TypeId} {d : TypeDesc} {xs : List Value} {off n : Nat} (h : P.underlying t = some d) (hn : P.cellsOf t = n) (hl : off + n ≤ xs.length) (h1 : AM.isAgg P t = false → n = 1) :
    val P (part t xs.toArray off) = some (vOf P t ((xs.drop off).take n)) := by
  obtain ⟨i, hi⟩ := info_of_underlying h
  unfold part vOf
  rw [val_bind, val_isAgg h]
  simp only [Option.bind_some]
  cases ha : AM.isAgg P t with
  | true =>
    simp only [if_true]
    rw [val_bind, val_sizeOf hi, hn]
    simp only [Option.bind_some, val_pure, Option.some.injEq, Value.agg.injEq]
    apply Array.ext'
    simp [List.extract_eq_take_drop]
  | false =>
    have := h1 ha
    subst this
    simp only [Bool.false_eq_true, if_false]
    have hlt : off < xs.length := by omega
    simp only [List.getElem?_toArray, List.getElem?_eq_getElem hlt, val_pure]
    rw [List.drop_eq_getElem_cons hlt]
    simp [hlt]

theorem leaves_one {d : Nat} {t : TypeId} {ls : List LK} (h : leavesIn P d t = some ls) (ha : AM.isAgg P t = false) : ls.length = 1 := by
  cases d with
  | zero => simp [leavesIn] at h
  | succ d =>
    simp only [leavesIn] at h
    unfold AM.isAgg at ha
    cases hu : P.underlying t with
    | none => rw [hu] at h; cases h
    | some u =>
      rw [hu] at h ha
      cases u <;> first | (simp at ha; done) | (simp only [Option.some.injEq] at h; subst h; rfl) | cases h

theorem leaves_known : ∀ {d : Nat} {t : TypeId} {ls : List LK}, leavesIn P d t = some ls → ∃ u, P.underlying t = some u
  | 0, _, _, h => by simp [leavesIn] at h
  | d + 1, t, ls, h => by
    simp only [leavesIn] at h
    cases hu : P.underlying t with
    | none => rw [hu] at h; cases h
    | some u => exact ⟨u, rfl⟩

theorem bytes_beq (a b : ByteArray) : (a.toList == b.toList) = decide (a = b) := by
  have key : ∀ x : ByteArray, x.toList = x.data.toList := fun x => by
    rw [ByteArray.toList_eq]
  rw [key, key]
  by_cases h : a = b
  · subst h; simp
  · have h2 : a.data.toList ≠ b.data.toList := fun e => h (by
      cases a; cases b; simp at e; simp [e])
    rw [decide_eq_false h]
    exact beq_eq_false_iff_ne.2 h2

/-- The two halves of lists that are compared. -/
theorem split_eq {l m : Nat} {xs ys : List Value} (hx : xs.length = l + m) (hy : ys.length = l + m) : (xs = ys) ↔ (xs.take l = ys.take l ∧ xs.drop l = ys.drop l) := by
  constructor
  · rintro rfl; exact ⟨rfl, rfl⟩
  · rintro ⟨h1, h2⟩
    rw [← List.take_append_drop l xs, h1, h2, List.take_append_drop]

end
end Go.AM
namespace Go.AM
open Go
set_option linter.unusedVariables false
set_option linter.unusedSimpArgs false
section
variable {P : Program}

def leafStep (P : Program) (d : Nat) (acc : Option (List LK)) (f : Field) : Option (List LK) :=
  match acc, leavesIn P d f.type with
  | some l, some m => if f.name ≠ "_" ∧ f.offset = l.length ∧ P.cellsOf f.type = m.length then some (l ++ m) else none
  | _, _ => none

theorem leafStep_none (d : Nat) : ∀ (fs : List Field), fs.foldl (leafStep P d) none = none
  | [] => rfl
  | f :: fs => by rw [List.foldl_cons]; exact leafStep_none d fs

theorem leafStep_grow (d : Nat) : ∀ (fs : List Field) (l L : List LK), fs.foldl (leafStep P d) (some l) = some L → ∃ m, L = l ++ m
  | [], l, L, h => by simp at h; exact ⟨[], by simp [h]⟩
  | f :: fs, l, L, h => by
    rw [List.foldl_cons] at h
    cases hs : leafStep P d (some l) f with
    | none => rw [hs, leafStep_none] at h; cases h
    | some l' =>
      rw [hs] at h
      obtain ⟨m, rfl⟩ := leafStep_grow d fs l' L h
      unfold leafStep at hs
      split at hs
      · split at hs
        · rename_i hl _ _; simp only [Option.some.injEq] at hs hl; subst hl; subst hs; exact ⟨_, List.append_assoc _ _ _⟩
        · cases hs
      · cases hs

/-- What the comparison of two values of that type is. -/
def EqOf (P : Program) (D : Nat) (t : TypeId) (ls : List LK) : Prop :=
  ∀ xs ys, okVs ls xs → okVs ls ys → ∃ b, val P (Op.equalIn D t (vOf P t xs) (vOf P t ys)) = some b ∧ (b = true ↔ xs = ys)

theorem okVs_mid {l m m' : List LK} {xs : List Value} (h : okVs (l ++ m ++ m') xs) : okVs m ((xs.drop l.length).take m.length) := by
  rw [List.append_assoc] at h
  exact (okVs_app (okVs_app h).2).1

theorem take_mid {a b : Nat} {xs ys : List Value} (h1 : xs.take a = ys.take a) (h2 : (xs.drop a).take b = (ys.drop a).take b) : xs.take (a + b) = ys.take (a + b) := by
  rw [List.take_add, List.take_add, h1, h2]

theorem mid_of_eq {a b : Nat} {xs ys : List Value} (h : xs = ys) : (xs.drop a).take b = (ys.drop a).take b := by rw [h]

theorem fields_eq (d D : Nat) (ih : ∀ t ls, leavesIn P d t = some ls → EqOf P D t ls) (xs ys : List Value) :
    ∀ (fs : List Field) (l L : List LK), fs.foldl (leafStep P d) (some l) = some L → okVs L xs → okVs L ys → xs.take l.length = ys.take l.length →
      ∃ r, val P (forIn fs ((none, ()) : Option Bool × Unit) (fun (f : Field) (_ : Option Bool × Unit) => (if f.name ≠ "_" then do
      let a ← part f.type xs.toArray f.offset
      let b ← part f.type ys.toArray f.offset
      let c ← Op.equalIn D f.type a b
      if (!c) = true then pure (ForInStep.done (some false, ())) else pure (ForInStep.yield (none, ()))
      else pure (ForInStep.yield (none, ())) : Sem (ForInStep (Option Bool × Unit))))) = some r ∧ ((r = (none, ()) ∧ xs = ys) ∨ (r = (some false, ()) ∧ xs ≠ ys))
  | [], l, L, h, hx, hy, ht => by
    simp at h; subst h
    refine ⟨(none, ()), rfl, .inl ⟨rfl, ?_⟩⟩
    rw [List.take_of_length_le (by rw [okVs_len hx]; exact Nat.le_refl _), List.take_of_length_le (by rw [okVs_len hy]; exact Nat.le_refl _)] at ht
    exact ht
  | f :: fs, l, L, h, hx, hy, ht => by
    rw [List.foldl_cons] at h
    cases hs : leafStep P d (some l) f with
    | none => rw [hs, leafStep_none] at h; cases h
    | some l' =>
      rw [hs] at h
      unfold leafStep at hs
      split at hs
      case h_2 => cases hs
      rename_i l0 m hl hm
      split at hs
      case isFalse => cases hs
      rename_i hc
      simp only [Option.some.injEq] at hs hl
      subst hl; subst hs
      obtain ⟨hname, hoff, hcells⟩ := hc
      obtain ⟨m', rfl⟩ := leafStep_grow d fs _ _ h
      obtain ⟨u, hu⟩ := leaves_known hm
      have hlx : f.offset + m.length ≤ xs.length := by rw [okVs_len hx, hoff]; simp
      have hly : f.offset + m.length ≤ ys.length := by rw [okVs_len hy, hoff]; simp
      have hpx := val_part (P := P) (xs := xs) (off := f.offset) hu hcells hlx (leaves_one hm)
      have hpy := val_part (P := P) (xs := ys) (off := f.offset) hu hcells hly (leaves_one hm)
      obtain ⟨b, hb1, hb2⟩ := ih f.type m hm _ _ (okVs_mid hx) (okVs_mid hy)
      rw [← hoff] at hb1 hb2
      rw [List.forIn_cons]
      simp only [ne_eq, hname, not_false_eq_true, if_true]
      rw [val_bind, val_bind, hpx]
      simp only [Option.bind_some]
      rw [val_bind, hpy]
      simp only [Option.bind_some]
      rw [val_bind, hb1]
      simp only [Option.bind_some]
      cases b with
      | true =>
        simp only [Bool.not_true, Bool.false_eq_true, if_false, val_pure, Option.bind_some]
        refine fields_eq d D ih xs ys fs _ _ h hx hy ?_
        rw [List.length_append]
        refine take_mid ht ?_
        rw [← hoff]; exact hb2.1 rfl
      | false =>
        simp only [Bool.not_false, if_true, val_pure, Option.bind_some]
        refine ⟨_, rfl, .inr ⟨rfl, fun e => ?_⟩⟩
        have := hb2.2 (mid_of_eq e)
        cases this

theorem elems_eq (D : Nat) (t : TypeId) (m : List LK) (u : TypeDesc) (hu : P.underlying t = some u) (hn : P.cellsOf t = m.length) (h1 : AM.isAgg P t = false → m.length = 1) (ih : EqOf P D t m) (xs ys : List Value) :
    ∀ (n s : Nat), okVs (List.replicate (s + n) m).flatten xs → okVs (List.replicate (s + n) m).flatten ys → xs.take (s * m.length) = ys.take (s * m.length) →
      ∃ r, val P (forIn (List.range' s n) ((none, ()) : Option Bool × Unit) (fun (i : Nat) (_ : Option Bool × Unit) => (do
      let a ← part t xs.toArray (i * m.length)
      let b ← part t ys.toArray (i * m.length)
      let c ← Op.equalIn D t a b
      if (!c) = true then pure (ForInStep.done (some false, ())) else pure (ForInStep.yield (none, ())) : Sem (ForInStep (Option Bool × Unit))))) = some r ∧ ((r = (none, ()) ∧ xs = ys) ∨ (r = (some false, ()) ∧ xs ≠ ys))
  | 0, s, hx, hy, ht => by
    refine ⟨(none, ()), rfl, .inl ⟨rfl, ?_⟩⟩
    have lx := okVs_len hx
    have ly := okVs_len hy
    simp at lx ly
    rw [List.take_of_length_le (by omega), List.take_of_length_le (by omega)] at ht
    exact ht
  | n + 1, s, hx, hy, ht => by
    have lx := okVs_len hx
    have ly := okVs_len hy
    simp at lx ly
    have e1 : (s + (n + 1)) * m.length = s * m.length + m.length + n * m.length := by rw [Nat.add_mul, Nat.add_mul]; omega
    have hsplit : (List.replicate (s + (n + 1)) m).flatten = (List.replicate s m).flatten ++ m ++ (List.replicate n m).flatten := by
      rw [show s + (n + 1) = s + 1 + n by omega, ← List.replicate_append_replicate, List.replicate_succ', List.flatten_append, List.flatten_append]
      simp
    have hlen : (List.replicate s m).flatten.length = s * m.length := by simp
    have hx' := okVs_mid (hsplit ▸ hx)
    have hy' := okVs_mid (hsplit ▸ hy)
    rw [hlen] at hx' hy'
    have hpx := val_part (P := P) (xs := xs) (off := s * m.length) hu hn (by omega) h1
    have hpy := val_part (P := P) (xs := ys) (off := s * m.length) hu hn (by omega) h1
    obtain ⟨b, hb1, hb2⟩ := ih _ _ hx' hy'
    rw [List.range'_succ, List.forIn_cons, val_bind, val_bind, hpx]
    simp only [Option.bind_some]
    rw [val_bind, hpy]
    simp only [Option.bind_some]
    rw [val_bind, hb1]
    simp only [Option.bind_some]
    cases b with
    | true =>
      simp only [Bool.not_true, Bool.false_eq_true, if_false, val_pure, Option.bind_some]
      refine elems_eq D t m u hu hn h1 ih xs ys n (s + 1) (by rw [show s + 1 + n = s + (n + 1) by omega]; exact hx) (by rw [show s + 1 + n = s + (n + 1) by omega]; exact hy) ?_
      rw [Nat.add_mul, Nat.one_mul]
      exact take_mid ht (hb2.1 rfl)
    | false =>
      simp only [Bool.not_false, if_true, val_pure, Option.bind_some]
      refine ⟨_, rfl, .inr ⟨rfl, fun e => ?_⟩⟩
      have := hb2.2 (mid_of_eq e)
      cases this

theorem equalIn_leaves : ∀ (d : Nat) (t : TypeId) (ls : List LK), leavesIn P d t = some ls → ∀ D, d ≤ D → EqOf P D t ls
  | 0, t, ls, h, _, _ => by simp [leavesIn] at h
  | d + 1, t, ls, h, 0, hD => by omega
  | d + 1, t, ls, h, D + 1, hD => by
    have ih := fun t ls h => equalIn_leaves d t ls h D (by omega)
    intro xs ys hx hy
    simp only [leavesIn] at h
    unfold Op.equalIn
    rw [val_bind]
    cases hu : P.underlying t with
    | none => rw [hu] at h; cases h
    | some u =>
      rw [hu] at h
      rw [val_underlying hu]
      simp only [Option.bind_some]
      have hag : AM.isAgg P t = (match P.underlying t with | some (.struct _) | some (.array _ _) => true | _ => false) := rfl
      rw [hu] at hag
      unfold vOf
      cases u with
      | int k =>
        simp only [Option.some.injEq] at h; subst h
        dsimp only at hag
        rw [hag]
        match xs, ys, hx, hy with
        | [.int k1 a], [.int k2 b], hx, hy =>
          simp only [okVs, LK.okV, decide_eq_true_eq, and_true] at hx hy
          subst hx; subst hy
          exact ⟨a == b, by simp [val_pure], by simp⟩
      | string =>
        simp only [Option.some.injEq] at h; subst h
        dsimp only at hag
        rw [hag]
        match xs, ys, hx, hy with
        | [.string a], [.string b], hx, hy =>
          refine ⟨a == b, by simp [val_pure], ?_⟩
          simp only [List.cons.injEq, Value.string.injEq, and_true]
          have he : (a == b) = (a.data == b.data) := rfl
          rw [he, beq_iff_eq]
          constructor
          · intro e; cases a; cases b; simpa using e
          · rintro rfl; rfl
      | bool =>
        simp only [Option.some.injEq] at h; subst h
        dsimp only at hag
        rw [hag]
        match xs, ys, hx, hy with
        | [.bool a], [.bool b], hx, hy => exact ⟨a == b, by simp [val_pure], by simp⟩
      | struct fs =>
        dsimp only at h hag
        rw [hag]
        simp only [if_true]
        split at h
        · cases h
        rename_i hst
        have hst' : P.stoodInHeld t = false := by simpa using hst
        rw [val_bind, val_program]
        simp only [Option.bind_some, hst', Bool.false_eq_true, if_false]
        rw [val_bind, ← Array.forIn_toList]
        obtain ⟨r, hr, hr2⟩ := fields_eq d D ih xs ys fs.toList [] ls h hx hy rfl
        rw [hr]
        rcases hr2 with ⟨rfl, e⟩ | ⟨rfl, e⟩
        · exact ⟨true, rfl, by simp [e]⟩
        · exact ⟨false, rfl, by simp [e]⟩
      | array n e =>
        dsimp only at h hag
        rw [hag]
        simp only [if_true]
        cases hm : leavesIn P d e with
        | none => rw [hm] at h; cases h
        | some m =>
          rw [hm] at h
          dsimp only at h
          split at h
          case isFalse => cases h
          rename_i hc
          simp only [Option.some.injEq] at h
          subst h
          obtain ⟨u, hue⟩ := leaves_known hm
          obtain ⟨i, hi⟩ := info_of_underlying hue
          rw [val_bind, val_sizeOf hi, hc.1]
          simp only [Option.bind_some]
          rw [val_bind, Std.Legacy.Range.forIn_eq_forIn_range']
          obtain ⟨r, hr, hr2⟩ := elems_eq D e m u hue hc.1 (leaves_one hm) (ih e m hm) xs ys n 0 (by simpa using hx) (by simpa using hy) (by simp)
          have hsz : (Std.Legacy.Range.size { stop := n, step_pos := Nat.zero_lt_one }) = n := by simp [Std.Legacy.Range.size]
          rw [hsz, hr]
          rcases hr2 with ⟨rfl, e⟩ | ⟨rfl, e⟩
          · exact ⟨true, rfl, by simp [e]⟩
          · exact ⟨false, rfl, by simp [e]⟩
      | _ => cases h
end
end Go.AM
/-! What a lowered operation yields, the operation yields. -/
namespace Go.AM
open Go
set_option linter.unusedVariables false
set_option linter.unusedSimpArgs false

section
variable {P : Program} {cfg : Cfg} {f : FuncId} {fr : Fr} {σ σ' : St}

theorem opL_of (x : Operand) : opL fr (Opd.of x) = opnd fr x := by
  cases x with
  | tmp t => rfl
  | func g => rfl
  | global g => rfl
  | const v =>
    show opL fr (match Sc.ofV v with | some x => Opd.c x | none => Opd.no) = AV.ofV v
    unfold AV.ofV
    cases Sc.ofV v <;> rfl

theorem seL_of (x : Operand) : seL fr (Opd.of x) = AM.seen fr x := by unfold seL AM.seen; rw [opL_of]

theorem seL_fun : (seL fr ∘ Opd.of) = AM.seen fr := by funext x; exact seL_of x

theorem tkL_of (tk : Bool) (x : Operand) : tkL tk fr (Opd.of x) = taken tk fr x := by
  cases x with
  | tmp t =>
    cases tk with
    | true => rfl
    | false =>
      show sharedL t fr (fr.getD t .undef) = taken false fr (.tmp t)
      unfold taken
      simp only [Bool.false_eq_true, if_false]
      cases fr.getD t .undef with
      | list fl sz es => cases fl <;> rfl
      | _ => rfl
  | func g => rfl
  | global g => rfl
  | const v =>
    have h := opL_of (fr := fr) (.const v)
    show tkL tk fr (match Sc.ofV v with | some x => Opd.c x | none => Opd.no) = (opnd fr (.const v), fr)
    rw [← h]
    show _ = (opL fr (match Sc.ofV v with | some x => Opd.c x | none => Opd.no), fr)
    cases Sc.ofV v <;> rfl

theorem tkAllL_of : ∀ (xs : List Operand) {fr : Fr}, tkAllL fr (xs.map Opd.of) = takenAll fr xs
  | [], _ => rfl
  | x :: xs, fr => by
    simp only [List.map_cons, tkAllL, takenAll, tkL_of, tkAllL_of xs]

theorem settleL_of : ∀ (xs : List Operand) {fr : Fr}, settleL fr (xs.map Opd.of) = settle fr xs
  | [], _ => rfl
  | x :: xs, fr => by simp only [List.map_cons, settleL, settle, tkL_of, settleL_of xs]

theorem etOf_some {e : TypeId} {E : ET} (h : etOf P e = some E) : elemOK P e = true ∧ P.cellsOf e = E.c ∧ AM.isAgg P e = E.ag ∧ AM.bytesOf P e = E.bytes ∧ zeroA P e = some E.z := by
  unfold etOf at h
  split at h
  · rename_i ho
    cases hz : zeroA P e with
    | none => rw [hz] at h; cases h
    | some z => rw [hz] at h; simp at h; subst h; exact ⟨ho, rfl, rfl, rfl, rfl⟩
  · cases h

theorem sliceET_some {t : TypeId} {E : ET} (h : sliceET P t = some E) : ∃ e, P.underlying t = some (.slice e) ∧ etOf P e = some E := by
  unfold sliceET at h
  split at h
  · rename_i e hu; exact ⟨e, hu, h⟩
  · cases h

theorem packL_eq {e : TypeId} {E : ET} (h : AM.isAgg P e = E.ag) (cs : List AV) : packL E cs = pack P e cs := by
  unfold packL pack; rw [h]; cases E.ag <;> rfl

theorem groupL_eq {e : TypeId} {E : ET} (h : AM.isAgg P e = E.ag) (hc : P.cellsOf e = E.c) : ∀ (n : Nat) (cs : List AV), groupL E n cs = group P e n cs
  | 0, _ => rfl
  | n + 1, cs => by simp only [groupL, group, packL_eq h, groupL_eq h hc n, hc]

theorem elemsL_eq {e : TypeId} {E : ET} (h : AM.isAgg P e = E.ag) (hc : P.cellsOf e = E.c) (x : AV) : elemsL E x σ = elems P e x σ := by
  unfold elemsL elems
  rw [h, hc]
  split
  · rfl
  · rfl
  · rfl
  · split
    · congr 1; funext cs; exact groupL_eq h hc _ _
    · rfl
  · simp_all

theorem fits_some {ls : List LK} : ∀ {cs : List AV}, fitsL ls cs = true → ∃ vs, scalars cs = some vs ∧ okVs ls vs := by
  induction ls with
  | nil =>
    intro cs h
    cases cs with
    | nil => exact ⟨[], rfl, trivial⟩
    | cons x xs => simp [fitsL] at h
  | cons k ks ih =>
    intro cs h
    cases cs with
    | nil => simp [fitsL] at h
    | cons x xs =>
      simp only [fitsL, Bool.and_eq_true] at h
      obtain ⟨vs, h1, h2⟩ := ih h.2
      have hk := h.1
      have hs : ∃ s, x = .s s := by
        unfold LK.fits at hk
        split at hk <;> first | exact ⟨_, rfl⟩ | cases hk
      obtain ⟨s, rfl⟩ := hs
      refine ⟨s.toV :: vs, by simp [scalars, h1], ?_, h2⟩
      cases k <;> cases s <;> simp_all [LK.fits, LK.okV, Sc.toV]

theorem toV_inj_fits {k : LK} {x y : Sc} (hx : k.fits (.s x) = true) (hy : k.fits (.s y) = true) (h : x.toV = y.toV) : x = y := by
  cases k <;> cases x <;> simp [LK.fits] at hx <;> cases y <;> simp [LK.fits] at hy <;> simp [Sc.toV] at h <;> simp_all

theorem fits_sc {k : LK} {x : AV} (h : k.fits x = true) : ∃ s, x = .s s := by
  unfold LK.fits at h
  split at h <;> first | exact ⟨_, rfl⟩ | cases h

theorem fits_eq {ls : List LK} : ∀ {cs ds : List AV} {vs us : List Value}, fitsL ls cs = true → fitsL ls ds = true → scalars cs = some vs → scalars ds = some us → (vs = us ↔ cs = ds) := by
  induction ls with
  | nil =>
    intro cs ds vs us hc hd h1 h2
    cases cs with
    | cons => simp [fitsL] at hc
    | nil => cases ds with
      | cons => simp [fitsL] at hd
      | nil => simp [scalars] at h1 h2; subst h1; subst h2; simp
  | cons k ks ih =>
    intro cs ds vs us hc hd h1 h2
    cases cs with
    | nil => simp [fitsL] at hc
    | cons x xs => cases ds with
      | nil => simp [fitsL] at hd
      | cons y ys =>
        simp only [fitsL, Bool.and_eq_true] at hc hd
        obtain ⟨sx, rfl⟩ := fits_sc hc.1
        obtain ⟨sy, rfl⟩ := fits_sc hd.1
        simp only [scalars] at h1 h2
        cases e1 : scalars xs with
        | none => rw [e1] at h1; cases h1
        | some v1 => cases e2 : scalars ys with
          | none => rw [e2] at h2; cases h2
          | some v2 =>
            rw [e1] at h1; rw [e2] at h2
            simp at h1 h2
            subst h1; subst h2
            have := ih hc.2 hd.2 e1 e2
            simp only [List.cons.injEq, AV.s.injEq]
            constructor
            · rintro ⟨a, b⟩; exact ⟨toV_inj_fits hc.1 hd.1 a, this.1 b⟩
            · rintro ⟨a, b⟩; exact ⟨by rw [a], this.2 b⟩

theorem beqgo_eq : ∀ {a b : List AV}, AV.beq.go a b = true ↔ a = b
  | [], [] => by simp [AV.beq.go]
  | [], _ :: _ => by simp [AV.beq.go]
  | _ :: _, [] => by simp [AV.beq.go]
  | x :: xs, y :: ys => by
    simp only [AV.beq.go, Bool.and_eq_true, List.cons.injEq, beqgo_eq (a := xs) (b := ys)]
    constructor
    · rintro ⟨h1, h2⟩; exact ⟨beq_eq h1, h2⟩
    · rintro ⟨rfl, h2⟩; exact ⟨beq_refl _, h2⟩

theorem beq_iff {a b : AV} : AV.beq a b = true ↔ a = b := ⟨beq_eq, fun h => h ▸ beq_refl _⟩

/-- Comparing what is of parts. -/
theorem leaf_equal {t : TypeId} {ls : List LK} {cs ds : List AV} (hl : leavesIn P 10 t = some ls) (ha : AM.isAgg P t = true) (hc : fitsL ls cs = true) (hd : fitsL ls ds = true) :
    ∃ x y, AV.toV (.agg cs) = some (.agg x) ∧ AV.toV (.agg ds) = some (.agg y) ∧ val P (Op.equal t (.agg x) (.agg y)) = some (cellsEq cs ds) := by
  obtain ⟨vs, h1, h2⟩ := fits_some hc
  obtain ⟨us, h3, h4⟩ := fits_some hd
  obtain ⟨b, hb, hb2⟩ := equalIn_leaves 10 t ls hl Op.maxDepth (by decide) vs us h2 h4
  have hv : ∀ l, vOf P t l = .agg l.toArray := fun l => by unfold vOf; rw [ha]; rfl
  refine ⟨vs.toArray, us.toArray, by simp [AV.toV, h1], by simp [AV.toV, h3], ?_⟩
  unfold Op.equal
  rw [← hv, ← hv, hb]
  congr 1
  have := hb2.trans (fits_eq hc hd h1 h3)
  rw [Bool.eq_iff_iff, this]
  exact beqgo_eq.symm

theorem ofV_bool (b : Bool) : AV.ofPlain (.bool b) = some (.bool b) := rfl
theorem ofV_int (k : IntKind) (n : Int) : AV.ofPlain (.int k n) = some (.s (.int k n)) := rfl

theorem val_guard_sc {op : BinOp} {t : TypeId} {xo yo : Operand} {x y : Value} (hx : ∀ cs, x ≠ .agg cs) (hx' : x ≠ .nilIface) : val P (eqGuard op t xo yo x y) = some () := by
  cases op <;> first
    | rfl
    | (cases x <;> first | rfl | exact absurd rfl (hx _) | exact absurd rfl hx')

theorem intBin_val {op : BinOp} {t : TypeId} {k : IntKind} {a b : Int} {c : Sc} (h : scBin op (.int k a) (.int k b) = some c) : val P (Go.binOp op t (.int k a) (.int k b)) = some c.toV := by
  unfold scBin at h
  cases op <;> simp only [if_true, intBin, intShift, reduceCtorEq] at h
  all_goals first
    | (simp only [Option.some.injEq] at h; subst h; simp only [Go.binOp, ne_eq, not_true_eq_false, if_false, Op.intCmp]; rfl)
    | (simp only [Option.some.injEq] at h; subst h; simp [Go.binOp, Op.intArith, Op.intCmp, Op.intBits, val, Sc.toV, pure]; done)
    | (split at h
       · cases h
       · rename_i hz; simp only [Option.some.injEq] at h; subst h; simp [Go.binOp, Op.intDiv, Op.shift, hz, val, Sc.toV, pure]; done)
    | cases h

theorem shift_val {op : BinOp} {t : TypeId} {k k' : IntKind} {a b : Int} {c : Sc} (ho : op = .shl ∨ op = .shr) (h : intShift op k a b = some c) : val P (Go.binOp op t (.int k a) (.int k' b)) = some c.toV := by
  unfold intShift at h
  rcases ho with rfl | rfl
  · split at h
    · cases h
    · rename_i hz; simp only [Option.some.injEq] at h; subst h; simp [Go.binOp, Op.shift, hz, val, Sc.toV, pure]
  · split at h
    · cases h
    · rename_i hz; simp only [Option.some.injEq] at h; subst h; simp [Go.binOp, Op.shift, hz, val, Sc.toV, pure]

theorem scBin_val {op : BinOp} {t : TypeId} {x y c : Sc} (h : scBin op x y = some c) : val P (Go.binOp op t x.toV y.toV) = some c.toV ∧ (∀ cs, x.toV ≠ .agg cs) ∧ x.toV ≠ .nilIface := by
  refine ⟨?_, ?_, ?_⟩
  · cases x with
    | int k a =>
      cases y with
      | int k' b =>
        by_cases hs : op = .shl ∨ op = .shr
        · have : intShift op k a b = some c := by rcases hs with rfl | rfl <;> exact h
          exact shift_val hs this
        · have h' := h
          unfold scBin at h'
          split at h' <;> first | (exact absurd (Or.inl rfl) hs) | (exact absurd (Or.inr rfl) hs) | skip
          · rename_i heq1 heq2
            simp only [Sc.int.injEq] at heq1 heq2
            obtain ⟨rfl, rfl⟩ := heq1
            obtain ⟨rfl, rfl⟩ := heq2
            split at h'
            · rename_i hk; subst hk; exact intBin_val h
            · cases h'
          all_goals simp_all
      | _ => unfold scBin at h; split at h <;> simp_all
    | str a =>
      cases y with
      | str b =>
        unfold scBin at h
        have hbeq : ∀ a b : List UInt8, (ByteArray.toList ⟨a.toArray⟩ == ByteArray.toList ⟨b.toArray⟩) = decide (a = b) := fun a b => by
          rw [bytes_beq]
          congr 1
          simp
        split at h <;> simp_all
        · subst h; simp [Go.binOp, Op.stringOp, val, Sc.toV, pure, hbeq]
        · subst h; simp [Go.binOp, Op.stringOp, val, Sc.toV, pure, hbeq]
      | _ => unfold scBin at h; split at h <;> simp_all
    | _ => unfold scBin at h; split at h <;> simp_all
  · intro cs; cases x <;> simp [Sc.toV]
  · cases x <;> simp [Sc.toV]

theorem ofPlain_toV {c : Sc} (h : (∃ b, c = .bool b) ∨ (∃ k n, c = .int k n)) : AV.ofPlain c.toV = some (.s c) := by
  rcases h with ⟨b, rfl⟩ | ⟨k, n, rfl⟩ <;> rfl

theorem scBin_kind {op : BinOp} {x y c : Sc} (h : scBin op x y = some c) : (∃ b, c = .bool b) ∨ (∃ k n, c = .int k n) := by
  unfold scBin at h
  split at h
  · unfold intShift at h; split at h
    · cases h
    · simp at h; exact .inr ⟨_, _, h.symm⟩
  · unfold intShift at h; split at h
    · cases h
    · simp at h; exact .inr ⟨_, _, h.symm⟩
  · split at h
    · unfold intBin at h
      split at h <;> first
        | (simp only [Option.some.injEq] at h; subst h; first | exact .inl ⟨_, rfl⟩ | exact .inr ⟨_, _, rfl⟩)
        | (split at h <;> first | (simp only [Option.some.injEq] at h; subst h; exact .inr ⟨_, _, rfl⟩) | cases h)
        | cases h
    · cases h
  · simp at h; exact .inl ⟨_, h.symm⟩
  · simp at h; exact .inl ⟨_, h.symm⟩
  · cases h

end
end Go.AM
/-! Keys of maps; operators; what a lowered operation yields, the operation yields. -/
namespace Go.AM
open Go
set_option linter.unusedVariables false
set_option linter.unusedSimpArgs false

section
variable {P : Program} {cfg : Cfg} {f : FuncId} {fr : Fr} {σ σ' : St}

theorem checks_eq (d D : Nat) (em : Bool) (ih : ∀ t ls, leavesIn P d t = some ls → ∀ xs, okVs ls xs → val P (Instr.checkKey em D t (vOf P t xs)) = some ()) (xs : List Value) :
    ∀ (fs : List Field) (l L : List LK), fs.foldl (leafStep P d) (some l) = some L → okVs L xs →
      val P (forIn fs () (fun (f : Field) (_ : Unit) => (if f.name ≠ "_" then do
        let a ← part f.type xs.toArray f.offset
        Instr.checkKey em D f.type a
        pure (ForInStep.yield ())
        else pure (ForInStep.yield ()) : Sem (ForInStep Unit)))) = some ()
  | [], l, L, h, hx => rfl
  | f :: fs, l, L, h, hx => by
    rw [List.foldl_cons] at h
    cases hs : leafStep P d (some l) f with
    | none => rw [hs, leafStep_none] at h; cases h
    | some l' =>
      rw [hs] at h
      unfold leafStep at hs
      split at hs
      case h_2 => cases hs
      rename_i l0 m hl hm
      split at hs
      case isFalse => cases hs
      rename_i hc
      simp only [Option.some.injEq] at hs hl
      subst hl; subst hs
      obtain ⟨hname, hoff, hcells⟩ := hc
      obtain ⟨m', rfl⟩ := leafStep_grow d fs _ _ h
      obtain ⟨u, hu⟩ := leaves_known hm
      have hlx : f.offset + m.length ≤ xs.length := by rw [okVs_len hx, hoff]; simp
      have hpx := val_part (P := P) (xs := xs) (off := f.offset) hu hcells hlx (leaves_one hm)
      have hb1 := ih f.type m hm _ (okVs_mid hx)
      rw [← hoff] at hb1
      rw [List.forIn_cons]
      simp only [ne_eq, hname, not_false_eq_true, if_true]
      rw [val_bind, val_bind, hpx]
      simp only [Option.bind_some]
      rw [val_bind, hb1]
      simp only [Option.bind_some, val_pure]
      exact checks_eq d D em ih xs fs _ _ h hx

theorem checkElems_eq (D : Nat) (em : Bool) (t : TypeId) (m : List LK) (u : TypeDesc) (hu : P.underlying t = some u) (hn : P.cellsOf t = m.length) (h1 : AM.isAgg P t = false → m.length = 1) (ih : ∀ xs, okVs m xs → val P (Instr.checkKey em D t (vOf P t xs)) = some ()) (xs : List Value) :
    ∀ (n s : Nat), okVs (List.replicate (s + n) m).flatten xs →
      val P (forIn (List.range' s n) () (fun (i : Nat) (_ : Unit) => (do
        let k ← sizeOf t
        let a ← part t xs.toArray (i * k)
        Instr.checkKey em D t a
        pure (ForInStep.yield ()) : Sem (ForInStep Unit)))) = some ()
  | 0, s, hx => rfl
  | n + 1, s, hx => by
    have lx := okVs_len hx
    simp at lx
    have e1 : (s + (n + 1)) * m.length = s * m.length + m.length + n * m.length := by rw [Nat.add_mul, Nat.add_mul]; omega
    have hsplit : (List.replicate (s + (n + 1)) m).flatten = (List.replicate s m).flatten ++ m ++ (List.replicate n m).flatten := by
      rw [show s + (n + 1) = s + 1 + n by omega, ← List.replicate_append_replicate, List.replicate_succ', List.flatten_append, List.flatten_append]
      simp
    have hlen : (List.replicate s m).flatten.length = s * m.length := by simp
    have hx' := okVs_mid (hsplit ▸ hx)
    rw [hlen] at hx'
    obtain ⟨i, hi⟩ := info_of_underlying hu
    have hpx := val_part (P := P) (xs := xs) (off := s * m.length) hu hn (by omega) h1
    rw [List.range'_succ, List.forIn_cons, val_bind, val_bind, val_sizeOf hi, hn]
    simp only [Option.bind_some]
    rw [val_bind, hpx]
    simp only [Option.bind_some]
    rw [val_bind, ih _ hx']
    simp only [Option.bind_some, val_pure]
    refine checkElems_eq D em t m u hu hn h1 ih xs n (s + 1) (by rw [show s + 1 + n = s + (n + 1) by omega]; exact hx)

theorem check_leaves (em : Bool) : ∀ (d : Nat) (t : TypeId) (ls : List LK), leavesIn P d t = some ls → ∀ D, d ≤ D → ∀ xs, okVs ls xs → val P (Instr.checkKey em D t (vOf P t xs)) = some ()
  | 0, t, ls, h, _, _ => by simp [leavesIn] at h
  | d + 1, t, ls, h, 0, hD => by omega
  | d + 1, t, ls, h, D + 1, hD => by
    have ih := fun t ls h => check_leaves em d t ls h D (by omega)
    intro xs hx
    simp only [leavesIn] at h
    unfold Instr.checkKey
    rw [val_bind]
    cases hu : P.underlying t with
    | none => rw [hu] at h; cases h
    | some u =>
      rw [hu] at h
      rw [val_underlying hu]
      simp only [Option.bind_some]
      have hag : AM.isAgg P t = (match P.underlying t with | some (.struct _) | some (.array _ _) => true | _ => false) := rfl
      rw [hu] at hag
      unfold vOf
      cases u with
      | int k => rfl
      | string => rfl
      | bool => rfl
      | struct fs =>
        dsimp only at h hag
        rw [hag]
        simp only [if_true]
        split at h
        · cases h
        rw [← Array.forIn_toList]
        rw [val_bind]
        have hk := checks_eq d D em ih xs fs.toList [] ls h hx
        rw [show val P (forIn fs.toList PUnit.unit _) = some () from hk]
        rfl
      | array n e =>
        dsimp only at h hag
        rw [hag]
        simp only [if_true]
        cases hm : leavesIn P d e with
        | none => rw [hm] at h; cases h
        | some m =>
          rw [hm] at h
          dsimp only at h
          split at h
          case isFalse => cases h
          rename_i hc
          simp only [Option.some.injEq] at h
          subst h
          obtain ⟨u, hue⟩ := leaves_known hm
          rw [Std.Legacy.Range.forIn_eq_forIn_range']
          have hsz : (Std.Legacy.Range.size { stop := n, step_pos := Nat.zero_lt_one }) = n := by simp [Std.Legacy.Range.size]
          rw [hsz]
          rw [val_bind]
          have hk := checkElems_eq D em e m u hue hc.1 (leaves_one hm) (ih e m hm) xs n 0 (by simpa using hx)
          rw [show val P (forIn (List.range' _ n _) PUnit.unit _) = some () from hk]
          rfl
      | _ => cases h

/-- A key that fits. -/
theorem kk_toV {kT : TypeId} {kk : KK} {k : AV} (h : kkOf P kT = some kk) (hf : kk.fits k = true) :
    ∃ ls vs, k.toV = some (vOf P kT vs) ∧ leavesIn P 10 kT = some ls ∧ okVs ls vs ∧ scalars k.cells = some vs ∧ fitsL ls k.cells = true := by
  have one : ∀ {lk : LK} {u : TypeDesc}, P.underlying kT = some u → (match u with | .struct _ | .array _ _ => true | _ => false) = false → leavesIn P 10 kT = some [lk] → lk.fits k = true →
      ∃ ls vs, k.toV = some (vOf P kT vs) ∧ leavesIn P 10 kT = some ls ∧ okVs ls vs ∧ scalars k.cells = some vs ∧ fitsL ls k.cells = true := by
    intro lk u hu hag hl hk
    obtain ⟨s, rfl⟩ := fits_sc hk
    have ha : AM.isAgg P kT = false := by unfold AM.isAgg; rw [hu]; cases u <;> simp_all
    refine ⟨[lk], [s.toV], by simp [AV.toV, vOf, ha], hl, ⟨?_, trivial⟩, rfl, by simp [AV.cells, fitsL, hk]⟩
    cases lk <;> cases s <;> simp_all [LK.fits, LK.okV, Sc.toV]
  have many : ∀ {u : TypeDesc} {ls : List LK}, P.underlying kT = some u → (match u with | .struct _ | .array _ _ => true | _ => false) = true → leavesIn P 10 kT = some ls → kk = .leaf ls →
      ∃ ls vs, k.toV = some (vOf P kT vs) ∧ leavesIn P 10 kT = some ls ∧ okVs ls vs ∧ scalars k.cells = some vs ∧ fitsL ls k.cells = true := by
    intro u ls hu hag hl hkk
    subst hkk
    cases k with
    | agg cs =>
      have hf' : fitsL ls cs = true := hf
      obtain ⟨vs, h1, h2⟩ := fits_some hf'
      have ha : AM.isAgg P kT = true := by unfold AM.isAgg; rw [hu]; cases u <;> simp_all
      exact ⟨ls, vs, by simp [AV.toV, vOf, ha, h1], hl, h2, h1, hf'⟩
    | _ => simp [KK.fits] at hf
  unfold kkOf at h
  cases hu : P.underlying kT with
  | none => rw [hu] at h; cases h
  | some u =>
    rw [hu] at h
    cases u with
    | int k0 => simp at h; subst h; exact one hu rfl (by simp [leavesIn, hu]) hf
    | string => simp at h; subst h; exact one hu rfl (by simp [leavesIn, hu]) hf
    | bool => simp at h; subst h; exact one hu rfl (by simp [leavesIn, hu]) hf
    | struct fs =>
      dsimp only at h
      obtain ⟨ls, h1, h2⟩ := map_some h
      exact many hu rfl h1 h2.symm
    | array n e =>
      dsimp only at h
      obtain ⟨ls, h1, h2⟩ := map_some h
      exact many hu rfl h1 h2.symm
    | _ => cases h

theorem kk_may {kT : TypeId} {kk : KK} {k : AV} (h : kkOf P kT = some kk) (hf : kk.fits k = true) : keyMay P kT k = true := by
  obtain ⟨ls, vs, h1, h2, h3, h4, h5⟩ := kk_toV h hf
  unfold keyMay
  rw [h1]
  dsimp only
  rw [check_leaves false 10 kT ls h2 10000 (by decide) vs h3, check_leaves true 10 kT ls h2 10000 (by decide) vs h3]
  rfl

theorem cells_inj {ls : List LK} {kk : KK} {a b : AV} (ha : kk.fits a = true) (hb : kk.fits b = true) : a.cells = b.cells ↔ a = b := by
  refine ⟨fun h => ?_, fun h => by rw [h]⟩
  cases kk with
  | one k =>
    obtain ⟨x, rfl⟩ := fits_sc (show k.fits a = true from ha)
    obtain ⟨y, rfl⟩ := fits_sc (show k.fits b = true from hb)
    simpa [AV.cells] using h
  | leaf ls =>
    cases a with
    | agg x => cases b with
      | agg y => simpa [AV.cells] using h
      | _ => simp [KK.fits] at hb
    | _ => simp [KK.fits] at ha

theorem keyEqL_ok {kT : TypeId} {kk : KK} {a b : AV} {r : Bool} (h : kkOf P kT = some kk) (he : keyEqL kk a b = some r) : keyEq P kT a b = some r := by
  unfold keyEqL at he
  split at he
  case isFalse => cases he
  rename_i hf
  simp only [Option.some.injEq] at he
  subst he
  obtain ⟨ls, vs, h1, h2, h3, h4, h5⟩ := kk_toV h hf.1
  obtain ⟨ls', us, k1, k2, k3, k4, k5⟩ := kk_toV h hf.2
  have : ls' = ls := Option.some.inj (k2.symm.trans h2)
  subst this
  obtain ⟨u, hu⟩ := leaves_known h2
  have hiff : (vs = us) ↔ a = b := (fits_eq h5 k5 h4 k4).trans (cells_inj (ls := ls') hf.1 hf.2)
  have hbeq : AV.beq a b = true ↔ vs = us := beq_iff.trans hiff.symm
  unfold keyEq
  rw [h1, k1, hu]
  dsimp only
  split
  · rename_i hn
    have hag : AM.isAgg P kT = false := by unfold AM.isAgg; rw [hu]; cases u <;> simp_all [nowKind]
    have hlen := leaves_one h2 hag
    unfold vOf
    rw [hag]
    simp only [Bool.false_eq_true, if_false]
    match ls', vs, us, h3, k3, hlen with
    | [lk], [x], [y], h3, k3, _ =>
      have hx := h3.1
      have hy := k3.1
      unfold leavesIn at h2
      rw [hu] at h2
      cases u <;> simp [nowKind] at hn <;> simp at h2 <;> subst h2
      · cases x <;> simp [LK.okV] at hx
        cases y <;> simp [LK.okV] at hy
        rename_i b1 b2
        have hval : (b1 = b2) ↔ AV.beq a b = true := by rw [hbeq]; simp
        simp only [List.getD_cons_zero, Instr.sameNow, Option.some.injEq]
        rw [Bool.eq_iff_iff, ← hval]; simp
      · cases x <;> simp [LK.okV] at hx
        cases y <;> simp [LK.okV] at hy
        subst hx; subst hy
        rename_i b1 b2
        have hval : (b1 = b2) ↔ AV.beq a b = true := by rw [hbeq]; simp
        simp only [List.getD_cons_zero, Instr.sameNow, if_true, Option.some.injEq]
        rw [Bool.eq_iff_iff, ← hval]; simp
      · cases x <;> simp [LK.okV] at hx
        cases y <;> simp [LK.okV] at hy
        rename_i b1 b2
        have hval : (b1 = b2) ↔ AV.beq a b = true := by rw [hbeq]; simp
        simp only [List.getD_cons_zero, Instr.sameNow, Option.some.injEq]
        have he : (b1 == b2) = (b1.data == b2.data) := rfl
        rw [he, Bool.eq_iff_iff, ← hval, beq_iff_eq]
        constructor
        · intro e; cases b1; cases b2; simpa using e
        · rintro rfl; rfl
  · obtain ⟨r, hr, hr2⟩ := equalIn_leaves 10 kT ls' h2 Op.maxDepth (by decide) vs us h3 k3
    unfold Op.equal
    rw [hr]
    congr 1
    rw [Bool.eq_iff_iff, hr2, hbeq]

theorem findL_ok {kT : TypeId} {kk : KK} {k : AV} (h : kkOf P kT = some kk) : ∀ {es : List Entry} {i : Nat} {r : Option (Nat × Entry)}, findL kk k es i = some r → findA P kT k es i = some r
  | [], i, r, hf => hf
  | e :: es, i, r, hf => by
    simp only [findL] at hf
    simp only [findA]
    cases hk : keyEqL kk k e.key with
    | none => rw [hk] at hf; cases hf
    | some b =>
      rw [hk] at hf
      rw [keyEqL_ok h hk]
      cases b with
      | true => exact hf
      | false => exact findL_ok h hf

theorem findL_key {kk : KK} {k : AV} : ∀ {es : List Entry} {i j : Nat} {e : Entry}, findL kk k es i = some (some (j, e)) → k = e.key ∧ kk.fits e.key = true
  | [], i, j, e, hf => by simp [findL] at hf
  | x :: es, i, j, e, hf => by
    simp only [findL] at hf
    cases hk : keyEqL kk k x.key with
    | none => rw [hk] at hf; cases hf
    | some b =>
      rw [hk] at hf
      cases b with
      | true =>
        simp only [Option.some.injEq, Prod.mk.injEq] at hf
        obtain ⟨_, rfl⟩ := hf
        unfold keyEqL at hk
        split at hk
        · rename_i h; simp only [Option.some.injEq] at hk; exact ⟨beq_eq hk, h.2⟩
        · cases hk
      | false => exact findL_key hf

theorem mapKinds_some {t : TypeId} {q : KK × AV} (h : mapKinds P t = some q) : ∃ k e, P.underlying t = some (.map k e) ∧ kkOf P k = some q.1 ∧ zeroA P e = some q.2 := by
  unfold mapKinds at h
  split at h
  · rename_i k e hu
    split at h
    · rename_i kk z h1 h2; simp at h; subst h; exact ⟨k, e, hu, h1, h2⟩
    · cases h
  · cases h

theorem lookupL_ok {t : TypeId} {q : KK × AV} {m k v : AV} {ok : Bool} (h : mapKinds P t = some q) (hl : lookupL q.1 q.2 ok m k σ = some v) : lookup P t m k ok σ = some v := by
  obtain ⟨kT, eT, hu, hk, hz⟩ := mapKinds_some h
  unfold lookupL at hl
  unfold lookup
  rw [hu]
  dsimp only
  split at hl
  case isFalse => cases hl
  rename_i hf
  rw [kk_may hk hf]
  simp only [Bool.not_true, Bool.false_eq_true, if_false]
  split at hl
  · cases hl
  · rename_i es c hm
    rw [hm]
    dsimp only
    split at hl
    · rename_i j e hfd
      rw [findL_ok hk hfd]; exact hl
    · rename_i hfd
      rw [findL_ok hk hfd]
      dsimp only
      rw [hz]; exact hl
    · cases hl

theorem sameBits_self {kT : TypeId} {kk : KK} {k : AV} (h : kkOf P kT = some kk) (hf : kk.fits k = true) : ∃ v, k.toV = some v ∧ Instr.sameBits 10000 v v = true := by
  obtain ⟨ls, vs, h1, h2, h3, h4, h5⟩ := kk_toV h hf
  refine ⟨_, h1, ?_⟩
  have sc : ∀ (n : Nat) (lk : LK) (x : Value), lk.okV x = true → Instr.sameBits n x x = true := by
    intro n lk x hx
    have hs : ∀ s : ByteArray, (s == s) = true := fun s => by
      show (s.data == s.data) = true
      simp
    cases lk <;> cases x <;> simp [LK.okV] at hx <;> cases n <;> simp [Instr.sameBits, hs]
  have all : ∀ (n : Nat) (ls : List LK) (vs : List Value), okVs ls vs → (vs.zip vs).all (fun (x, y) => Instr.sameBits n x y) = true := by
    intro n ls
    induction ls with
    | nil => intro vs hv; cases vs with | nil => rfl | cons => exact hv.elim
    | cons k ks ih =>
      intro vs hv
      cases vs with
      | nil => exact hv.elim
      | cons x xs => simp only [List.zip_cons_cons, List.all_cons, sc n k x hv.1, ih xs hv.2]; rfl
  unfold vOf
  split
  · show Instr.sameBits (9999 + 1) (.agg vs.toArray) (.agg vs.toArray) = true
    simp only [Instr.sameBits, beq_self_eq_true, Bool.true_and]
    exact all 9999 ls vs h3
  · rename_i ha
    have hlen := leaves_one h2 (by simpa using ha)
    match ls, vs, h3, hlen with
    | [lk], [x], h3, _ => exact sc _ lk x h3.1

theorem updateL_ok {t : TypeId} {q : KK × AV} {m k v : AV} (h : mapKinds P t = some q) (hl : updateL q.1 m k v σ = some σ') : update P t m k v σ = some σ' := by
  obtain ⟨kT, eT, hu, hk, hz⟩ := mapKinds_some h
  unfold updateL at hl
  unfold update
  rw [hu]
  dsimp only
  split at hl
  case isFalse => cases hl
  rename_i hf
  rw [kk_may hk hf.1, hf.2]
  simp only [Bool.not_true, Bool.or_self, Bool.false_eq_true, if_false]
  split at hl
  case h_2 => cases hl
  rename_i hd
  dsimp only
  split at hl
  · cases hl
  · rename_i es c hm
    rw [hm]
    dsimp only
    split at hl
    · rename_i j e hfd
      rw [findL_ok hk hfd]
      dsimp only
      obtain ⟨e1, e2⟩ := findL_key hfd
      obtain ⟨v0, h3, h4⟩ := sameBits_self hk e2
      rw [h3, e1, h3]
      dsimp only
      rw [h4, if_pos rfl, ← e1]; exact hl
    · rename_i hfd
      rw [findL_ok hk hfd]; exact hl
    · cases hl

theorem deleteL_ok {t : TypeId} {q : KK × AV} {m k : AV} (h : mapKinds P t = some q) (hl : deleteL q.1 m k σ = some σ') : deleteA P t m k σ = some σ' := by
  obtain ⟨kT, eT, hu, hk, hz⟩ := mapKinds_some h
  unfold deleteL at hl
  unfold deleteA
  rw [hu]
  dsimp only
  split at hl
  case isFalse => cases hl
  rename_i hf
  rw [kk_may hk hf]
  simp only [Bool.not_true, Bool.false_eq_true, if_false]
  split at hl
  · exact hl
  · rename_i hd
    dsimp only
    split at hl
    · cases hl
    · rename_i es c hm
      rw [hm]
      dsimp only
      split at hl
      · rename_i j e hfd; rw [findL_ok hk hfd]; exact hl
      · rename_i hfd; rw [findL_ok hk hfd]; exact hl
      · cases hl
  · cases hl
end
end Go.AM
/-! What a lowered operation yields, the operation yields. -/
namespace Go.AM
open Go
set_option linter.unusedVariables false
set_option linter.unusedSimpArgs false

section
variable {P : Program} {cfg : Cfg} {f : FuncId} {fr fr' : Fr} {σ σ' : St}

theorem freezeL_ok {t : TypeId} {E : ET} {v v' : AV} (h : sliceET P t = some E) (hf : freezeL E v σ = some (v', σ')) : AM.freeze P t v σ = some (v', σ') := by
  obtain ⟨e, hu, he⟩ := sliceET_some h
  obtain ⟨h1, h2, h3, h4, h5⟩ := etOf_some he
  unfold freezeL at hf
  unfold AM.freeze
  rw [hu]
  split at hf
  · simp only [h2, h3]
    simp only [groupL_eq h3 h2] at hf
    exact hf
  · exact hf
  · cases hf

theorem fillA_low {places : Nat → Option (Nat × Nat)} : ∀ {parts : List (Nat × Operand)} {lp : List (Nat × Nat × Opd)} {cs : List AV}, lowParts places parts = some lp →
    fillA places cs (parts.map fun p => (p.1, AM.seen fr p.2)) = fillL cs (lp.map fun p => (p.1, p.2.1, seL fr p.2.2))
  | [], lp, cs, h => by simp [lowParts] at h; subst h; rfl
  | (i, x) :: rest, lp, cs, h => by
    simp only [lowParts] at h
    split at h
    · rename_i off size l hp hl
      simp only [Option.some.injEq] at h
      subst h
      simp only [List.map_cons, fillA, fillL, hp, seL_of]
      split
      · rfl
      · exact fillA_low hl
    · cases h

theorem lowParts_snd {places : Nat → Option (Nat × Nat)} : ∀ {parts : List (Nat × Operand)} {lp : List (Nat × Nat × Opd)}, lowParts places parts = some lp → lp.map (·.2.2) = (parts.map (·.2)).map Opd.of
  | [], lp, h => by simp [lowParts] at h; subst h; rfl
  | (i, x) :: rest, lp, h => by
    simp only [lowParts] at h
    split at h
    · rename_i hl
      simp only [Option.some.injEq] at h
      subst h
      simp only [List.map_cons, lowParts_snd hl]
    · cases h

theorem bslL_ok {t : TypeId} {E : ET} {n : Nat} {parts : List (Nat × AV)} {v : AV} (h : sliceET P t = some E) (hb : bslL E n parts = some v) : buildSlice P t n parts = some v := by
  obtain ⟨e, hu, he⟩ := sliceET_some h
  obtain ⟨h1, h2, h3, h4, h5⟩ := etOf_some he
  unfold bslL at hb
  unfold buildSlice
  rw [hu]
  dsimp only
  by_cases hn : n = 0
  · rw [if_pos hn] at hb ⊢
    rw [h2]
    split at hb
    · rename_i hp; rw [if_pos ⟨h1, hp⟩]; exact hb
    · cases hb
  · rw [if_neg hn] at hb ⊢
    rw [h2, h5]
    split at hb
    · cases hb
    · rename_i hl
      rw [if_neg (by simp [h1]; omega)]
      exact hb

theorem load1L_ok {t : TypeId} {tk : Bool} {p v : AV} (ha : aggOf P t = some false) (h : load1L tk p σ = some (v, σ')) : load P tk t p σ = some (v, σ') := by
  have plain : ∀ {p : AV}, load1L false p σ = some (v, σ') → (match readCells σ p 1 with
      | some [v] => some (v, σ)
      | _ => none) = some (v, σ') := by
    intro p h
    unfold load1L at h
    cases p with
    | ptr r off =>
      dsimp only at h
      cases hb : boxOf σ r with
      | none => rw [hb] at h; cases h
      | some cs =>
        rw [hb] at h
        simp only [Option.bind_some] at h
        cases hc : cs[off]? with
        | none => rw [hc] at h; cases h
        | some u =>
          rw [hc] at h
          have hlt := (List.getElem?_eq_some_iff.1 hc).1
          simp only [readCells, hb, Option.bind_some]
          rw [if_pos (by omega), List.drop_eq_getElem_cons hlt]
          have : cs[off] = u := (List.getElem?_eq_some_iff.1 hc).2
          simp only [List.take_succ_cons, List.take_zero, List.map_cons, List.map_nil, this]
          exact h
    | rop l =>
      cases l with
      | nil => cases h
      | cons u l =>
        have : readCells σ (.rop (u :: l)) 1 = some [u] := by simp [readCells]
        rw [this]; exact h
    | _ => cases h
  unfold load
  rw [ha]
  dsimp only
  cases tk with
  | false => exact plain h
  | true =>
    cases p with
    | ptr r off => exact h
    | rop l =>
      have h' : load1L false (.rop l) σ = some (v, σ') := by
        cases l with
        | nil => cases h
        | cons u l => exact h
      exact plain h'
    | _ => cases h

theorem storeL_ok {t : TypeId} {p v : AV} (h : storeL (P.cellsOf t) p v σ = some σ') : store P t p v σ = some σ' := by
  unfold storeL at h
  unfold store
  split at h
  · exact h
  · cases h

theorem refEq_ok {t : TypeId} {k : Nat} {x y : AV} {b : Bool} {xo yo : Operand} (ht : typeKind P t = some k) (h : refEq k x y = some b) : binOp P .eql t xo yo x y = some (.bool b) ∧ binOp P .neq t xo yo x y = some (.bool !b) := by
  have hu : ∃ u, P.underlying t = some u := by
    unfold typeKind at ht
    cases hu : P.underlying t with
    | none => rw [hu] at ht; cases ht
    | some u => exact ⟨u, rfl⟩
  obtain ⟨u, hu⟩ := hu
  unfold refEq at h
  split at h
  · rename_i a c hx hy
    split at h
    case isFalse => cases h
    rename_i hk
    simp only [Option.some.injEq] at h; subst h
    have nil : ∀ {x : AV} {k : Nat}, x.nilKind = some k → (k = 0 ∧ x = .s .nilP) ∨ (k = 1 ∧ x = .s .nilS) ∨ (k = 2 ∧ x = .s .nilM) ∨ (k = 3 ∧ x = .s .nilF) := by
      intro x k hk
      unfold AV.nilKind at hk
      split at hk <;> simp at hk <;> subst hk <;> simp
    have h0 : val P (eqGuard .eql t xo yo (.pointer none) (.pointer none)) = some () := val_guard_sc (fun _ => by simp) (by simp)
    have h1 : val P (eqGuard .eql t xo yo (.slice none 0 0) (.slice none 0 0)) = some () := val_guard_sc (fun _ => by simp) (by simp)
    have h2 : val P (eqGuard .eql t xo yo (.map none) (.map none)) = some () := val_guard_sc (fun _ => by simp) (by simp)
    have h3 : val P (eqGuard .eql t xo yo .nilFunc .nilFunc) = some () := val_guard_sc (fun _ => by simp) (by simp)
    have g0 : val P (eqGuard .neq t xo yo (.pointer none) (.pointer none)) = some () := val_guard_sc (fun _ => by simp) (by simp)
    have g1 : val P (eqGuard .neq t xo yo (.slice none 0 0) (.slice none 0 0)) = some () := val_guard_sc (fun _ => by simp) (by simp)
    have g2 : val P (eqGuard .neq t xo yo (.map none) (.map none)) = some () := val_guard_sc (fun _ => by simp) (by simp)
    have g3 : val P (eqGuard .neq t xo yo .nilFunc .nilFunc) = some () := val_guard_sc (fun _ => by simp) (by simp)
    have eqv : ∀ (x : Value), (x = .pointer none ∧ k = 0 ∨ x = .slice none 0 0 ∧ k = 1 ∨ x = .map none ∧ k = 2 ∨ x = .nilFunc ∧ k = 3) → val P (Op.equal t x x) = some true := by
      intro x hxk
      unfold Op.equal Op.maxDepth
      unfold Op.equalIn
      rw [val_bind, val_underlying hu]
      simp only [Option.bind_some]
      unfold typeKind at ht
      rw [hu] at ht
      rcases hxk with ⟨rfl, hk0⟩ | ⟨rfl, hk0⟩ | ⟨rfl, hk0⟩ | ⟨rfl, hk0⟩ <;> subst hk0 <;> cases u <;> simp at ht <;> rfl
    rcases nil hx with ⟨r1, rfl⟩ | ⟨r1, rfl⟩ | ⟨r1, rfl⟩ | ⟨r1, rfl⟩ <;> rcases nil hy with ⟨r2, rfl⟩ | ⟨r2, rfl⟩ | ⟨r2, rfl⟩ | ⟨r2, rfl⟩ <;> first | (exfalso; omega) | skip
    · have := eqv (.pointer none) (.inl ⟨rfl, by omega⟩)
      refine ⟨?_, ?_⟩ <;> (unfold binOp; simp only [AV.toV, Sc.toV]; rw [val_bind]; simp only [h0, g0, Option.bind_some, Go.binOp]; rw [val_bind, this]; rfl)
    · have := eqv (.slice none 0 0) (.inr (.inl ⟨rfl, by omega⟩))
      refine ⟨?_, ?_⟩ <;> (unfold binOp; simp only [AV.toV, Sc.toV]; rw [val_bind]; simp only [h1, g1, Option.bind_some, Go.binOp]; rw [val_bind, this]; rfl)
    · have := eqv (.map none) (.inr (.inr (.inl ⟨rfl, by omega⟩)))
      refine ⟨?_, ?_⟩ <;> (unfold binOp; simp only [AV.toV, Sc.toV]; rw [val_bind]; simp only [h2, g2, Option.bind_some, Go.binOp]; rw [val_bind, this]; rfl)
    · have := eqv .nilFunc (.inr (.inr (.inr ⟨rfl, by omega⟩)))
      refine ⟨?_, ?_⟩ <;> (unfold binOp; simp only [AV.toV, Sc.toV]; rw [val_bind]; simp only [h3, g3, Option.bind_some, Go.binOp]; rw [val_bind, this]; rfl)
  · rename_i a hx hy
    split at h
    case isFalse => cases h
    rename_i hk
    simp only [Option.some.injEq] at h; subst h
    have htv : y.toV = none := by
      have := hk.2
      unfold AV.refKind at this
      split at this <;> first | rfl | cases this
    have hone : oneNil P t x y = true := by
      unfold oneNil; rw [ht]; simp [hx, hk.1, hk.2]
    refine ⟨?_, ?_⟩ <;> (unfold binOp; rw [htv]; cases x.toV <;> simp only [hone, if_true] <;> rfl)
  · rename_i c hx hy
    split at h
    case isFalse => cases h
    rename_i hk
    simp only [Option.some.injEq] at h; subst h
    have htv : x.toV = none := by
      have := hk.2
      unfold AV.refKind at this
      split at this <;> first | rfl | cases this
    have hone : oneNil P t x y = true := by
      unfold oneNil; rw [ht]; simp [hy, hk.1, hk.2]
    refine ⟨?_, ?_⟩ <;> (unfold binOp; rw [htv]; simp only [hone, if_true] <;> rfl)
  · cases h

theorem binL_ok {op : BinOp} {t : TypeId} {k : BK} {xo yo : Operand} {x y v : AV} (hk : bkOf P t = some k) (h : binL op k x y = some v) : binOp P op t xo yo x y = some v := by
  unfold binL at h
  unfold bkOf at hk
  split at h
  · -- scalars
    split at h
    case h_2 => cases h
    rename_i a b
    obtain ⟨c, hc, rfl⟩ := map_some h
    obtain ⟨h1, h2, h3⟩ := scBin_val (P := P) (t := t) hc
    unfold binOp
    show (val P (do eqGuard op t xo yo a.toV b.toV; Go.binOp op t a.toV b.toV)).bind AV.ofPlain = _
    rw [val_bind, val_guard_sc h2 h3]
    simp only [Option.bind_some]
    rw [h1]
    exact ofPlain_toV (scBin_kind hc)
  · -- bools
    have hu : P.underlying t = some .bool := by
      cases hu : P.underlying t with
      | none => rw [hu] at hk; cases hk
      | some u =>
        rw [hu] at hk
        cases u <;> first
          | rfl
          | (simp at hk; done)
          | (dsimp only at hk
             split at hk
             · cases hk
             · obtain ⟨_, _, hq⟩ := map_some hk; cases hq)
    split at h
    case h_2 => cases h
    rename_i a b
    obtain ⟨c, hc, rfl⟩ := map_some h
    have heq : ∀ p q : Bool, val P (Op.equal t (.bool p) (.bool q)) = some (decide (p = q)) := by
      intro p q
      unfold Op.equal Op.maxDepth
      unfold Op.equalIn
      rw [val_bind, val_underlying hu]
      cases p <;> cases q <;> rfl
    unfold blBin at hc
    split at hc
    · rename_i p q
      simp only [Option.some.injEq] at hc; subst hc
      unfold binOp
      simp only [AV.toV, Sc.toV]
      rw [val_bind, val_guard_sc (fun _ => by simp) (by simp)]
      simp only [Option.bind_some, Go.binOp]
      rw [val_bind, heq]
      rfl
    · rename_i p q
      simp only [Option.some.injEq] at hc; subst hc
      unfold binOp
      simp only [AV.toV, Sc.toV]
      rw [val_bind, val_guard_sc (fun _ => by simp) (by simp)]
      simp only [Option.bind_some, Go.binOp]
      rw [val_bind, heq]
      rfl
    · cases hc
  · -- parts
    rename_i ls
    have hl : leavesIn P 10 t = some ls ∧ AM.isAgg P t = true ∧ P.eqGuardType P.depth t = false := by
      unfold AM.isAgg
      split at hk <;> first | (simp at hk; done) | skip
      · rename_i hu
        split at hk
        · cases hk
        · rename_i hg
          obtain ⟨l, hl, hq⟩ := map_some hk
          simp only [BK.leaf.injEq] at hq; subst hq
          rw [hu]
          exact ⟨hl, rfl, by simpa using hg⟩
      · rename_i hu
        split at hk
        · cases hk
        · rename_i hg
          obtain ⟨l, hl, hq⟩ := map_some hk
          simp only [BK.leaf.injEq] at hq; subst hq
          rw [hu]
          exact ⟨hl, rfl, by simpa using hg⟩
    split at h
    case h_2 => cases h
    rename_i cs ds
    split at h
    case isFalse => cases h
    rename_i hf
    obtain ⟨x, y, h1, h2, h3⟩ := leaf_equal hl.1 hl.2.1 hf.1 hf.2
    unfold binOp
    rw [h1, h2]
    dsimp only
    have hg : ∀ op, val P (eqGuard op t xo yo (.agg x) (.agg y)) = some () := by
      intro op
      have hq : ∀ {α : Type} (s : Sem α), val P (do
          let p ← program
          let q ← program
          if (!p.eqGuardType q.depth t) = true then pure () else (do let _ ← s; pure ()) : Sem Unit) = some () := by
        intro α s
        rw [val_bind, val_program]
        simp only [Option.bind_some]
        rw [val_bind, val_program]
        simp only [Option.bind_some, hl.2.2]
        rfl
      cases op <;> first
        | rfl
        | (unfold eqGuard
           show val P (do
              let p ← program
              let q ← program
              if (!p.eqGuardType q.depth t) = true then pure () else _ : Sem Unit) = some ()
           rw [val_bind, val_program]
           simp only [Option.bind_some]
           rw [val_bind, val_program]
           simp only [Option.bind_some, hl.2.2]
           rfl)
    split at h
    · simp only [Option.some.injEq] at h; subst h
      rw [val_bind, hg]
      simp only [Option.bind_some, Go.binOp]
      rw [val_bind, h3]
      rfl
    · simp only [Option.some.injEq] at h; subst h
      rw [val_bind, hg]
      simp only [Option.bind_some, Go.binOp]
      rw [val_bind, h3]
      rfl
    · cases h
  · -- references
    rename_i n
    have ht : typeKind P t = some n := by
      unfold typeKind
      cases hu : P.underlying t with
      | none => rw [hu] at hk; cases hk
      | some u =>
        rw [hu] at hk
        cases u <;> first
          | (simp only [Option.some.injEq, BK.ref.injEq] at hk; subst hk; rfl)
          | (simp at hk; done)
          | (dsimp only at hk
             split at hk
             · cases hk
             · obtain ⟨_, _, hq⟩ := map_some hk; cases hq)
    split at h
    · obtain ⟨b, hb, rfl⟩ := map_some h
      exact (refEq_ok ht hb).1
    · obtain ⟨b, hb, rfl⟩ := map_some h
      exact (refEq_ok ht hb).2
    · cases h

theorem unL_ok {op : UnOp} {x v : AV} (h : unL op x = some v) : unOp P op x = some v := by
  unfold unL at h
  split at h
  · simp only [Option.some.injEq] at h; subst h; rfl
  · simp only [Option.some.injEq] at h; subst h; rfl
  · simp only [Option.some.injEq] at h; subst h; rfl
  · cases h

theorem sliceL_eq {t : TypeId} {k : SK} {x : AV} {lo hi mx : Option AV} (hk : skOf P t = some k) : sliceL k x lo hi mx = sliceOf P t x lo hi mx := by
  unfold skOf at hk
  split at hk
  · rename_i hu; simp at hk; subst hk; unfold sliceL sliceOf; rw [hu]; cases x <;> first | rfl | (rename_i s; cases s <;> rfl)
  · rename_i e hu; simp at hk; subst hk; unfold sliceL sliceOf; rw [hu]; cases x <;> first | rfl | (rename_i s; cases s <;> rfl)
  · rename_i n e hu; simp at hk; subst hk; unfold sliceL sliceOf; rw [hu]; cases x <;> first | rfl | (rename_i s; cases s <;> rfl)
  · cases hk

theorem ixaL_eq {t : TypeId} {k : IK} {x i : AV} (hk : ikOf P t = some k) : indexAddrL k x i = indexAddr P t x i := by
  unfold ikOf at hk
  split at hk
  · rename_i n e hu; simp at hk; subst hk; unfold indexAddrL indexAddr
    cases i <;> first | rfl | skip
    rename_i s; cases s <;> first | rfl | skip
    rw [hu]
  · rename_i e hu; simp at hk; subst hk; unfold indexAddrL indexAddr
    cases i <;> first | rfl | skip
    rename_i s; cases s <;> first | rfl | skip
    rw [hu]; cases x <;> rfl
  · cases hk

theorem lenL_eq {t : TypeId} {k : NK} {x : AV} (hk : nkOf P t = some k) : lenL k x σ = lenOf P t x σ := by
  unfold nkOf at hk
  split at hk
  · rename_i hu; simp at hk; subst hk; unfold lenL lenOf; rw [hu]; cases x <;> first | rfl | (rename_i s; cases s <;> rfl)
  · rename_i hu; simp at hk; subst hk; unfold lenL lenOf; rw [hu]; cases x <;> first | rfl | (rename_i s; cases s <;> rfl)
  · rename_i hu; simp at hk; subst hk; unfold lenL lenOf; rw [hu]; cases x <;> first | rfl | (rename_i s; cases s <;> rfl)
  · rename_i hu; simp at hk; subst hk; unfold lenL lenOf; rw [hu]; cases x <;> first | rfl | (rename_i s; cases s <;> rfl)
  · cases hk

theorem srcL_ok {t : TypeId} {b : Bool} {x : AV} (h : srcKind P t = some b) (hx : srcL b x = true) : srcOK P (some t) x = true := by
  unfold srcKind at h
  unfold srcOK
  dsimp only
  split at h
  · rename_i hu; simp at h; subst h; rw [hu]; exact hx
  · rename_i hu; simp at h; subst h; rw [hu]; exact hx
  · cases h

theorem appendL_ok {t tx : TypeId} {E : ET} {b : Bool} {s x v : AV} (he : sliceET P t = some E) (hb : srcKind P tx = some b) (h : appendL E b s x σ = some (v, σ')) : append P t (some tx) s x σ = some (v, σ') := by
  obtain ⟨e, hu, het⟩ := sliceET_some he
  obtain ⟨h1, h2, h3, h4, h5⟩ := etOf_some het
  unfold appendL at h
  split at h
  case isFalse => cases h
  rename_i hs
  obtain ⟨items, hi, h⟩ := Option.bind_eq_some_iff.1 h
  split at h
  case isFalse => cases h
  rename_i hlow
  unfold append
  rw [hu]
  dsimp only
  rw [srcL_ok hb hs, h1]
  simp only [Bool.and_self, Bool.not_true, Bool.false_eq_true, if_false]
  rw [← elemsL_eq h3 h2, hi]
  dsimp only
  rw [hlow]
  simp only [Bool.not_true, Bool.false_eq_true, if_false, h2, h4]
  unfold appItems at h
  cases s with
  | s x =>
    cases x with
    | nilS => exact h
    | _ => cases h
  | list fl sz es =>
    dsimp only at h ⊢
    by_cases hsz : sz ≠ E.c
    · rw [if_pos hsz] at h; cases h
    · rw [if_neg hsz] at h ⊢
      by_cases hem : items.isEmpty = true
      · rw [if_pos hem] at h ⊢; exact h
      · rw [if_neg hem] at h ⊢
        cases fl <;> exact h
  | row r off len cap =>
    dsimp only at h ⊢
    split at h
    · rename_i hc
      rw [if_pos ⟨hc.1, by have := hc.2; intro e; rw [e] at this; cases this⟩]
      exact h
    · cases h
  | _ => cases h

theorem copyL_ok {t tx : TypeId} {E : ET} {b : Bool} {d x v : AV} (he : sliceET P t = some E) (hb : srcKind P tx = some b) (h : copyL E b d x σ = some (v, σ')) : copyTo P t (some tx) d x σ = some (v, σ') := by
  obtain ⟨e, hu, het⟩ := sliceET_some he
  obtain ⟨h1, h2, h3, h4, h5⟩ := etOf_some het
  unfold copyL at h
  split at h
  case isFalse => cases h
  rename_i hs
  unfold copyTo
  rw [hu]
  dsimp only
  rw [srcL_ok hb hs, h1]
  simp only [Bool.and_self, Bool.not_true, Bool.false_eq_true, if_false]
  rw [← elemsL_eq h3 h2]
  split at h
  · rename_i r off len cap items hi
    rw [hi]; exact h
  · cases h

theorem clearL_ok {t : TypeId} {E : ET} {v : AV} (he : sliceET P t = some E) (h : clearL E v σ = some σ') : clearA P t v σ = some σ' := by
  obtain ⟨e, hu, het⟩ := sliceET_some he
  obtain ⟨h1, h2, h3, h4, h5⟩ := etOf_some het
  unfold clearL at h
  unfold clearA
  rw [hu]
  split at h
  · dsimp only
    rw [h5]
    simp only [Option.bind_some, h1, if_true]; exact h
  · exact h
  · exact h
  · cases h

theorem mkslL_ok {t : TypeId} {E : ET} {as hp : Bool} {l c v : AV} (he : sliceET P t = some E) (h : mkslL as hp E l c σ = some (v, σ')) : makeSlice P as hp t l c σ = some (v, σ') := by
  obtain ⟨e, hu, het⟩ := sliceET_some he
  obtain ⟨h1, h2, h3, h4, h5⟩ := etOf_some het
  unfold mkslL at h
  unfold makeSlice
  rw [hu]
  split at h
  · dsimp only
    split at h
    · rename_i hc
      rw [if_pos ⟨hc.1, hc.2.1, hc.2.2.1, by rw [h4]; exact hc.2.2.2, h1⟩, h5]
      dsimp only
      rw [h2]
      cases as with
      | true => exact h
      | false => exact h
    · cases h
  · cases h
end
end Go.AM
/-! Ranges over maps: what the model does at each operation. -/
namespace Go.AM
open Go
set_option linter.unusedVariables false
set_option linter.unusedSimpArgs false

section
variable {P : Program} {g g' g0 g1 g2 : G} {w w' w0 w1 : World} {ow ow' ow0 ow1 : Own} {σ σ' : St} {fr fr' : Fr} {tm : Array Value} {a : Act} {dst : Option Tmp}

theorem noCells_iter (m : Option Nat) (s : Nat) (seen : Array Nat) (c : Nat) : NoCells (.mapIter m s seen c) := fun _ _ _ h => by cases h

theorem putObj_eq (w : World) (b : Nat) (o : Obj) : { w with heap := w.heap.setIfInBounds b o } = w.putObj b o := rfl

theorem Out.ofWay {v : AV} {val : Value} (r : Rel g' w' ow1 fr' tm σ') (W : Way g w ow g' w' ow1) (hv : V g' w' v val) : ∃ ow', Out g w ow dst v fr' σ' tm g' w' ow' val :=
  Out.of r (PV.of (o := Nobody) hv) (Free.nobody _ _) W.tr (fun p b o h => W.may b o (.inr ⟨p, h⟩)) (fun _ _ h => h.elim) (fun b o h1 h2 => W.may b o (.inl ⟨h1, h2⟩)) W.keep W.hbn

/-- An iterator is new. -/
theorem Rel.newIter (r : Rel g w ow fr tm σ) {i : IterA} {m : Option Nat} (hm0 : i.map = none → m = none) (hm1 : ∀ h, i.map = some h → ∃ mb, m = some mb ∧ g.hb[h]? = some mb) :
    ∃ g', Rel g' (w.alloc (.mapIter m i.since i.seen.toArray i.stepped)) ow fr tm { σ with heap := σ.heap ++ [.iter i] } ∧ Way g w ow g' (w.alloc (.mapIter m i.since i.seen.toArray i.stepped)) ow ∧ g'.hb[σ.heap.length]? = some w.heap.size := by
  generalize hq : Obj.mapIter m i.since i.seen.toArray i.stepped = q
  have hnew : (w.alloc q).heap[w.heap.size]? = some q := by
    show (w.heap.push _)[w.heap.size]? = _
    simp
  have t : Tr Nought g w ⟨g.sb, g.hb ++ [w.heap.size], fun b o => g.wr b o ∨ b = w.heap.size ∧ o = 0⟩ (w.alloc q) := Tr.new (ob := q) rfl (X := fun o => o = 0) (fun _ _ h => h) (fun n b hn => by rw [List.getElem?_append_left (List.getElem?_eq_some_iff.1 hn).1]; exact hn)
  have hlt : ∀ {b : Nat}, g.isBox b → b ≠ w.heap.size := fun hb e => by have := G.isBox_lt r.ss hb; omega
  have hib : ∀ b, (⟨g.sb, g.hb ++ [w.heap.size], fun b o => g.wr b o ∨ b = w.heap.size ∧ o = 0⟩ : G).isBox b → g.isBox b ∨ b = w.heap.size := fun b hb => by
    rcases hb with hb | hb
    · exact .inl (.inl hb)
    · rcases List.mem_append.1 hb with hb | hb
      · exact .inl (.inr hb)
      · exact .inr (by simpa using hb)
  have hown : ∀ p b o, ow p b o → b < w.heap.size := fun p b o h => r.ss.lt _ _ (r.own.wr _ _ _ h)
  have at_new : ∀ {n : Nat} {x : HObj}, (σ.heap ++ [HObj.iter i])[n]? = some x → σ.heap[n]? = some x ∧ n < σ.heap.length ∨ n = σ.heap.length ∧ x = .iter i := by
    intro n x hn
    by_cases e : n < σ.heap.length
    · rw [List.getElem?_append_left e] at hn; exact .inl ⟨hn, e⟩
    · have e' : n = σ.heap.length := by
        have := (List.getElem?_eq_some_iff.1 hn).1
        simp at this; omega
      subst e'
      rw [List.getElem?_append_right (Nat.le_refl _)] at hn
      simp at hn
      exact .inr ⟨rfl, hn.symm⟩
  have s' : SS ⟨g.sb, g.hb ++ [w.heap.size], fun b o => g.wr b o ∨ b = w.heap.size ∧ o = 0⟩ (w.alloc q) ow { σ with heap := σ.heap ++ [.iter i] } := {
    slen := r.ss.slen
    hlen := by simp [r.ss.hlen]
    nodup := by
      show (g.sb ++ (g.hb ++ [w.heap.size])).Nodup
      rw [← List.append_assoc]
      refine List.nodup_append.2 ⟨r.ss.nodup, by simp, fun a ha b hb => ?_⟩
      rw [List.mem_singleton.1 hb]
      exact hlt ((List.mem_append.1 ha).imp id id)
    lt := fun b o h => by
      rcases h with h | h
      · exact t.lt (r.ss.lt _ _ h)
      · rw [h.1]; show w.heap.size < (w.heap.push _).size; simp
    stk := fun n c hn => by
      obtain ⟨h0, b, xs, E, fz, k1, k2⟩ := r.ss.stk n c hn
      exact ⟨h0, b, xs, E, fz, k1, k2.still t (fun i b x h => h) fun o h => .inl h⟩
    heap := fun n c hn => by
      rcases at_new hn with ⟨hn, _⟩ | ⟨_, e⟩
      · obtain ⟨h0, b, xs, E, fz, k1, k2⟩ := r.ss.heap n c hn
        exact ⟨h0, b, xs, E, fz, t.hb _ _ k1, k2.still t (fun i b x h => h) fun o h => .inl h⟩
      · cases e
    maps := fun n es c hn => by
      rcases at_new hn with ⟨hn, _⟩ | ⟨_, e⟩
      · obtain ⟨b, xs, k1, k2⟩ := r.ss.maps n es c hn
        exact ⟨b, xs, t.hb _ _ k1, k2.still t fun o h => .inl h⟩
      · cases e
    loops := fun n l' hn => by
      rcases at_new hn with ⟨hn, _⟩ | ⟨_, e⟩
      · obtain ⟨b, k, k1, k2⟩ := r.ss.loops n l' hn
        exact ⟨b, k, t.hb _ _ k1, k2.still t fun o h => .inl h⟩
      · cases e
    iters := fun n l' hn => by
      rcases at_new hn with ⟨hn, _⟩ | ⟨rfl, e⟩
      · obtain ⟨b, k, k1, k2⟩ := r.ss.iters n l' hn
        exact ⟨b, k, t.hb _ _ k1, k2.still t fun o h => .inl h⟩
      · injection e with e; subst e
        exact ⟨w.heap.size, m, by simp [← r.ss.hlen], { obj := by rw [hnew, hq], nil := hm0, map := fun h hh => let ⟨mb, k1, k2⟩ := hm1 h hh; ⟨mb, k1, t.hb _ _ k2⟩, wr := .inr ⟨rfl, rfl⟩ }⟩
    dead := fun n hn => by
      rcases at_new hn with ⟨hn, _⟩ | ⟨_, e⟩
      · obtain ⟨b, k1, k2⟩ := r.ss.dead n hn
        exact ⟨b, t.hb _ _ k1, t.lt k2⟩
      · cases e }
  have o' : OW ⟨g.sb, g.hb ++ [w.heap.size], fun b o => g.wr b o ∨ b = w.heap.size ∧ o = 0⟩ ow := ⟨fun p b o h => .inl (r.own.wr _ _ _ h), fun p b o h hb => (hib b hb).elim (r.own.box _ _ _ h) fun e => by have := hown _ _ _ h; omega, r.own.one⟩
  refine ⟨_, ⟨s', o', r.sf.later t (fun _ _ h => h.elim) (fun _ _ _ _ h => h) fun _ _ _ h => h⟩, ⟨t.weaken fun _ _ h => h.elim, fun b o hm => ?_, fun _ _ h => .inr (.inl h), fun b hb => (List.mem_append.1 hb).imp id fun h => Nat.le_of_eq ((List.mem_singleton.1 h).symm)⟩, by simp [← r.ss.hlen]⟩
  rcases hm with ⟨hb, hw⟩ | hm
  · rcases hib b hb with hb | hb
    · rcases hw with hw | hw
      · exact .inl (.inl ⟨hb, hw⟩)
      · exact .inr (Nat.le_of_eq hw.1.symm)
    · exact .inr (Nat.le_of_eq hb.symm)
  · exact .inl (.inr hm)

/-- An iterator goes on. -/
theorem Rel.setIter (r : Rel g w ow fr tm σ) {n b : Nat} {i i' : IterA} {m : Option Nat} (hn : σ.heap[n]? = some (.iter i)) (hb : g.hb[n]? = some b) (hi : IterOK g w b i m) (hm : i'.map = i.map) :
    Rel g (w.putObj b (.mapIter m i'.since i'.seen.toArray i'.stepped)) ow fr tm (AM.setHeap σ n (.iter i')) ∧ Way g w ow g (w.putObj b (.mapIter m i'.since i'.seen.toArray i'.stepped)) ow := by
  refine r.setObj (ho := .iter i') (List.getElem?_eq_some_iff.1 hn).1 hb hi.obj (noCells_iter _ _ _ _) (noCells_iter _ _ _ _) hi.wr (fun _ h => by cases h) (fun _ _ h => by cases h) (fun _ h => by cases h) fun i'' e => ⟨m, ?_⟩
  injection e with e; subst e
  have hbl := (Array.getElem?_eq_some_iff.1 hi.obj).1
  exact { obj := World.putObj_heap_same hbl, nil := fun h => hi.nil (hm ▸ h), map := fun h hh => hi.map h (hm ▸ hh), wr := hi.wr }

theorem run_next_any (w : World) (ty : TypeId) (r bm since c0 : Nat) (seen : Array Nat) (es : Array MapEntry) (clock : Nat)
    (hr : w.heap[r]? = some (.mapIter (some bm) since seen c0)) (hb : w.heap[bm]? = some (.map es clock)) (ht : (!seen.isEmpty && !es.isEmpty && es.all (fun x => decide (x.born ≥ c0))) = false) :
    ∃ w1 : World, (w1 = w ∨ w1 = { w with drawn := w.drawn + 1 }) ∧
    (((∀ e ∈ es.toList, seen.contains e.born = true ∨ since ≤ e.born) ∧ (Instr.next (.pointer (some ⟨r, 0, none⟩)) false ty).run P w = .ok (.tuple #[.bool false]) w1) ∨
    ∃ e ∈ es.toList, seen.contains e.born = false ∧ (Instr.next (.pointer (some ⟨r, 0, none⟩)) false ty).run P w = .ok (.tuple #[.bool true, e.key, e.val]) (w1.putObj r (.mapIter (some bm) since (seen.push e.born) clock))) := by
  simp only [Instr.next, getObj, Sem.run_bind, Sem.run, hr, hb, Result.andThen, ht, Bool.false_eq_true, if_false]
  generalize hL : Array.filter (fun e => !seen.contains e.born) es = L
  have hmem : ∀ x, x ∈ L ↔ x ∈ es.toList ∧ seen.contains x.born = false := fun x => by rw [← hL]; simp
  generalize hc : ((if (Array.filter (fun x => decide (x.born < since)) L).isEmpty = true then #[none] else #[]) ++ Array.map some (Array.filter (fun x => decide (x.born < since)) L ++ Array.filter (fun x => decide (x.born ≥ since)) L) : Array (Option MapEntry)) = cands
  have hne : 0 < cands.size := by
    rw [← hc]
    by_cases h0 : (Array.filter (fun x => decide (x.born < since)) L).isEmpty = true
    · rw [if_pos h0]; simp; omega
    · rw [if_neg h0]
      have : (Array.filter (fun x => decide (x.born < since)) L).size ≠ 0 := fun h => h0 (by simp [Array.isEmpty, h])
      simp only [Array.size_append, Array.size_map]; omega
  have hnone : none ∈ cands → ∀ e ∈ es.toList, seen.contains e.born = true ∨ since ≤ e.born := by
    intro hm e he
    rw [← hc] at hm
    by_cases h0 : (Array.filter (fun x => decide (x.born < since)) L).isEmpty = true
    · by_cases hs : seen.contains e.born = true
      · exact .inl hs
      · right
        have heL : e ∈ L := (hmem e).2 ⟨he, by simpa using hs⟩
        have h1 : Array.filter (fun x => decide (x.born < since)) L = #[] := by simpa [Array.isEmpty] using h0
        rw [Array.filter_eq_empty_iff] at h1
        have := h1 e heL
        simpa using this
    · rw [if_neg h0] at hm; simp at hm
  have hsome : ∀ e, some e ∈ cands → e ∈ L := by
    intro e hm
    rw [← hc] at hm
    simp only [Array.mem_append, Array.mem_map, Array.mem_filter, Option.some.injEq] at hm
    rcases hm with hm | ⟨x, hx, rfl⟩
    · split at hm <;> simp at hm
    · rcases hx with hx | hx <;> exact hx.1
  have hch : ∃ (j : Nat) (w1 : World), j < cands.size ∧ (w1 = w ∨ w1 = { w with drawn := w.drawn + 1 }) ∧ (choose (Question.mapNext cands.size)).run P w = .ok j w1 := by
    by_cases hf : cands.size ≤ 1
    · exact ⟨0, w, by omega, Or.inl rfl, by simp [choose, Sem.run, Question.forced, hf]⟩
    · exact ⟨_, { w with drawn := w.drawn + 1 }, Nat.mod_lt _ (by omega), Or.inr rfl, by
        simp only [choose, Sem.run, Question.forced, decide_eq_true_eq, hf, if_false, Question.cut]
        rfl⟩
  obtain ⟨j, w1, hj, hal, hrun⟩ := hch
  refine ⟨w1, hal, ?_⟩
  have hr1 : w1.heap[r]? = some (.mapIter (some bm) since seen c0) := by rcases hal with rfl | rfl <;> exact hr
  simp only [hrun, Array.getElem?_eq_getElem hj]
  cases hx : cands[j] with
  | none =>
    left
    exact ⟨hnone (hx ▸ Array.getElem_mem hj), rfl⟩
  | some e =>
    right
    have heL := (hmem e).1 (hsome e (hx ▸ Array.getElem_mem hj))
    refine ⟨e, heL.1, heL.2, ?_⟩
    simp [setObj, Sem.run, hr1, World.putObj]

/-- The entries, one by one. -/
theorem EntriesOK.find {p : Nat → Bool} : ∀ {es : List Entry} {xs : List MapEntry} {e : Entry}, EntriesOK g w es xs → es.find? (fun e => p e.born) = some e → ∃ x, xs.find? (fun x => p x.born) = some x ∧ EntryOK g w e x
  | [], xs, e, _, h => by simp at h
  | y :: es, [], e, h, _ => by have := h.1; simp at this
  | y :: es, x :: xs, e, h, hf => by
    obtain ⟨h1, h2⟩ := h.tail
    simp only [List.find?_cons] at hf ⊢
    rw [h1.born]
    cases hp : p y.born with
    | true => rw [hp] at hf; simp only [Option.some.injEq] at hf; subst hf; exact ⟨x, rfl, h1⟩
    | false => rw [hp] at hf; exact EntriesOK.find h2 hf

theorem EntriesOK.mem {es : List Entry} {xs : List MapEntry} (h : EntriesOK g w es xs) {x : MapEntry} (hx : x ∈ xs) : ∃ e ∈ es, EntryOK g w e x := by
  obtain ⟨i, hi⟩ := List.getElem?_of_mem hx
  have hl : i < es.length := by rw [← h.1]; exact (List.getElem?_eq_some_iff.1 hi).1
  obtain ⟨x', h1, h2⟩ := h.2 i _ (List.getElem?_eq_getElem hl)
  rw [hi] at h1; injection h1 with h1; subst h1
  exact ⟨_, List.getElem_mem hl, h2⟩

theorem EntriesOK.mem' {es : List Entry} {xs : List MapEntry} (h : EntriesOK g w es xs) {e : Entry} (he : e ∈ es) : ∃ x ∈ xs, EntryOK g w e x := by
  obtain ⟨i, hi⟩ := List.getElem?_of_mem he
  obtain ⟨x, h1, h2⟩ := h.2 i _ hi
  exact ⟨x, List.mem_of_getElem? h1, h2⟩

theorem iterOf_some {x : AV} {n : Nat} {i : IterA} (h : iterOf σ x = some (n, i)) : x = .ptr (.heap n) 0 ∧ σ.heap[n]? = some (.iter i) := by
  unfold iterOf at h
  split at h
  · split at h
    · simp only [Option.some.injEq, Prod.mk.injEq] at h
      obtain ⟨rfl, rfl⟩ := h
      exact ⟨rfl, by assumption⟩
    · cases h
  · cases h

theorem iter_at (r : Rel g w ow fr tm σ) {n : Nat} {i : IterA} {v : Value} (hv : V g w (.ptr (.heap n) 0) v) (h : σ.heap[n]? = some (.iter i)) : ∃ b m, v = .pointer (some ⟨b, 0, none⟩) ∧ g.hb[n]? = some b ∧ IterOK g w b i m := by
  obtain ⟨b, m, h1, h2⟩ := r.ss.iters n i h
  cases hv with
  | @ptr _ _ b' _ _ h3 _ =>
    have : b' = b := Option.some.inj ((show g.hb[n]? = some b' from h3).symm.trans h1)
    subst this
    exact ⟨b', m, rfl, h1, h2⟩
end
end Go.AM
/-! What the predicate transformer says of a call, the model does: operations, regions. -/
namespace Go.AM
open Go
set_option linter.unusedVariables false
set_option linter.unusedSimpArgs false

def ModelW (P : Program) : CallW := fun t args σ K => ∀ (g : G) (w : World) (ow : Own) (xs : Array Value), Rel g w ow args xs σ → ∀ s, t.sem g xs = some s →
    Runs P s w fun rv w' => ∃ v σ', K v σ' ∧ ∃ g' ow', Ret g w ow v σ' rv g' w' ow'

theorem Runs.mono {P : Program} {s : Sem Next} {w : World} {R R' : Value → World → Prop} (h : Runs P s w R) (hR : ∀ v w', R v w' → R' v w') : Runs P s w R' := by
  rcases h with ⟨f, args, e1, e2⟩ | ⟨v, w', e1, e2⟩ | ⟨l, fn, tmps, as, bd, e1, e2⟩
  · refine .inl ⟨f, args, e1, Calls.mono e2 fun e w' he => ?_⟩
    cases e with
    | returned v => exact hR _ _ he
    | _ => exact he.elim
  · exact .inr (.inl ⟨v, w', e1, hR _ _ e2⟩)
  · refine .inr (.inr ⟨l, fn, tmps, as, bd, e1, RoundIn.mono e2 fun e w' he => ?_⟩)
    cases e with
    | returned v => exact hR _ _ he
    | _ => exact he.elim

theorem ModelW.le (P : Program) : LeC (ModelW P) (ModelW P) := fun t args σ K K' hK h g w ow xs r s hs =>
  Runs.mono (h g w ow xs r s hs) fun rv w' ⟨v, σ', k, x⟩ => ⟨v, σ', hK _ _ k, x⟩

theorem noC_sound (P : Program) : Sound P noC := fun t args σ v σ' h => by simp [noC] at h

section
variable {P : Program} {cfg : Cfg} {tr : Trees} {f : FuncId} {g g' g0 g1 g2 : G} {w w' w0 w1 : World} {ow ow' ow0 ow1 : Own} {σ σ' : St} {fr fr' : Fr} {tm : Array Value} {a : Act} {dst : Option Tmp} {next : Act → World → Prop} {Q : Exit → Act → World → Prop} {ops : Array Oper}

theorem callW_wp {rd : Option Nat} (r : Rel g w ow fr a.tmps σ) {c : Call} {ty : TypeId} {pos : String} {after : Array Edge} {guard : Option (Nat × Bool)} {gf : Operand} {h : FuncId} {first captured : List AV} {K : AV → St → Prop}
    (hcal : c.callee = .value gf) (hg : AM.seen fr gf = .fn (.func h) first captured) (he : ModelW P (.fn h) (first ++ (takenAll fr c.args.toList).1 ++ captured) σ K)
    (hn : ∀ v σ', K v σ' → ∀ g' w' ow' val, Out g w ow dst v (takenAll fr c.args.toList).2 σ' a.tmps g' w' ow' val → next (a.put dst val) w') :
    Oper.wpIn (FW rd) 0 P { dst, op := .call c, type := ty, pos, after, guard } a w next Q := by
  have hV := r.sf.seen gf
  rw [hg] at hV
  generalize hgv : a.eval gf = gv at hV
  cases hV with
  | @fn _ _ _ xs ys _ _ h1 h2 _ =>
    obtain ⟨ow1, O, r1, hl, hv, f, hd, k1, k2⟩ := takenAll_rel c.args.toList r
    have rc := callee_rel (vs := (takenAll fr c.args.toList).1) (vv := c.args.toList.map a.eval) r1 h1 h2 (by rw [List.length_map, hl]) (fun i x hi => by
      obtain ⟨y, k3, k4⟩ := hv i x hi
      exact ⟨a.eval y, by rw [List.getElem?_map, k3]; rfl, k4⟩) f hd
    have hrun := he g w _ _ rc _ rfl
    refine runs_wp ?_ hrun fun rv w' hR => ?_
    · obtain ⟨cal, args, ats⟩ := c
      dsimp only at hcal; subst hcal
      have e : (xs.toList ++ args.toList.map a.eval ++ ys.toList).toArray = xs ++ args.map a.eval ++ ys := by
        apply Array.ext'; simp
      rw [e]
      simp only [execOp, resolve]
      rw [hgv]; rfl
    · obtain ⟨v, σ', hK, g', ow', hret⟩ := hR
      obtain ⟨ow2, ho⟩ := ret_out (dst := dst) r1 f k1 k2 hret
      exact hn _ _ hK _ _ _ _ ho

theorem yieldW_wp {rd : Option Nat} (r : Rel g w ow fr a.tmps σ) {c : Call} {ty : TypeId} {pos : String} {after : Array Edge} {guard : Option (Nat × Bool)} {gf : Operand} {h : Nat} {K : AV → St → Prop}
    (hcal : c.callee = .value gf) (hg : AM.seen fr gf = .yield h) (he : ModelW P (.yield h) (takenAll fr c.args.toList).1 σ K)
    (hn : ∀ v σ', K v σ' → ∀ g' w' ow' val, Out g w ow dst v (takenAll fr c.args.toList).2 σ' a.tmps g' w' ow' val → next (a.put dst val) w') :
    Oper.wpIn (FW rd) 0 P { dst, op := .call c, type := ty, pos, after, guard } a w next Q := by
  have hV := r.sf.seen gf
  rw [hg] at hV
  generalize hgv : a.eval gf = gv at hV
  cases hV with
  | @yield _ b _ _ hb _ =>
    obtain ⟨ow1, O, r1, hl, hv, f, hd, k1, k2⟩ := takenAll_rel c.args.toList r
    have rc := callee_rel (first := []) (caps := []) (fv := []) (cv := []) (vs := (takenAll fr c.args.toList).1) (vv := c.args.toList.map a.eval) r1 .nil .nil (by rw [List.length_map, hl]) (fun i x hi => by
      obtain ⟨y, k3, k4⟩ := hv i x hi
      exact ⟨a.eval y, by rw [List.getElem?_map, k3]; rfl, k4⟩) f hd
    rw [List.nil_append, List.append_nil] at rc
    have hrun := he g w _ _ rc _ (by simp only [Tgt.sem, hb]; rfl)
    refine runs_wp ?_ hrun fun rv w' hR => ?_
    · obtain ⟨cal, args, ats⟩ := c
      dsimp only at hcal; subst hcal
      have e : ([] ++ args.toList.map a.eval ++ []).toArray = args.map a.eval := by
        apply Array.ext'; simp
      rw [e]
      simp only [execOp, resolve]
      rw [hgv]
      show invoke (.fn (.yield b) #[]) (#[] ++ args.map a.eval) = _
      rw [Array.empty_append]
      rfl
    · obtain ⟨v, σ', hK, g', ow', hret⟩ := hR
      obtain ⟨ow2, ho⟩ := ret_out (dst := dst) r1 f k1 k2 hret
      exact hn _ _ hK _ _ _ _ ho

theorem callOf_some {op : Op} {c : Call} {gf : Operand} (h : callOf op = some (c, gf)) : op = .call c ∧ c.callee = .value gf := by
  unfold callOf at h
  split at h
  · split at h
    · rename_i hc
      simp only [Option.some.injEq, Prod.mk.injEq] at h
      obtain ⟨rfl, rfl⟩ := h
      exact ⟨rfl, hc⟩
    · cases h
  · cases h

theorem opW_wp {rd : Option Nat} {o : Oper} {K : AV → Fr → St → Prop} (r : Rel g w ow fr a.tmps σ) (h : opW (ModelW P) P cfg f o fr σ K)
    (hn : ∀ v fr' σ', K v fr' σ' → ∀ g' w' ow' val, Out g w ow o.dst v fr' σ' a.tmps g' w' ow' val → next (a.put o.dst val) w') : o.wpIn (FW rd) 0 P a w next Q := by
  obtain ⟨dst, op, ty, pos, after, guard⟩ := o
  have S := r.sf.seen
  unfold opW at h
  dsimp only at h hn
  split at h
  · -- range
    rename_i t x
    have hx := S x
    split at h
    · rename_i kT eT hd hu hs
      rw [hs] at hx
      split at h
      case h_2 => exact h.elim
      rename_i es c hm
      generalize hxv : a.eval x = xv at hx
      cases hx with
      | @map _ b _ _ hb _ =>
        obtain ⟨h1, b', xs, h2, h3⟩ := r.ss.map hm
        have : b' = b := Option.some.inj (h2.symm.trans hb)
        subst this
        obtain ⟨g1, r1, W1, h4⟩ := r.newIter (i := ⟨some hd, c, [], c⟩) (m := some b') (fun e => by cases e) (fun k hk => ⟨b', rfl, by injection hk with hk; subst hk; exact hb⟩)
        obtain ⟨ow2, ho⟩ := Out.ofWay (dst := dst) r1 W1 (.ptr (r := .heap σ.heap.length) (off := 0) h4 .nil)
        refine wp_value ?_ ⟨ow2, ho⟩ (hn _ _ _ h)
        show (do pure (Next.value (← Instr.range t (a.eval x))) : Sem Next).run P w = _
        rw [hxv]
        exact run_v (run_range_map w t kT eT b' xs c hu h3.obj)
    · rename_i kT eT hu hs
      rw [hs] at hx
      have hxv := hx.sc_inv
      obtain ⟨g1, r1, W1, h4⟩ := r.newIter (i := ⟨none, 0, [], 0⟩) (m := none) (fun _ => rfl) (fun k hk => by cases hk)
      obtain ⟨ow2, ho⟩ := Out.ofWay (dst := dst) r1 W1 (.ptr (r := .heap σ.heap.length) (off := 0) h4 .nil)
      refine wp_value ?_ ⟨ow2, ho⟩ (hn _ _ _ h)
      show (do pure (Next.value (← Instr.range t (a.eval x))) : Sem Next).run P w = _
      rw [hxv]
      exact run_v (run_range_nilMap w t kT eT hu)
    · exact h.elim
  · -- next
    rename_i x
    have hx := S x
    split at h
    case h_2 => exact h.elim
    rename_i n i hit
    obtain ⟨e1, hni⟩ := iterOf_some hit
    rw [e1] at hx
    obtain ⟨b, m, hxv, hb, hI⟩ := iter_at r hx hni
    split at h
    · rename_i hmap
      have hm := hI.nil hmap
      subst hm
      obtain ⟨ow2, ho⟩ := Out.pure (dst := dst) r (show V g w (.tup [.bool false]) (.tuple #[.bool false]) from .tup (.sc (.bool false) .nil) .nil)
      refine wp_value (w' := w) ?_ ⟨ow2, ho⟩ (hn _ _ _ h)
      show (do pure (Next.value (← Instr.next (a.eval x) false ty)) : Sem Next).run P w = _
      rw [hxv]
      refine run_v ?_
      simp only [Instr.next, getObj, Sem.run_bind, Sem.run, hI.obj, Result.andThen]
      rfl
    · rename_i hd hmap
      split at h
      case h_2 => exact h.elim
      rename_i es c hm
      obtain ⟨hok, hover, hstep⟩ := h
      obtain ⟨h1, bm, xs, h2, h3⟩ := r.ss.map hm
      obtain ⟨mb, k1, k2⟩ := hI.map hd hmap
      have : mb = bm := Option.some.inj (k2.symm.trans h2)
      subst this
      subst k1
      have hE := h3.entries
      have ht : (!i.seen.toArray.isEmpty && !xs.isEmpty && xs.all (fun x => decide (x.born ≥ i.stepped))) = false := by
        rcases hok with hs | hs | ⟨e, he, hlt⟩
        · rw [hs]; rfl
        · have : xs = #[] := by have := h3.size; rw [hs] at this; exact Array.eq_empty_of_size_eq_zero this
          subst this; simp
        · obtain ⟨x, hx1, hx2⟩ := hE.mem' he
          have : xs.all (fun x => decide (x.born ≥ i.stepped)) = false := by
            rw [Bool.eq_false_iff]
            intro hall
            rw [Array.all_eq_true_iff_forall_mem] at hall
            have := hall x (Array.mem_toList_iff.1 hx1)
            rw [hx2.born] at this
            simp at this; omega
          simp [this]
      obtain ⟨w1, hal, hres⟩ := run_next_any (P := P) w ty b mb i.since i.stepped i.seen.toArray xs c hI.obj h3.obj ht
      have hheap : w1.heap = w.heap := by rcases hal with rfl | rfl <;> rfl
      have henv : SameEnv w w1 := by rcases hal with rfl | rfl <;> exact ⟨rfl, rfl, rfl⟩
      have r1 : Rel g w1 ow fr a.tmps σ := r.heap hheap henv
      have W1 : Way g w ow g w1 ow := Way.heap hheap henv
      rcases hres with ⟨hall, hrun⟩ | ⟨x0, hx0, hs0, hrun⟩
      · obtain ⟨ow2, ho⟩ := Out.ofWay (dst := dst) r1 W1 (show V g w1 (.tup [.bool false]) (.tuple #[.bool false]) from .tup (.sc (.bool false) .nil) .nil)
        refine wp_value ?_ ⟨ow2, ho⟩ (hn _ _ _ (hover fun e he => ?_))
        · show (do pure (Next.value (← Instr.next (a.eval x) false ty)) : Sem Next).run P w = _
          rw [hxv]; exact run_v hrun
        · obtain ⟨y, hy1, hy2⟩ := hE.mem' he
          rcases hall y hy1 with hc | hc
          · left; rw [hy2.born] at hc; simpa using hc
          · right; rw [hy2.born] at hc; exact hc
      · obtain ⟨e, he, hEO⟩ := hE.mem hx0
        have hns : e.born ∉ i.seen := by rw [hEO.born] at hs0; simpa using hs0
        have hI1 : IterOK g w1 b i (some mb) := ⟨by rw [hheap]; exact hI.obj, hI.nil, hI.map, hI.wr⟩
        obtain ⟨r2, W2⟩ := r1.setIter (i' := { i with seen := i.seen ++ [e.born], stepped := c }) hni hb hI1 rfl
        have hobj : Obj.mapIter (some mb) i.since (i.seen.toArray.push x0.born) c = Obj.mapIter (some mb) i.since (i.seen ++ [e.born]).toArray c := by
          rw [hEO.born]; simp
        have hE1 : EntryOK g w1 e x0 := hEO.later ⟨fun _ _ h => h, fun _ _ h => h, fun b' o' v' hv' hw' => ⟨by unfold World.cell? at *; rw [hheap]; exact hv', hw'⟩⟩
        have t2 : Tr (fun b' i' => b' = b ∧ i' = 0) g w1 g (w1.putObj b (.mapIter (some mb) i.since (i.seen ++ [e.born]).toArray c)) := Tr.putObj hI1.obj (noCells_iter _ _ _ _) (noCells_iter _ _ _ _)
        have L2 := t2.later fun b' i' ⟨k3, k4⟩ => by rw [k3, k4]; exact hI.wr
        have hV : V g (w1.putObj b (.mapIter (some mb) i.since (i.seen ++ [e.born]).toArray c)) (.tup [.bool true, e.key, e.val]) (.tuple #[.bool true, x0.key, x0.val]) :=
          .tup (.sc (.bool true) (VL.cons_of (hE1.key.later L2) (VL.cons_of (hE1.val.later L2) .nil))) .nil
        obtain ⟨ow2, ho⟩ := Out.ofWay (dst := dst) r2 (W1.trans W2 r.ss.lt) hV
        refine wp_value ?_ ⟨ow2, ho⟩ (hn _ _ _ (hstep e he hns))
        show (do pure (Next.value (← Instr.next (a.eval x) false ty)) : Sem Next).run P w = _
        rw [hxv, ← hobj]; exact run_v hrun
  · -- entry
    rename_i x
    have hx := S x
    split at h
    case h_2 => exact h.elim
    rename_i n i hit
    obtain ⟨e1, hni⟩ := iterOf_some hit
    rw [e1] at hx
    obtain ⟨b, m, hxv, hb, hI⟩ := iter_at r hx hni
    split at h
    case h_2 => exact h.elim
    rename_i hd st hmap hlast
    split at h
    case h_2 => exact h.elim
    rename_i es c hm
    obtain ⟨hc, h⟩ := h
    split at h
    case h_2 => exact h.elim
    rename_i e hf
    obtain ⟨h1, bm, xs, h2, h3⟩ := r.ss.map hm
    obtain ⟨mb, k1, k2⟩ := hI.map hd hmap
    have : mb = bm := Option.some.inj (k2.symm.trans h2)
    subst this
    subst k1
    obtain ⟨y, hy1, hy2⟩ := EntriesOK.find (p := fun n => n == st) h3.entries hf
    obtain ⟨ow2, ho⟩ := Out.pure (dst := dst) r (show V g w (.tup [e.key, e.val]) (.tuple #[y.key, y.val]) from .tup (VL.cons_of hy2.key (VL.cons_of hy2.val .nil)) .nil)
    refine wp_value (w' := w) ?_ ⟨ow2, ho⟩ (hn _ _ _ h)
    show (do pure (Next.value (← Instr.entry (a.eval x))) : Sem Next).run P w = _
    rw [hxv]
    refine run_v ?_
    have hback : i.seen.toArray.back? = some st := by simpa using hlast
    have hfx : xs.find? (fun x => x.born == st) = some y := by rw [← Array.find?_toList]; exact hy1
    simp only [Instr.entry, getObj, Sem.run_bind, Sem.run, hI.obj, h3.obj, Result.andThen, hback, hc, bne_self_eq_false, Bool.false_eq_true, if_false, hfx]
    rfl
  · -- all others
    rename_i hno1 hno2 hno3
    split at h
    · rename_i c gf hcall
      obtain ⟨rfl, hcal⟩ := callOf_some hcall
      split at h
      · rename_i hg; exact callW_wp r hcal hg h fun v σ' k => hn _ _ _ k
      · rename_i hg; exact yieldW_wp r hcal hg h fun v σ' k => hn _ _ _ k
      · exact h.elim
    · split at h
      · rename_i v fr' σ' he
        exact evOp_wp (noC_sound P) r he (hn _ _ _ h)
      · exact h.elim

theorem stepW_wp {rd : Option Nat} {i : Nat} {K : Fr → St → Prop} {KK : Act → World → Prop} (h : stepW (ModelW P) P cfg f ops i fr σ K) (r : Rel g w ow fr a.tmps σ)
    (hK : ∀ fr' σ', K fr' σ' → ∀ a' w', Post g w ow a fr' σ' a' w' → KK a' w') : wpOpIn (FW rd) 0 P ops Q i KK a w := by
  unfold stepW at h
  unfold wpOpIn
  cases hi : ops[i]? with
  | none => rw [hi] at h; exact h.elim
  | some o =>
    rw [hi] at h
    dsimp only at h ⊢
    cases hg : guardA ops fr o with
    | none => rw [hg] at h; exact h.elim
    | some b =>
      rw [hg] at h
      rw [guardA_wanted r.sf hg]
      cases b with
      | true =>
        dsimp only at h
        simp only [if_true]
        obtain ⟨g1, ow1, r1, W1⟩ := settle_way (settled o.op) r
        refine opW_wp r1 h fun v fr' σ' k g' w' ow' val ho => hK _ _ k _ _ ?_
        refine ⟨⟨g', ow', ?_, W1.trans ho.way r.ss.lt, by rw [act_defers]; exact Marks.none _ _ _ _⟩⟩
        rw [act_put]; exact ho.rel
      | false =>
        dsimp only at h
        simp only [Bool.false_eq_true, if_false]
        obtain ⟨ow', r', k1, _, _⟩ := r.put (dst := o.dst) (PV.of (o := Nobody) (undef_tup (g := g) (w := w))) (Free.nobody _ _)
        refine ⟨fun f _ => FW_fn rd f, hK _ _ h _ _ ⟨⟨g, ow', by rw [act_put]; exact r', Way.only fun p b o h => (k1 p b o h).resolve_right id, by rw [act_defers]; exact Marks.none _ _ _ _⟩⟩⟩

theorem maybe_run {t : TypeId} {x y : AV} {xv yv : Value} {xo yo : Operand} {op : BinOp} (ho : isEq op = true) (ht : typeKind P t = some 1) (hm : maybeNil x y = true) (hx : V g w x xv) (hy : V g w y yv) :
    ∃ b : Bool, (do eqGuard op t xo yo xv yv; Go.binOp op t xv yv : Sem Value).run P w = .ok (.bool b) w := by
  have hu : ∃ e, P.underlying t = some (.slice e) := by
    unfold typeKind at ht
    split at ht <;> simp at ht
    exact ⟨_, by assumption⟩
  obtain ⟨e, hu⟩ := hu
  have fin : ∀ {b : Bool} {xv yv : Value}, (∀ c, xv ≠ .agg c) → xv ≠ .nilIface → (∀ d, (Op.equalIn (d + 1) t xv yv).run P w = .ok b w) → Go.binOp .eql t xv yv = (do pure (.bool (← Op.equal t xv yv))) → Go.binOp .neq t xv yv = (do pure (.bool (!(← Op.equal t xv yv)))) → ∃ b : Bool, (do eqGuard op t xo yo xv yv; Go.binOp op t xv yv : Sem Value).run P w = .ok (.bool b) w := by
    intro b xv yv h1 h2 h3 e1 e2
    have h4 : (Op.equal t xv yv).run P w = .ok b w := equal_of h3
    have hq : ∀ op, (eqGuard op t xo yo xv yv).run P w = .ok () w := fun op => eqGuard_quiet h1 h2 op t xo yo
    cases op <;> simp [isEq] at ho
    · exact ⟨b, by rw [Sem.run_bind, hq]; simp only [Result.andThen_ok]; rw [e1]; simp [h4]⟩
    · exact ⟨!b, by rw [Sem.run_bind, hq]; simp only [Result.andThen_ok]; rw [e2]; simp [h4]⟩
  unfold maybeNil at hm
  split at hm
  · have := hy.sc_inv; subst this
    rcases V.list_inv hx with ⟨a, c, rfl, _⟩ | ⟨_, _, rfl⟩
    · exact fin (b := false) (by simp) (by simp) (fun d => by simp only [Op.equalIn, Sem.run_bind, run_underlying hu, Result.andThen_ok]; rfl) rfl rfl
    · exact fin (b := true) (by simp) (by simp) (fun d => by simp only [Op.equalIn, Sem.run_bind, run_underlying hu, Result.andThen_ok]; rfl) rfl rfl
  · have := hx.sc_inv; subst this
    rcases V.list_inv hy with ⟨a, c, rfl, _⟩ | ⟨_, _, rfl⟩
    · exact fin (b := false) (by simp [Sc.toV]) (by simp [Sc.toV]) (fun d => by simp only [Op.equalIn, Sem.run_bind, run_underlying hu, Result.andThen_ok]; rfl) rfl rfl
    · exact fin (b := true) (by simp [Sc.toV]) (by simp [Sc.toV]) (fun d => by simp only [Op.equalIn, Sem.run_bind, run_underlying hu, Result.andThen_ok]; rfl) rfl rfl
  · cases hm

theorem maybeW_wp {rd : Option Nat} {i : Nat} {KK : Act → World → Prop} (h : maybeW P ops i fr = true) (r : Rel g w ow fr a.tmps σ)
    (hK : ∀ b, ∀ a' w', Post g w ow a (putA (dstOf ops i) (.bool b) fr) σ a' w' → KK a' w') : wpOpIn (FW rd) 0 P ops Q i KK a w := by
  unfold maybeW at h
  unfold wpOpIn
  cases hi : ops[i]? with
  | none => rw [hi] at h; cases h
  | some o =>
    rw [hi] at h
    dsimp only at h ⊢
    have hdst : dstOf ops i = o.dst := by simp [dstOf, hi]
    rw [hdst] at hK
    rw [Bool.and_eq_true] at h
    obtain ⟨hg, hm⟩ := h
    have hg : guardA ops fr o = some true := by
      split at hg
      · assumption
      · cases hg
    rw [guardA_wanted r.sf hg]
    simp only [if_true]
    obtain ⟨dst, op, ty, pos, after, guard⟩ := o
    dsimp only at hm hK
    obtain ⟨op', t, x, y, yt, rfl⟩ : ∃ op' t x y yt, op = .binOp op' t x y yt := by
      cases op <;> first | exact ⟨_, _, _, _, _, rfl⟩ | (simp only [maybeOf] at hm; cases hm; done)
    simp only [maybeOf, Bool.and_eq_true, beq_iff_eq] at hm
    obtain ⟨⟨ho, ht⟩, hm⟩ := hm
    obtain ⟨b, hb⟩ := maybe_run (P := P) (xo := x) (yo := y) ho ht hm (r.sf.seen x) (r.sf.seen y)
    obtain ⟨ow2, hout⟩ := Out.pure (dst := dst) r (show V g w (.bool b) (.bool b) from .sc (.bool b) .nil)
    refine wp_value (w' := w) ?_ ⟨ow2, hout⟩ ?_
    · exact run_v hb
    · intro g' w' ow' val ho
      refine hK b _ _ ⟨⟨g', ow', ?_, ho.way, by rw [act_defers]; exact Marks.none _ _ _ _⟩⟩
      rw [act_put]; exact ho.rel

theorem opsW_wp {rd : Option Nat} : ∀ (l : List Nat) {fr : Fr} {σ : St} {g : G} {w : World} {ow : Own} {a : Act} {K : Fr → St → Prop}, opsW (ModelW P) P cfg f ops l fr σ K → Rel g w ow fr a.tmps σ →
    (∀ fr' σ', K fr' σ' → ∀ a' w', Post g w ow a fr' σ' a' w' → Q .normal a' w') → wpOpsIn (FW rd) 0 P ops Q l a w
  | [], fr, σ, g, w, ow, a, K, h, r, hQ => hQ _ _ h a w (Post.here r rfl)
  | i :: l, fr, σ, g, w, ow, a, K, h, r, hQ => by
    simp only [opsW] at h
    rw [wpOpsIn_cons]
    rcases h with h | ⟨hm, h⟩
    · refine stepW_wp h r fun fr1 σ1 h1 a1 w1 hp => ?_
      obtain ⟨g1, ow1, r1, W1, hd⟩ := hp.out
      exact opsW_wp l h1 r1 fun fr' σ' k a' w' hp' => hQ _ _ k a' w' (hp'.after W1 r.ss.lt r1.own hd)
    · refine maybeW_wp hm r fun b a1 w1 hp => ?_
      obtain ⟨g1, ow1, r1, W1, hd⟩ := hp.out
      exact opsW_wp l (h b) r1 fun fr' σ' k a' w' hp' => hQ _ _ k a' w' (hp'.after W1 r.ss.lt r1.own hd)
end
end Go.AM
