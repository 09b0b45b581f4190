import Derived.Test.YthbiajoionockaaAm20
/-! Ways, what is settled, what is taken for a call, and what a call brings back. -/
namespace Go.AM
open Go
set_option linter.unusedVariables false
set_option linter.unusedSimpArgs false

structure Way (g : G) (w : World) (ow : Own) (g' : G) (w' : World) (ow' : Own) : Prop where
  tr : Tr (May g ow) g w g' w'
  may : ∀ b o, May g' ow' b o → May g ow b o ∨ w.heap.size ≤ b
  keep : ∀ b o, g.wr b o → May g ow b o ∨ g'.wr b o
  hbn : ∀ b, b ∈ g'.hb → b ∈ g.hb ∨ w.heap.size ≤ b

section
variable {P : Program} {g g' g1 g2 : G} {w w' w1 w2 : World} {ow ow' ow1 ow2 : Own} {σ σ' : St} {fr fr' : Fr} {tm : Array Value} {a : Act} {dst : Option Tmp}

theorem Way.refl (g : G) (w : World) (ow : Own) : Way g w ow g w ow := ⟨Tr.refl _ _ _, fun _ _ h => .inl h, fun _ _ h => .inr h, fun _ h => .inl h⟩

theorem Way.trans (h : Way g w ow g1 w1 ow1) (h' : Way g1 w1 ow1 g2 w2 ow2) (hlt : ∀ b o, g.wr b o → b < w.heap.size) : Way g w ow g2 w2 ow2 where
  tr := h.tr.trans h'.tr h.may
  may b o hm := by
    rcases h'.may b o hm with h1 | h1
    · exact h.may b o h1
    · exact .inr (Nat.le_trans h.tr.size h1)
  keep b o hw := by
    rcases h.keep b o hw with h1 | h1
    · exact .inl h1
    · rcases h'.keep b o h1 with h2 | h2
      · rcases h.may b o h2 with h3 | h3
        · exact .inl h3
        · have := hlt b o hw; omega
      · exact .inr h2
  hbn b hb := by
    rcases h'.hbn b hb with h1 | h1
    · exact h.hbn b h1
    · exact .inr (Nat.le_trans h.tr.size h1)

theorem Way.only (h : ∀ p b o, ow1 p b o → ow p b o) : Way g w ow g w ow1 :=
  ⟨Tr.refl _ _ _, fun b o hm => .inl (hm.imp id fun ⟨p, hp⟩ => ⟨p, h p b o hp⟩), fun _ _ h => .inr h, fun _ h => .inl h⟩

theorem Out.way {v : AV} {val : Value} (h : Out g w ow dst v fr' σ' tm g' w' ow' val) : Way g w ow g' w' ow' := ⟨h.tr, h.may, h.keep, h.hbn⟩

/-- An outcome behind a way. -/
theorem Out.after {v : AV} {val : Value} (hw : Way g w ow g1 w1 ow1) (hlt : ∀ b o, g.wr b o → b < w.heap.size) (h : Out g1 w1 ow1 dst v fr' σ' tm g' w' ow' val) : Out g w ow dst v fr' σ' tm g' w' ow' val :=
  let W := hw.trans h.way hlt
  ⟨h.rel, W.tr, W.may, W.keep, W.hbn⟩

/-- One operand is looked at, and may be seen from now on. -/
theorem settle_one (r : Rel g w ow fr a.tmps σ) (x : Operand) : ∃ g1 ow1, Rel g1 w ow1 (taken false fr x).2 a.tmps σ ∧ Way g w ow g1 w ow1 := by
  obtain ⟨g1, ow1, h1, h2, h3, h4, h5, h6, h7, h8, h9⟩ := taken_false r x
  refine ⟨g1, ow1, h1, h3, fun b o hm => .inl ?_, fun b o hw => ?_, fun b hb => .inl (h9 ▸ hb)⟩
  · rcases hm with ⟨k1, k2⟩ | ⟨p, hp⟩
    · exact .inl ⟨h6 b k1, h5 b o k2⟩
    · exact .inr ⟨p, h4 p b o hp⟩
  · rcases h7 b o hw with h | ⟨p, hp⟩
    · exact .inr h
    · exact .inl (.inr ⟨p, hp⟩)

theorem settle_way : ∀ (xs : List Operand) {g : G} {ow : Own} {fr : Fr}, Rel g w ow fr a.tmps σ → ∃ g1 ow1, Rel g1 w ow1 (settle fr xs) a.tmps σ ∧ Way g w ow g1 w ow1
  | [], g, ow, fr, r => ⟨g, ow, r, Way.refl _ _ _⟩
  | x :: xs, g, ow, fr, r => by
    obtain ⟨g1, ow1, r1, w1⟩ := settle_one r x
    obtain ⟨g2, ow2, r2, w2⟩ := settle_way xs r1
    exact ⟨g2, ow2, r2, w1.trans w2 r.ss.lt⟩

theorem ownOf_own {x : Operand} {b o : Nat} (h : ownOf ow x b o) : ∃ p, ow p b o := by
  cases x with
  | tmp t => exact ⟨_, h⟩
  | _ => exact h.elim

/-- All that is taken for a call. -/
theorem takenAll_rel : ∀ (xs : List Operand) {ow : Own} {fr : Fr}, Rel g w ow fr a.tmps σ →
    ∃ (ow1 : Own) (O : Nat → Nat → Nat → Prop), Rel g w ow1 (takenAll fr xs).2 a.tmps σ ∧ (takenAll fr xs).1.length = xs.length ∧
      (∀ (i : Nat) (v : AV), (takenAll fr xs).1[i]? = some v → ∃ x, xs[i]? = some x ∧ PV g w (O i) v (a.eval x)) ∧ (∀ i, Free g ow1 (O i)) ∧
      (∀ i j b o, O i b o → O j b o → i = j) ∧ (∀ p b o, ow1 p b o → ow p b o) ∧ (∀ i b o, O i b o → ∃ p, ow p b o)
  | [], ow, fr, r => ⟨ow, fun _ => Nobody, r, rfl, fun i v h => by simp [takenAll] at h, fun _ => Free.nobody _ _, fun _ _ _ _ h => h.elim, fun _ _ _ h => h, fun _ _ _ h => h.elim⟩
  | x :: xs, ow, fr, r => by
    obtain ⟨ow1, r1, h1, f1, k1⟩ := taken_true r x
    obtain ⟨ow2, O, r2, hl, hv, f2, hd, k2, k3⟩ := takenAll_rel xs r1
    have e : takenAll fr (x :: xs) = ((taken true fr x).1 :: (takenAll (taken true fr x).2 xs).1, (takenAll (taken true fr x).2 xs).2) := rfl
    rw [e]
    refine ⟨ow2, fun i => match i with | 0 => ownOf ow x | i + 1 => O i, r2, by simp [hl], ?_, ?_, ?_, fun p b o h => k1 _ _ _ (k2 _ _ _ h), ?_⟩
    · intro i v hi
      cases i with
      | zero => simp at hi; subst hi; exact ⟨x, rfl, h1⟩
      | succ i => obtain ⟨y, h3, h4⟩ := hv i v (by simpa using hi); exact ⟨y, by simpa using h3, h4⟩
    · intro i
      cases i with
      | zero => exact ⟨f1.wr, f1.box, fun p b o h => f1.apart p b o (k2 _ _ _ h)⟩
      | succ i => exact f2 i
    · intro i j b o hi hj
      cases i with
      | zero =>
        cases j with
        | zero => rfl
        | succ j => obtain ⟨p, hp⟩ := k3 j b o hj; exact (f1.apart p b o hp hi).elim
      | succ i =>
        cases j with
        | zero => obtain ⟨p, hp⟩ := k3 i b o hi; exact (f1.apart p b o hp hj).elim
        | succ j => rw [hd i j b o hi hj]
    · intro i b o hi
      cases i with
      | zero => exact ownOf_own hi
      | succ i => obtain ⟨p, hp⟩ := k3 i b o hi; exact ⟨p, k1 _ _ _ hp⟩

/-- What a call brings back. -/
structure Ret (g : G) (w : World) (ow : Own) (v : AV) (σ' : St) (rv : Value) (g' : G) (w' : World) (ow' : Own) : Prop where
  rel : Rel g' w' ow' [v] #[rv] σ'
  way : Way g w ow g' w' ow'
  sb : g'.sb = g.sb

/-- What a call leads to. -/
def Runs (P : Program) (s : Sem Next) (w : World) (R : Value → World → Prop) : Prop :=
  (∃ f args, s.run P w = .ok (.enter f args) w ∧ Calls P f args w fun e w' => match e with | .returned v => R v w' | _ => False) ∨
  (∃ v w', s.run P w = .ok (.value v) w' ∧ R v w') ∨
  ∃ l fn tmps assign body, s.run P w = .ok (.round l fn tmps assign body) w ∧ RoundIn Fence.wide 0 P l fn tmps assign body w fun e w' => match e with | .returned v => R v w' | _ => False

abbrev CallF := Tgt → List AV → St → Option (AV × St)

def Tgt.sem (g : G) (xs : Array Value) : Tgt → Option (Sem Next)
  | .fn h => some (callFunc h xs)
  | .yield h => (g.hb[h]?).map fun b => Instr.yield b xs

def Sound (P : Program) (C : CallF) : Prop :=
  ∀ (t : Tgt) (args : List AV) (σ : St) (v : AV) (σ' : St), C t args σ = some (v, σ') → ∀ (g : G) (w : World) (ow : Own) (xs : Array Value), Rel g w ow args xs σ → ∀ s, t.sem g xs = some s →
    Runs P s w fun rv w' => ∃ g' ow', Ret g w ow v σ' rv g' w' ow'

/-- Who owns what in the call. -/
def calleeOwn (ow1 : Own) (O : Nat → Nat → Nat → Prop) (n : Nat) : Own
  | .slot i => if i < n then Nobody else O (i - n)
  | p => ow1 p

theorem calleeOwn_slot {O : Nat → Nat → Nat → Prop} {n i b o : Nat} (h : calleeOwn ow1 O n (.slot i) b o) : n ≤ i ∧ O (i - n) b o := by
  simp only [calleeOwn] at h
  split at h
  · exact h.elim
  · exact ⟨by omega, h⟩

theorem callee_own {O : Nat → Nat → Nat → Prop} {n : Nat} (h : OW g ow1) (f : ∀ i, Free g ow1 (O i)) (hd : ∀ i j b o, O i b o → O j b o → i = j) : OW g (calleeOwn ow1 O n) := by
  refine ⟨fun p b o hp => ?_, fun p b o hp => ?_, fun p q b o hp hq => ?_⟩
  · cases p with
    | slot i => exact (f _).wr _ _ (calleeOwn_slot hp).2
    | _ => exact h.wr _ _ _ hp
  · cases p with
    | slot i => exact (f _).box _ _ (calleeOwn_slot hp).2
    | _ => exact h.box _ _ _ hp
  · cases p with
    | slot i =>
      obtain ⟨h1, h2⟩ := calleeOwn_slot hp
      cases q with
      | slot j =>
        obtain ⟨h3, h4⟩ := calleeOwn_slot hq
        have := hd _ _ _ _ h2 h4
        have : i = j := by omega
        rw [this]
      | stk m j => exact ((f _).apart (.stk m j) _ _ hq h2).elim
      | heap m j => exact ((f _).apart (.heap m j) _ _ hq h2).elim
    | stk m i =>
      cases q with
      | slot j => exact ((f _).apart (.stk m i) _ _ hp (calleeOwn_slot hq).2).elim
      | stk m' j => exact h.one _ _ _ _ hp hq
      | heap m' j => exact h.one _ _ _ _ hp hq
    | heap m i =>
      cases q with
      | slot j => exact ((f _).apart (.heap m i) _ _ hp (calleeOwn_slot hq).2).elim
      | stk m' j => exact h.one _ _ _ _ hp hq
      | heap m' j => exact h.one _ _ _ _ hp hq

/-- The frame of the call. -/
theorem callee_rel {O : Nat → Nat → Nat → Prop} {first caps vs : List AV} {fv cv vv : List Value} (r : Rel g w ow1 fr tm σ) (hf : VL g w first fv) (hc : VL g w caps cv) (hl : vv.length = vs.length)
    (hv : ∀ (i : Nat) (v : AV), vs[i]? = some v → ∃ x, vv[i]? = some x ∧ PV g w (O i) v x) (f : ∀ i, Free g ow1 (O i)) (hd : ∀ i j b o, O i b o → O j b o → i = j) :
    Rel g w (calleeOwn ow1 O first.length) (first ++ vs ++ caps) (fv ++ vv ++ cv).toArray σ where
  ss := r.ss.own (fun _ _ _ _ h => h) fun _ _ _ _ h => h
  own := callee_own r.own f hd
  sf := by
    have h1 := hf.length
    have h2 := hc.length
    refine ⟨by simp [h1, h2, hl], fun i x hi => ?_⟩
    simp only [List.getElem?_toArray]
    by_cases c1 : i < first.length
    · rw [List.append_assoc, List.getElem?_append_left c1] at hi
      obtain ⟨v, k1, k2⟩ := hf.get hi
      exact ⟨v, by rw [List.append_assoc, List.getElem?_append_left (by omega)]; exact k1, PV.of k2⟩
    · by_cases c2 : i < first.length + vs.length
      · rw [List.append_assoc, List.getElem?_append_right (by omega), List.getElem?_append_left (by omega)] at hi
        obtain ⟨v, k1, k2⟩ := hv _ x hi
        refine ⟨v, by rw [List.append_assoc, List.getElem?_append_right (by omega), List.getElem?_append_left (by omega), h1]; exact k1, ?_⟩
        simp only [calleeOwn, if_neg c1]; exact k2
      · rw [List.getElem?_append_right (by simp; omega)] at hi
        obtain ⟨v, k1, k2⟩ := hc.get hi
        refine ⟨v, by rw [List.getElem?_append_right (by simp; omega)]; simpa [h1, hl] using k1, PV.of k2⟩

/-- Back from a call. -/
theorem ret_out {O : Nat → Nat → Nat → Prop} {n : Nat} {v : AV} {rv : Value} (r : Rel g w ow1 fr tm σ) (f : ∀ i, Free g ow1 (O i)) (k1 : ∀ p b o, ow1 p b o → ow p b o) (k2 : ∀ i b o, O i b o → ∃ p, ow p b o)
    (h : Ret g w (calleeOwn ow1 O n) v σ' rv g' w' ow') : ∃ ow2, Out g w ow dst v fr σ' tm g' w' ow2 rv := by
  have hmay : ∀ b o, May g (calleeOwn ow1 O n) b o → May g ow b o := by
    intro b o hm
    rcases hm with hm | ⟨p, hp⟩
    · exact .inl hm
    · cases p with
      | slot i => exact .inr (k2 _ _ _ (calleeOwn_slot hp).2)
      | stk m i => exact .inr ⟨_, k1 (.stk m i) _ _ hp⟩
      | heap m i => exact .inr ⟨_, k1 (.heap m i) _ _ hp⟩
  have hno : ∀ i b o, ow1 (.slot i) b o → ¬ May g (calleeOwn ow1 O n) b o := by
    intro i b o hi hm
    rcases hm with ⟨hm, _⟩ | ⟨p, hp⟩
    · exact r.own.box _ _ _ hi hm
    · cases p with
      | slot j => exact (f _).apart _ _ _ hi (calleeOwn_slot hp).2
      | stk m j => exact Pl.noConfusion (r.own.one _ _ _ _ hi (show ow1 (.stk m j) b o from hp))
      | heap m j => exact Pl.noConfusion (r.own.one _ _ _ _ hi (show ow1 (.heap m j) b o from hp))
  have hlt : ∀ i b o, ow1 (.slot i) b o → b < w.heap.size := fun i b o hi => r.ss.lt _ _ (r.own.wr _ _ _ hi)
  let ow2 : Own := fun p => match p with | .slot i => ow1 (.slot i) | p => ow' p
  have hap : ∀ i p b o, ow1 (.slot i) b o → ¬ ow' p b o := fun i p b o hi hp => by
    rcases h.way.may b o (.inr ⟨p, hp⟩) with hm | hm
    · exact hno _ _ _ hi hm
    · have := hlt _ _ _ hi; omega
  have r2 : Rel g' w' ow2 fr tm σ' := by
    refine ⟨h.rel.ss.own (fun _ _ _ _ h => h) fun _ _ _ _ h => h, ⟨fun p b o hp => ?_, fun p b o hp => ?_, fun p q b o hp hq => ?_⟩, ?_⟩
    · cases p with
      | slot i => exact (h.way.keep b o (r.own.wr _ _ _ hp)).resolve_left (hno _ _ _ hp)
      | stk m i => exact h.rel.own.wr _ _ _ (show ow' _ b o from hp)
      | heap m i => exact h.rel.own.wr _ _ _ (show ow' _ b o from hp)
    · cases p with
      | slot i =>
        intro hb
        rcases hb with hb | hb
        · rw [h.sb] at hb; exact r.own.box _ _ _ hp (.inl hb)
        · rcases h.way.hbn b hb with hb | hb
          · exact r.own.box _ _ _ hp (.inr hb)
          · have := hlt _ _ _ hp; omega
      | stk m i => exact h.rel.own.box _ _ _ (show ow' _ b o from hp)
      | heap m i => exact h.rel.own.box _ _ _ (show ow' _ b o from hp)
    · cases p with
      | slot i =>
        cases q with
        | slot j => exact r.own.one _ _ _ _ hp hq
        | stk m j => exact (hap _ _ _ _ hp (show ow' (.stk m j) b o from hq)).elim
        | heap m j => exact (hap _ _ _ _ hp (show ow' (.heap m j) b o from hq)).elim
      | stk m i =>
        cases q with
        | slot j => exact (hap _ _ _ _ hq (show ow' (.stk m i) b o from hp)).elim
        | stk m' j => exact h.rel.own.one _ _ _ _ (show ow' (.stk m i) b o from hp) (show ow' (.stk m' j) b o from hq)
        | heap m' j => exact h.rel.own.one _ _ _ _ (show ow' (.stk m i) b o from hp) (show ow' (.heap m' j) b o from hq)
      | heap m i =>
        cases q with
        | slot j => exact (hap _ _ _ _ hq (show ow' (.heap m i) b o from hp)).elim
        | stk m' j => exact h.rel.own.one _ _ _ _ (show ow' (.heap m i) b o from hp) (show ow' (.stk m' j) b o from hq)
        | heap m' j => exact h.rel.own.one _ _ _ _ (show ow' (.heap m i) b o from hp) (show ow' (.heap m' j) b o from hq)
    · refine ⟨r.sf.size, fun i x hi => ?_⟩
      obtain ⟨u, h1, h2⟩ := r.sf.val i x hi
      refine ⟨u, h1, (h2.later h.way.tr (fun b o hm => ?_) (hno i)).move fun _ _ h => h⟩
      rcases hm with hm | ⟨p, hp⟩
      · exact hm.2
      · cases p with
        | slot j => exact (f _).wr _ _ (calleeOwn_slot hp).2
        | stk m j => exact r.own.wr (.stk m j) _ _ hp
        | heap m j => exact r.own.wr (.heap m j) _ _ hp
  have hv : PV g' w' (ow' (.slot 0)) v rv := by
    obtain ⟨u, h1, h2⟩ := h.rel.sf.val 0 v rfl
    simp at h1; subst h1; exact h2
  have hfree : Free g' ow2 (ow' (.slot 0)) := ⟨h.rel.own.wr _, h.rel.own.box _, fun p b o hp hq => by
    cases p with
    | slot i => exact hap _ _ _ _ hp hq
    | stk m i => exact Pl.noConfusion (h.rel.own.one _ _ _ _ hq (show ow' (.stk m i) b o from hp))
    | heap m i => exact Pl.noConfusion (h.rel.own.one _ _ _ _ hq (show ow' (.heap m i) b o from hp))⟩
  have hm' : ∀ b o, May g' ow' b o → May g ow b o ∨ w.heap.size ≤ b := fun b o hm => (h.way.may b o hm).imp (hmay b o) id
  refine Out.of r2 hv hfree (h.way.tr.weaken hmay) (fun p b o hp => ?_) (fun b o hp => hm' b o (.inr ⟨_, hp⟩)) (fun b o h1 h2 => hm' b o (.inl ⟨h1, h2⟩)) (fun b o hw => (h.way.keep b o hw).imp (hmay b o) id) h.way.hbn
  cases p with
  | slot i => exact .inl (.inr ⟨_, k1 _ _ _ hp⟩)
  | stk m i => exact hm' b o (.inr ⟨_, show ow' (.stk m i) b o from hp⟩)
  | heap m i => exact hm' b o (.inr ⟨_, show ow' (.heap m i) b o from hp⟩)
end
end Go.AM
