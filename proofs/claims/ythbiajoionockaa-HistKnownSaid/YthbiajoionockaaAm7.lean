import Derived.Test.YthbiajoionockaaAm6
import Derived.OrdersIn
import Derived.RangeFuncRecord
import Derived.RangeFuncIn
import Derived.RangeFuncLeaves
/-! One operation: what it yields in a world. First those that write nothing. -/
namespace Go.AM
open Go
set_option linter.unusedVariables false

structure Out (g : G) (w : World) (ow : Own) (dst : Option Tmp) (v : AV) (fr' : Fr) (σ' : St) (tm : Array Value) (g' : G) (w' : World) (ow' : Own) (val : Value) : Prop where
  rel : Rel g' w' ow' (putA dst v fr') (put dst val tm) σ'
  tr : Tr (May g ow) g w g' w'
  may : ∀ b o, May g' ow' b o → May g ow b o ∨ w.heap.size ≤ b
  keep : ∀ b o, g.wr b o → May g ow b o ∨ g'.wr b o
  hbn : ∀ b, b ∈ g'.hb → b ∈ g.hb ∨ w.heap.size ≤ b

theorem act_put (a : Act) (dst : Option Tmp) (v : Value) : (a.put dst v).tmps = put dst v a.tmps := by cases dst <;> rfl

theorem val_run {α : Type} {P : Program} : ∀ {s : Sem α} {x : α}, val P s = some x → ∀ w : World, s.run P w = .ok x w
  | .pure a, x, h, w => by simp [val] at h; subst h; rfl
  | .program k, x, h, w => by simp only [val] at h; simp only [Sem.run]; exact val_run h w
  | .load .., _, h, _ => by simp [val] at h
  | .store .., _, h, _ => by simp [val] at h
  | .new .., _, h, _ => by simp [val] at h
  | .shape .., _, h, _ => by simp [val] at h
  | .freeze .., _, h, _ => by simp [val] at h
  | .frozen .., _, h, _ => by simp [val] at h
  | .getObj .., _, h, _ => by simp [val] at h
  | .setObj .., _, h, _ => by simp [val] at h
  | .choose .., _, h, _ => by simp [val] at h
  | .sys .., _, h, _ => by simp [val] at h
  | .mark .., _, h, _ => by simp [val] at h
  | .halt .., _, h, _ => by simp [val] at h

section
variable {P : Program} {g g' : G} {w w' : World} {ow ow' ow1 : Own} {σ σ' : St} {fr fr' : Fr} {tm : Array Value} {o : Oper} {a : Act} {next : Act → World → Prop} {Q : Exit → Act → World → Prop}

/-- The way to an outcome. -/
theorem Out.of {dst : Option Tmp} {v : AV} {val : Value} {ro : Nat → Nat → Prop} (r : Rel g' w' ow1 fr' tm σ') (hv : PV g' w' ro v val) (f : Free g' ow1 ro) (t : Tr (May g ow) g w g' w')
    (h1 : ∀ p b o, ow1 p b o → May g ow b o ∨ w.heap.size ≤ b) (h2 : ∀ b o, ro b o → May g ow b o ∨ w.heap.size ≤ b) (h3 : ∀ b o, g'.isBox b → g'.wr b o → May g ow b o ∨ w.heap.size ≤ b)
    (h4 : ∀ b o, g.wr b o → May g ow b o ∨ g'.wr b o) (h5 : ∀ b, b ∈ g'.hb → b ∈ g.hb ∨ w.heap.size ≤ b) :
    ∃ ow', Out g w ow dst v fr' σ' tm g' w' ow' val := by
  obtain ⟨ow', r', k1, _, _⟩ := r.put (dst := dst) hv f
  exact ⟨ow', r', t, fun b o h => by
    rcases h with h | ⟨p, h⟩
    · exact h3 b o h.1 h.2
    · rcases k1 p b o h with h | h
      · exact h1 p b o h
      · exact h2 b o h, h4, h5⟩

theorem May.own {b o : Nat} {p : Pl} (h : ow p b o) : May g ow b o := .inr ⟨p, h⟩

/-- Nothing is owned, nothing written. -/
theorem Out.pure {dst : Option Tmp} {v : AV} {val : Value} (r : Rel g w ow fr tm σ) (hv : V g w v val) : ∃ ow', Out g w ow dst v fr σ tm g w ow' val :=
  Out.of r (PV.of (o := Nobody) hv) (Free.nobody _ _) (Tr.refl _ _ _) (fun p b o h => .inl (.own h)) (fun b o h => h.elim) (fun b o h1 h2 => .inl (.inl ⟨h1, h2⟩)) (fun _ _ h => .inr h) (fun _ h => .inl h)

/-- No fence at all; in a round, or not. -/
def FW : Option Nat → Fence
  | none => Fence.wide
  | some l => Fence.wide.inRound l

theorem FW_fn (rd : Option Nat) (f : FuncId) : (FW rd).fn f := by cases rd <;> trivial

theorem FW_depth (rd : Option Nat) (n : Nat) : (FW rd).depth.isSome = true → 1 ≤ n := by cases rd <;> exact fun h => by simp [FW, Fence.wide, Fence.inRound] at h

theorem FW_round (rd : Option Nat) : (FW rd).round = rd := by cases rd <;> rfl

theorem FW_calls {rd : Option Nat} {n : Nat} {f : FuncId} {args : Array Value} {R : Ending → World → Prop} (h : Calls P f args w R) : CallsIn (FW rd) n P f args w R := by
  cases rd with
  | none => exact callsIn_wide.2 h
  | some l => exact (callsIn_wide (n := n)).2 h

theorem semAt_of {rd : Option Nat} {x : Next} (hr : (execOp a.eval o).run P w = .ok x w') (hx : ∀ d, x ≠ .defer d) : (o.semAt rd a.eval).run P w = .ok x w' := by
  rw [Oper.semAt_eq rd a.eval o fun c hc => ?_]
  · exact hr
  · simp only [execOp, hc, Sem.run_bind] at hr
    cases hres : (resolve a.eval c o.type).run P w with
    | ok d w2 => rw [hres] at hr; simp only [Result.andThen_ok, Sem.run_pure, Result.ok.injEq] at hr; exact hx d hr.1.symm
    | halt h w2 => rw [hres] at hr; cases hr

theorem wp_value {rd : Option Nat} {val : Value} {v : AV} (hr : (execOp a.eval o).run P w = .ok (.value val) w') (ho : ∃ ow', Out g w ow o.dst v fr' σ' a.tmps g' w' ow' val)
    (hn : ∀ g' w' ow' val, Out g w ow o.dst v fr' σ' a.tmps g' w' ow' val → next (a.put o.dst val) w') : o.wpIn (FW rd) 0 P a w next Q := by
  obtain ⟨ow', ho⟩ := ho
  refine ⟨fun f _ => FW_fn rd f, ?_⟩
  rw [FW_round, semAt_of hr (by simp)]; exact hn _ _ _ _ ho

theorem wp_skipped {rd : Option Nat} {v : AV} (hr : (execOp a.eval o).run P w = .ok .skip w') (ho : ∃ ow', Out g w ow o.dst v fr' σ' a.tmps g' w' ow' undef)
    (hn : ∀ g' w' ow' val, Out g w ow o.dst v fr' σ' a.tmps g' w' ow' val → next (a.put o.dst val) w') : o.wpIn (FW rd) 0 P a w next Q := by
  obtain ⟨ow', ho⟩ := ho
  refine ⟨fun f _ => FW_fn rd f, ?_⟩
  rw [FW_round, semAt_of hr (by simp)]; exact hn _ _ _ _ ho

theorem PV.sh {ro : Nat → Nat → Prop} {x : AV} {v : Value} (h : PV g w ro x v) (hx : ∀ sz es, x ≠ .list .uniq sz es) : V g w x.sh v := by
  cases x with
  | list fl sz es =>
    cases fl with
    | own => exact h.1
    | uniq => exact (hx _ _ rfl).elim
    | sh => exact h
    | full => exact h
  | _ => exact h

/-- What is taken from a slot. -/
theorem taken_true (r : Rel g w ow fr a.tmps σ) (x : Operand) :
    ∃ ow1, Rel g w ow1 (taken true fr x).2 a.tmps σ ∧ PV g w (ownOf ow x) (taken true fr x).1 (a.eval x) ∧ Free g ow1 (ownOf ow x) ∧ (∀ p b o, ow1 p b o → ow p b o) := by
  cases x with
  | tmp t =>
    obtain ⟨h1, h2, h3⟩ := r.take t
    refine ⟨_, h2, h1, h3, fun p b o h => ?_⟩
    by_cases e : p = .slot t
    · rw [e, Own.set_same] at h; exact h.elim
    · rw [Own.set_other _ _ e] at h; exact h
  | const v => exact ⟨ow, r, r.sf.opnd _, Free.nobody _ _, fun _ _ _ h => h⟩
  | global n => exact ⟨ow, r, r.sf.opnd _, Free.nobody _ _, fun _ _ _ h => h⟩
  | func f => exact ⟨ow, r, r.sf.opnd _, Free.nobody _ _, fun _ _ _ h => h⟩

theorem set_same (fr : Fr) (t : Nat) (x : AV) (h : fr.getD t .undef = x) (hx : x ≠ .undef) : fr.set t x = fr := by
  apply List.ext_getElem?
  intro i
  by_cases e : i = t
  · subst e
    by_cases hl : i < fr.length
    · rw [List.getElem?_set_self hl, List.getElem?_eq_getElem hl]; simp [List.getD, hl] at h; rw [h]
    · simp [List.getD, hl] at h; exact (hx h.symm).elim
  · rw [List.getElem?_set_ne (Ne.symm e)]

/-- What is looked at in a slot. -/
theorem taken_false (r : Rel g w ow fr a.tmps σ) (x : Operand) :
    ∃ g1 ow1, Rel g1 w ow1 (taken false fr x).2 a.tmps σ ∧ V g1 w (taken false fr x).1 (a.eval x) ∧ Tr (May g ow) g w g1 w ∧ (∀ p b o, ow1 p b o → ow p b o) ∧ (∀ b o, g1.wr b o → g.wr b o) ∧ (∀ b, g1.isBox b → g.isBox b) ∧ (∀ b o, g.wr b o → g1.wr b o ∨ ∃ p, ow p b o) ∧ g1.sb = g.sb ∧ g1.hb = g.hb := by
  have plain : ∀ (h : (taken false fr x) = ((opnd fr x).sh, fr)) (h' : ∀ sz es, opnd fr x ≠ .list .uniq sz es), ∃ g1 ow1, Rel g1 w ow1 (taken false fr x).2 a.tmps σ ∧ V g1 w (taken false fr x).1 (a.eval x) ∧ Tr (May g ow) g w g1 w ∧ (∀ p b o, ow1 p b o → ow p b o) ∧ (∀ b o, g1.wr b o → g.wr b o) ∧ (∀ b, g1.isBox b → g.isBox b) ∧ (∀ b o, g.wr b o → g1.wr b o ∨ ∃ p, ow p b o) ∧ g1.sb = g.sb ∧ g1.hb = g.hb := by
    intro h h'
    rw [h]
    exact ⟨g, ow, r, (r.sf.opnd x).sh h', Tr.refl _ _ _, fun _ _ _ h => h, fun _ _ h => h, fun _ h => h, fun _ _ h => .inl h, rfl, rfl⟩
  cases x with
  | tmp t =>
    by_cases hu : ∃ sz es, fr.getD t .undef = .list .uniq sz es
    · obtain ⟨sz, es, hu⟩ := hu
      have ht : taken false fr (.tmp t) = (.list .sh sz es, fr.set t (.list .own sz es)) := by unfold taken; simp only [Bool.false_eq_true, if_false, hu]
      rw [ht]
      obtain ⟨h1, h2, h3⟩ := r.take t
      rw [hu] at h1 h2
      obtain ⟨X, ro', r', hp, f', k1, k2⟩ := Uniq.calm h2 h1 h3
      obtain ⟨ow2, r2, k3, k4, k5⟩ := r'.put (dst := none) hp f'
      have hV : V (g.less X) w (.list .sh sz es) (a.eval (.tmp t)) := hp.1
      -- the slot keeps what is not shared
      refine ⟨g.less X, (ow.set (.slot t) Nobody).set (.slot t) ro', ⟨?_, r'.own.set f', ?_⟩, hV, Tr.less X, ?_, fun _ _ h => h.1, fun _ h => h, fun b o h => (Classical.em (X b o)).elim (fun hx => .inr ⟨_, k2 _ _ hx⟩) fun hx => .inl ⟨h, hx⟩, rfl, rfl⟩
      · exact r'.ss.own (fun n i b x h => by rw [Own.set_other _ _ (by simp)]; exact h) (fun n i b x h => by rw [Own.set_other _ _ (by simp)]; exact h)
      · have hs := r'.sf
        refine ⟨by rw [hs.size]; simp, fun i x hi => ?_⟩
        by_cases e : i = t
        · subst e
          have hl : i < fr.length := by
            rcases Nat.lt_or_ge i fr.length with h | h
            · exact h
            · rw [List.getElem?_eq_none (by simpa using h)] at hi; simp at hi
          rw [List.getElem?_set_self hl] at hi
          injection hi with hi; subst hi
          obtain ⟨v, hv1, _⟩ := r.sf.val i _ (List.getElem?_eq_getElem hl)
          refine ⟨v, hv1, ?_⟩
          rw [Own.set_same]
          have : a.tmps.getD i undef = v := by simp [hv1]
          rw [← this]; exact hp
        · rw [List.getElem?_set_ne (Ne.symm e)] at hi
          obtain ⟨u, hu1, hu2⟩ := hs.val i x (by rw [List.getElem?_set_ne (Ne.symm e)]; exact hi)
          exact ⟨u, hu1, by rw [Own.set_other _ _ (by simpa using e)]; exact hu2⟩
      · intro p b o h
        by_cases e : p = .slot t
        · rw [e, Own.set_same] at h; exact e ▸ k1 _ _ h
        · rw [Own.set_other _ _ e, Own.set_other _ _ e] at h; exact h
    · refine plain ?_ fun sz es h => hu ⟨sz, es, h⟩
      unfold taken
      simp only [Bool.false_eq_true, if_false]
      split
      · rename_i sz es h; exact (hu ⟨sz, es, h⟩).elim
      · rfl
  | const v => 
    have hc := opnd_const_common fr (.const v) (by simp)
    refine plain ?_ fun sz es h => by rw [h] at hc; simp [AV.common] at hc
    have : (opnd fr (.const v)).sh = opnd fr (.const v) := by revert hc; cases opnd fr (.const v) with | list fl _ _ => cases fl <;> simp [AV.common, AV.sh] | _ => simp [AV.sh]
    rw [this]; rfl
  | global n => exact plain rfl fun sz es h => by simp [opnd] at h
  | func f => exact plain rfl fun sz es h => by simp [opnd] at h
end
end Go.AM
