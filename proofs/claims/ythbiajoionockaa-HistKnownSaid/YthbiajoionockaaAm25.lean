import Derived.Test.YthbiajoionockaaAm24
/-! A region whose order is drawn: one order stands for all. -/
namespace Go.AM
open Go
set_option linter.unusedVariables false
set_option linter.unusedSimpArgs false

/-- Whatever the order, it ends so; and all memories on the way are as J says. -/
def AnyJ (C : CallF) (P : Program) (cfg : Cfg) (f : FuncId) (ops : Array Oper) (J : Array Bool → St → Prop) (R : Fr × St) : Nat → Array Bool → Fr → St → Prop
  | 0, listed, fr, σ => Region.ready .any ops listed = [] ∧ (fr, σ) = R ∧ J listed σ
  | n + 1, listed, fr, σ => J listed σ ∧ (Region.ready .any ops listed = [] → (fr, σ) = R) ∧
    ∀ i ∈ Region.ready .any ops listed, ∃ fr' σ', stepA C P cfg f ops i fr σ = some (fr', σ') ∧ AnyJ C P cfg f ops J R n (listed.setIfInBounds i true) fr' σ'

section
variable {P : Program} {C : CallF} {cfg : Cfg} {f : FuncId} {fr fr' fr1 : Fr} {σ σ' : St} {ops : Array Oper} {d : Nat} {v : AV} {J J' : Array Bool → St → Prop} {R : Fr × St}

theorem AnyJ.here : ∀ {n : Nat} {listed : Array Bool} {fr : Fr} {σ : St}, AnyJ C P cfg f ops J R n listed fr σ → J listed σ
  | 0, _, _, _, h => h.2.2
  | _ + 1, _, _, _, h => h.1

/-- More is listed. -/
def More (l l' : Array Bool) : Prop := ∀ x : Nat, l.getD x false = true → l'.getD x false = true

theorem More.set (l : Array Bool) (i : Nat) : More l (l.setIfInBounds i true) := fun x h => getD_set_true h

theorem AnyJ.mono : ∀ {n : Nat} {listed : Array Bool} {fr : Fr} {σ : St}, (∀ L s, More listed L → J L s → J' L s) → AnyJ C P cfg f ops J R n listed fr σ → AnyJ C P cfg f ops J' R n listed fr σ
  | 0, l, _, _, hJ, h => ⟨h.1, h.2.1, hJ _ _ (fun _ h => h) h.2.2⟩
  | _ + 1, l, _, _, hJ, h => ⟨hJ _ _ (fun _ h => h) h.1, h.2.1, fun i hi => by
    obtain ⟨fr', σ', h1, h2⟩ := h.2.2 i hi
    exact ⟨fr', σ', h1, h2.mono fun L s hm => hJ L s fun x hx => hm x (More.set l i x hx)⟩⟩

/-- Something that is listed, and no reader, hangs on k. -/
def Dep (cfg : Cfg) (f : FuncId) (ops : Array Oper) (l : Array Bool) (k : Nat) : Prop := ∃ j, l.getD j false = true ∧ isReader cfg f ops j = false ∧ hangsOn ops j k = true

/-- What is listed hangs on what is listed. -/
def Closed (ops : Array Oper) (l : Array Bool) : Prop := ∀ j k, l.getD j false = true → hangsOn ops j k = true → l.getD k false = true

theorem ready_hangs {l : Array Bool} {j k : Nat} (hj : j ∈ Region.ready .any ops l) (h : hangsOn ops j k = true) : l.getD k false = true := by
  obtain ⟨_, o, ho, hall⟩ := mem_ready.1 hj
  unfold hangsOn at h
  rw [ho] at h
  dsimp only at h
  obtain ⟨e, he, hb⟩ := Array.any_eq_true'.1 h
  simp only [Bool.and_eq_true, beq_iff_eq] at hb
  rw [← hb.2]; exact hall e he hb.1

theorem getD_set_cases {l : Array Bool} {i x : Nat} (h : (l.setIfInBounds i true).getD x false = true) : x = i ∨ l.getD x false = true := by
  by_cases e : i = x
  · exact .inl e.symm
  · rw [getD_set_ne false e] at h; exact .inr h

theorem Closed.set {l : Array Bool} {j : Nat} (hc : Closed ops l) (hj : j ∈ Region.ready .any ops l) : Closed ops (l.setIfInBounds j true) := by
  intro x k hx hk
  rcases getD_set_cases hx with rfl | hx
  · exact getD_set_true (ready_hangs hj hk)
  · exact getD_set_true (hc x k hx hk)

theorem ready_unlisted {l : Array Bool} {i : Nat} (hi : i ∈ Region.ready .any ops l) : l.getD i false = false := by
  have h0 := (mem_ready.1 hi).1
  rcases Nat.lt_or_ge i l.size with h' | h'
  · simp [h'] at h0 ⊢; exact h0
  · simp [Array.getElem?_eq_none h']

/-- Nothing that is listed hangs on what is still to come. -/
theorem not_dep {l : Array Bool} {i : Nat} (hc : Closed ops l) (hi : i ∈ Region.ready .any ops l) : ¬ Dep cfg f ops (l.setIfInBounds i true) i := by
  rintro ⟨j, hj, _, hk⟩
  have hu := ready_unlisted hi
  rcases getD_set_cases hj with rfl | hj
  · rw [ready_hangs hi hk] at hu; cases hu
  · rw [hc j i hj hk] at hu; cases hu

/-- What the slots that an operation looks at must still be. -/
def Agree (T : List Tmp) (fr fr1 : Fr) : Prop := fr1.length = fr.length ∧ ∀ t ∈ T, (fr.getD t .undef).isUniq = false → (fr1.getD t .undef).isUniq = false ∧ (fr1.getD t .undef).look = (fr.getD t .undef).look

theorem look_s {u : AV} {x : Sc} (h : u.look = .s x) : u = .s x := by
  cases u with
  | list fl _ _ => cases fl <;> simp [AV.look] at h
  | _ => first | (simp [AV.look] at h; done) | (simp [AV.look] at h; rw [h])

theorem look_tup {u : AV} {x : List AV} (h : u.look = .tup x) : u = .tup x := by
  cases u with
  | list fl _ _ => cases fl <;> simp [AV.look] at h
  | _ => first | (simp [AV.look] at h; done) | (simp [AV.look] at h; rw [h])

theorem guardA_agree {o : Oper} {b : Bool} (ha : Agree (o.looksAt ops) fr fr1) (h : guardA ops fr o = some b) : guardA ops fr1 o = some b := by
  unfold guardA at h ⊢
  cases hg : o.guard with
  | none => rw [hg] at h; exact h
  | some jw =>
    obtain ⟨j, want⟩ := jw
    rw [hg] at h
    dsimp only at h ⊢
    cases hd : (ops[j]?).bind (·.dst) with
    | none => rw [hd] at h; exact h
    | some d =>
      rw [hd] at h
      dsimp only at h ⊢
      have hm : d ∈ o.looksAt ops := by
        unfold Oper.looksAt
        rw [hg]
        refine List.mem_append_right _ ?_
        simp [hd]
      have key : ∀ u, fr[d]? = some u → u.isUniq = false → ∃ u', fr1[d]? = some u' ∧ u'.look = u.look := by
        intro u hu hn
        have hl : d < fr.length := (List.getElem?_eq_some_iff.1 hu).1
        have hl1 : d < fr1.length := by rw [ha.1]; exact hl
        have e : fr.getD d .undef = u := by simp [List.getD, hu]
        have := ha.2 d hm (by rw [e]; exact hn)
        refine ⟨fr1[d], List.getElem?_eq_getElem hl1, ?_⟩
        have e1 : fr1.getD d .undef = fr1[d] := by simp [List.getD, hl1]
        rw [← e1, this.2, e]
      split at h
      · rename_i b' hb
        obtain ⟨u', h1, h2⟩ := key _ hb rfl
        rw [h1, look_s (u := u') (by rw [h2]; rfl)]
        exact h
      · rename_i hb
        obtain ⟨u', h1, h2⟩ := key _ hb rfl
        rw [h1, look_tup (u := u') (by rw [h2]; rfl)]
        exact h
      · cases h

theorem agree_operand {o : Oper} (ha : Agree (o.looksAt ops) fr fr1) {x : Operand} (hx : x ∈ o.op.operands.toList) (hc : calmAt fr x = true) : AM.seen fr1 x = AM.seen fr x ∧ calmAt fr1 x = true := by
  cases x with
  | tmp t =>
    have hm : t ∈ o.looksAt ops := List.mem_append_left _ (List.mem_filterMap.2 ⟨.tmp t, hx, rfl⟩)
    have hu : (fr.getD t .undef).isUniq = false := by simpa [calmAt] using hc
    have := ha.2 t hm hu
    exact ⟨this.2, by simp only [calmAt, this.1]; rfl⟩
  | _ => exact ⟨rfl, rfl⟩

theorem readV_agree {i : Nat} {o : Oper} (hi : ops[i]? = some o) (ha : Agree (o.looksAt ops) fr fr1) (h : readV C P cfg f ops i fr σ = some v) : readV C P cfg f ops i fr1 σ = some v := by
  unfold readV at h ⊢
  rw [hi] at h ⊢
  dsimp only at h ⊢
  cases hg : guardA ops fr o with
  | none => rw [hg] at h; cases h
  | some b =>
    rw [hg] at h; rw [guardA_agree ha hg]
    cases b with
    | false => exact h
    | true =>
      dsimp only at h ⊢
      split at h
      case isFalse => cases h
      rename_i hc
      simp only [Bool.and_eq_true, List.all_eq_true] at hc
      have hc1 : ∀ x ∈ o.op.operands.toList, calmAt fr1 x = true := fun x hx => (agree_operand ha hx (hc.2 x hx)).2
      rw [if_pos (by simp only [Bool.and_eq_true, List.all_eq_true]; exact ⟨hc.1, hc1⟩), reader_eq hc.1 (fun x hx => (agree_operand ha hx (hc.2 x hx)).1) hc.2 hc1]
      rw [← h]
      cases evOp C P cfg f o fr σ <;> rfl

theorem readV_step {i : Nat} {o : Oper} (hi : ops[i]? = some o) (h : readV C P cfg f ops i fr σ = some v) : stepA C P cfg f ops i fr σ = some (putA o.dst v fr, σ) := by
  unfold readV at h
  unfold stepA
  rw [hi] at h ⊢
  dsimp only at h ⊢
  cases hg : guardA ops fr o with
  | none => rw [hg] at h; cases h
  | some b =>
    rw [hg] at h
    cases b with
    | false => dsimp only at h ⊢; injection h with h; rw [h]
    | true =>
      dsimp only at h ⊢
      split at h
      case isFalse => cases h
      rename_i hc
      simp only [Bool.and_eq_true, List.all_eq_true] at hc
      rw [settle_calm _ fun x hx => hc.2 x (settled_operands hx)]
      obtain ⟨⟨u, fr', σ'⟩, h1, h2⟩ := map_some h
      obtain ⟨rfl, rfl⟩ := reader_state hc.1 hc.2 h1
      dsimp only at h2; subst h2
      rw [h1]

theorem guardA_put {o : Oper} (h : ∀ e, o.dst = o.dst → e = d → e ∉ o.looksAt ops) : guardA ops (fr.set d v) o = guardA ops fr o := by
  unfold guardA
  cases hg : o.guard with
  | none => rfl
  | some jw =>
    obtain ⟨j, want⟩ := jw
    dsimp only
    cases hd : (ops[j]?).bind (·.dst) with
    | none => rfl
    | some t =>
      have hm : t ∈ o.looksAt ops := by
        unfold Oper.looksAt
        rw [hg]
        exact List.mem_append_right _ (by simp [hd])
      have hne : d ≠ t := fun e => h d rfl rfl (e ▸ hm)
      dsimp only
      rw [List.getElem?_set_ne hne]

/-- A step does not mind a slot that it does not look at. -/
theorem stepA_put {j : Nat} {o : Oper} {x : Option Tmp} (hj : ops[j]? = some o) (h : ∀ d, x = some d → d ∉ o.looksAt ops) (h' : ∀ d, x = some d → o.dst ≠ some d) :
    stepA C P cfg f ops j (putA x v fr) σ = (stepA C P cfg f ops j fr σ).map fun r => (putA x v r.1, r.2) := by
  cases x with
  | none => simp only [putA]; cases stepA C P cfg f ops j fr σ <;> rfl
  | some d =>
    have hd := h d rfl
    have hd' := h' d rfl
    have hop : ∀ x ∈ o.op.operands.toList, x ≠ .tmp d := fun x hx e => hd (List.mem_append_left _ (List.mem_filterMap.2 ⟨.tmp d, e ▸ hx, rfl⟩))
    have put : ∀ (u : AV) (fr : Fr), putA o.dst u (fr.set d v) = (putA o.dst u fr).set d v := by
      intro u fr
      cases hod : o.dst with
      | none => rfl
      | some e =>
        have hne : d ≠ e := fun h => hd' (by rw [hod, h])
        simp only [putA]
        rw [List.set_comm _ _ hne]
    unfold stepA
    rw [hj]
    show (match guardA ops (fr.set d v) o with
      | some true => match evOp C P cfg f o (settle (fr.set d v) (settled o.op)) σ with
        | some (v, fr, σ) => some (putA o.dst v fr, σ)
        | none => none
      | some false => some (putA o.dst (.tup []) (fr.set d v), σ)
      | none => none) = (match guardA ops fr o with
      | some true => match evOp C P cfg f o (settle fr (settled o.op)) σ with
        | some (v, fr, σ) => some (putA o.dst v fr, σ)
        | none => none
      | some false => some (putA o.dst (.tup []) fr, σ)
      | none => none).map fun (r : Fr × St) => (r.1.set d v, r.2)
    rw [guardA_put fun e _ he => by rw [he]; exact hd]
    cases guardA ops fr o with
    | none => rfl
    | some b =>
      cases b with
      | false => simp only [Option.map_some]; rw [put]
      | true =>
        dsimp only
        rw [settle_set fun x hx => hop x (settled_operands hx), evOp_set hop]
        cases evOp C P cfg f o (settle fr (settled o.op)) σ with
        | none => rfl
        | some r => simp only [Option.map_some]; rw [put]

/-- What a step leaves to those that do not look at its slot. -/
theorem stepA_agree {j : Nat} {o : Oper} {T : List Tmp} (hj : ops[j]? = some o) (h : stepA C P cfg f ops j fr σ = some (fr', σ')) (hT : ∀ d, o.dst = some d → d ∉ T) : Agree T fr fr' := by
  have put : ∀ (u : AV) (fr0 : Fr), Calmer fr fr0 → Agree T fr (putA o.dst u fr0) := by
    intro u fr0 hc
    cases hod : o.dst with
    | none => exact ⟨hc.1, fun t _ ht => hc.2 t ht⟩
    | some d =>
      refine ⟨by simp [putA, hc.1], fun t hm ht => ?_⟩
      have hne : t ≠ d := fun e => hT d hod (e ▸ hm)
      simp only [putA]
      rw [getD_set _ _ _ _ hne]
      exact hc.2 t ht
  unfold stepA at h
  rw [hj] at h
  dsimp only at h
  split at h
  · split at h
    · rename_i he
      simp only [Option.some.injEq, Prod.mk.injEq] at h
      obtain ⟨rfl, _⟩ := h
      exact put _ _ ((settle_calmer _ _).trans (evOp_calmer he))
    · cases h
  · simp only [Option.some.injEq, Prod.mk.injEq] at h
    obtain ⟨rfl, _⟩ := h
    exact put _ _ (Calmer.refl _)
  · cases h

theorem AnyJ.first {i : Nat} {oi : Oper} (hi : ops[i]? = some oi) : ∀ (n : Nat) (listed : Array Bool) (fr : Fr) (σ : St), Closed ops listed →
      (∀ j oj, ops[j]? = some oj → j ≠ i → listed.getD j true = false → (∀ e ∈ oj.after, Region.binds .any e = true → e.on ≠ i) → oi.apart ops oj = true) →
      i ∈ Region.ready .any ops listed → (∀ L s, ¬ Dep cfg f ops L i → J L s → readV C P cfg f ops i fr s = some v) → (∀ L s, J (L.setIfInBounds i true) s → J L s) → AnyJ C P cfg f ops J R n (listed.setIfInBounds i true) (putA oi.dst v fr) σ → AnyJ C P cfg f ops J R (n + 1) listed fr σ := by
  intro n
  induction n with
  | zero =>
    intro listed fr σ hcl _ hr hy hJ H
    refine ⟨hJ _ _ H.here, fun h => (by rw [h] at hr; cases hr), fun j hj => ?_⟩
    by_cases hji : j = i
    · subst hji; exact ⟨_, _, readV_step hi (hy _ σ (not_dep hcl hr) H.here), H⟩
    · have := ready_mono hj hji
      rw [H.1] at this
      cases this
  | succ n ih =>
    intro listed fr σ hcl hfree hr hy hJ H
    refine ⟨hJ _ _ H.here, fun h => (by rw [h] at hr; cases hr), fun j hj => ?_⟩
    by_cases hji : j = i
    · subst hji; exact ⟨_, _, readV_step hi (hy _ σ (not_dep hcl hr) H.here), H⟩
    · obtain ⟨fr2, σ2, h1, h2⟩ := H.2.2 j (ready_mono hj hji)
      obtain ⟨hjun, oj, hoj, hall⟩ := mem_ready.1 hj
      have hnot : ∀ e ∈ oj.after, Region.binds .any e = true → e.on ≠ i := fun e he hb heq => by
        have h1 := hall e he hb
        have h0 := (mem_ready.1 hr).1
        rw [heq] at h1
        rcases Nat.lt_or_ge i listed.size with h' | h'
        · simp [h'] at h0 h1; rw [h0] at h1; cases h1
        · simp [Array.getElem?_eq_none h'] at h1
      obtain ⟨a1, a2, a3⟩ := Oper.apart_spec (hfree j oj hoj hji hjun hnot)
      rw [stepA_put hoj a1 fun d hd => a2 d hd] at h1
      obtain ⟨⟨fr3, σ3⟩, h3, h4⟩ := map_some h1
      simp only [Prod.mk.injEq] at h4
      obtain ⟨rfl, rfl⟩ := h4
      have hfree' : ∀ k ok, ops[k]? = some ok → k ≠ i → (listed.setIfInBounds j true).getD k true = false →
          (∀ e ∈ ok.after, Region.binds .any e = true → e.on ≠ i) → oi.apart ops ok = true := fun k ok hk hki hun hno => by
        refine hfree k ok hk hki ?_ hno
        by_cases hjk : j = k
        · subst hjk; exact hjun
        · rw [getD_set_ne true hjk] at hun; exact hun
      refine ⟨fr3, σ3, h3, ih (listed.setIfInBounds j true) fr3 σ3 (hcl.set hj) hfree' (ready_mono hr (Ne.symm hji)) (fun L s hL hs => readV_agree hi (stepA_agree hoj h3 fun d hd => a3 d hd) (hy L s hL hs)) hJ ?_⟩
      rw [Array.setIfInBounds_comm _ _ hji]
      exact h2

theorem readV_nondep {i : Nat} {o : Oper} (hi : ops[i]? = some o) (hr : readerOp cfg f o = true) (hd : depA ops i fr = false) (h : readV C P cfg f ops i fr σ = some v) (s : St) : readV C P cfg f ops i fr s = some v := by
  unfold readV at h ⊢
  rw [hi] at h ⊢
  dsimp only at h ⊢
  split at h
  · split at h
    · rename_i hc
      simp only [hc, if_true]
      rw [← h]
      exact nondep_eq hi hr hd s
    · cases h
  · exact h
  · cases h

/-- What is checked. -/
def Chk (cfg : Cfg) (f : FuncId) (ops : Array Oper) (chk : List (Nat × (St → Bool))) (L : Array Bool) (s : St) : Prop := ∀ c ∈ chk, Dep cfg f ops L c.1 ∨ c.2 s = true

theorem Chk.less {chk : List (Nat × (St → Bool))} {L : Array Bool} {i : Nat} (hr : isReader cfg f ops i = true) {s : St} (h : Chk cfg f ops chk (L.setIfInBounds i true) s) : Chk cfg f ops chk L s := by
  intro c hc
  rcases h c hc with ⟨j, hj, hn, hk⟩ | h
  · rcases getD_set_cases hj with rfl | hj
    · rw [hr] at hn; cases hn
    · exact .inl ⟨j, hj, hn, hk⟩
  · exact .inr h

/-- May the region be run in that order? -/
def PlanP (cfg : Cfg) (f : FuncId) (ops : Array Oper) : List Nat → Array Bool → Prop
  | [], listed => Region.ready .any ops listed = []
  | i :: rest, listed => i ∈ Region.ready .any ops listed ∧
    (∀ oi, ops[i]? = some oi → isReader cfg f ops i = true → ∀ j oj, ops[j]? = some oj → j ≠ i → listed.getD j true = false → (∀ e ∈ oj.after, Region.binds .any e = true → e.on ≠ i) → oi.apart ops oj = true) ∧
    (isReader cfg f ops i = false → ∀ j ∈ Region.ready .any ops listed, j = i) ∧ PlanP cfg f ops rest (listed.setIfInBounds i true)

theorem evPlan_any : ∀ (l : List Nat) (m : Nat) (listed : Array Bool) (fr : Fr) (σ : St) (chk : List (Nat × (St → Bool))), l.length ≤ m → PlanP cfg f ops l listed → Closed ops listed → (∀ c ∈ chk, c.2 σ = true) →
    evPlan C P cfg f ops l fr σ chk = some R → AnyJ C P cfg f ops (Chk cfg f ops chk) R m listed fr σ
  | [], m, listed, fr, σ, chk, _, hp, _, hc, h => by
    simp only [PlanP] at hp
    simp only [evPlan, Option.some.injEq] at h
    cases m with
    | zero => exact ⟨hp, h, fun c hm => .inr (hc c hm)⟩
    | succ m => exact ⟨fun c hm => .inr (hc c hm), fun _ => h, fun i hi => by rw [hp] at hi; cases hi⟩
  | i :: rest, 0, listed, fr, σ, chk, hm, _, _, _, _ => by simp at hm
  | i :: rest, m + 1, listed, fr, σ, chk, hm, hp, hcl, hc, h => by
    have hm' : rest.length ≤ m := by simpa using hm
    obtain ⟨hready, hfr, hmv, hrest⟩ := hp
    simp only [evPlan] at h
    by_cases hr : isReader cfg f ops i = true
    · simp only [hr, if_true] at h
      cases hv : readV C P cfg f ops i fr σ with
      | none => rw [hv] at h; cases h
      | some v =>
        rw [hv] at h
        dsimp only at h
        have ho : ∃ o, ops[i]? = some o ∧ readerOp cfg f o = true := by
          have hr' := hr
          unfold isReader at hr'
          split at hr'
          · rename_i o ho; exact ⟨o, ho, hr'⟩
          · cases hr'
        obtain ⟨o, ho, hro⟩ := ho
        have hdst : dstOf ops i = o.dst := by simp [dstOf, ho]
        rw [hdst] at h
        have hfree := hfr o ho hr
        by_cases hd : depA ops i fr = true
        · simp only [hd, if_true] at h
          have H := evPlan_any rest m _ _ _ _ hm' hrest (hcl.set hready) (fun c hcm => by
            rcases List.mem_cons.1 hcm with rfl | hcm
            · simp only [hv, sameV, beq_refl]
            · exact hc c hcm) h
          refine AnyJ.mono (fun L s _ hs c hcm => hs c (List.mem_cons_of_mem _ hcm)) (AnyJ.first ho m listed fr σ hcl hfree hready (fun L s hL hs => ?_) (fun L s hs => hs.less hr) H)
          rcases hs _ (List.mem_cons_self) with hdep | hsame
          · exact (hL hdep).elim
          · dsimp only at hsame
            unfold sameV at hsame
            split at hsame
            · rename_i u hu; rw [hu, beq_eq hsame]
            · cases hsame
        · have hd' : depA ops i fr = false := by simpa using hd
          simp only [hd', Bool.false_eq_true, if_false] at h
          have H := evPlan_any rest m _ _ _ _ hm' hrest (hcl.set hready) hc h
          exact AnyJ.first ho m listed fr σ hcl hfree hready (fun L s _ _ => readV_nondep ho hro hd' hv s) (fun L s hs => hs.less hr) H
    · simp only [hr, if_false, Bool.false_eq_true] at h
      cases hs : stepA C P cfg f ops i fr σ with
      | none => rw [hs] at h; cases h
      | some r =>
        obtain ⟨fr', σ'⟩ := r
        rw [hs] at h
        dsimp only at h
        split at h
        case isFalse => cases h
        rename_i hck
        have H := evPlan_any rest m _ _ _ _ hm' hrest (hcl.set hready) (fun c hcm => List.all_eq_true.1 hck c hcm) h
        have hlt : i < listed.size := by
          have h0 := (mem_ready.1 hready).1
          rcases Nat.lt_or_ge i listed.size with h' | h'
          · exact h'
          · simp [Array.getElem?_eq_none h'] at h0
        refine ⟨fun c hm => .inr (hc c hm), fun he => ?_, fun j hj => ?_⟩
        · rw [he] at hready; cases hready
        have : j = i := hmv (by simpa using hr) j hj
        subst this
        refine ⟨fr', σ', hs, AnyJ.mono (fun L s hmore hJ c hcm => ?_) H⟩
        by_cases hh : hangsOn ops j c.1 = true
        · exact .inl ⟨j, hmore j (by simp [hlt]), by simpa using hr, hh⟩
        · exact hJ c (List.mem_filter.2 ⟨hcm, by simpa using hh⟩)
end
end Go.AM
