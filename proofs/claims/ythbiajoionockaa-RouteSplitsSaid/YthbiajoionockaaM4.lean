import Derived.Test.YthbiajoionockaaM3
/-! Regions whose order is drawn, by a tree of orders. -/
namespace Go.AM
open Go
set_option linter.unusedVariables false
set_option linter.unusedSimpArgs false

/-- Something that is listed, and no reader, hangs on k. -/
def DepT (cfg : Cfg) (f : FuncId) (ops : Array Oper) (l : Array Bool) (k : Nat) : Prop := ∃ j, l.getD j false = true ∧ isReader cfg f ops j = false ∧ hangs ops j k = true

/-- What is so of a mask: whoever has all that j hangs on has all that the mask tells. -/
def MaskOK (ops : Array Oper) (j m : Nat) : Prop := ∀ k, m.testBit k = true → ∀ l : Array Bool, Closed ops l → (∀ e, hangsOn ops j e = true → l.getD e false = true) → l.getD k false = true

theorem mask_fold {ops : Array Oper} {j : Nat} {acc : List Nat} (hacc : ∀ i m, acc[i]? = some m → MaskOK ops i m) : ∀ (es : List Edge) (m : Nat), (∀ e ∈ es, Region.binds .any e = true → hangsOn ops j e.on = true) → MaskOK ops j m →
    MaskOK ops j (es.foldl (fun m e => if Region.binds .any e then m ||| 2 ^ e.on ||| acc.getD e.on 0 else m) m)
  | [], m, _, hm => hm
  | e :: es, m, he, hm => by
    rw [List.foldl_cons]
    refine mask_fold hacc es _ (fun e' h' => he e' (List.mem_cons_of_mem _ h')) ?_
    split
    · rename_i hb
      intro k hk l hc hl
      rw [Nat.testBit_or, Nat.testBit_or, Bool.or_eq_true, Bool.or_eq_true] at hk
      have h1 : l.getD e.on false = true := hl e.on (he e (List.mem_cons_self) hb)
      rcases hk with (hk | hk) | hk
      · exact hm k hk l hc hl
      · rw [Nat.testBit_two_pow, decide_eq_true_eq] at hk
        rw [← hk]; exact h1
      · cases ha : acc[e.on]? with
        | none => simp [List.getD, ha] at hk
        | some m' =>
          have hk' : m'.testBit k = true := by simpa [List.getD, ha] using hk
          exact hacc _ _ ha k hk' l hc fun e' he' => hc e.on e' h1 he'
    · exact hm

theorem closeMasks_ok {ops : Array Oper} : ∀ (os : List Oper) (acc : List Nat), (∀ i o, os[i]? = some o → ops[acc.length + i]? = some o) → (∀ i m, acc[i]? = some m → MaskOK ops i m) → ∀ i m, (closeMasks os acc)[i]? = some m → MaskOK ops i m
  | [], acc, _, hacc => hacc
  | o :: os, acc, ho, hacc => by
    simp only [closeMasks]
    refine closeMasks_ok os _ (fun i o' hi => ?_) fun i m hi => ?_
    · have := ho (i + 1) o' (by simpa using hi)
      rw [List.length_append, List.length_singleton, Nat.add_assoc, Nat.add_comm 1 i]
      exact this
    · by_cases hl : i < acc.length
      · rw [List.getElem?_append_left hl] at hi; exact hacc i m hi
      · rw [List.getElem?_append_right (by omega)] at hi
        have hi0 : i = acc.length := by
          have := (List.getElem?_eq_some_iff.1 hi).1
          simp at this; omega
        subst hi0
        simp only [Nat.sub_self, List.getElem?_cons_zero, Option.some.injEq] at hi
        subst hi
        refine mask_fold hacc _ _ (fun e he hb => ?_) fun k hk => by simp at hk
        have h0 := ho 0 o rfl
        rw [Nat.add_zero] at h0
        unfold hangsOn
        rw [h0]
        dsimp only
        rw [Array.any_eq_true']
        exact ⟨e, Array.mem_toList_iff.1 he, by simp [hb]⟩

theorem hangs_listed {ops : Array Oper} {l : Array Bool} (hc : Closed ops l) (j k : Nat) (hj : ∀ e, hangsOn ops j e = true → l.getD e false = true) (h : hangs ops j k = true) : l.getD k false = true := by
  unfold hangs at h
  cases hm : (closeMasks ops.toList [])[j]? with
  | none => simp [List.getD, hm] at h
  | some m =>
    have h' : m.testBit k = true := by simpa [List.getD, hm] using h
    exact closeMasks_ok ops.toList [] (fun i o hi => by simpa using hi) (fun i m hi => by simp at hi) j m hm k h' l hc hj

theorem not_depT {cfg : Cfg} {f : FuncId} {ops : Array Oper} {l : Array Bool} {i : Nat} (hc : Closed ops l) (hi : i ∈ Region.ready .any ops l) : ¬ DepT cfg f ops (l.setIfInBounds i true) i := by
  rintro ⟨j, hj, _, hk⟩
  have hu := ready_unlisted hi
  have h2 : l.getD i false = true := by
    rcases getD_set_cases hj with rfl | hj
    · exact hangs_listed hc _ _ (fun e he => ready_hangs hi he) hk
    · exact hangs_listed hc _ _ (fun e he => hc j e hj he) hk
  rw [h2] at hu; cases hu

def ChkT (cfg : Cfg) (f : FuncId) (ops : Array Oper) (chk : List (Nat × (St → Bool))) (L : Array Bool) (s : St) : Prop := ∀ c ∈ chk, DepT cfg f ops L c.1 ∨ c.2 s = true

theorem ChkT.less {cfg : Cfg} {f : FuncId} {ops : Array Oper} {chk : List (Nat × (St → Bool))} {L : Array Bool} {i : Nat} (hr : isReader cfg f ops i = true) {s : St} (h : ChkT cfg f ops chk (L.setIfInBounds i true) s) : ChkT cfg f ops chk L s := by
  intro c hc
  rcases h c hc with ⟨j, hj, hn, hk⟩ | h
  · rcases getD_set_cases hj with rfl | hj
    · rw [hr] at hn; cases hn
    · exact .inl ⟨j, hj, hn, hk⟩
  · exact .inr h

/-- Whatever the order, it ends as K says; all memories on the way are as J says. -/
def AnyW (C : CallW) (P : Program) (cfg : Cfg) (f : FuncId) (ops : Array Oper) (J : Array Bool → St → Prop) (K : Fr → St → Prop) : Nat → Array Bool → Fr → St → Prop
  | 0, listed, fr, σ => Region.ready .any ops listed = [] ∧ K fr σ ∧ J listed σ
  | n + 1, listed, fr, σ => J listed σ ∧ (Region.ready .any ops listed = [] → K fr σ) ∧
    ∀ i ∈ Region.ready .any ops listed, stepW C P cfg f ops i fr σ fun fr' σ' => AnyW C P cfg f ops J K n (listed.setIfInBounds i true) fr' σ'

section
variable {P : Program} {C : CallW} {cfg : Cfg} {f : FuncId} {fr fr' fr1 : Fr} {σ σ' : St} {ops : Array Oper} {d : Nat} {v : AV} {J J' : Array Bool → St → Prop} {K : Fr → St → Prop}

theorem AnyW.here : ∀ {n : Nat} {listed : Array Bool} {fr : Fr} {σ : St}, AnyW C P cfg f ops J K n listed fr σ → J listed σ
  | 0, _, _, _, h => h.2.2
  | _ + 1, _, _, _, h => h.1

theorem AnyW.mono (hC : LeC C C) : ∀ {n : Nat} {listed : Array Bool} {fr : Fr} {σ : St}, (∀ L s, More listed L → J L s → J' L s) → AnyW C P cfg f ops J K n listed fr σ → AnyW C P cfg f ops J' K n listed fr σ
  | 0, l, _, _, hJ, h => ⟨h.1, h.2.1, hJ _ _ (fun _ h => h) h.2.2⟩
  | _ + 1, l, _, _, hJ, h => ⟨hJ _ _ (fun _ h => h) h.1, h.2.1, fun i hi =>
    stepW_mono hC (fun _ _ h2 => AnyW.mono hC (fun L s hm => hJ L s fun x hx => hm x (More.set l i x hx)) h2) (h.2.2 i hi)⟩

/-- An operation does not mind a slot that it does not look at. -/
theorem opW_set {o : Oper} {K : AV → Fr → St → Prop} (h : ∀ x ∈ o.op.operands.toList, x ≠ .tmp d) : opW C P cfg f o (fr.set d v) σ K ↔ opW C P cfg f o fr σ fun u fr' σ' => K u (fr'.set d v) σ' := by
  have S : ∀ x ∈ o.op.operands.toList, AM.seen (fr.set d v) x = AM.seen fr x := fun x hx => seen_set (h x hx)
  unfold opW
  split
  · rename_i t x ho
    rw [S x (by rw [ho]; simp [Op.operands])]
  · rename_i x ho
    rw [S x (by rw [ho]; simp [Op.operands])]
  · rename_i x ho
    rw [S x (by rw [ho]; simp [Op.operands])]
  · split
    · rename_i c g hcall
      obtain ⟨ho, hcal⟩ := callOf_some hcall
      have hg : g ∈ o.op.operands.toList := by rw [ho]; simp [Op.operands, Call.operands, hcal]
      have hargs : ∀ x ∈ c.args.toList, x ≠ .tmp d := fun x hx => h x (by rw [ho]; simp [Op.operands, Call.operands, hcal]; exact .inr (Array.mem_toList_iff.1 hx))
      rw [S g hg, takenAll_set hargs]
    · rw [evOp_set h]
      cases evOp noC P cfg f o fr σ with
      | none => exact Iff.rfl
      | some r => exact Iff.rfl

theorem stepW_put {j : Nat} {o : Oper} {x : Option Tmp} (hj : ops[j]? = some o) (h : ∀ d, x = some d → d ∉ o.looksAt ops) (h' : ∀ d, x = some d → o.dst ≠ some d) {K : Fr → St → Prop} :
    stepW C P cfg f ops j (putA x v fr) σ K ↔ stepW C P cfg f ops j fr σ fun fr' σ' => K (putA x v fr') σ' := by
  cases x with
  | none => exact Iff.rfl
  | some d =>
    have hd := h d rfl
    have hd' := h' d rfl
    have hop : ∀ x ∈ o.op.operands.toList, x ≠ .tmp d := fun x hx e => hd (List.mem_append_left _ (List.mem_filterMap.2 ⟨.tmp d, e ▸ hx, rfl⟩))
    have put : ∀ (u : AV) (fr : Fr), putA o.dst u (fr.set d v) = (putA o.dst u fr).set d v := by
      intro u fr
      cases hod : o.dst with
      | none => rfl
      | some e =>
        have hne : d ≠ e := fun h => hd' (by rw [hod, h])
        simp only [putA]
        rw [List.set_comm _ _ hne]
    unfold stepW
    rw [hj]
    show (match guardA ops (fr.set d v) o with
      | some true => opW C P cfg f o (settle (fr.set d v) (settled o.op)) σ fun v fr' σ' => K (putA o.dst v fr') σ'
      | some false => K (putA o.dst (.tup []) (fr.set d v)) σ
      | none => False) ↔ (match guardA ops fr o with
      | some true => opW C P cfg f o (settle fr (settled o.op)) σ fun u fr' σ' => K ((putA o.dst u fr').set d v) σ'
      | some false => K ((putA o.dst (.tup []) fr).set d v) σ
      | none => False)
    rw [guardA_put fun e _ he => by rw [he]; exact hd]
    cases guardA ops fr o with
    | none => exact Iff.rfl
    | some b =>
      cases b with
      | false => dsimp only; rw [put]
      | true =>
        dsimp only
        rw [settle_set fun x hx => hop x (settled_operands hx), opW_set hop]
        simp only [put]

/-- Frames behind an operation are calmer than ahead of it. -/
theorem opW_calmer (hC : LeC C C) {o : Oper} {K : AV → Fr → St → Prop} (h : opW C P cfg f o fr σ K) : opW C P cfg f o fr σ fun u fr' σ' => Calmer fr fr' ∧ K u fr' σ' := by
  unfold opW at h ⊢
  split at h
  · split at h
    · split at h
      · exact ⟨Calmer.refl _, h⟩
      · exact h.elim
    · exact ⟨Calmer.refl _, h⟩
    · exact h.elim
  · split at h
    · split at h
      · exact ⟨Calmer.refl _, h⟩
      · split at h
        · exact ⟨h.1, fun k => ⟨Calmer.refl _, h.2.1 k⟩, fun e he hs => ⟨Calmer.refl _, h.2.2 e he hs⟩⟩
        · exact h.elim
    · exact h.elim
  · split at h
    · split at h
      · split at h
        · refine ⟨h.1, ?_⟩
          have h2 := h.2
          split at h2
          · exact ⟨Calmer.refl _, h2⟩
          · exact h2.elim
        · exact h.elim
      · exact h.elim
    · exact h.elim
  · split at h
    · split at h
      · exact hC _ _ _ _ _ (fun v s k => ⟨takenAll_calmer _ _, k⟩) h
      · exact hC _ _ _ _ _ (fun v s k => ⟨takenAll_calmer _ _, k⟩) h
      · exact h.elim
    · split at h
      · rename_i he
        exact ⟨evOp_calmer he, h⟩
      · exact h.elim

theorem stepW_agree (hC : LeC C C) {j : Nat} {o : Oper} {T : List Tmp} {K : Fr → St → Prop} (hj : ops[j]? = some o) (hT : ∀ d, o.dst = some d → d ∉ T) (h : stepW C P cfg f ops j fr σ K) : stepW C P cfg f ops j fr σ fun fr' σ' => Agree T fr fr' ∧ K fr' σ' := by
  have put : ∀ (u : AV) (fr0 : Fr), Calmer fr fr0 → Agree T fr (putA o.dst u fr0) := by
    intro u fr0 hc
    cases hod : o.dst with
    | none => exact ⟨hc.1, fun t _ ht => hc.2 t ht⟩
    | some d =>
      refine ⟨by simp [putA, hc.1], fun t hm ht => ?_⟩
      have hne : t ≠ d := fun e => hT d hod (e ▸ hm)
      simp only [putA]
      rw [getD_set _ _ _ _ hne]
      exact hc.2 t ht
  unfold stepW at h ⊢
  rw [hj] at h ⊢
  dsimp only at h ⊢
  split at h
  · exact opW_mono hC (fun _ _ _ k => ⟨put _ _ ((settle_calmer _ _).trans k.1), k.2⟩) (opW_calmer hC h)
  · exact ⟨put _ _ (Calmer.refl _), h⟩
  · exact h.elim

/-- A reader's operation, by itself. -/
theorem opW_reader {o : Oper} {K : AV → Fr → St → Prop} (hr : readerOp cfg f o = true) : opW C P cfg f o fr σ K ↔ match evOp noC P cfg f o fr σ with
    | some (v, fr', σ') => K v fr' σ'
    | none => False := by
  unfold opW
  split
  · rename_i ho; unfold readerOp at hr; rw [ho] at hr; cases hr
  · rename_i ho; unfold readerOp at hr; rw [ho] at hr; cases hr
  · rename_i ho; unfold readerOp at hr; rw [ho] at hr; cases hr
  · split
    · rename_i c g hcall
      obtain ⟨ho, hcal⟩ := callOf_some hcall
      unfold readerOp at hr; rw [ho] at hr; dsimp only at hr; rw [hcal] at hr; cases hr
    · exact Iff.rfl

theorem readV_stepW {i : Nat} {o : Oper} {K : Fr → St → Prop} (hi : ops[i]? = some o) (h : readV noC P cfg f ops i fr σ = some v) (hK : K (putA o.dst v fr) σ) : stepW C P cfg f ops i fr σ K := by
  unfold readV at h
  unfold stepW
  rw [hi] at h ⊢
  dsimp only at h ⊢
  cases hg : guardA ops fr o with
  | none => rw [hg] at h; cases h
  | some b =>
    rw [hg] at h
    cases b with
    | false => dsimp only at h ⊢; injection h with h; rw [h]; exact hK
    | true =>
      dsimp only at h ⊢
      split at h
      case isFalse => cases h
      rename_i hc
      simp only [Bool.and_eq_true, List.all_eq_true] at hc
      rw [settle_calm _ fun x hx => hc.2 x (settled_operands hx), opW_reader hc.1]
      obtain ⟨⟨u, fr', σ'⟩, h1, h2⟩ := map_some h
      obtain ⟨rfl, rfl⟩ := reader_state hc.1 hc.2 h1
      dsimp only at h2; subst h2
      rw [h1]; exact hK

theorem AnyW.first (hC : LeC C C) {i : Nat} {oi : Oper} (hi : ops[i]? = some oi) : ∀ (n : Nat) (listed : Array Bool) (fr : Fr) (σ : St), Closed ops listed →
      (∀ j oj, ops[j]? = some oj → j ≠ i → listed.getD j true = false → (∀ e ∈ oj.after, Region.binds .any e = true → e.on ≠ i) → oi.apart ops oj = true) →
      i ∈ Region.ready .any ops listed → (∀ L s, ¬ DepT cfg f ops L i → J L s → readV noC P cfg f ops i fr s = some v) → (∀ L s, J (L.setIfInBounds i true) s → J L s) → AnyW C P cfg f ops J K n (listed.setIfInBounds i true) (putA oi.dst v fr) σ → AnyW C P cfg f ops J K (n + 1) listed fr σ := by
  intro n
  induction n with
  | zero =>
    intro listed fr σ hcl _ hr hy hJ H
    refine ⟨hJ _ _ H.here, fun h => (by rw [h] at hr; cases hr), fun j hj => ?_⟩
    by_cases hji : j = i
    · subst hji; exact readV_stepW hi (hy _ σ (not_depT hcl hr) H.here) H
    · have := ready_mono hj hji
      rw [H.1] at this
      cases this
  | succ n ih =>
    intro listed fr σ hcl hfree hr hy hJ H
    refine ⟨hJ _ _ H.here, fun h => (by rw [h] at hr; cases hr), fun j hj => ?_⟩
    by_cases hji : j = i
    · subst hji; exact readV_stepW hi (hy _ σ (not_depT hcl hr) H.here) H
    · have hstep := H.2.2 j (ready_mono hj hji)
      obtain ⟨hjun, oj, hoj, hall⟩ := mem_ready.1 hj
      have hnot : ∀ e ∈ oj.after, Region.binds .any e = true → e.on ≠ i := fun e he hb heq => by
        have h1 := hall e he hb
        have h0 := (mem_ready.1 hr).1
        rw [heq] at h1
        rcases Nat.lt_or_ge i listed.size with h' | h'
        · simp [h'] at h0 h1; rw [h0] at h1; cases h1
        · simp [Array.getElem?_eq_none h'] at h1
      obtain ⟨a1, a2, a3⟩ := Oper.apart_spec (hfree j oj hoj hji hjun hnot)
      rw [stepW_put hoj a1 fun d hd => a2 d hd] at hstep
      have hfree' : ∀ k ok, ops[k]? = some ok → k ≠ i → (listed.setIfInBounds j true).getD k true = false →
          (∀ e ∈ ok.after, Region.binds .any e = true → e.on ≠ i) → oi.apart ops ok = true := fun k ok hk hki hun hno => by
        refine hfree k ok hk hki ?_ hno
        by_cases hjk : j = k
        · subst hjk; exact hjun
        · rw [getD_set_ne true hjk] at hun; exact hun
      refine stepW_mono hC (fun fr3 σ3 h3 => ?_) (stepW_agree hC hoj (T := oi.looksAt ops) (fun d hd => a3 d hd) hstep)
      obtain ⟨hag, h2⟩ := h3
      refine ih (listed.setIfInBounds j true) fr3 σ3 (hcl.set hj) hfree' (ready_mono hr (Ne.symm hji)) (fun L s hL hs => readV_agree hi hag (hy L s hL hs)) hJ ?_
      rw [Array.setIfInBounds_comm _ _ hji]
      exact h2

/-- May the region be run so? 'top': no branch of others. -/
def TreeP (cfg : Cfg) (f : FuncId) (ops : Array Oper) : PT → Bool → Array Bool → Prop
  | .done, top, listed => top = true ∧ Region.ready .any ops listed = []
  | .rd i rest, top, listed => top = true ∧ i ∈ Region.ready .any ops listed ∧ isReader cfg f ops i = true ∧
    (∀ oi, ops[i]? = some oi → ∀ j oj, ops[j]? = some oj → j ≠ i → listed.getD j true = false → (∀ e ∈ oj.after, Region.binds .any e = true → e.on ≠ i) → oi.apart ops oj = true) ∧
    TreeP cfg f ops rest true (listed.setIfInBounds i true)
  | .mv i rest alt, top, listed => (top = true → ∀ j ∈ Region.ready .any ops listed, j = i ∨ j ∈ alt.alts) ∧ i ∈ Region.ready .any ops listed ∧ isReader cfg f ops i = false ∧
    TreeP cfg f ops rest true (listed.setIfInBounds i true) ∧ TreeP cfg f ops alt false listed
  | .stop, top, _ => top = false

theorem planW_any (hC : LeC C C) : ∀ (t : PT) (top : Bool) (m : Nat) (listed : Array Bool) (fr : Fr) (σ : St) (chk : List (Nat × (St → Bool))), t.depth ≤ (if top then m else m + 1) → TreeP cfg f ops t top listed → Closed ops listed → (∀ c ∈ chk, c.2 σ = true) →
    planW C P cfg f ops t fr σ chk K → (top = true → AnyW C P cfg f ops (ChkT cfg f ops chk) K m listed fr σ) ∧
      (top = false → ∀ j ∈ t.alts, stepW C P cfg f ops j fr σ fun fr' σ' => AnyW C P cfg f ops (ChkT cfg f ops chk) K m (listed.setIfInBounds j true) fr' σ')
  | .done, top, m, listed, fr, σ, chk, _, hp, _, hc, h => by
    refine ⟨fun _ => ?_, fun _ j hj => by simp [PT.alts] at hj⟩
    cases m with
    | zero => exact ⟨hp.2, h, fun c hm => .inr (hc c hm)⟩
    | succ m => exact ⟨fun c hm => .inr (hc c hm), fun _ => h, fun i hi => by rw [hp.2] at hi; cases hi⟩
  | .rd i rest, top, m, listed, fr, σ, chk, hm, hp, hcl, hc, h => by
    refine ⟨fun ht => ?_, fun _ j hj => by simp [PT.alts] at hj⟩
    subst ht
    obtain ⟨_, hready, hr, hfr, hrest⟩ := hp
    cases m with
    | zero => simp [PT.depth] at hm
    | succ m =>
      have hm' : rest.depth ≤ m := by simpa [PT.depth] using hm
      simp only [planW] at h
      cases hv : readV noC P cfg f ops i fr σ with
      | none => rw [hv] at h; exact h.elim
      | some v =>
        rw [hv] at h
        dsimp only at h
        have ho : ∃ o, ops[i]? = some o ∧ readerOp cfg f o = true := by
          have hr' := hr
          unfold isReader at hr'
          split at hr'
          · rename_i o ho; exact ⟨o, ho, hr'⟩
          · cases hr'
        obtain ⟨o, ho, hro⟩ := ho
        have hdst : dstOf ops i = o.dst := by simp [dstOf, ho]
        rw [hdst] at h
        have hfree := hfr o ho
        by_cases hd : depA ops i fr = true
        · simp only [hd, if_true] at h
          have H := (planW_any hC rest true m _ _ _ _ (by simpa using hm') hrest (hcl.set hready) (fun c hcm => by
            rcases List.mem_cons.1 hcm with rfl | hcm
            · simp only [hv, sameV, beq_refl]
            · exact hc c hcm) h).1 rfl
          refine AnyW.mono hC (fun L s _ hs c hcm => hs c (List.mem_cons_of_mem _ hcm)) (AnyW.first hC ho m listed fr σ hcl hfree hready (fun L s hL hs => ?_) (fun L s hs => hs.less hr) H)
          rcases hs _ (List.mem_cons_self) with hdep | hsame
          · exact (hL hdep).elim
          · dsimp only at hsame
            unfold sameV at hsame
            split at hsame
            · rename_i u hu; rw [hu, beq_eq hsame]
            · cases hsame
        · have hd' : depA ops i fr = false := by simpa using hd
          simp only [hd', Bool.false_eq_true, if_false] at h
          have H := (planW_any hC rest true m _ _ _ _ (by simpa using hm') hrest (hcl.set hready) hc h).1 rfl
          exact AnyW.first hC ho m listed fr σ hcl hfree hready (fun L s _ _ => readV_nondep ho hro hd' hv s) (fun L s hs => hs.less hr) H
  | .mv i rest alt, top, m, listed, fr, σ, chk, hm, hp, hcl, hc, h => by
    obtain ⟨hcov, hready, hr, hrest, halt⟩ := hp
    simp only [planW] at h
    have hlt : i < listed.size := by
      have h0 := (mem_ready.1 hready).1
      rcases Nat.lt_or_ge i listed.size with h' | h'
      · exact h'
      · simp [Array.getElem?_eq_none h'] at h0
    -- one branch and the others, m left behind the first step
    have branch : ∀ m, rest.depth ≤ m → alt.depth ≤ m + 1 → ∀ j ∈ (PT.mv i rest alt).alts, stepW C P cfg f ops j fr σ fun fr' σ' => AnyW C P cfg f ops (ChkT cfg f ops chk) K m (listed.setIfInBounds j true) fr' σ' := by
      intro m h1 h2 j hj
      rcases List.mem_cons.1 hj with rfl | hj
      · refine stepW_mono hC (fun fr' σ' hk => ?_) h.1
        have H := (planW_any hC rest true m _ _ _ _ (by simpa using h1) hrest (hcl.set hready) (fun c hcm => List.all_eq_true.1 hk.1 c hcm) hk.2).1 rfl
        refine AnyW.mono hC (fun L s hmore hJ c hcm => ?_) H
        by_cases hh : hangs ops j c.1 = true
        · exact .inl ⟨j, hmore j (by simp [hlt]), hr, hh⟩
        · exact hJ c (List.mem_filter.2 ⟨hcm, by simpa using hh⟩)
      · exact (planW_any hC alt false m _ _ _ _ (by simpa using h2) halt hcl hc h.2).2 rfl j hj
    refine ⟨fun ht => ?_, fun ht => ?_⟩
    · subst ht
      cases m with
      | zero =>
        simp only [PT.depth, if_true] at hm
        omega
      | succ m =>
        simp only [PT.depth, if_true] at hm
        refine ⟨fun c hm => .inr (hc c hm), fun he => (by rw [he] at hready; cases hready), fun j hj => branch m (by omega) (by omega) j ?_⟩
        rcases hcov rfl j hj with rfl | hj
        · exact List.mem_cons_self
        · exact List.mem_cons_of_mem _ hj
    · subst ht
      simp only [PT.depth, Bool.false_eq_true, if_false] at hm
      exact branch m (by omega) (by omega)
  | .stop, top, m, listed, fr, σ, chk, _, hp, _, hc, h => ⟨fun ht => (by simp only [TreeP] at hp; rw [ht] at hp; cases hp), fun _ j hj => (by simp [PT.alts] at hj)⟩

theorem tree_fast : ∀ (t : PT) (top : Bool) (mask : Nat) (listed : Array Bool), SameL ops.size mask listed → treeFast (ops.toList.map (infoOf cfg f ops)) t top mask = true → TreeP cfg f ops t top listed
  | .done, top, mask, listed, hs, h => by
    simp only [treeFast, Bool.and_eq_true] at h
    refine ⟨h.1, ?_⟩
    apply List.eq_nil_iff_forall_not_mem.2
    intro j hj
    obtain ⟨_, o, ho, _⟩ := mem_ready.1 hj
    have := allFrom_spec h.2 j (infoOf cfg f ops o) (by rw [List.getElem?_map, Array.getElem?_toList, ho]; rfl)
    rw [Nat.zero_add, (info_ready hs rfl ho).2 hj] at this
    cases this
  | .rd i rest, top, mask, listed, hs, h => by
    simp only [treeFast, nth_get, List.getElem?_map, Array.getElem?_toList, Bool.and_eq_true] at h
    obtain ⟨htop, h⟩ := h
    cases ho : ops[i]? with
    | none => rw [ho] at h; cases h
    | some oi =>
      rw [ho] at h
      simp only [Option.map_some, Bool.and_eq_true] at h
      obtain ⟨⟨⟨h1, h2⟩, h3⟩, h4⟩ := h
      have hi : i < ops.size := (Array.getElem?_eq_some_iff.1 ho).1
      have hrd : isReader cfg f ops i = (infoOf cfg f ops oi).rd := by simp [isReader, ho, infoOf]
      refine ⟨htop, (info_ready hs rfl ho).1 h1, by rw [hrd]; exact h2, fun o' ho' j oj hj hne hun hno => ?_, tree_fast rest true _ _ (hs.set hi) h4⟩
      rw [ho] at ho'; injection ho' with ho'; subst ho'
      have := allFrom_spec h3 j (infoOf cfg f ops oj) (by rw [List.getElem?_map, Array.getElem?_toList, hj]; rfl)
      rw [Nat.zero_add] at this
      simp only [Bool.or_eq_true, beq_iff_eq] at this
      rcases this with ((h4 | h4) | h4) | h4
      · exact (hne h4).elim
      · have hjl : j < listed.size := by rw [hs.size]; exact (Array.getElem?_eq_some_iff.1 hj).1
        rw [hs.bit] at h4
        simp [hjl] at h4 hun
        rw [h4] at hun; cases hun
      · rw [show (infoOf cfg f ops oj).edges = maskOf ((oj.after.toList.filter (Region.binds .any)).map (·.on)) from rfl, mask_bit] at h4
        obtain ⟨e, he, hei⟩ := List.mem_map.1 h4
        obtain ⟨h5, h6⟩ := List.mem_filter.1 he
        exact (hno e (Array.mem_toList_iff.1 h5) h6 hei).elim
      · exact info_apart h4
  | .mv i rest alt, top, mask, listed, hs, h => by
    simp only [treeFast, nth_get, List.getElem?_map, Array.getElem?_toList, Bool.and_eq_true] at h
    obtain ⟨⟨⟨hcov, h⟩, h3⟩, h4⟩ := h
    cases ho : ops[i]? with
    | none => rw [ho] at h; cases h
    | some oi =>
      rw [ho] at h
      simp only [Option.map_some, Bool.and_eq_true] at h
      obtain ⟨h1, h2⟩ := h
      have hi : i < ops.size := (Array.getElem?_eq_some_iff.1 ho).1
      have hrd : isReader cfg f ops i = (infoOf cfg f ops oi).rd := by simp [isReader, ho, infoOf]
      refine ⟨fun htop j hj => ?_, (info_ready hs rfl ho).1 h1, by rw [hrd]; simpa using h2, tree_fast rest true _ _ (hs.set hi) h3, tree_fast alt false _ _ hs h4⟩
      subst htop
      simp only [Bool.not_true, Bool.false_or] at hcov
      obtain ⟨_, o, hjo, _⟩ := mem_ready.1 hj
      have := allFrom_spec hcov j (infoOf cfg f ops o) (by rw [List.getElem?_map, Array.getElem?_toList, hjo]; rfl)
      rw [Nat.zero_add, (info_ready hs rfl hjo).2 hj] at this
      simpa using this
  | .stop, top, mask, listed, hs, h => by
    simp only [treeFast] at h
    simpa [TreeP] using h
end
end Go.AM
/-! What is shown of the lowered code holds of the code. -/
namespace Go.AM
open Go
set_option linter.unusedVariables false
set_option linter.unusedSimpArgs false

section
variable {P : Program} {C : CallW} {cfg : Cfg} {tr : Trees} {f : FuncId} {fr fr' : Fr} {σ σ' : St} {ops : Array Oper}

theorem map3 {α : Type} {o : Option α} {g : α → AV × Fr × St} {r : AV × Fr × St} (h : o.map g = some r) : ∃ x, o = some x ∧ g x = r := map_some h

/-- Operations that are neither calls nor rounds of ranges. -/
theorem evL_ok {o : Oper} {l : LOp} {r : AV × Fr × St} (h : lowOp P cfg f o = some l) (he : evL l fr σ = some r) : evOp noC P cfg f o fr σ = some r := by
  obtain ⟨dst, op, ty, pos, after, guard⟩ := o
  cases op with
  | move x =>
    simp only [lowOp] at h
    simp only [evOp]
    split at h
    · rename_i ht
      rw [if_pos ht]
      cases x with
      | tmp t => simp only [Option.some.injEq] at h; subst h; exact he
      | _ => cases h
    · rename_i ht
      rw [if_neg ht]
      split at h
      · rename_i hf
        rw [if_pos hf]
        obtain ⟨E, hE, rfl⟩ := map_some h
        simp only [evL] at he
        obtain ⟨q, hq, rfl⟩ := map3 he
        rw [seL_of] at hq
        have := freezeL_ok (σ' := q.2) (v' := q.1) hE hq
        rw [this]; rfl
      · rename_i hf
        rw [if_neg hf]
        simp only [Option.some.injEq] at h; subst h
        simp only [evL, tkL_of] at he
        exact he
  | assign x =>
    simp only [lowOp] at h
    simp only [evOp]
    split at h
    · rename_i hf
      rw [if_pos hf]
      obtain ⟨E, hE, rfl⟩ := map_some h
      simp only [evL] at he
      obtain ⟨q, hq, rfl⟩ := map3 he
      rw [seL_of] at hq
      have := freezeL_ok (σ' := q.2) (v' := q.1) hE hq
      rw [this]; rfl
    · rename_i hf
      rw [if_neg hf]
      simp only [Option.some.injEq] at h; subst h
      simp only [evL, tkL_of] at he
      exact he
  | pick c a b =>
    simp only [lowOp, Option.some.injEq] at h; subst h
    simp only [evL, seL_of] at he
    simp only [evOp]
    exact he
  | alloc t =>
    simp only [lowOp] at h
    obtain ⟨z, hz, rfl⟩ := map_some h
    simp only [evL] at he
    obtain ⟨q, hq, rfl⟩ := map3 he
    simp only [evOp, hz, Option.bind_some]
    rw [hq]; rfl
  | box t x =>
    simp only [lowOp, Option.some.injEq] at h; subst h
    simp only [evL, tkL_of] at he
    simp only [evOp]
    split at he
    · rename_i hf
      simp only [hf, Bool.not_true, Bool.false_eq_true, if_false]
      exact he
    · cases he
  | build t parts =>
    simp only [lowOp] at h
    cases hz : zeroA P t with
    | none => rw [hz] at h; cases h
    | some z =>
      rw [hz] at h
      dsimp only at h
      cases hp : structPlaces P t with
      | some places =>
        rw [hp] at h
        obtain ⟨lp, hlp, rfl⟩ := map_some h
        simp only [evL] at he
        simp only [evOp, AM.build, hz, hp]
        rw [fillA_low (fr := fr) hlp]
        obtain ⟨cs, hcs, rfl⟩ := map3 he
        rw [hcs]; rfl
      | none =>
        rw [hp] at h
        dsimp only at h
        cases hn : arrayCells P t with
        | none => rw [hn] at h; cases h
        | some n =>
          rw [hn] at h
          obtain ⟨lp, hlp, rfl⟩ := map_some h
          simp only [evL] at he
          simp only [evOp, AM.build, hz, hp, hn]
          rw [fillA_low (fr := fr) hlp]
          obtain ⟨cs, hcs, rfl⟩ := map3 he
          rw [hcs]; rfl
  | buildSlice t n parts =>
    simp only [lowOp] at h
    obtain ⟨E, hE, rfl⟩ := map_some h
    simp only [evL] at he
    obtain ⟨v, hv, rfl⟩ := map3 he
    simp only [evOp]
    rw [bslL_ok hE (parts := parts.toList.map fun p => (p.1, AM.seen fr p.2)) (v := v) (by rw [← hv, List.map_map]; congr 1; apply List.map_congr_left; intro p _; simp [seL_of])]
    rfl
  | load t x =>
    simp only [lowOp] at h
    split at h
    · rename_i ha
      split at h
      · cases h
      · rename_i hc
        simp only [Option.some.injEq] at h; subst h
        simp only [evL, readA, seL_of] at he
        simp only [evOp, load, ha, if_neg hc]
        obtain ⟨v, hv, rfl⟩ := map3 he
        obtain ⟨cs, hcs, rfl⟩ := map_some hv
        rw [hcs]; rfl
    · rename_i ha
      simp only [Option.some.injEq] at h; subst h
      simp only [evL, seL_of] at he
      obtain ⟨q, hq, rfl⟩ := map3 he
      simp only [evOp]
      rw [load1L_ok (σ' := q.2) (v := q.1) ha hq]; rfl
    · cases h
  | store t p x =>
    simp only [lowOp, Option.some.injEq] at h; subst h
    simp only [evL, seL_of, tkL_of] at he
    obtain ⟨q, hq, rfl⟩ := map3 he
    simp only [evOp]
    rw [storeL_ok hq]; rfl
  | nilCheck x =>
    simp only [lowOp, Option.some.injEq] at h; subst h
    simp only [evL, seL_of] at he
    simp only [evOp]
    exact he
  | binOp op t x y t' =>
    simp only [lowOp] at h
    obtain ⟨k, hk, rfl⟩ := map_some h
    simp only [evL, seL_of] at he
    obtain ⟨v, hv, rfl⟩ := map3 he
    simp only [evOp]
    rw [binL_ok hk hv]; rfl
  | unOp op t x =>
    simp only [lowOp, Option.some.injEq] at h; subst h
    simp only [evL, seL_of] at he
    obtain ⟨v, hv, rfl⟩ := map3 he
    simp only [evOp]
    rw [unL_ok hv]; rfl
  | convert a b x =>
    simp only [lowOp] at h
    simp only [evOp, convert]
    cases ha : P.underlying a with
    | none => rw [ha] at h; simp at h
    | some da =>
      cases hb : P.underlying b with
      | none => rw [ha, hb] at h; cases da <;> simp at h
      | some db =>
        rw [ha, hb] at h
        cases db with
        | int k =>
          have h' : some (LOp.conv (.int k) (Opd.of x)) = some l := by cases da <;> exact h
          simp only [Option.some.injEq] at h'; subst h'
          simp only [evL, seL_of] at he
          obtain ⟨v, hv, rfl⟩ := map3 he
          unfold convL at hv
          cases hx : AM.seen fr x with
          | s s => cases s with
            | int k' n => rw [hx] at hv; dsimp only at hv ⊢; rw [hv]; rfl
            | _ => rw [hx] at hv; cases hv
          | _ => rw [hx] at hv; cases hv
        | string =>
          cases da with
          | string =>
            simp only [Option.some.injEq] at h; subst h
            simp only [evL, seL_of] at he
            obtain ⟨v, hv, rfl⟩ := map3 he
            unfold convL at hv
            cases hx : AM.seen fr x with
            | s s => cases s with
              | str s => rw [hx] at hv; dsimp only at hv ⊢; rw [hv]; rfl
              | _ => rw [hx] at hv; cases hv
            | _ => rw [hx] at hv; cases hv
          | slice e =>
            dsimp only at h ⊢
            split at h
            case h_2 => cases h
            rename_i hu
            split at h
            case isFalse => cases h
            rename_i hc
            simp only [Option.some.injEq] at h; subst h
            simp only [evL, seL_of] at he
            obtain ⟨v, hv, rfl⟩ := map3 he
            simp only [convL] at hv
            have ag : AM.isAgg P e = false := by unfold AM.isAgg; rw [hu]
            split at hv
            case isFalse => cases hv
            rename_i hs
            have hel : elemsL ⟨1, false, 1, .undef⟩ (AM.seen fr x) σ = elems P e (AM.seen fr x) σ := elemsL_eq (E := ⟨1, false, 1, .undef⟩) ag hc _
            rw [hel] at hv
            cases hx : AM.seen fr x with
            | s s => cases s with
              | nilS => rw [hx] at hv hs; simp only [hs, hc, beq_self_eq_true, Bool.and_self, if_true, hu]; rw [hv]; rfl
              | _ => rw [hx] at hs; simp [AV.isSlice] at hs
            | list => rw [hx] at hv hs; simp only [hs, hc, beq_self_eq_true, Bool.and_self, if_true, hu]; rw [hv]; rfl
            | row => rw [hx] at hv hs; simp only [hs, hc, beq_self_eq_true, Bool.and_self, if_true, hu]; rw [hv]; rfl
            | _ => rw [hx] at hs; simp [AV.isSlice] at hs
          | _ => cases h
        | slice e =>
          cases da with
          | string =>
            dsimp only at h ⊢
            split at h
            case h_2 => cases h
            rename_i hu
            split at h
            case isFalse => cases h
            rename_i hc
            simp only [Option.some.injEq] at h; subst h
            simp only [evL, seL_of] at he
            obtain ⟨v, hv, rfl⟩ := map3 he
            unfold convL at hv
            cases hx : AM.seen fr x with
            | s s => cases s with
              | str s =>
                rw [hx] at hv
                dsimp only at hv ⊢
                split at hv
                · rename_i hl
                  simp only [hu]
                  rw [if_pos ⟨hl, hc.1, hc.2⟩, hv]; rfl
                · cases hv
              | _ => rw [hx] at hv; cases hv
            | _ => rw [hx] at hv; cases hv
          | _ => cases h
        | _ => cases da <;> cases h
  | makeFunc fn first captured =>
    simp only [lowOp] at h
    cases fn with
    | func g =>
      simp only [Option.some.injEq] at h; subst h
      simp only [evL, Option.some.injEq] at he
      subst he
      simp only [evOp, List.map_map, seL_fun]
      rfl
    | _ => cases h
  | makeMap t r =>
    simp only [lowOp] at h
    cases r with
    | none =>
      simp only [Option.some.injEq] at h; subst h
      simp only [evL] at he
      simp only [evOp]; exact he
    | some x =>
      dsimp only at h
      split at h
      case h_2 => cases h
      rename_i hu
      simp only [Option.some.injEq] at h; subst h
      simp only [evL, seL_of] at he
      simp only [evOp, hu]
      split at he
      · rename_i hs; rw [hs]; exact he
      · cases he
  | makeSlice t l c =>
    simp only [lowOp] at h
    obtain ⟨E, hE, rfl⟩ := map_some h
    simp only [evL, seL_of] at he
    obtain ⟨q, hq, rfl⟩ := map3 he
    simp only [evOp]
    rw [mkslL_ok (σ' := q.2) (v := q.1) hE hq]; rfl
  | slice t x lo hi mx =>
    simp only [lowOp] at h
    obtain ⟨k, hk, rfl⟩ := map_some h
    simp only [evL, seL_of] at he
    obtain ⟨v, hv, rfl⟩ := map3 he
    rw [sliceL_eq hk] at hv
    simp only [evOp]
    have e : ∀ o : Option Operand, (o.map Opd.of).map (seL fr) = o.map (AM.seen fr) := fun o => by cases o <;> simp [seL_of]
    rw [e, e, e] at hv
    rw [hv]; rfl
  | fieldAddr s x i =>
    simp only [lowOp] at h
    obtain ⟨q, hq, h⟩ := Option.bind_eq_some_iff.1 h
    split at h
    · cases h
    · rename_i hc
      simp only [Option.some.injEq] at h; subst h
      simp only [evL, seL_of] at he
      obtain ⟨v, hv, rfl⟩ := map3 he
      simp only [evOp, hq, Option.bind_some, if_neg hc]
      rw [hv]; rfl
  | field s x i =>
    simp only [lowOp] at h
    obtain ⟨q, hq, h⟩ := Option.bind_eq_some_iff.1 h
    simp only [evOp, hq, Option.bind_some]
    split at h
    · rename_i ha
      split at h
      · cases h
      · rename_i hc
        simp only [Option.some.injEq] at h; subst h
        simp only [evL, seL_of] at he
        split at he
        · rename_i cs hs
          obtain ⟨v, hv, rfl⟩ := map3 he
          rw [hs]
          simp only [partOf, ha]
          unfold partL at hv
          dsimp only at hv
          rw [hv]; rfl
        · cases he
    · rename_i ha
      simp only [Option.some.injEq] at h; subst h
      simp only [evL, seL_of] at he
      split at he
      · rename_i cs hs
        obtain ⟨v, hv, rfl⟩ := map3 he
        rw [hs]
        simp only [partOf, ha]
        unfold partL at hv
        dsimp only at hv
        rw [hv]; rfl
      · cases he
    · cases h
  | indexAddr t x ix =>
    simp only [lowOp] at h
    obtain ⟨k, hk, rfl⟩ := map_some h
    simp only [evL, seL_of] at he
    obtain ⟨v, hv, rfl⟩ := map3 he
    rw [ixaL_eq hk] at hv
    simp only [evOp]
    rw [hv]; rfl
  | index t x ix =>
    simp only [lowOp] at h
    split at h
    · rename_i hu
      simp only [Option.some.injEq] at h; subst h
      simp only [evL, seL_of] at he
      simp only [evOp, index]
      split at he
      · rename_i l k i hx hi
        rw [hi, hu, hx]
        dsimp only
        split at he
        · rename_i hc; rw [if_pos hc]; exact he
        · cases he
      · cases he
    · rename_i n e hu
      obtain ⟨ag, hag, rfl⟩ := map_some h
      simp only [evL, seL_of] at he
      simp only [evOp, index]
      split at he
      · rename_i cs k i hx hi
        rw [hi, hu, hx]
        dsimp only
        split at he
        · rename_i hc
          rw [if_pos hc]
          obtain ⟨v, hv, rfl⟩ := map3 he
          simp only [partOf, hag]
          cases ag with
          | true =>
            simp only [if_true, partL] at hv
            dsimp only
            rw [hv]; rfl
          | false =>
            simp only [Bool.false_eq_true, if_false, partL] at hv
            dsimp only
            rw [hv]; rfl
        · cases he
      · cases he
    · cases h
  | lookup t x ix ok =>
    simp only [lowOp] at h
    obtain ⟨q, hq, rfl⟩ := map_some h
    simp only [evL, seL_of] at he
    obtain ⟨v, hv, rfl⟩ := map3 he
    simp only [evOp]
    rw [lookupL_ok hq hv]; rfl
  | mapUpdate t m k v =>
    simp only [lowOp] at h
    obtain ⟨q, hq, rfl⟩ := map_some h
    simp only [evL, seL_of] at he
    obtain ⟨s, hs, rfl⟩ := map3 he
    simp only [evOp]
    rw [updateL_ok hq hs]; rfl
  | insert t m k v =>
    simp only [lowOp] at h
    obtain ⟨q, hq, rfl⟩ := map_some h
    simp only [evL, seL_of] at he
    obtain ⟨s, hs, rfl⟩ := map3 he
    simp only [evOp]
    rw [updateL_ok hq hs]; rfl
  | extract x i =>
    simp only [lowOp, Option.some.injEq] at h; subst h
    simp only [evL, seL_of] at he
    simp only [evOp]
    split at he
    · rename_i vs hs; rw [hs]; exact he
    · cases he
  | range t x =>
    simp only [lowOp] at h
    split at h
    · simp only [Option.some.injEq] at h; subst h; cases he
    · cases h
  | next x b =>
    cases b with
    | true => simp only [lowOp] at h; cases h
    | false => simp only [lowOp, Option.some.injEq] at h; subst h; cases he
  | entry x => simp only [lowOp, Option.some.injEq] at h; subst h; cases he
  | call c =>
    obtain ⟨cal, args, ats⟩ := c
    simp only [lowOp] at h
    simp only [evOp]
    cases cal with
    | value g => simp only [Option.some.injEq] at h; subst h; cases he
    | invoke r m => cases h
    | builtin b =>
      cases b with
      | len =>
        dsimp only at h ⊢
        split at h
        · rename_i t x hat har
          rw [hat, har]
          dsimp only
          obtain ⟨k, hk, rfl⟩ := map_some h
          simp only [evL, seL_of] at he
          obtain ⟨n, hn, rfl⟩ := map3 he
          rw [lenL_eq hk] at hn
          rw [hn]; rfl
        · cases h
      | cap =>
        dsimp only at h ⊢
        split at h
        · rename_i t x hat har
          rw [hat, har]
          dsimp only
          split at h
          · rename_i hu
            simp only [Option.some.injEq] at h; subst h
            simp only [evL, seL_of] at he
            obtain ⟨n, hn, rfl⟩ := map3 he
            have : capOf P t (AM.seen fr x) = capL (AM.seen fr x) := by
              unfold capOf capL; rw [hu]
              cases AM.seen fr x with
              | s s => cases s <;> rfl
              | list fl sz es => cases fl <;> rfl
              | _ => rfl
            rw [this, hn]; rfl
          · cases h
        · cases h
      | append =>
        dsimp only at h ⊢
        split at h
        · rename_i t tx s x hat har
          rw [hat, har]
          dsimp only
          split at h
          · rename_i E b hE hb
            simp only [Option.some.injEq] at h; subst h
            simp only [evL, seL_of, tkL_of] at he
            obtain ⟨q, hq, rfl⟩ := map3 he
            rw [appendL_ok (σ' := q.2) (v := q.1) hE hb hq]; rfl
          · cases h
        · cases h
      | copy =>
        dsimp only at h ⊢
        split at h
        · rename_i t tx s x hat har
          rw [hat, har]
          dsimp only
          split at h
          · rename_i E b hE hb
            simp only [Option.some.injEq] at h; subst h
            simp only [evL, seL_of] at he
            obtain ⟨q, hq, rfl⟩ := map3 he
            rw [copyL_ok (σ' := q.2) (v := q.1) hE hb hq]; rfl
          · cases h
        · cases h
      | delete =>
        dsimp only at h ⊢
        split at h
        · rename_i t _ m k hat har
          rw [hat, har]
          dsimp only
          obtain ⟨q, hq, rfl⟩ := map_some h
          simp only [evL, seL_of] at he
          obtain ⟨s, hs, rfl⟩ := map3 he
          rw [deleteL_ok hq hs]; rfl
        · cases h
      | clear =>
        dsimp only at h ⊢
        split at h
        · rename_i t x hat har
          rw [hat, har]
          dsimp only
          obtain ⟨E, hE, rfl⟩ := map_some h
          simp only [evL, seL_of] at he
          obtain ⟨s, hs, rfl⟩ := map3 he
          rw [clearL_ok hE hs]; rfl
        · cases h
      | min =>
        dsimp only at h ⊢
        split at h
        · rename_i x y har
          simp only [Option.some.injEq] at h; subst h
          simp only [evL, seL_of] at he
          rw [har]
          simp only [List.map_cons, List.map_nil]
          unfold intOpt at he
          cases hx : AM.seen fr x with
          | s s => cases s with
            | int k a =>
              cases hy : AM.seen fr y with
              | s s' => cases s' with
                | int k' b => rw [hx, hy] at he; exact he
                | _ => rw [hx, hy] at he; cases he
              | _ => rw [hx, hy] at he; cases he
            | _ => rw [hx] at he; cases he
          | _ => rw [hx] at he; cases he
        · cases h
      | max =>
        dsimp only at h ⊢
        split at h
        · rename_i x y har
          simp only [Option.some.injEq] at h; subst h
          simp only [evL, seL_of] at he
          rw [har]
          simp only [List.map_cons, List.map_nil]
          unfold intOpt at he
          cases hx : AM.seen fr x with
          | s s => cases s with
            | int k a =>
              cases hy : AM.seen fr y with
              | s s' => cases s' with
                | int k' b => rw [hx, hy] at he; exact he
                | _ => rw [hx, hy] at he; cases he
              | _ => rw [hx, hy] at he; cases he
            | _ => rw [hx] at he; cases he
          | _ => rw [hx] at he; cases he
        · cases h
      | _ => cases h
  | _ => simp only [lowOp] at h <;> cases h
end
end Go.AM
/-! What is shown of the lowered code holds of the code. -/
namespace Go.AM
open Go
set_option linter.unusedVariables false
set_option linter.unusedSimpArgs false

section
variable {P : Program} {C : CallW} {cfg : Cfg} {tr : Trees} {f : FuncId} {fr fr' : Fr} {σ σ' : St} {ops : Array Oper}

/-- An operation that is no call and no round of a range. -/
def LOp.plain : LOp → Bool
  | .call .. | .rng _ | .nxt _ | .ent _ => false
  | _ => true

theorem doL_plain {l : LOp} {K : AV → Fr → St → Prop} (hp : l.plain = true) : doL C l fr σ K = match evL l fr σ with
    | some r => K r.1 r.2.1 r.2.2
    | none => False := by
  cases l <;> first | rfl | simp [LOp.plain] at hp

theorem opW_plain {o : Oper} {K : AV → Fr → St → Prop} (h1 : callOf o.op = none) (h2 : ∀ t x, o.op ≠ .range t x) (h3 : ∀ x, o.op ≠ .next x false) (h4 : ∀ x, o.op ≠ .entry x) : opW C P cfg f o fr σ K = match evOp noC P cfg f o fr σ with
    | some (v, fr', σ') => K v fr' σ'
    | none => False := by
  unfold opW
  split
  · rename_i ho; exact (h2 _ _ ho).elim
  · rename_i ho; exact (h3 _ ho).elim
  · rename_i ho; exact (h4 _ ho).elim
  · rw [h1]
    split
    · rename_i hc; cases hc
    · rfl

/-- Which operations are lowered to what is no call and no round. -/
theorem low_plain {o : Oper} {l : LOp} (h : lowOp P cfg f o = some l) (hp : l.plain = true) : callOf o.op = none ∧ (∀ t x, o.op ≠ .range t x) ∧ (∀ x, o.op ≠ .next x false) ∧ (∀ x, o.op ≠ .entry x) := by
  obtain ⟨dst, op, ty, pos, after, guard⟩ := o
  cases op with
  | range t x =>
    simp only [lowOp] at h
    split at h
    · simp only [Option.some.injEq] at h; subst h; cases hp
    · cases h
  | next x b =>
    cases b with
    | true => simp only [lowOp] at h; cases h
    | false => simp only [lowOp, Option.some.injEq] at h; subst h; cases hp
  | entry x => simp only [lowOp, Option.some.injEq] at h; subst h; cases hp
  | call c =>
    obtain ⟨cal, args, ats⟩ := c
    cases cal with
    | value g => simp only [lowOp, Option.some.injEq] at h; subst h; cases hp
    | invoke r m => exact ⟨rfl, fun _ _ => by simp, fun _ => by simp, fun _ => by simp⟩
    | builtin b => exact ⟨rfl, fun _ _ => by simp, fun _ => by simp, fun _ => by simp⟩
  | _ => exact ⟨rfl, fun _ _ => by simp, fun _ => by simp, fun _ => by simp⟩

theorem doL_ok {o : Oper} {l : LOp} {K : AV → Fr → St → Prop} (h : lowOp P cfg f o = some l) (hd : doL C l fr σ K) : opW C P cfg f o fr σ K := by
  by_cases hp : l.plain = true
  · obtain ⟨h1, h2, h3, h4⟩ := low_plain h hp
    rw [doL_plain hp] at hd
    rw [opW_plain h1 h2 h3 h4]
    split at hd
    · rename_i r hr
      rw [evL_ok h hr]; exact hd
    · exact hd.elim
  · obtain ⟨dst, op, ty, pos, after, guard⟩ := o
    cases op with
    | range t x =>
      simp only [lowOp] at h
      split at h
      · rename_i kT eT hu
        simp only [Option.some.injEq] at h; subst h
        simp only [doL, seL_of] at hd
        simp only [opW, hu]
        split at hd
        · rename_i hs; rw [hs]; exact hd
        · rename_i hs; rw [hs]; exact hd
        · exact hd.elim
      · cases h
    | next x b =>
      cases b with
      | true => simp only [lowOp] at h; cases h
      | false =>
        simp only [lowOp, Option.some.injEq] at h; subst h
        simp only [doL, seL_of] at hd
        exact hd
    | entry x =>
      simp only [lowOp, Option.some.injEq] at h; subst h
      simp only [doL, seL_of] at hd
      exact hd
    | call c =>
      obtain ⟨cal, args, ats⟩ := c
      cases cal with
      | value g =>
        simp only [lowOp, Option.some.injEq] at h; subst h
        simp only [doL, seL_of, tkAllL_of] at hd
        simp only [opW, callOf]
        exact hd
      | invoke r m => simp only [lowOp] at h; cases h
      | builtin b =>
        exfalso
        cases b
        all_goals simp only [lowOp] at h
        all_goals (repeat' split at h)
        all_goals first
          | (cases h; done)
          | (simp only [Option.some.injEq] at h; subst h; exact hp rfl)
          | (simp only [Option.map_eq_some_iff] at h; obtain ⟨_, _, hq⟩ := h; subst hq; exact hp rfl)
    | fieldAddr a b c =>
      exfalso
      simp only [lowOp] at h
      simp only [Option.bind_eq_some_iff] at h
      obtain ⟨_, _, h⟩ := h
      repeat' split at h
      all_goals first
        | (cases h; done)
        | (simp only [Option.some.injEq] at h; subst h; exact hp rfl)
        | (simp only [Option.map_eq_some_iff] at h; obtain ⟨_, _, hq⟩ := h; subst hq; exact hp rfl)
    | field a b c =>
      exfalso
      simp only [lowOp] at h
      simp only [Option.bind_eq_some_iff] at h
      obtain ⟨_, _, h⟩ := h
      repeat' split at h
      all_goals first
        | (cases h; done)
        | (simp only [Option.some.injEq] at h; subst h; exact hp rfl)
        | (simp only [Option.map_eq_some_iff] at h; obtain ⟨_, _, hq⟩ := h; subst hq; exact hp rfl)
    | _ =>
      exfalso
      simp only [lowOp] at h
      repeat' split at h
      all_goals first
        | (cases h; done)
        | (simp only [Option.some.injEq] at h; subst h; exact hp rfl)
        | (simp only [Option.map_eq_some_iff] at h; obtain ⟨_, _, hq⟩ := h; subst hq; exact hp rfl)

theorem settledL_ok {o : Oper} {l : LOp} (h : lowOp P cfg f o = some l) : settledL l = (settled o.op).map Opd.of := by
  obtain ⟨dst, op, ty, pos, after, guard⟩ := o
  cases op with
  | build t parts =>
    simp only [lowOp] at h
    repeat' split at h
    all_goals first
      | cases h
      | (obtain ⟨lp, hlp, rfl⟩ := map_some h; exact lowParts_snd hlp)
  | buildSlice t n parts =>
    simp only [lowOp] at h
    obtain ⟨E, hE, rfl⟩ := map_some h
    simp only [settledL, settled, List.map_map]
    rfl
  | call c =>
    obtain ⟨cal, args, ats⟩ := c
    cases cal with
    | value g => simp only [lowOp, Option.some.injEq] at h; subst h; rfl
    | invoke r m => simp only [lowOp] at h; cases h
    | builtin b =>
      cases b with
      | append =>
        simp only [lowOp] at h
        split at h
        · rename_i har
          split at h
          · simp only [Option.some.injEq] at h; subst h
            simp only [settledL, settled, har]
            rfl
          · cases h
        · cases h
      | len =>
        simp only [lowOp] at h
        split at h
        · rename_i har
          obtain ⟨_, _, rfl⟩ := map_some h
          simp only [settledL, settled, har]; rfl
        · cases h
      | cap =>
        simp only [lowOp] at h
        split at h
        · rename_i har
          split at h
          · simp only [Option.some.injEq] at h; subst h
            simp only [settledL, settled, har]; rfl
          · cases h
        · cases h
      | _ =>
        simp only [lowOp] at h
        repeat' split at h
        all_goals first
          | (cases h; done)
          | (simp only [Option.some.injEq] at h; subst h; rfl)
          | (simp only [Option.map_eq_some_iff] at h; obtain ⟨_, _, hq⟩ := h; subst hq; rfl)
  | mapUpdate t m k v => simp only [lowOp] at h; obtain ⟨_, _, rfl⟩ := map_some h; rfl
  | insert t m k v => simp only [lowOp] at h; obtain ⟨_, _, rfl⟩ := map_some h; rfl
  | next x b => cases b with
    | true => simp only [lowOp] at h; cases h
    | false => simp only [lowOp, Option.some.injEq] at h; subst h; rfl
  | fieldAddr a b c =>
    simp only [lowOp] at h
    simp only [Option.bind_eq_some_iff] at h
    obtain ⟨_, _, h⟩ := h
    repeat' split at h
    all_goals first
      | (cases h; done)
      | (simp only [Option.some.injEq] at h; subst h; rfl)
      | (simp only [Option.map_eq_some_iff] at h; obtain ⟨_, _, hq⟩ := h; subst hq; rfl)
  | field a b c =>
    simp only [lowOp] at h
    simp only [Option.bind_eq_some_iff] at h
    obtain ⟨_, _, h⟩ := h
    repeat' split at h
    all_goals first
      | (cases h; done)
      | (simp only [Option.some.injEq] at h; subst h; rfl)
      | (simp only [Option.map_eq_some_iff] at h; obtain ⟨_, _, hq⟩ := h; subst hq; rfl)
  | _ =>
    simp only [lowOp] at h
    repeat' split at h
    all_goals first
      | (cases h; done)
      | (simp only [Option.some.injEq] at h; subst h; rfl)
      | (simp only [Option.map_eq_some_iff] at h; obtain ⟨_, _, hq⟩ := h; subst hq; rfl)

theorem guardL_ok {o : Oper} {g : Option (Nat × Bool)} (h : lowGuard ops o.guard = some g) : guardL fr g = guardA ops fr o := by
  unfold lowGuard at h
  unfold guardA
  split at h
  · rename_i hg; simp only [Option.some.injEq] at h; subst h; rw [hg]; rfl
  · rename_i j want hg
    obtain ⟨d, hd, rfl⟩ := map_some h
    rw [hg]
    dsimp only
    rw [hd]
    rfl

theorem lowStep_some {i : Nat} {s : LStep} (h : lowStep P cfg f ops i = some s) : ∃ o, ops[i]? = some o ∧ lowGuard ops o.guard = some s.guard ∧ lowOp P cfg f o = some s.op ∧ s.dst = o.dst := by
  unfold lowStep at h
  split at h
  · cases h
  · rename_i o ho
    split at h
    · rename_i g l hg hl
      simp only [Option.some.injEq] at h; subst h
      exact ⟨o, ho, hg, hl, rfl⟩
    · cases h

theorem stepL_ok {i : Nat} {s : LStep} {K : Fr → St → Prop} (h : lowStep P cfg f ops i = some s) (hs : stepL C s fr σ K) : stepW C P cfg f ops i fr σ K := by
  obtain ⟨o, ho, hg, hl, hd⟩ := lowStep_some h
  unfold stepL at hs
  unfold stepW
  rw [ho]
  dsimp only
  rw [guardL_ok hg] at hs
  cases hga : guardA ops fr o with
  | none => rw [hga] at hs; exact hs.elim
  | some b =>
    rw [hga] at hs
    dsimp only at hs
    cases b with
    | true =>
      have := hs.1 rfl
      rw [settledL_ok hl, settleL_of, hd] at this
      exact doL_ok hl this
    | false =>
      have := hs.2 rfl
      rw [hd] at this
      exact this

theorem maybeS_op {s : LStep} (h : maybeS s fr = true) : ∃ op x y, s.op = .bin op (.ref 1) x y ∧ isEq op = true ∧ maybeNil (seL fr x) (seL fr y) = true ∧ guardL fr s.guard = some true := by
  unfold maybeS at h
  split at h
  · rename_i op x y hs
    simp only [Bool.and_eq_true] at h
    obtain ⟨⟨h1, h2⟩, h3⟩ := h
    refine ⟨_, _, _, hs, h1, h2, ?_⟩
    split at h3
    · assumption
    · cases h3
  · cases h

theorem low_bin {o : Oper} {op : BinOp} {k : BK} {x y : Opd} (h : lowOp P cfg f o = some (.bin op k x y)) : ∃ t x' y' u, o.op = .binOp op t x' y' u ∧ bkOf P t = some k ∧ x = Opd.of x' ∧ y = Opd.of y' := by
  obtain ⟨dst, op', ty, pos, after, guard⟩ := o
  cases op' with
  | binOp op' t x' y' u =>
    simp only [lowOp] at h
    obtain ⟨k', h1, h2⟩ := map_some h
    injection h2 with h2 h3 h4 h5
    subst h2; subst h3; subst h4; subst h5
    exact ⟨_, _, _, _, rfl, h1, rfl, rfl⟩
  | call c =>
    exfalso
    obtain ⟨cal, args, ats⟩ := c
    cases cal with
    | value g => simp only [lowOp, Option.some.injEq] at h; cases h
    | invoke r m => simp only [lowOp] at h; cases h
    | builtin b =>
      cases b
      all_goals simp only [lowOp] at h
      all_goals (repeat' split at h)
      all_goals first
        | (cases h; done)
        | (simp only [Option.some.injEq] at h; cases h; done)
        | (simp only [Option.map_eq_some_iff] at h; obtain ⟨_, _, hq⟩ := h; cases hq)
  | next x b => cases b with
    | true => simp only [lowOp] at h; cases h
    | false => simp only [lowOp, Option.some.injEq] at h; cases h
  | fieldAddr a b c =>
    exfalso
    simp only [lowOp] at h
    simp only [Option.bind_eq_some_iff] at h
    obtain ⟨_, _, h⟩ := h
    repeat' split at h
    all_goals first
      | (cases h; done)
      | (simp only [Option.some.injEq] at h; cases h; done)
      | (simp only [Option.map_eq_some_iff] at h; obtain ⟨_, _, hq⟩ := h; cases hq)
  | field a b c =>
    exfalso
    simp only [lowOp] at h
    simp only [Option.bind_eq_some_iff] at h
    obtain ⟨_, _, h⟩ := h
    repeat' split at h
    all_goals first
      | (cases h; done)
      | (simp only [Option.some.injEq] at h; cases h; done)
      | (simp only [Option.map_eq_some_iff] at h; obtain ⟨_, _, hq⟩ := h; cases hq)
  | _ =>
    exfalso
    simp only [lowOp] at h
    repeat' split at h
    all_goals first
      | (cases h; done)
      | (simp only [Option.some.injEq] at h; cases h; done)
      | (simp only [Option.map_eq_some_iff] at h; obtain ⟨_, _, hq⟩ := h; cases hq)

theorem bkOf_one {t : TypeId} (h : bkOf P t = some (.ref 1)) : typeKind P t = some 1 := by
  unfold bkOf at h
  unfold typeKind
  split at h <;> simp_all
  all_goals (obtain ⟨_, h⟩ := h; simp at h)

theorem maybeS_ok {i : Nat} {s : LStep} (h : lowStep P cfg f ops i = some s) (hm : maybeS s fr = true) : maybeW P ops i fr = true := by
  obtain ⟨o, ho, hg, hl, hd⟩ := lowStep_some h
  obtain ⟨op, x, y, h1, h2, h3, h4⟩ := maybeS_op hm
  rw [h1] at hl
  obtain ⟨t, x', y', u, k1, k2, rfl, rfl⟩ := low_bin hl
  unfold maybeW
  rw [ho]
  dsimp only
  rw [← guardL_ok hg, h4, k1]
  simp only [maybeOf, h2, bkOf_one k2, seL_of] at h3 ⊢
  simpa using h3

theorem seqL_ok (hC : LeC C C) : ∀ {is : List Nat} {l : List LStep} {fr : Fr} {σ : St} {K : Fr → St → Prop}, lowSteps P cfg f ops is = some l → seqL C l fr σ K → opsW C P cfg f ops is fr σ K
  | [], l, fr, σ, K, h, hs => by simp [lowSteps] at h; subst h; exact hs
  | i :: is, l, fr, σ, K, h, hs => by
    simp only [lowSteps] at h
    split at h
    · rename_i s l' h1 h2
      simp only [Option.some.injEq] at h; subst h
      simp only [seqL] at hs
      simp only [opsW]
      cases hm : maybeS s fr with
      | true =>
        rw [hm] at hs
        obtain ⟨o, ho, _, _, hd⟩ := lowStep_some h1
        refine .inr ⟨maybeS_ok h1 hm, fun b => seqL_ok hC h2 ?_⟩
        have e : dstOf ops i = s.dst := by simp [dstOf, ho, hd]
        rw [e]; exact hs b
      | false =>
        rw [hm] at hs
        exact .inl (stepW_mono hC (fun fr' σ' k => seqL_ok hC h2 k) (stepL_ok h1 hs))
    · cases h

theorem calmL_of (x : Operand) : calmL fr (Opd.of x) = calmAt fr x := by
  cases x with
  | tmp t => rfl
  | func g => rfl
  | global g => rfl
  | const v =>
    show calmL fr (match Sc.ofV v with | some x => Opd.c x | none => Opd.no) = true
    cases Sc.ofV v <;> rfl

/-- The operands of a reader. -/
theorem opds_ok {o : Oper} {l : LOp} (h : lowOp P cfg f o = some l) (hr : readerOp cfg f o = true) : l.opds = o.op.operands.toList.map Opd.of := by
  obtain ⟨dst, op, ty, pos, after, guard⟩ := o
  cases op with
  | move x =>
    simp only [readerOp, Bool.and_eq_true, Bool.not_eq_true'] at hr
    simp only [lowOp, hr.1.1, hr.1.2, Bool.false_eq_true, if_false, Option.some.injEq] at h
    subst h; rfl
  | build t parts =>
    simp only [lowOp] at h
    repeat' split at h
    all_goals first
      | cases h
      | (obtain ⟨lp, hlp, rfl⟩ := map_some h
         simp only [LOp.opds, Op.operands]
         exact lowParts_snd hlp)
  | buildSlice t n parts =>
    simp only [lowOp] at h
    obtain ⟨E, hE, rfl⟩ := map_some h
    simp only [LOp.opds, Op.operands, List.map_map]
    rfl
  | makeFunc fn first captured =>
    simp only [lowOp] at h
    cases fn with
    | func g =>
      simp only [Option.some.injEq] at h; subst h
      simp [LOp.opds, Op.operands]
    | _ => cases h
  | slice t x lo hi mx =>
    simp only [lowOp] at h
    obtain ⟨k, hk, rfl⟩ := map_some h
    simp only [LOp.opds, Op.operands]
    cases lo <;> cases hi <;> cases mx <;> simp
  | call c =>
    obtain ⟨cal, args, ats⟩ := c
    cases cal with
    | value g => simp [readerOp] at hr
    | invoke r m => simp [readerOp] at hr
    | builtin b =>
      cases b with
      | len =>
        simp only [lowOp] at h
        split at h
        · rename_i har
          obtain ⟨k, hk, rfl⟩ := map_some h
          simp [LOp.opds, Op.operands, Call.operands, har]
        · cases h
      | cap =>
        simp only [lowOp] at h
        split at h
        · rename_i har
          split at h
          · simp only [Option.some.injEq] at h; subst h
            simp [LOp.opds, Op.operands, Call.operands, har]
          · cases h
        · cases h
      | _ => simp [readerOp] at hr
  | load t x =>
    simp only [lowOp] at h
    repeat' split at h
    all_goals first
      | (cases h; done)
      | (simp only [Option.some.injEq] at h; subst h; rfl)
  | fieldAddr a b c =>
    simp only [lowOp] at h
    simp only [Option.bind_eq_some_iff] at h
    obtain ⟨_, _, h⟩ := h
    repeat' split at h
    all_goals first
      | (cases h; done)
      | (simp only [Option.some.injEq] at h; subst h; rfl)
      | (simp only [Option.map_eq_some_iff] at h; obtain ⟨_, _, hq⟩ := h; subst hq; rfl)
  | field a b c =>
    simp only [lowOp] at h
    simp only [Option.bind_eq_some_iff] at h
    obtain ⟨_, _, h⟩ := h
    repeat' split at h
    all_goals first
      | (cases h; done)
      | (simp only [Option.some.injEq] at h; subst h; rfl)
      | (simp only [Option.map_eq_some_iff] at h; obtain ⟨_, _, hq⟩ := h; subst hq; rfl)
  | assign x => simp [readerOp] at hr
  | next x b => simp [readerOp] at hr
  | _ =>
    simp only [lowOp] at h
    first
      | (simp [readerOp] at hr; done)
      | skip
    repeat' split at h
    all_goals first
      | (cases h; done)
      | (simp only [Option.some.injEq] at h; subst h; rfl)
      | (simp only [Option.map_eq_some_iff] at h; obtain ⟨_, _, hq⟩ := h; subst hq; rfl)

theorem readL_ok {i : Nat} {s : LStep} {v : AV} (h : lowStep P cfg f ops i = some s) (hr : isReader cfg f ops i = true) (hg : guardL fr s.guard = some true) (hv : readL s fr σ = some v) : readV noC P cfg f ops i fr σ = some v := by
  obtain ⟨o, ho, hgd, hl, hd⟩ := lowStep_some h
  have hro : readerOp cfg f o = true := by unfold isReader at hr; rw [ho] at hr; exact hr
  unfold readL at hv
  unfold readV
  rw [ho]
  dsimp only
  rw [← guardL_ok hgd, hg]
  dsimp only
  split at hv
  case isFalse => cases hv
  rename_i hc
  rw [opds_ok hl hro] at hc
  have hc' : (o.op.operands.toList.all (calmAt fr)) = true := by
    rw [List.all_map] at hc
    rw [← hc]
    congr 1
    funext x; exact (calmL_of x).symm
  rw [hro, hc']
  simp only [Bool.and_self, if_true]
  obtain ⟨r, hr1, rfl⟩ := map_some hv
  rw [evL_ok hl hr1]
  rfl

theorem readL_skip {i : Nat} {s : LStep} (h : lowStep P cfg f ops i = some s) (hg : guardL fr s.guard = some false) : readV noC P cfg f ops i fr σ = some (.tup []) := by
  obtain ⟨o, ho, hgd, hl, hd⟩ := lowStep_some h
  unfold readV
  rw [ho]
  dsimp only
  rw [← guardL_ok hgd, hg]

theorem dep_ok {i : Nat} {s : LStep} (h : lowStep P cfg f ops i = some s) (hr : isReader cfg f ops i = true) (hd : depA ops i fr = true) : depL fr s.op = true := by
  obtain ⟨o, ho, hgd, hl, hdst⟩ := lowStep_some h
  have hro : readerOp cfg f o = true := by unfold isReader at hr; rw [ho] at hr; exact hr
  obtain ⟨dst, op, ty, pos, after, guard⟩ := o
  unfold depA at hd
  rw [ho] at hd
  dsimp only at hd
  cases op with
  | load t x =>
    simp only [lowOp] at hl
    repeat' split at hl
    all_goals first
      | cases hl
      | (simp only [Option.some.injEq] at hl; rw [← hl]; simp only [depL, seL_of]; exact hd)
  | lookup t x ix ok => simp only [lowOp] at hl; obtain ⟨_, _, hq⟩ := map_some hl; rw [← hq]; rfl
  | convert a b x =>
    simp only [lowOp] at hl
    repeat' split at hl
    all_goals first
      | cases hl
      | (simp only [Option.some.injEq] at hl; rw [← hl]; simp only [depL, seL_of]; exact hd)
  | call c =>
    obtain ⟨cal, args, ats⟩ := c
    cases cal with
    | value g => simp [readerOp] at hro
    | invoke r m => simp [readerOp] at hro
    | builtin b =>
      cases b with
      | len =>
        simp only [lowOp] at hl
        split at hl
        · rename_i x hat har
          obtain ⟨k, hk, hq⟩ := map_some hl
          rw [← hq]
          have ha0 : args[0]? = some x := by rw [← Array.getElem?_toList, har]; rfl
          simp only [depL, seL_of]
          dsimp only at hd
          rw [ha0] at hd
          exact hd
        · cases hl
      | cap =>
        simp only [lowOp] at hl
        split at hl
        · rename_i t x hat har
          split at hl
          · simp only [Option.some.injEq] at hl
            have ha0 : args[0]? = some x := by rw [← Array.getElem?_toList, har]; rfl
            dsimp only at hd
            rw [ha0] at hd
            rw [← hl]
            simp only [depL, seL_of]
            exact hd
          · cases hl
        · cases hl
      | _ => simp [readerOp] at hro
  | _ => simp at hd

end
end Go.AM
/-! What is shown of the lowered code holds of the code: regions, code, functions. -/
namespace Go.AM
open Go
set_option linter.unusedVariables false
set_option linter.unusedSimpArgs false

section
variable {P : Program} {C : CallW} {cfg : Cfg} {tr : Trees} {f : FuncId} {fr fr' : Fr} {σ σ' : St} {ops : Array Oper}

/-- What is checked is checked: or never looked at, or always true. -/
def Cov (ops : Array Oper) (t : PT) (cl : List LChk) (cw : List (Nat × (St → Bool))) : Prop :=
  ∀ c ∈ cw, (∃ d ∈ cl, d.i = c.1 ∧ ∀ σ, d.ok σ = true → c.2 σ = true) ∨ (∀ j ∈ t.movers, hangs ops j c.1 = true) ∨ ∀ σ, c.2 σ = true

theorem planL_ok (hC : LeC C C) : ∀ (t : PT) (lt : LT), lowTree P cfg f ops t = some lt → ∀ (fr : Fr) (σ : St) (cl : List LChk) (cw : List (Nat × (St → Bool))) (K : Fr → St → Prop), Cov ops t cl cw → planL C lt fr σ cl K → planW C P cfg f ops t fr σ cw K
  | .done, lt, h, fr, σ, cl, cw, K, hc, hp => by simp only [lowTree, Option.some.injEq] at h; subst h; exact hp
  | .stop, lt, h, fr, σ, cl, cw, K, hc, hp => trivial
  | .rd i rest, lt, h, fr, σ, cl, cw, K, hc, hp => by
    simp only [lowTree] at h
    split at h
    case isFalse => cases h
    rename_i hr
    split at h
    case h_2 => cases h
    rename_i s t' hs ht
    simp only [Option.some.injEq] at h; subst h
    simp only [planL] at hp
    simp only [planW]
    have hdst : dstOf ops i = s.dst := by
      obtain ⟨o, ho, _, _, hd⟩ := lowStep_some hs
      simp [dstOf, ho, hd]
    cases hg : guardL fr s.guard with
    | none => rw [hg] at hp; exact hp.elim
    | some g =>
      rw [hg] at hp
      dsimp only at hp
      cases g with
      | true =>
        have hp1 := hp.1 rfl
        cases hv : readL s fr σ with
        | none => rw [hv] at hp1; exact hp1.elim
        | some v =>
          rw [hv] at hp1
          dsimp only at hp1
          rw [readL_ok hs hr hg hv]
          dsimp only
          rw [hdst]
          refine planL_ok hC rest t' ht _ _ _ _ K ?_ hp1
          have old : ∀ c ∈ cw, (∃ d ∈ (if ((rest.movers.any fun j => !hangs ops j i) && depL fr s.op) = true then (⟨i, s, fr, v⟩ : LChk) :: cl else cl), d.i = c.1 ∧ ∀ σ, d.ok σ = true → c.2 σ = true) ∨ (∀ j ∈ rest.movers, hangs ops j c.1 = true) ∨ ∀ σ, c.2 σ = true := by
            intro c hcm
            rcases hc c hcm with ⟨d, hd, h1⟩ | h1 | h1
            · left
              refine ⟨d, ?_, h1⟩
              split
              · exact List.mem_cons_of_mem _ hd
              · exact hd
            · exact .inr (.inl h1)
            · exact .inr (.inr h1)
          by_cases hdep : depA ops i fr = true
          · rw [if_pos hdep]
            intro c hcm
            rcases List.mem_cons.1 hcm with rfl | hcm
            · by_cases hck : (rest.movers.any fun j => !hangs ops j i) = true
              · left
                rw [hck, dep_ok hs hr hdep]
                simp only [Bool.and_self, if_true]
                refine ⟨⟨i, s, fr, v⟩, List.mem_cons_self, rfl, fun σ' hok => ?_⟩
                simp only [LChk.ok, hg] at hok
                unfold sameV at hok ⊢
                split at hok
                · rename_i u hu
                  rw [readL_ok hs hr hg hu]; exact hok
                · cases hok
              · right; left
                intro j hj
                have : (rest.movers.any fun j => !hangs ops j i) = false := by simpa using hck
                rw [List.any_eq_false] at this
                have := this j hj
                simpa using this
            · exact old c hcm
          · rw [if_neg hdep]
            exact old
      | false =>
        have hp2 := hp.2 rfl
        rw [readL_skip hs hg]
        dsimp only
        rw [hdst]
        refine planL_ok hC rest t' ht _ _ _ _ K ?_ hp2
        by_cases hdep : depA ops i fr = true
        · rw [if_pos hdep]
          intro c hcm
          rcases List.mem_cons.1 hcm with rfl | hcm
          · right; right
            intro σ'
            simp only [readL_skip hs hg, sameV, beq_refl]
          · exact hc c hcm
        · rw [if_neg hdep]; exact hc
  | .mv i rest alt, lt, h, fr, σ, cl, cw, K, hc, hp => by
    simp only [lowTree] at h
    split at h
    case h_2 => cases h
    rename_i s t' u' hs ht hu
    simp only [Option.some.injEq] at h; subst h
    simp only [planL] at hp
    simp only [planW]
    have hdrop : ∀ k, ((List.range ops.size).filter fun k => hangs ops i k).contains k = true → hangs ops i k = true := by
      intro k hk
      simp only [List.contains_iff_mem, List.mem_filter] at hk
      exact hk.2
    refine ⟨stepW_mono hC (fun fr' σ' k => ?_) (stepL_ok hs hp.1), planL_ok hC alt u' hu _ _ _ _ K (fun c hcm => ?_) hp.2⟩
    · obtain ⟨k1, k2⟩ := k
      rw [List.all_eq_true] at k1
      refine ⟨?_, planL_ok hC rest t' ht _ _ _ _ K (fun c hcm => ?_) k2⟩
      · rw [List.all_eq_true]
        intro c hcm
        obtain ⟨h1, h2⟩ := List.mem_filter.1 hcm
        have h2' : hangs ops i c.1 = false := by simpa using h2
        rcases hc c h1 with ⟨d, hd, h3, h4⟩ | h3 | h3
        · refine h4 σ' (k1 d (List.mem_filter.2 ⟨hd, ?_⟩))
          cases hk : ((List.range ops.size).filter fun k => hangs ops i k).contains d.i with
          | false => rfl
          | true => rw [h3] at hk; rw [hdrop _ hk] at h2'; cases h2'
        · have := h3 i (by simp [PT.movers])
          rw [this] at h2'; cases h2'
        · exact h3 σ'
      · obtain ⟨h1, h2⟩ := List.mem_filter.1 hcm
        have h2' : hangs ops i c.1 = false := by simpa using h2
        rcases hc c h1 with ⟨d, hd, h3, h4⟩ | h3 | h3
        · left
          refine ⟨d, List.mem_filter.2 ⟨hd, ?_⟩, h3, h4⟩
          cases hk : ((List.range ops.size).filter fun k => hangs ops i k).contains d.i with
          | false => rfl
          | true => rw [h3] at hk; rw [hdrop _ hk] at h2'; cases h2'
        · exact .inr (.inl fun j hj => h3 j (by simp [PT.movers, hj]))
        · exact .inr (.inr h3)
    · rcases hc c hcm with h3 | h3 | h3
      · exact .inl h3
      · exact .inr (.inl fun j hj => h3 j (by simp [PT.movers, hj]))
      · exact .inr (.inr h3)

theorem execL_ok (hC : LeC C C) {rd : Bool} : ∀ (c : Code) (k : Nat) (fr : Fr) (σ : St) (K : KC), execL C P rd (lowCode P cfg tr f k c) fr σ K → codeW C P cfg tr rd f k c fr σ K
  | .skip, k, fr, σ, K, h => h
  | .region id ops false, k, fr, σ, K, h => by
    simp only [lowCode] at h
    simp only [codeW]
    split at h
    · rename_i l hl
      exact seqL_ok hC hl h
    · exact h.elim
  | .region id ops true, k, fr, σ, K, h => by
    simp only [lowCode] at h
    simp only [codeW]
    split at h
    · exact h.elim
    · rename_i hst
      split at h
      · rename_i t ht
        exact ⟨by simpa using hst, planL_ok hC _ t ht _ _ [] [] _ (fun c hc => by cases hc) h⟩
      · exact h.elim
  | .seq a b, k, fr, σ, K, h => by
    simp only [lowCode, execL] at h
    simp only [codeW]
    exact codeW_mono hC a (roundK_mono (fun fr s h => execL_ok hC b k fr s K h) fun _ _ _ h => h) (execL_ok hC a k fr σ _ h)
  | .cond c a b, k, fr, σ, K, h => by
    simp only [lowCode, execL, opL_of] at h
    simp only [codeW]
    split at h
    · rename_i x hx
      rw [hx]
      exact ⟨fun e => execL_ok hC a k fr σ K (h.1 e), fun e => execL_ok hC b k fr σ K (h.2 e)⟩
    · exact h.elim
  | .block id b, k, fr, σ, K, h => by
    simp only [lowCode, execL] at h
    simp only [codeW]
    exact execL_ok hC b id fr σ _ h
  | .loop b, k, fr, σ, K, h => by
    simp only [lowCode, execL] at h
    simp only [codeW]
    intro I hI
    exact h I fun fr s hu hb => hI fr s hu (execL_ok hC b k _ _ _ hb)
  | .exit id, k, fr, σ, K, h => h
  | .ret, k, fr, σ, K, h => h
  | .rangeFunc g ps a b, k, fr, σ, K, h => by
    simp only [lowCode, execL, seL_of] at h
    simp only [codeW]
    exact h
  | .label _, k, fr, σ, K, h => by simp only [lowCode, execL] at h
  | .goto _, k, fr, σ, K, h => by simp only [lowCode, execL] at h
  | .scope _, k, fr, σ, K, h => by simp only [lowCode, execL] at h
  | .refuse _, k, fr, σ, K, h => by simp only [lowCode, execL] at h

theorem lowRes_ok {r : ResultVar} {l : LR} {v : AV} (h : lowRes P r = some l) (hv : resL fr σ l = some v) : resultA P fr σ r = some v := by
  cases r with
  | tmp t => simp only [lowRes, Option.some.injEq] at h; subst h; exact hv
  | cell a t =>
    simp only [lowRes] at h
    split at h
    · rename_i ha
      split at h
      · cases h
      · rename_i hc
        simp only [Option.some.injEq] at h; subst h
        simp only [resL, readA] at hv
        simp only [resultA, load, ha, if_neg hc]
        obtain ⟨cs, hcs, rfl⟩ := map_some hv
        rw [hcs]; rfl
    · rename_i ha
      simp only [Option.some.injEq] at h; subst h
      simp only [resL] at hv
      obtain ⟨q, hq, rfl⟩ := map_some hv
      simp only [resultA]
      rw [load1L_ok (σ' := q.2) (v := q.1) ha hq]; rfl
    · cases h

theorem lowRess_ok : ∀ {rs : List ResultVar} {ls : List LR} {vs : List AV}, rs.mapM (lowRes P) = some ls → ressL fr σ ls = some vs → resultsA P fr σ rs = some vs
  | [], ls, vs, h, hv => by simp at h; subst h; exact hv
  | r :: rs, ls, vs, h, hv => by
    simp only [List.mapM_cons, Option.pure_def, Option.bind_eq_bind, Option.bind_eq_some_iff, Option.some.injEq] at h
    obtain ⟨l, h1, ls', h2, rfl⟩ := h
    simp only [ressL] at hv
    split at hv
    · rename_i v vs' h3 h4
      simp only [resultsA, lowRes_ok h1 h3, lowRess_ok h2 h4]
      exact hv
    · cases hv

theorem finL_ok {fn : Func} {rs : List LR} {base : Nat} {K : AV → St → Prop} (h : fn.results.toList.mapM (lowRes P) = some rs) : ∀ e fr σ, finL base rs K e fr σ → finishW P base fn K e fr σ := by
  have main : ∀ fr σ, endL base rs K fr σ → match finish P base fn fr σ with
      | some (v, σ') => K v σ'
      | none => False := by
    intro fr σ he
    unfold endL at he
    unfold finish
    cases hv : ressL fr σ rs with
    | none => rw [hv] at he; exact he.elim
    | some vs =>
      rw [hv] at he
      rw [lowRess_ok h hv]
      cases vs with
      | nil => dsimp only at he ⊢; rw [if_pos he.1]; exact he.2
      | cons x xs =>
        cases xs with
        | nil => dsimp only at he ⊢; rw [if_pos he.1]; exact he.2
        | cons y ys => dsimp only at he ⊢; rw [if_pos he.1]; exact he.2
  intro e fr σ he
  cases e with
  | exit id => exact he.elim
  | normal => exact main fr σ he
  | ret => exact main fr σ he

/-- A function that is lowered so does what its lowered text does. -/
theorem runL_ok {F : LFn} {args : List AV} {K : AV → St → Prop} (hp : cfg.prim f = none) (h : lowFn P cfg tr f = some F) (hr : runL (EvW P cfg tr) P F args σ K) : EvW P cfg tr (.fn f) args σ K := by
  refine EvW.fold ?_
  unfold unfoldW
  dsimp only
  rw [hp]
  dsimp only
  unfold lowFn at h
  unfold bodyW
  split at h
  case h_2 => cases h
  rename_i fn hf
  rw [hf]
  dsimp only
  split at h
  case h_2 => cases h
  rename_i c rs hb hrs
  simp only [Option.some.injEq] at h; subst h
  rw [hb]
  dsimp only
  unfold runL at hr
  exact codeW_mono EvW.le c (finL_ok hrs) (execL_ok EvW.le c 0 _ _ _ hr)

/-- One that the machine itself does. -/
theorem primW {p : List AV → St → Option (AV × St)} {args : List AV} {v : AV} {K : AV → St → Prop} (hp : cfg.prim f = some p) (h : p args σ = some (v, σ')) (hK : K v σ') : EvW P cfg tr (.fn f) args σ K := by
  refine EvW.fold ?_
  unfold unfoldW
  dsimp only
  rw [hp]
  dsimp only
  rw [h]
  exact hK

/-- A loop, one round at a time. -/
theorem loopW_fold {body : Fr → St → KC → Prop} {mask : List Bool} {n0 : Nat} {K : KC} (hmono : ∀ fr σ (K K' : KC), (∀ e fr σ, K e fr σ → K' e fr σ) → body fr σ K → body fr σ K')
    (hu : underL n0 (keep mask fr) = true) (h : body (keep mask fr) { σ with stk := σ.stk.take n0 } (roundK (fun fr σ => loopW body mask n0 fr σ K) K)) : loopW body mask n0 fr σ K := by
  intro I hI
  refine hI fr σ hu (hmono _ _ _ _ (roundK_mono (fun fr σ hl => ?_) fun _ _ _ h => h) h)
  exact hl I hI
end
end Go.AM
/-! Running lowered code at symbolic values: what is still to be run is data. -/
namespace Go.AM
open Go
set_option linter.unusedVariables false

/-- What is still to be run. -/
inductive Item where
  | c (x : LCode)
  | blk (id : Nat)
  | lp (mask : List Bool) (b : LCode) (n0 : Nat)

def contK (C : CallW) (P : Program) (rd : Bool) : List Item → KC → KC
  | [], K => K
  | .c x :: is, K => roundK (fun fr σ => execL C P rd x fr σ (contK C P rd is K)) (contK C P rd is K)
  | .blk id :: is, K => blockK id (contK C P rd is K)
  | .lp mask b n0 :: is, K => roundK (fun fr σ => loopW (execL C P rd b) mask n0 fr σ (contK C P rd is K)) (contK C P rd is K)

section
variable {C : CallW} {P : Program} {rd : Bool}

def runC (C : CallW) (P : Program) (rd : Bool) (x : LCode) (is : List Item) (fr : Fr) (σ : St) (K : KC) : Prop := execL C P rd x fr σ (contK C P rd is K)
def nxt (C : CallW) (P : Program) (rd : Bool) (is : List Item) (fr : Fr) (σ : St) (K : KC) : Prop := contK C P rd is K .normal fr σ
def ext (C : CallW) (P : Program) (rd : Bool) (id : Nat) (is : List Item) (fr : Fr) (σ : St) (K : KC) : Prop := contK C P rd is K (.exit id) fr σ
def rtn (C : CallW) (P : Program) (rd : Bool) (is : List Item) (fr : Fr) (σ : St) (K : KC) : Prop := contK C P rd is K .ret fr σ
def runS (C : CallW) (P : Program) (rd : Bool) (l : List LStep) (is : List Item) (fr : Fr) (σ : St) (K : KC) : Prop := seqL C l fr σ (contK C P rd is K .normal)
def runT (C : CallW) (P : Program) (rd : Bool) (t : LT) (chk : List LChk) (is : List Item) (fr : Fr) (σ : St) (K : KC) : Prop := planL C t fr σ chk (contK C P rd is K .normal)
def runLp (C : CallW) (P : Program) (rd : Bool) (mask : List Bool) (b : LCode) (n0 : Nat) (is : List Item) (fr : Fr) (σ : St) (K : KC) : Prop := loopW (execL C P rd b) mask n0 fr σ (contK C P rd is K)

def cnd (C : CallW) (P : Program) (rd : Bool) (v : AV) (a b : LCode) (is : List Item) (fr : Fr) (σ : St) (K : KC) : Prop :=
  match v with
  | .s (.bool x) => (x = true → runC C P rd a is fr σ K) ∧ (x = false → runC C P rd b is fr σ K)
  | _ => False

theorem runC_skip {is fr σ K} : runC C P rd .skip is fr σ K = nxt C P rd is fr σ K := (rfl)
theorem runC_sq {l is fr σ K} : runC C P rd (.sq l) is fr σ K = runS C P rd l is fr σ K := (rfl)
theorem runC_tree {t is fr σ K} : runC C P rd (.tree t) is fr σ K = runT C P rd t [] is fr σ K := (rfl)
theorem runC_seq {a b is fr σ K} : runC C P rd (.seq a b) is fr σ K = runC C P rd a (.c b :: is) fr σ K := (rfl)
theorem runC_cond {c a b is fr σ K} : runC C P rd (.cond c a b) is fr σ K = cnd C P rd (opL fr c) a b is fr σ K := by
  show (match opL fr c with | .s (.bool x) => _ | _ => False) = _
  rfl
theorem runC_block {id b is fr σ K} : runC C P rd (.block id b) is fr σ K = runC C P rd b (.blk id :: is) fr σ K := (rfl)
theorem runC_loop {m b is fr S H K} : runC C P rd (.loop m b) is fr ⟨S, H⟩ K = runLp C P rd m b S.length is fr ⟨S, H⟩ K := (rfl)
theorem runC_exit {id is fr σ K} : runC C P rd (.exit id) is fr σ K = ext C P rd id is fr σ K := (rfl)
theorem runC_ret {is fr σ K} : runC C P rd .ret is fr σ K = rtn C P rd is fr σ K := (rfl)
theorem cnd_true {a b is fr σ K} : cnd C P rd (.s (.bool true)) a b is fr σ K = runC C P rd a is fr σ K := by simp [cnd]
theorem cnd_false {a b is fr σ K} : cnd C P rd (.s (.bool false)) a b is fr σ K = runC C P rd b is fr σ K := by simp [cnd]
theorem cnd_of {x : Bool} {a b is fr σ K} : cnd C P rd (.s (.bool x)) a b is fr σ K = ((x = true → runC C P rd a is fr σ K) ∧ (x = false → runC C P rd b is fr σ K)) := (rfl)
theorem nxt_nil {fr σ K} : nxt C P rd [] fr σ K = K .normal fr σ := (rfl)
theorem nxt_c {x is fr σ K} : nxt C P rd (.c x :: is) fr σ K = runC C P rd x is fr σ K := (rfl)
theorem nxt_blk {id is fr σ K} : nxt C P rd (.blk id :: is) fr σ K = nxt C P rd is fr σ K := (rfl)
theorem nxt_lp {m b n0 is fr σ K} : nxt C P rd (.lp m b n0 :: is) fr σ K = runLp C P rd m b n0 is fr σ K := (rfl)
theorem ext_nil {id fr σ K} : ext C P rd id [] fr σ K = K (.exit id) fr σ := (rfl)
theorem ext_c {id x is fr σ K} : ext C P rd id (.c x :: is) fr σ K = ext C P rd id is fr σ K := (rfl)
theorem ext_blk {id id' is fr σ K} : ext C P rd id (.blk id' :: is) fr σ K = if id = id' then nxt C P rd is fr σ K else ext C P rd id is fr σ K := (rfl)
theorem ext_lp {id m b n0 is fr σ K} : ext C P rd id (.lp m b n0 :: is) fr σ K = ext C P rd id is fr σ K := (rfl)
theorem rtn_nil {fr σ K} : rtn C P rd [] fr σ K = K .ret fr σ := (rfl)
theorem rtn_c {x is fr σ K} : rtn C P rd (.c x :: is) fr σ K = rtn C P rd is fr σ K := (rfl)
theorem rtn_blk {id is fr σ K} : rtn C P rd (.blk id :: is) fr σ K = rtn C P rd is fr σ K := (rfl)
theorem rtn_lp {m b n0 is fr σ K} : rtn C P rd (.lp m b n0 :: is) fr σ K = rtn C P rd is fr σ K := (rfl)

/-- Behind an operation. -/
def thn (C : CallW) (P : Program) (rd : Bool) (d : Option Nat) (l : List LStep) (is : List Item) (K : KC) : Option (AV × Fr × St) → Prop
  | some (v, fr, σ) => runS C P rd l is (putA d v fr) σ K
  | none => False

/-- Behind a call. -/
def bak (C : CallW) (P : Program) (rd : Bool) (d : Option Nat) (l : List LStep) (is : List Item) (K : KC) (fr : Fr) (v : AV) (σ : St) : Prop := runS C P rd l is (putA d v fr) σ K

def call (C : CallW) (P : Program) (rd : Bool) (d : Option Nat) (l : List LStep) (is : List Item) (K : KC) (σ : St) (g : AV) (r : List AV × Fr) : Prop :=
  match g with
  | .fn (.func h) first captured => C (.fn h) (first ++ r.1 ++ captured) σ (bak C P rd d l is K r.2)
  | .yield h => C (.yield h) r.1 σ (bak C P rd d l is K r.2)
  | _ => False

def mayb : LOp → Fr → Bool
  | .bin op (.ref 1) x y, fr => isEq op && maybeNil (seL fr x) (seL fr y)
  | _, _ => false

/-- Of what is not known both must be borne. -/
def mb (C : CallW) (P : Program) (rd : Bool) (d : Option Nat) (l : List LStep) (is : List Item) (K : KC) (fr : Fr) (σ : St) (q : Prop) : Bool → Prop
  | true => ∀ b, runS C P rd l is (putA d (.bool b) fr) σ K
  | false => q

/-- An operation, and what is behind it. -/
def opS (C : CallW) (P : Program) (rd : Bool) (d : Option Nat) (op : LOp) (l : List LStep) (is : List Item) (fr : Fr) (σ : St) (K : KC) : Prop :=
  mb C P rd d l is K fr σ (doL C op (settleL fr (settledL op)) σ fun v fr' σ' => runS C P rd l is (putA d v fr') σ' K) (mayb op fr)

/-- Under a guard. -/
def grd (C : CallW) (P : Program) (rd : Bool) (d : Option Nat) (op : LOp) (l : List LStep) (is : List Item) (fr : Fr) (σ : St) (K : KC) : Option Bool → Prop
  | some g => (g = true → opS C P rd d op l is fr σ K) ∧ (g = false → runS C P rd l is (putA d (.tup []) fr) σ K)
  | none => False

theorem runS_nil {is fr σ K} : runS C P rd [] is fr σ K = nxt C P rd is fr σ K := (rfl)
theorem runS_op {d op l is fr σ K} : runS C P rd (⟨d, none, op⟩ :: l) is fr σ K = opS C P rd d op l is fr σ K := by
  have e : maybeS ⟨d, none, op⟩ fr = mayb op fr := by
    unfold maybeS mayb
    split
    · rename_i h; dsimp only at h; subst h; simp [guardL]
    · rename_i h
      split
      · rename_i h'; exact (h _ _ _ rfl).elim
      · rfl
  simp only [runS, seqL, opS, e]
  cases mayb op fr with
  | true => rfl
  | false => simp only [stepL, guardL, mb, true_implies, reduceCtorEq, false_implies, and_true, runS]
theorem runS_grd {d j w op l is fr σ K} : runS C P rd (⟨d, some (j, w), op⟩ :: l) is fr σ K = grd C P rd d op l is fr σ K (guardL fr (some (j, w))) := by
  have e : maybeS ⟨d, some (j, w), op⟩ fr = (mayb op fr && (guardL fr (some (j, w))) == some true) := by
    unfold maybeS mayb
    split
    · rename_i h; dsimp only at h; subst h
      cases hg : guardL fr (some (j, w)) with
      | none => simp
      | some b => cases b <;> simp
    · rename_i h
      split
      · rename_i h'; exact (h _ _ _ rfl).elim
      · rfl
  simp only [runS, seqL, e]
  cases hg : guardL fr (some (j, w)) with
  | none =>
    rw [show (mayb op fr && (none : Option Bool) == some true) = false by simp]
    simp only [stepL, hg, grd]
  | some b =>
    cases b with
    | false =>
      rw [show (mayb op fr && some false == some true) = false by simp]
      simp only [stepL, hg, grd, reduceCtorEq, false_implies, true_implies, true_and, runS]
    | true =>
      rw [show (mayb op fr && some true == some true) = mayb op fr by simp]
      simp only [grd, reduceCtorEq, false_implies, true_implies, and_true, opS]
      cases mayb op fr with
      | true => rfl
      | false => simp only [stepL, hg, mb, true_implies, reduceCtorEq, false_implies, and_true, runS]
theorem grd_true {d op l is fr σ K} : grd C P rd d op l is fr σ K (some true) = opS C P rd d op l is fr σ K := by simp [grd]
theorem grd_false {d op l is fr σ K} : grd C P rd d op l is fr σ K (some false) = runS C P rd l is (putA d (.tup []) fr) σ K := by simp [grd]

theorem opS_plain {d op l is fr σ K} (hp : op.plain = true) (hm : mayb op fr = false) : opS C P rd d op l is fr σ K = thn C P rd d l is K (evL op (settleL fr (settledL op)) σ) := by
  unfold opS
  rw [doL_plain hp, hm]
  show (match evL op (settleL fr (settledL op)) σ with | some r => _ | none => False) = _
  cases evL op (settleL fr (settledL op)) σ <;> rfl

theorem thn_some {d l is K v fr σ} : thn C P rd d l is K (some (v, fr, σ)) = runS C P rd l is (putA d v fr) σ K := (rfl)

theorem opS_call {d g args l is fr σ K} : opS C P rd d (.call g args) l is fr σ K = call C P rd d l is K σ (seL fr g) (tkAllL fr args) := by
  unfold opS call
  rw [show mayb (.call g args) fr = false from rfl]
  simp only [mb]
  unfold doL
  simp only [settledL, settleL]
  cases seL fr g with
  | fn fn a c => cases fn <;> rfl
  | _ => rfl
theorem call_fn {d l is K σ h a c vs fr} : call C P rd d l is K σ (.fn (.func h) a c) (vs, fr) = C (.fn h) (a ++ vs ++ c) σ (bak C P rd d l is K fr) := (rfl)
theorem call_yield {d l is K σ h vs fr} : call C P rd d l is K σ (.yield h) (vs, fr) = C (.yield h) vs σ (bak C P rd d l is K fr) := (rfl)
theorem bak_eq {d l is K fr v σ} : bak C P rd d l is K fr v σ = runS C P rd l is (putA d v fr) σ K := (rfl)

/-! The operations, one by one -/
theorem e_mv {d tk x l is fr σ K} : opS C P rd d (.mv tk x) l is fr σ K = runS C P rd l is (putA d (tkL tk fr x).1 (tkL tk fr x).2) σ K := (rfl)
theorem e_pick {d c a b l is fr σ K} : opS C P rd d (.pick c a b) l is fr σ K = thn C P rd d l is K (evL (.pick c a b) fr σ) := opS_plain rfl rfl
theorem e_alloc {d hp z l is fr σ K} : opS C P rd d (.alloc hp z) l is fr σ K = thn C P rd d l is K ((newBox hp z σ).map fun r => (.ptr r.1 0, fr, r.2)) := opS_plain rfl rfl
theorem e_box {d tk hp x l is fr σ K} : opS C P rd d (.box tk hp x) l is fr σ K = thn C P rd d l is K (evL (.box tk hp x) fr σ) := opS_plain rfl rfl
theorem e_build {d z ps l is fr σ K} : opS C P rd d (.build z ps) l is fr σ K = thn C P rd d l is K (evL (.build z ps) (settleL fr (ps.map (·.2.2))) σ) := opS_plain rfl rfl
theorem e_bsl {d e n ps l is fr σ K} : opS C P rd d (.bsl e n ps) l is fr σ K = thn C P rd d l is K (evL (.bsl e n ps) (settleL fr (ps.map (·.2))) σ) := opS_plain rfl rfl
theorem e_loadA {d n x l is fr σ K} : opS C P rd d (.loadA n x) l is fr σ K = thn C P rd d l is K ((readA σ (seL fr x) n).map fun v => (v, fr, σ)) := opS_plain rfl rfl
theorem e_load1 {d tk x l is fr σ K} : opS C P rd d (.load1 tk x) l is fr σ K = thn C P rd d l is K ((load1L tk (seL fr x) σ).map fun r => (r.1, fr, r.2)) := opS_plain rfl rfl
theorem e_store {d n p x l is fr σ K} : opS C P rd d (.store n p x) l is fr σ K = thn C P rd d l is K ((storeL n (seL (tkL true fr x).2 p) (tkL true fr x).1.calm σ).map fun σ => (.undef, (tkL true fr x).2, σ)) := opS_plain rfl rfl
theorem e_nilc {d x l is fr σ K} : opS C P rd d (.nilc x) l is fr σ K = thn C P rd d l is K (evL (.nilc x) fr σ) := opS_plain rfl rfl
theorem e_bin {d op k x y l is fr σ K} : opS C P rd d (.bin op k x y) l is fr σ K = mb C P rd d l is K fr σ (thn C P rd d l is K ((binL op k (seL fr x) (seL fr y)).map fun v => (v, fr, σ))) (mayb (.bin op k x y) fr) := by
  cases hm : mayb (.bin op k x y) fr with
  | false => exact opS_plain rfl hm
  | true => unfold opS; rw [hm]; rfl
theorem mb_t {d l is K fr σ q} : mb C P rd d l is K fr σ q true = ∀ b, runS C P rd l is (putA d (.bool b) fr) σ K := (rfl)
theorem mb_f {d l is K fr σ q} : mb C P rd d l is K fr σ q false = q := (rfl)
theorem mayb_sc {op x y fr} : mayb (.bin op .sc x y) fr = false := (rfl)
theorem mayb_bl {op x y fr} : mayb (.bin op .bl x y) fr = false := (rfl)
theorem mayb_leaf {op ls x y fr} : mayb (.bin op (.leaf ls) x y) fr = false := (rfl)
theorem mayb_r0 {op x y fr} : mayb (.bin op (.ref 0) x y) fr = false := (rfl)
theorem mayb_r1 {op x y fr} : mayb (.bin op (.ref 1) x y) fr = (isEq op && maybeNil (seL fr x) (seL fr y)) := (rfl)
theorem mayb_r2 {op x y fr} : mayb (.bin op (.ref 2) x y) fr = false := (rfl)
theorem mayb_r3 {op x y fr} : mayb (.bin op (.ref 3) x y) fr = false := (rfl)
theorem e_un {d op x l is fr σ K} : opS C P rd d (.un op x) l is fr σ K = thn C P rd d l is K ((unL op (seL fr x)).map fun v => (v, fr, σ)) := opS_plain rfl rfl
theorem e_conv {d k x l is fr σ K} : opS C P rd d (.conv k x) l is fr σ K = thn C P rd d l is K ((convL k (seL (settleL fr [x]) x) σ).map fun v => (v, settleL fr [x], σ)) := opS_plain rfl rfl
theorem e_mkfn {d f a b l is fr σ K} : opS C P rd d (.mkfn f a b) l is fr σ K = runS C P rd l is (putA d (.fn (.func f) (a.map (seL fr)) (b.map (seL fr))) fr) σ K := (rfl)
theorem e_mkmap {d r l is fr σ K} : opS C P rd d (.mkmap r) l is fr σ K = thn C P rd d l is K (evL (.mkmap r) fr σ) := opS_plain rfl rfl
theorem e_mksl {d tk hp e a c l is fr σ K} : opS C P rd d (.mksl tk hp e a c) l is fr σ K = thn C P rd d l is K ((mkslL tk hp e (seL fr a) (seL fr c) σ).map fun r => (r.1, fr, r.2)) := opS_plain rfl rfl
theorem e_slc {d k x lo hi mx l is fr σ K} : opS C P rd d (.slc k x lo hi mx) l is fr σ K = thn C P rd d l is K ((sliceL k (seL (settleL fr [x]) x) (lo.map (seL (settleL fr [x]))) (hi.map (seL (settleL fr [x]))) (mx.map (seL (settleL fr [x])))).map fun v => (v, settleL fr [x], σ)) := opS_plain rfl rfl
theorem e_shift {d o x l is fr σ K} : opS C P rd d (.shift o x) l is fr σ K = thn C P rd d l is K ((shift (seL fr x) o).map fun v => (v, fr, σ)) := opS_plain rfl rfl
theorem e_part {d ag o x l is fr σ K} : opS C P rd d (.part ag o x) l is fr σ K = thn C P rd d l is K (evL (.part ag o x) fr σ) := opS_plain rfl rfl
theorem e_ixa {d k x i l is fr σ K} : opS C P rd d (.ixa k x i) l is fr σ K = thn C P rd d l is K ((indexAddrL k (seL (settleL fr [x]) x) (seL (settleL fr [x]) i)).map fun v => (v, settleL fr [x], σ)) := opS_plain rfl rfl
theorem e_ixs {d x i l is fr σ K} : opS C P rd d (.ixs x i) l is fr σ K = thn C P rd d l is K (evL (.ixs x i) fr σ) := opS_plain rfl rfl
theorem e_ixv {d n c ag x i l is fr σ K} : opS C P rd d (.ixv n c ag x i) l is fr σ K = thn C P rd d l is K (evL (.ixv n c ag x i) fr σ) := opS_plain rfl rfl
theorem e_look {d kk z ok m k l is fr σ K} : opS C P rd d (.look kk z ok m k) l is fr σ K = thn C P rd d l is K ((lookupL kk z ok (seL fr m) (seL fr k) σ).map fun v => (v, fr, σ)) := opS_plain rfl rfl
theorem e_upd {d kk m k v l is fr σ K} : opS C P rd d (.upd kk m k v) l is fr σ K = thn C P rd d l is K (evL (.upd kk m k v) (settleL fr [v]) σ) := opS_plain rfl rfl
theorem e_ext {d x i l is fr σ K} : opS C P rd d (.ext x i) l is fr σ K = thn C P rd d l is K (evL (.ext x i) fr σ) := opS_plain rfl rfl
theorem e_len {d k x l is fr σ K} : opS C P rd d (.len k x) l is fr σ K = thn C P rd d l is K ((lenL k (seL (settleL fr [x]) x) σ).map fun (n : Nat) => (AV.i n, settleL fr [x], σ)) := opS_plain rfl rfl
theorem e_cap {d x l is fr σ K} : opS C P rd d (.cap x) l is fr σ K = thn C P rd d l is K ((capL (seL (settleL fr [x]) x)).map fun (n : Nat) => (AV.i n, settleL fr [x], σ)) := opS_plain rfl rfl
theorem e_app {d e b s x l is fr σ K} : opS C P rd d (.app e b s x) l is fr σ K = thn C P rd d l is K (evL (.app e b s x) (settleL fr [x]) σ) := opS_plain rfl rfl
theorem e_cpy {d e b s x l is fr σ K} : opS C P rd d (.cpy e b s x) l is fr σ K = thn C P rd d l is K ((copyL e b (seL fr s) (seL fr x) σ).map fun r => (r.1, fr, r.2)) := opS_plain rfl rfl
theorem e_del {d kk m k l is fr σ K} : opS C P rd d (.del kk m k) l is fr σ K = thn C P rd d l is K ((deleteL kk (seL fr m) (seL fr k) σ).map fun σ => (.tup [], fr, σ)) := opS_plain rfl rfl
theorem e_clr {d e x l is fr σ K} : opS C P rd d (.clr e x) l is fr σ K = thn C P rd d l is K ((clearL e (seL fr x) σ).map fun σ => (.tup [], fr, σ)) := opS_plain rfl rfl
theorem e_mn {d x y l is fr σ K} : opS C P rd d (.mn x y) l is fr σ K = thn C P rd d l is K (evL (.mn x y) fr σ) := opS_plain rfl rfl
theorem e_mx {d x y l is fr σ K} : opS C P rd d (.mx x y) l is fr σ K = thn C P rd d l is K (evL (.mx x y) fr σ) := opS_plain rfl rfl
theorem e_thaw {d t l is fr σ K} : opS C P rd d (.thaw t) l is fr σ K = thn C P rd d l is K (AM.thaw fr (.tmp t) σ) := opS_plain rfl rfl
theorem e_frz {d e x l is fr σ K} : opS C P rd d (.frz e x) l is fr σ K = thn C P rd d l is K ((freezeL e (seL fr x) σ).map fun r => (r.1, fr, r.2)) := opS_plain rfl rfl

/-! Regions of a drawn order -/
def rdV (C : CallW) (P : Program) (rd : Bool) (s : LStep) (i : Nat) (ck : Bool) (rest : LT) (chk : List LChk) (is : List Item) (fr : Fr) (σ : St) (K : KC) : Option AV → Prop
  | some v => runT C P rd rest (if (ck && depL fr s.op) = true then ⟨i, s, fr, v⟩ :: chk else chk) is (putA s.dst v fr) σ K
  | none => False
def rdG (C : CallW) (P : Program) (rd : Bool) (s : LStep) (i : Nat) (ck : Bool) (rest : LT) (chk : List LChk) (is : List Item) (fr : Fr) (σ : St) (K : KC) : Option Bool → Prop
  | some g => (g = true → rdV C P rd s i ck rest chk is fr σ K (readL s fr σ)) ∧ (g = false → runT C P rd rest chk is (putA s.dst (.tup []) fr) σ K)
  | none => False
def mvK (C : CallW) (P : Program) (rd : Bool) (drop : List Nat) (chk : List LChk) (rest : LT) (is : List Item) (K : KC) (fr : Fr) (σ : St) : Prop :=
  (chk.filter fun c => !drop.contains c.i).all (fun c => c.ok σ) = true ∧ runT C P rd rest (chk.filter fun c => !drop.contains c.i) is fr σ K
def opT (C : CallW) (P : Program) (rd : Bool) (d : Option Nat) (op : LOp) (drop : List Nat) (chk : List LChk) (rest : LT) (is : List Item) (K : KC) (fr : Fr) (σ : St) : Prop :=
  doL C op (settleL fr (settledL op)) σ fun v fr' σ' => mvK C P rd drop chk rest is K (putA d v fr') σ'
def mvG (C : CallW) (P : Program) (rd : Bool) (d : Option Nat) (op : LOp) (drop : List Nat) (chk : List LChk) (rest : LT) (is : List Item) (K : KC) (fr : Fr) (σ : St) : Option Bool → Prop
  | some g => (g = true → opT C P rd d op drop chk rest is K fr σ) ∧ (g = false → mvK C P rd drop chk rest is K (putA d (.tup []) fr) σ)
  | none => False
def thnT (C : CallW) (P : Program) (rd : Bool) (d : Option Nat) (drop : List Nat) (chk : List LChk) (rest : LT) (is : List Item) (K : KC) : Option (AV × Fr × St) → Prop
  | some (v, fr, σ) => mvK C P rd drop chk rest is K (putA d v fr) σ
  | none => False
def bakT (C : CallW) (P : Program) (rd : Bool) (d : Option Nat) (drop : List Nat) (chk : List LChk) (rest : LT) (is : List Item) (K : KC) (fr : Fr) (v : AV) (σ : St) : Prop := mvK C P rd drop chk rest is K (putA d v fr) σ
def callT (C : CallW) (P : Program) (rd : Bool) (d : Option Nat) (drop : List Nat) (chk : List LChk) (rest : LT) (is : List Item) (K : KC) (σ : St) (g : AV) (r : List AV × Fr) : Prop :=
  match g with
  | .fn (.func h) first captured => C (.fn h) (first ++ r.1 ++ captured) σ (bakT C P rd d drop chk rest is K r.2)
  | .yield h => C (.yield h) r.1 σ (bakT C P rd d drop chk rest is K r.2)
  | _ => False

theorem runT_done {chk is fr σ K} : runT C P rd .done chk is fr σ K = nxt C P rd is fr σ K := (rfl)
theorem runT_stop {chk is fr σ K} : runT C P rd .stop chk is fr σ K = True := (rfl)
theorem runT_rd {s i ck rest chk is fr σ K} : runT C P rd (.rd s i ck rest) chk is fr σ K = rdG C P rd s i ck rest chk is fr σ K (guardL fr s.guard) := by
  show (match guardL fr s.guard with | some g => _ | none => False) = _
  cases guardL fr s.guard with
  | none => rfl
  | some g =>
    show (_ ∧ _) = (_ ∧ _)
    refine congr (congrArg And ?_) rfl
    cases readL s fr σ <;> rfl
theorem rdG_true {s i ck rest chk is fr σ K} : rdG C P rd s i ck rest chk is fr σ K (some true) = rdV C P rd s i ck rest chk is fr σ K (readL s fr σ) := by simp [rdG]
theorem rdG_false {s i ck rest chk is fr σ K} : rdG C P rd s i ck rest chk is fr σ K (some false) = runT C P rd rest chk is (putA s.dst (.tup []) fr) σ K := by simp [rdG]
theorem rdV_some {s i ck rest chk is fr σ K v} : rdV C P rd s i ck rest chk is fr σ K (some v) = runT C P rd rest (if (ck && depL fr s.op) = true then ⟨i, s, fr, v⟩ :: chk else chk) is (putA s.dst v fr) σ K := (rfl)
theorem runT_mv {d g op drop rest alt chk is fr σ K} : runT C P rd (.mv ⟨d, g, op⟩ drop rest alt) chk is fr σ K = (mvG C P rd d op drop chk rest is K fr σ (guardL fr g) ∧ runT C P rd alt chk is fr σ K) := by
  show (stepL C ⟨d, g, op⟩ fr σ _ ∧ _) = _
  refine congr (congrArg And ?_) rfl
  unfold stepL
  cases guardL fr g <;> rfl
theorem mvG_true {d op drop rest chk is fr σ K} : mvG C P rd d op drop chk rest is K fr σ (some true) = opT C P rd d op drop chk rest is K fr σ := by simp [mvG]
theorem mvG_false {d op drop rest chk is fr σ K} : mvG C P rd d op drop chk rest is K fr σ (some false) = mvK C P rd drop chk rest is K (putA d (.tup []) fr) σ := by simp [mvG]
theorem opT_plain {d op drop rest chk is fr σ K} (hp : op.plain = true) : opT C P rd d op drop chk rest is K fr σ = thnT C P rd d drop chk rest is K (evL op (settleL fr (settledL op)) σ) := by
  unfold opT
  rw [doL_plain hp]
  cases evL op (settleL fr (settledL op)) σ <;> rfl
theorem t_mv {d tk x drop rest chk is fr σ K} : opT C P rd d (.mv tk x) drop chk rest is K fr σ = thnT C P rd d drop chk rest is K (evL (.mv tk x) (settleL fr (settledL (.mv tk x))) σ) := opT_plain rfl
theorem t_pick {d c a b drop rest chk is fr σ K} : opT C P rd d (.pick c a b) drop chk rest is K fr σ = thnT C P rd d drop chk rest is K (evL (.pick c a b) (settleL fr (settledL (.pick c a b))) σ) := opT_plain rfl
theorem t_alloc {d hp z drop rest chk is fr σ K} : opT C P rd d (.alloc hp z) drop chk rest is K fr σ = thnT C P rd d drop chk rest is K (evL (.alloc hp z) (settleL fr (settledL (.alloc hp z))) σ) := opT_plain rfl
theorem t_box {d tk hp x drop rest chk is fr σ K} : opT C P rd d (.box tk hp x) drop chk rest is K fr σ = thnT C P rd d drop chk rest is K (evL (.box tk hp x) (settleL fr (settledL (.box tk hp x))) σ) := opT_plain rfl
theorem t_build {d z ps drop rest chk is fr σ K} : opT C P rd d (.build z ps) drop chk rest is K fr σ = thnT C P rd d drop chk rest is K (evL (.build z ps) (settleL fr (settledL (.build z ps))) σ) := opT_plain rfl
theorem t_bsl {d e n ps drop rest chk is fr σ K} : opT C P rd d (.bsl e n ps) drop chk rest is K fr σ = thnT C P rd d drop chk rest is K (evL (.bsl e n ps) (settleL fr (settledL (.bsl e n ps))) σ) := opT_plain rfl
theorem t_loadA {d n x drop rest chk is fr σ K} : opT C P rd d (.loadA n x) drop chk rest is K fr σ = thnT C P rd d drop chk rest is K (evL (.loadA n x) (settleL fr (settledL (.loadA n x))) σ) := opT_plain rfl
theorem t_load1 {d tk x drop rest chk is fr σ K} : opT C P rd d (.load1 tk x) drop chk rest is K fr σ = thnT C P rd d drop chk rest is K (evL (.load1 tk x) (settleL fr (settledL (.load1 tk x))) σ) := opT_plain rfl
theorem t_store {d n p x drop rest chk is fr σ K} : opT C P rd d (.store n p x) drop chk rest is K fr σ = thnT C P rd d drop chk rest is K (evL (.store n p x) (settleL fr (settledL (.store n p x))) σ) := opT_plain rfl
theorem t_nilc {d x drop rest chk is fr σ K} : opT C P rd d (.nilc x) drop chk rest is K fr σ = thnT C P rd d drop chk rest is K (evL (.nilc x) (settleL fr (settledL (.nilc x))) σ) := opT_plain rfl
theorem t_bin {d op k x y drop rest chk is fr σ K} : opT C P rd d (.bin op k x y) drop chk rest is K fr σ = thnT C P rd d drop chk rest is K (evL (.bin op k x y) (settleL fr (settledL (.bin op k x y))) σ) := opT_plain rfl
theorem t_un {d op x drop rest chk is fr σ K} : opT C P rd d (.un op x) drop chk rest is K fr σ = thnT C P rd d drop chk rest is K (evL (.un op x) (settleL fr (settledL (.un op x))) σ) := opT_plain rfl
theorem t_conv {d k x drop rest chk is fr σ K} : opT C P rd d (.conv k x) drop chk rest is K fr σ = thnT C P rd d drop chk rest is K (evL (.conv k x) (settleL fr (settledL (.conv k x))) σ) := opT_plain rfl
theorem t_mkfn {d f a b drop rest chk is fr σ K} : opT C P rd d (.mkfn f a b) drop chk rest is K fr σ = thnT C P rd d drop chk rest is K (evL (.mkfn f a b) (settleL fr (settledL (.mkfn f a b))) σ) := opT_plain rfl
theorem t_mkmap {d r drop rest chk is fr σ K} : opT C P rd d (.mkmap r) drop chk rest is K fr σ = thnT C P rd d drop chk rest is K (evL (.mkmap r) (settleL fr (settledL (.mkmap r))) σ) := opT_plain rfl
theorem t_mksl {d tk hp e a c drop rest chk is fr σ K} : opT C P rd d (.mksl tk hp e a c) drop chk rest is K fr σ = thnT C P rd d drop chk rest is K (evL (.mksl tk hp e a c) (settleL fr (settledL (.mksl tk hp e a c))) σ) := opT_plain rfl
theorem t_slc {d k x lo hi mx drop rest chk is fr σ K} : opT C P rd d (.slc k x lo hi mx) drop chk rest is K fr σ = thnT C P rd d drop chk rest is K (evL (.slc k x lo hi mx) (settleL fr (settledL (.slc k x lo hi mx))) σ) := opT_plain rfl
theorem t_shift {d o x drop rest chk is fr σ K} : opT C P rd d (.shift o x) drop chk rest is K fr σ = thnT C P rd d drop chk rest is K (evL (.shift o x) (settleL fr (settledL (.shift o x))) σ) := opT_plain rfl
theorem t_part {d ag o x drop rest chk is fr σ K} : opT C P rd d (.part ag o x) drop chk rest is K fr σ = thnT C P rd d drop chk rest is K (evL (.part ag o x) (settleL fr (settledL (.part ag o x))) σ) := opT_plain rfl
theorem t_ixa {d k x i drop rest chk is fr σ K} : opT C P rd d (.ixa k x i) drop chk rest is K fr σ = thnT C P rd d drop chk rest is K (evL (.ixa k x i) (settleL fr (settledL (.ixa k x i))) σ) := opT_plain rfl
theorem t_ixs {d x i drop rest chk is fr σ K} : opT C P rd d (.ixs x i) drop chk rest is K fr σ = thnT C P rd d drop chk rest is K (evL (.ixs x i) (settleL fr (settledL (.ixs x i))) σ) := opT_plain rfl
theorem t_ixv {d n c ag x i drop rest chk is fr σ K} : opT C P rd d (.ixv n c ag x i) drop chk rest is K fr σ = thnT C P rd d drop chk rest is K (evL (.ixv n c ag x i) (settleL fr (settledL (.ixv n c ag x i))) σ) := opT_plain rfl
theorem t_look {d kk z ok m k drop rest chk is fr σ K} : opT C P rd d (.look kk z ok m k) drop chk rest is K fr σ = thnT C P rd d drop chk rest is K (evL (.look kk z ok m k) (settleL fr (settledL (.look kk z ok m k))) σ) := opT_plain rfl
theorem t_upd {d kk m k v drop rest chk is fr σ K} : opT C P rd d (.upd kk m k v) drop chk rest is K fr σ = thnT C P rd d drop chk rest is K (evL (.upd kk m k v) (settleL fr (settledL (.upd kk m k v))) σ) := opT_plain rfl
theorem t_ext {d x i drop rest chk is fr σ K} : opT C P rd d (.ext x i) drop chk rest is K fr σ = thnT C P rd d drop chk rest is K (evL (.ext x i) (settleL fr (settledL (.ext x i))) σ) := opT_plain rfl
theorem t_len {d k x drop rest chk is fr σ K} : opT C P rd d (.len k x) drop chk rest is K fr σ = thnT C P rd d drop chk rest is K (evL (.len k x) (settleL fr (settledL (.len k x))) σ) := opT_plain rfl
theorem t_cap {d x drop rest chk is fr σ K} : opT C P rd d (.cap x) drop chk rest is K fr σ = thnT C P rd d drop chk rest is K (evL (.cap x) (settleL fr (settledL (.cap x))) σ) := opT_plain rfl
theorem t_app {d e b s x drop rest chk is fr σ K} : opT C P rd d (.app e b s x) drop chk rest is K fr σ = thnT C P rd d drop chk rest is K (evL (.app e b s x) (settleL fr (settledL (.app e b s x))) σ) := opT_plain rfl
theorem t_cpy {d e b s x drop rest chk is fr σ K} : opT C P rd d (.cpy e b s x) drop chk rest is K fr σ = thnT C P rd d drop chk rest is K (evL (.cpy e b s x) (settleL fr (settledL (.cpy e b s x))) σ) := opT_plain rfl
theorem t_del {d kk m k drop rest chk is fr σ K} : opT C P rd d (.del kk m k) drop chk rest is K fr σ = thnT C P rd d drop chk rest is K (evL (.del kk m k) (settleL fr (settledL (.del kk m k))) σ) := opT_plain rfl
theorem t_clr {d e x drop rest chk is fr σ K} : opT C P rd d (.clr e x) drop chk rest is K fr σ = thnT C P rd d drop chk rest is K (evL (.clr e x) (settleL fr (settledL (.clr e x))) σ) := opT_plain rfl
theorem t_mn {d x y drop rest chk is fr σ K} : opT C P rd d (.mn x y) drop chk rest is K fr σ = thnT C P rd d drop chk rest is K (evL (.mn x y) (settleL fr (settledL (.mn x y))) σ) := opT_plain rfl
theorem t_mx {d x y drop rest chk is fr σ K} : opT C P rd d (.mx x y) drop chk rest is K fr σ = thnT C P rd d drop chk rest is K (evL (.mx x y) (settleL fr (settledL (.mx x y))) σ) := opT_plain rfl
theorem t_thaw {d t drop rest chk is fr σ K} : opT C P rd d (.thaw t) drop chk rest is K fr σ = thnT C P rd d drop chk rest is K (evL (.thaw t) (settleL fr (settledL (.thaw t))) σ) := opT_plain rfl
theorem t_frz {d e x drop rest chk is fr σ K} : opT C P rd d (.frz e x) drop chk rest is K fr σ = thnT C P rd d drop chk rest is K (evL (.frz e x) (settleL fr (settledL (.frz e x))) σ) := opT_plain rfl
theorem thnT_some {d drop rest chk is K v fr σ} : thnT C P rd d drop chk rest is K (some (v, fr, σ)) = mvK C P rd drop chk rest is K (putA d v fr) σ := (rfl)
theorem opT_call {d g args drop rest chk is fr σ K} : opT C P rd d (.call g args) drop chk rest is K fr σ = callT C P rd d drop chk rest is K σ (seL fr g) (tkAllL fr args) := by
  unfold opT callT doL
  simp only [settledL, settleL]
  cases seL fr g with
  | fn fn a c => cases fn <;> rfl
  | _ => rfl
theorem callT_fn {d drop rest chk is K σ h a c vs fr} : callT C P rd d drop chk rest is K σ (.fn (.func h) a c) (vs, fr) = C (.fn h) (a ++ vs ++ c) σ (bakT C P rd d drop chk rest is K fr) := (rfl)
theorem callT_yield {d drop rest chk is K σ h vs fr} : callT C P rd d drop chk rest is K σ (.yield h) (vs, fr) = C (.yield h) vs σ (bakT C P rd d drop chk rest is K fr) := (rfl)
theorem bakT_eq {d drop rest chk is K fr v σ} : bakT C P rd d drop chk rest is K fr v σ = mvK C P rd drop chk rest is K (putA d v fr) σ := (rfl)
theorem mvK_nil {drop rest is K fr σ} : mvK C P rd drop [] rest is K fr σ = runT C P rd rest [] is fr σ K := by simp [mvK]
theorem mvK_eq {drop chk rest is K fr σ} : mvK C P rd drop chk rest is K fr σ = ((chk.filter fun c => !drop.contains c.i).all (fun c => c.ok σ) = true ∧ runT C P rd rest (chk.filter fun c => !drop.contains c.i) is fr σ K) := (rfl)

theorem unfC {x y : LCode} (h : x = y) : ∀ {C : CallW} {P : Program} {rd : Bool} {is : List Item} {fr : Fr} {σ : St} {K : KC}, runC C P rd x is fr σ K = runC C P rd y is fr σ K := by subst h; intros; rfl
def cs (l : List FuncId) (n : Nat) : FuncId := l.getD n 0

/-! A function -/
def fin (base : Nat) (rs : List LR) (K : AV → St → Prop) : KC := finL base rs K

theorem run_fn {F : LFn} {args : List AV} {S H} {K : AV → St → Prop} : runL C P F args ⟨S, H⟩ K = runC C P false F.code [] (args ++ List.replicate (F.ntmps - args.length) .undef) ⟨S, H⟩ (fin S.length F.res K) := (rfl)

def end1 (base : Nat) (K : AV → St → Prop) (σ : St) : Option (List AV) → Prop
  | some [v] => v.under base = true ∧ K v { σ with stk := σ.stk.take base }
  | some vs => underL base vs = true ∧ K (.tup (vs.map AV.look)) { σ with stk := σ.stk.take base }
  | none => False

theorem fin_ret {base rs K fr σ} : fin base rs K .ret fr σ = end1 base K σ (ressL fr σ rs) := (rfl)
theorem fin_normal {base rs K fr σ} : fin base rs K .normal fr σ = end1 base K σ (ressL fr σ rs) := (rfl)
theorem end1_nil {base K S H} : end1 base K ⟨S, H⟩ (some []) = K (.tup []) ⟨S.take base, H⟩ := by simp [end1, AV.under.go]
theorem end1_one {base K S H v} : end1 base K ⟨S, H⟩ (some [v]) = (v.under base = true ∧ K v ⟨S.take base, H⟩) := (rfl)
theorem end1_two {base K S H v u} : end1 base K ⟨S, H⟩ (some [v, u]) = (underL base [v, u] = true ∧ K (.tup [v.look, u.look]) ⟨S.take base, H⟩) := (rfl)
theorem end1_three {base K S H v u t} : end1 base K ⟨S, H⟩ (some [v, u, t]) = (underL base [v, u, t] = true ∧ K (.tup [v.look, u.look, t.look]) ⟨S.take base, H⟩) := (rfl)
theorem end1_four {base K S H v u t s} : end1 base K ⟨S, H⟩ (some [v, u, t, s]) = (underL base [v, u, t, s] = true ∧ K (.tup [v.look, u.look, t.look, s.look]) ⟨S.take base, H⟩) := (rfl)

def cns (v : AV) : Option (List AV) → Option (List AV)
  | some vs => some (v :: vs)
  | none => none
theorem ress_nil {fr σ} : ressL fr σ [] = some [] := (rfl)
theorem ress_t {fr σ n rs} : ressL fr σ (.t n :: rs) = cns (fr.getD n .undef) (ressL fr σ rs) := by
  simp only [ressL, resL]
  cases ressL fr σ rs <;> rfl
theorem cns_some {v vs} : cns v (some vs) = some (v :: vs) := (rfl)
def cns2 (v : Option AV) (r : Option (List AV)) : Option (List AV) := match v with
  | some v => cns v r
  | none => none
theorem ress_many {fr σ a n rs} : ressL fr σ (.many a n :: rs) = cns2 (readA σ (fr.getD a .undef) n) (ressL fr σ rs) := by
  simp only [ressL, resL, cns2]
  cases readA σ (fr.getD a .undef) n <;> cases ressL fr σ rs <;> rfl
theorem ress_one {fr σ a rs} : ressL fr σ (.one a :: rs) = cns2 ((load1L false (fr.getD a .undef) σ).map (·.1)) (ressL fr σ rs) := by
  simp only [ressL, resL, cns2]
  cases (load1L false (fr.getD a .undef) σ).map (·.1) <;> cases ressL fr σ rs <;> rfl
theorem cns2_some {v r} : cns2 (some v) r = cns v r := (rfl)

/-! Loops -/
theorem doL_mono (hC : LeC C C) {op : LOp} {fr σ} {K K' : AV → Fr → St → Prop} (hK : ∀ v fr σ, K v fr σ → K' v fr σ) : doL C op fr σ K → doL C op fr σ K' := by
  unfold doL
  split
  · split
    · split
      · exact fun h1 => hK _ _ _ h1
      · exact id
    · exact fun h1 => hK _ _ _ h1
    · exact id
  · split
    · split
      · exact fun h1 => hK _ _ _ h1
      · split
        · exact fun h1 => ⟨h1.1, fun k => hK _ _ _ (h1.2.1 k), fun e he hs => hK _ _ _ (h1.2.2 e he hs)⟩
        · exact id
    · exact id
  · split
    · split
      · split
        · refine fun h1 => ⟨h1.1, ?_⟩
          have h2 := h1.2
          split at h2
          · exact hK _ _ _ h2
          · exact h2
        · exact id
      · exact id
    · exact id
  · split
    · exact fun h1 => hC _ _ _ _ _ (fun v s k => hK _ _ _ k) h1
    · exact fun h1 => hC _ _ _ _ _ (fun v s k => hK _ _ _ k) h1
    · exact id
  · split
    · exact fun h1 => hK _ _ _ h1
    · exact id

theorem stepL_mono (hC : LeC C C) {s : LStep} {fr σ} {K K' : Fr → St → Prop} (hK : ∀ fr σ, K fr σ → K' fr σ) (h : stepL C s fr σ K) : stepL C s fr σ K' := by
  unfold stepL at h ⊢
  split at h
  · exact ⟨fun hg => doL_mono hC (fun _ _ _ k => hK _ _ k) (h.1 hg), fun hg => hK _ _ (h.2 hg)⟩
  · exact h

theorem seqL_mono {hC : LeC C C} : ∀ (l : List LStep) {fr σ} {K K' : Fr → St → Prop}, (∀ fr σ, K fr σ → K' fr σ) → seqL C l fr σ K → seqL C l fr σ K' := by
  intro l
  induction l with
  | nil => intro fr σ K K' hK h; exact hK _ _ h
  | cons s l ih =>
    intro fr σ K K' hK h
    simp only [seqL] at h ⊢
    split at h
    · exact fun b => ih hK (h b)
    · exact stepL_mono hC (fun _ _ k => ih hK k) h

theorem planL_mono (hC : LeC C C) : ∀ (t : LT) {fr σ chk} {K K' : Fr → St → Prop}, (∀ fr σ, K fr σ → K' fr σ) → planL C t fr σ chk K → planL C t fr σ chk K'
  | .done, fr, σ, chk, K, K', hK, h => hK _ _ h
  | .stop, fr, σ, chk, K, K', hK, h => trivial
  | .rd s i ck rest, fr, σ, chk, K, K', hK, h => by
    simp only [planL] at h ⊢
    split at h
    · refine ⟨fun hg => ?_, fun hg => planL_mono hC rest hK (h.2 hg)⟩
      have h1 := h.1 hg
      split at h1
      · exact planL_mono hC rest hK h1
      · exact h1
    · exact h
  | .mv s drop rest alt, fr, σ, chk, K, K', hK, h => by
    simp only [planL] at h ⊢
    exact ⟨stepL_mono hC (fun fr σ k => ⟨k.1, planL_mono hC rest hK k.2⟩) h.1, planL_mono hC alt hK h.2⟩

theorem execL_mono (hC : LeC C C) : ∀ (c : LCode) {fr σ} {K K' : KC}, (∀ e fr σ, K e fr σ → K' e fr σ) → execL C P rd c fr σ K → execL C P rd c fr σ K'
  | .skip, fr, σ, K, K', hK, h => hK _ _ _ h
  | .sq l, fr, σ, K, K', hK, h => seqL_mono (hC := hC) l (fun _ _ k => hK _ _ _ k) h
  | .tree t, fr, σ, K, K', hK, h => planL_mono hC t (fun _ _ k => hK _ _ _ k) h
  | .seq a b, fr, σ, K, K', hK, h => by
    simp only [execL] at h ⊢
    exact execL_mono hC a (roundK_mono (fun fr s h => execL_mono hC b hK h) hK) h
  | .cond c a b, fr, σ, K, K', hK, h => by
    simp only [execL] at h ⊢
    split at h
    · exact ⟨fun hx => execL_mono hC a hK (h.1 hx), fun hx => execL_mono hC b hK (h.2 hx)⟩
    · exact h
  | .block id b, fr, σ, K, K', hK, h => by
    simp only [execL] at h ⊢
    exact execL_mono hC b (blockK_mono hK) h
  | .loop m b, fr, σ, K, K', hK, h => by
    simp only [execL] at h ⊢
    intro I hI
    exact h I fun fr s hu hb => hI fr s hu (execL_mono hC b (roundK_mono (fun _ _ h => h) hK) hb)
  | .exit id, fr, σ, K, K', hK, h => hK _ _ _ h
  | .ret, fr, σ, K, K', hK, h => hK _ _ _ h
  | .rfun g f ps a b, fr, σ, K, K', hK, h => by
    simp only [execL] at h ⊢
    refine ⟨h.1, ?_⟩
    have h2 := h.2
    split at h2
    · refine ⟨h2.1, hC _ _ _ _ _ (fun v s hk => ?_) h2.2⟩
      split at hk
      · exact ⟨hk.1, hK _ _ _ hk.2⟩
      · exact hk
    · exact h2
  | .bad, fr, σ, K, K', hK, h => h

/-- One round of a loop. -/
theorem loop_step (hC : LeC C C) {m : List Bool} {b : LCode} {n0 : Nat} {is : List Item} {fr fr0 : Fr} {S : List (List AV)} {H : List HObj} {K : KC} (hk : keep m fr = fr0) (hu : underL n0 fr0 = true)
    (h : runC C P rd b (.lp m b n0 :: is) fr0 ⟨S.take n0, H⟩ K) : runLp C P rd m b n0 is fr ⟨S, H⟩ K := by
  subst hk
  exact loopW_fold (fun fr σ K K' hK h => execL_mono hC b hK h) hu h
end
end Go.AM
/-! Words for lowered code at symbolic values. -/
namespace Go.AM
open Go
set_option linter.unusedVariables false
set_option linter.unusedSimpArgs false

/-- A key's sixteen bytes. -/
structure Key where
  b : List UInt8
  h : b.length = 16

theorem Key.ext' {x y : Key} (h : x.b = y.b) : x = y := by cases x; cases y; cases h; rfl

instance : DecidableEq Key := fun x y => if h : x.b = y.b then isTrue (Key.ext' h) else isFalse fun e => h (by rw [e])

def u8 (b : UInt8) : AV := .s (.int .u8 b.toNat)
def bs (l : List UInt8) : List AV := l.map u8
abbrev Key.c (k : Key) : List AV := bs k.b

theorem bs_length (l : List UInt8) : (bs l).length = l.length := by simp [bs]
theorem kc_length (k : Key) : (bs k.b).length = 16 := by simp [bs, k.h]

theorem under_u8 (n : Nat) (b : UInt8) : AV.under n (u8 b) = true := rfl
theorem under_bs (n : Nat) : ∀ (l : List UInt8), AV.under.go n (bs l) = true
  | [] => rfl
  | b :: l => by simp only [bs, List.map_cons, AV.under.go, under_u8, Bool.true_and]; exact under_bs n l

theorem newBox_stk {cs : List AV} {S : List (List AV)} {H : List HObj} (h : underL S.length cs = true) : newBox false cs ⟨S, H⟩ = some (.stk S.length, ⟨S ++ [cs], H⟩) := by
  unfold newBox; simp [h]
theorem newBox_heap {cs : List AV} {S : List (List AV)} {H : List HObj} (h : underL 0 cs = true) : newBox true cs ⟨S, H⟩ = some (.heap H.length, ⟨S, H ++ [.cells cs]⟩) := by
  unfold newBox; simp [h]

/-! Boxes of the call's own -/
theorem app_get0 {α : Type} (S l : List α) : (S ++ l)[S.length]? = l[0]? := by rw [List.getElem?_append_right (Nat.le_refl _), Nat.sub_self]
theorem app_get {α : Type} (S l : List α) (k : Nat) : (S ++ l)[S.length + k]? = l[k]? := by rw [List.getElem?_append_right (Nat.le_add_right _ _), Nat.add_sub_cancel_left]
theorem app_set0 {α : Type} (S l : List α) (x : α) : (S ++ l).set S.length x = S ++ l.set 0 x := by rw [List.set_append_right _ _ (Nat.le_refl _), Nat.sub_self]
theorem app_set {α : Type} (S l : List α) (k : Nat) (x : α) : (S ++ l).set (S.length + k) x = S ++ l.set k x := by rw [List.set_append_right _ _ (Nat.le_add_right _ _), Nat.add_sub_cancel_left]
theorem app_take {α : Type} (S l : List α) : (S ++ l).take S.length = S := by simp
theorem app_take_add {α : Type} (S l : List α) (k : Nat) : (S ++ l).take (S.length + k) = S ++ l.take k := by
  induction S with
  | nil => simp
  | cons x S ih => rw [List.length_cons, Nat.add_right_comm, List.cons_append, List.take_succ_cons, ih]; rfl
theorem app_one {α : Type} (S : List α) (a b : List α) : S ++ a ++ b = S ++ (a ++ b) := List.append_assoc _ _ _

theorem setBox_stk (S : List (List AV)) (H : List HObj) (n : Nat) (cs : List AV) : setBox ⟨S, H⟩ (.stk n) cs = ⟨S.set n cs, H⟩ := rfl
theorem setBox_heap (S : List (List AV)) (H : List HObj) (n : Nat) (cs : List AV) : setBox ⟨S, H⟩ (.heap n) cs = ⟨S, H.set n (.cells cs)⟩ := rfl
def cellsOf? : Option HObj → Option (List AV)
  | some (.cells cs) => some cs
  | _ => none
theorem boxOf_heap (S : List (List AV)) (H : List HObj) (n : Nat) : boxOf ⟨S, H⟩ (.heap n) = cellsOf? H[n]? := by
  show (match H[n]? with | some (.cells cs) => some cs | _ => none) = cellsOf? H[n]?
  cases H[n]? with
  | none => rfl
  | some o => cases o <;> rfl
theorem boxOf_stk (S : List (List AV)) (H : List HObj) (n : Nat) : boxOf ⟨S, H⟩ (.stk n) = S[n]? := rfl

theorem wrap_i64 {x : Int} (h1 : -9223372036854775808 ≤ x) (h2 : x ≤ 9223372036854775807) : IntKind.i64.wrap x = x := by
  unfold IntKind.wrap
  simp [IntKind.signed, IntKind.bits]
  omega

theorem bs_get {l : List UInt8} {i : Nat} (h : i < l.length) : (bs l)[i]? = some (u8 l[i]) := by
  simp [bs, h]

theorem bs_take (l : List UInt8) (n : Nat) : (bs l).take n = bs (l.take n) := by simp [bs]
theorem bs_drop (l : List UInt8) (n : Nat) : (bs l).drop n = bs (l.drop n) := by simp [bs]
theorem look_u8 (b : UInt8) : (u8 b).look = u8 b := rfl
theorem map_look_bs (l : List UInt8) : (bs l).map AV.look = bs l := by simp [bs, look_u8]
theorem bytesIn_bs : ∀ (l : List UInt8), bytesIn (bs l) = some l
  | [] => rfl
  | b :: l => by
    show (bytesIn (bs l)).map _ = _
    rw [bytesIn_bs l]; simp

theorem gd_t (b : Bool) : (b == true) = b := by cases b <;> rfl
theorem gd_f (b : Bool) : (b == false) = !b := by cases b <;> rfl
theorem cast_lit {n : Nat} : ((no_index (OfNat.ofNat n) : Nat) : Int) = OfNat.ofNat n := rfl

theorem group_one : ∀ (n : Nat) (cs : List AV), cs.length = n → groupL ⟨1, false, 1, .undef⟩ n cs = cs
  | 0, cs, h => by cases cs <;> simp_all [groupL]
  | n + 1, [], h => by simp at h
  | n + 1, c :: cs, h => by
    simp only [groupL, packL, List.take_succ_cons, List.take_zero, List.drop_succ_cons, List.drop_zero, List.getD_cons_zero]
    rw [group_one n cs (by simpa using h)]

theorem elems_row {σ : St} {r : Ref} {off len cap : Nat} {cs : List AV} (h : boxOf σ r = some cs) (hl : off + len ≤ cs.length) (hlook : cs.map AV.look = cs) : elemsL ⟨1, false, 1, .undef⟩ (.row r off len cap) σ = some ((cs.drop off).take len) := by
  unfold elemsL
  have hm : ((cs.drop off).take len).map AV.look = (cs.drop off).take len := by
    rw [List.map_take, List.map_drop, hlook]
  simp only [Bool.false_or, beq_self_eq_true, if_true, Nat.mul_one, readCells, h, Option.bind_some]
  rw [if_pos hl, Option.map_some, hm, group_one _ _ (by simp; omega)]

theorem conv_row {σ : St} {r : Ref} {off len cap : Nat} {l : List UInt8} (h : boxOf σ r = some (bs l)) (hl : off + len ≤ l.length) : convL .ofBytes (.row r off len cap) σ = some (.s (.str ((l.drop off).take len))) := by
  unfold convL
  simp only [AV.isSlice, if_true]
  rw [elems_row h (by rw [bs_length]; exact hl) (map_look_bs l), bs_drop, bs_take]
  simp only [Option.bind_some, bytesIn_bs, Option.map_some]

/-- The rule for loops: what is so at each round's head is told of a datum. -/
theorem loop_rule {C : CallW} {P : Program} {rd : Bool} (hC : LeC C C) {m : List Bool} {b : LCode} {n0 : Nat} {is : List Item} {fr : Fr} {S : List (List AV)} {H : List HObj} {K : KC} {α : Type} (μ : α → Nat) (F : α → Fr) (S0 : α → List (List AV)) (H0 : α → List HObj) (I : α → Prop) (a0 : α)
    (h0 : I a0) (hk : keep m fr = F a0) (hS : S.take n0 = S0 a0) (hH : H = H0 a0) (hu : ∀ a, I a → underL n0 (F a) = true)
    (step : ∀ a, I a → (∀ a' fr' S' H', μ a' < μ a → I a' → keep m fr' = F a' → S'.take n0 = S0 a' → H' = H0 a' → runLp C P rd m b n0 is fr' ⟨S', H'⟩ K) → runC C P rd b (.lp m b n0 :: is) (F a) ⟨S0 a, H0 a⟩ K) :
    runLp C P rd m b n0 is fr ⟨S, H⟩ K := by
  have main : ∀ (n : Nat) (a : α) (fr : Fr) (S : List (List AV)) (H : List HObj), μ a < n → I a → keep m fr = F a → S.take n0 = S0 a → H = H0 a → runLp C P rd m b n0 is fr ⟨S, H⟩ K := by
    intro n
    induction n with
    | zero => intro a fr S H h; omega
    | succ n ih =>
      intro a fr S H h hI hk hS hH
      subst hH
      refine loop_step hC hk (hu a hI) ?_
      rw [hS]
      exact step a hI fun a' fr' S' H' hlt hI' => ih a' fr' S' H' (by omega) hI'
  exact main (μ a0 + 1) a0 fr S H (Nat.lt_succ_self _) h0 hk hS hH
end Go.AM
/-! What operations yield at keys, writes, lists of such. -/
namespace Go.AM
open Go
set_option linter.unusedVariables false
set_option linter.unusedSimpArgs false

def key0 : Key := ⟨List.replicate 16 0, rfl⟩
def zk : List AV := [.s (.int .u8 0), .s (.int .u8 0), .s (.int .u8 0), .s (.int .u8 0), .s (.int .u8 0), .s (.int .u8 0), .s (.int .u8 0), .s (.int .u8 0), .s (.int .u8 0), .s (.int .u8 0), .s (.int .u8 0), .s (.int .u8 0), .s (.int .u8 0), .s (.int .u8 0), .s (.int .u8 0), .s (.int .u8 0)]
def lk : List LK := [.int .u8, .int .u8, .int .u8, .int .u8, .int .u8, .int .u8, .int .u8, .int .u8, .int .u8, .int .u8, .int .u8, .int .u8, .int .u8, .int .u8, .int .u8, .int .u8]
theorem zk_eq : zk = bs key0.b := rfl

/-! lists of cells -/
theorem take_kc (k : Key) (r : List AV) : (bs k.b ++ r).take 16 = bs k.b := List.take_left' (kc_length k)
theorem drop_kc (k : Key) (r : List AV) : (bs k.b ++ r).drop 16 = r := List.drop_left' (kc_length k)
theorem take_kc0 (k : Key) : (bs k.b).take 16 = bs k.b := List.take_of_length_le (Nat.le_of_eq (kc_length k))
theorem drop_zero' {α : Type} (l : List α) : l.drop 0 = l := rfl
theorem get_kc16 (k : Key) (r : List AV) : (bs k.b ++ r)[16]? = r[0]? := by rw [List.getElem?_append_right (Nat.le_of_eq (kc_length k)), kc_length]
theorem get_kc17 (k : Key) (r : List AV) : (bs k.b ++ r)[17]? = r[1]? := by rw [List.getElem?_append_right (by rw [kc_length]; omega), kc_length]
theorem take_all {α : Type} {l : List α} {n : Nat} (h : l.length ≤ n) : l.take n = l := List.take_of_length_le h
theorem look_app (a b : List AV) : (a ++ b).map AV.look = a.map AV.look ++ b.map AV.look := List.map_append

theorem under_app' {n : Nat} (l l' : List AV) : AV.under.go n (l ++ l') = (AV.under.go n l && AV.under.go n l') := under_app

/-! reading -/
theorem readA_rop {σ : St} {cs : List AV} {n : Nat} (h : n ≤ cs.length) : readA σ (.rop cs) n = some (.agg (cs.take n)) := by simp [readA, readCells, h]
theorem readA_stk {S : List (List AV)} {l : List (List AV)} {H : List HObj} {j n off : Nat} (hj : j < l.length) (h : off + n ≤ (l.getD j []).length) : readA ⟨S ++ l, H⟩ (.ptr (.stk (S.length + j)) off) n = some (.agg ((((l.getD j []).drop off).take n).map AV.look)) := by
  have e : l[j]? = some (l.getD j []) := by simp [List.getD, hj]
  simp only [readA, readCells, boxOf_stk, app_get, e, Option.bind_some, if_pos h, Option.map_some]
theorem readA_stk0 {S : List (List AV)} {l : List (List AV)} {H : List HObj} {n off : Nat} (hj : 0 < l.length) (h : off + n ≤ (l.getD 0 []).length) : readA ⟨S ++ l, H⟩ (.ptr (.stk S.length) off) n = some (.agg ((((l.getD 0 []).drop off).take n).map AV.look)) := readA_stk (j := 0) hj h
theorem readA_heap {S : List (List AV)} {H : List HObj} {h n off : Nat} {cs : List AV} (hh : H[h]? = some (.cells cs)) (hl : off + n ≤ cs.length) : readA ⟨S, H⟩ (.ptr (.heap h) off) n = some (.agg (((cs.drop off).take n).map AV.look)) := by
  simp only [readA, readCells, boxOf, hh, Option.bind_some, if_pos hl, Option.map_some]

/-! writing whole boxes -/
theorem storeL_stk {S : List (List AV)} {l : List (List AV)} {H : List HObj} {j n : Nat} {vs : List AV} (hj : j < l.length) (h : (l.getD j []).length = n) (hv : vs.length = n) (hn : 2 ≤ n) (hu : AV.under.go (S.length + j) vs = true) : storeL n (.ptr (.stk (S.length + j)) 0) (.agg vs) ⟨S ++ l, H⟩ = some ⟨S ++ l.set j vs, H⟩ := by
  have e : l[j]? = some (l.getD j []) := by simp [List.getD, hj]
  have hs : splice (l.getD j []) 0 vs = vs := by
    unfold splice
    split
    · simp at hv; omega
    · rw [List.take_zero, List.nil_append, Nat.zero_add, hv, List.drop_of_length_le (Nat.le_of_eq h), List.append_nil]
  simp only [storeL, AV.cells, AV.fit, hv, writeCells, boxOf_stk, app_get, e, Option.bind_some, hs, setBox_stk, app_set, mayHold, hu, h, Nat.zero_add, Nat.le_refl, decide_true, Bool.and_self, if_true, true_and]
  rw [if_pos (by simp; omega)]
theorem storeL_stk0 {S : List (List AV)} {l : List (List AV)} {H : List HObj} {n : Nat} {vs : List AV} (hj : 0 < l.length) (h : (l.getD 0 []).length = n) (hv : vs.length = n) (hn : 2 ≤ n) (hu : AV.under.go S.length vs = true) : storeL n (.ptr (.stk S.length) 0) (.agg vs) ⟨S ++ l, H⟩ = some ⟨S ++ l.set 0 vs, H⟩ := storeL_stk (j := 0) hj h hv hn hu

theorem storeL1_stk {S : List (List AV)} {l : List (List AV)} {H : List HObj} {j off : Nat} {v : AV} (hj : j < l.length) (h : off < (l.getD j []).length) (hc : v.cells = [v]) (hf : v.fit = true) (hu : AV.under (S.length + j) v = true) : storeL 1 (.ptr (.stk (S.length + j)) off) v ⟨S ++ l, H⟩ = some ⟨S ++ l.set j ((l.getD j []).set off v), H⟩ := by
  have e : l[j]? = some (l.getD j []) := by simp [List.getD, hj]
  have h1 : off + 1 ≤ (l.getD j []).length := h
  simp only [storeL, hc, hf, List.length_cons, List.length_nil, writeCells, boxOf_stk, app_get, e, Option.bind_some, splice, setBox_stk, app_set, mayHold, AV.under.go, hu, Nat.zero_add, h1, decide_true, Bool.and_self, if_true, true_and, and_self]
  rw [if_pos (by simp)]
theorem storeL1_stk0 {S : List (List AV)} {l : List (List AV)} {H : List HObj} {off : Nat} {v : AV} (hj : 0 < l.length) (h : off < (l.getD 0 []).length) (hc : v.cells = [v]) (hf : v.fit = true) (hu : AV.under S.length v = true) : storeL 1 (.ptr (.stk S.length) off) v ⟨S ++ l, H⟩ = some ⟨S ++ l.set 0 ((l.getD 0 []).set off v), H⟩ := storeL1_stk (j := 0) hj h hc hf hu
theorem storeS_stk {S : List (List AV)} {l : List (List AV)} {H : List HObj} {j off : Nat} {x : Sc} (hj : j < l.length) (h : off < (l.getD j []).length) : storeL 1 (.ptr (.stk (S.length + j)) off) (.s x) ⟨S ++ l, H⟩ = some ⟨S ++ l.set j ((l.getD j []).set off (.s x)), H⟩ := storeL1_stk hj h rfl rfl rfl
theorem storeS_stk0 {S : List (List AV)} {l : List (List AV)} {H : List HObj} {off : Nat} {x : Sc} (hj : 0 < l.length) (h : off < (l.getD 0 []).length) : storeL 1 (.ptr (.stk S.length) off) (.s x) ⟨S ++ l, H⟩ = some ⟨S ++ l.set 0 ((l.getD 0 []).set off (.s x)), H⟩ := storeL1_stk0 hj h rfl rfl rfl
theorem storeQ_stk {S : List (List AV)} {l : List (List AV)} {H : List HObj} {j off sz : Nat} {fl : Fl} {es : List AV} (hj : j < l.length) (h : off < (l.getD j []).length) : storeL 1 (.ptr (.stk (S.length + j)) off) (.list fl sz es) ⟨S ++ l, H⟩ = some ⟨S ++ l.set j ((l.getD j []).set off (.list fl sz es)), H⟩ := storeL1_stk hj h rfl rfl rfl
theorem storeQ_stk0 {S : List (List AV)} {l : List (List AV)} {H : List HObj} {off sz : Nat} {fl : Fl} {es : List AV} (hj : 0 < l.length) (h : off < (l.getD 0 []).length) : storeL 1 (.ptr (.stk S.length) off) (.list fl sz es) ⟨S ++ l, H⟩ = some ⟨S ++ l.set 0 ((l.getD 0 []).set off (.list fl sz es)), H⟩ := storeL1_stk0 hj h rfl rfl rfl
theorem cellsOf_some {cs : List AV} : cellsOf? (some (.cells cs)) = some cs := rfl
theorem under_s {n : Nat} {x : Sc} : AV.under n (.s x) = true := rfl
theorem cells_s {x : Sc} : (AV.s x).cells = [.s x] := rfl
theorem fit_s {x : Sc} : (AV.s x).fit = true := rfl
theorem under_list {n sz : Nat} {fl : Fl} {es : List AV} : AV.under n (.list fl sz es) = true := rfl
theorem cells_list {sz : Nat} {fl : Fl} {es : List AV} : (AV.list fl sz es).cells = [.list fl sz es] := rfl
theorem fit_list {sz : Nat} {fl : Fl} {es : List AV} : (AV.list fl sz es).fit = true := rfl
theorem cells_u8 {x : UInt8} : (u8 x).cells = [u8 x] := rfl
theorem fit_u8 {x : UInt8} : (u8 x).fit = true := rfl

/-- A key as a value. -/
def kA (k : Key) : AV := .agg (bs k.b)
theorem kA_cells {k : Key} : (kA k).cells = bs k.b := rfl
theorem kA_under {n : Nat} {k : Key} : AV.under n (kA k) = true := by simp [kA, AV.under, under_bs]
theorem kA_low {n : Nat} : ∀ {l : List Key}, AV.under.go n (l.map kA) = true
  | [] => rfl
  | k :: l => by simp only [List.map_cons, AV.under.go, kA_under, kA_low (l := l), Bool.and_self]
theorem u8_isCell : ∀ {l : List UInt8}, ∀ c ∈ bs l, c.isCell = true := by
  intro l c hc
  obtain ⟨b, _, rfl⟩ := List.mem_map.1 hc
  rfl
theorem kA_elems {l : List Key} : Elems 16 (l.map kA) := by
  intro e he
  obtain ⟨k, _, rfl⟩ := List.mem_map.1 he
  exact ⟨kc_length k, u8_isCell⟩
theorem kA_calm {k : Key} : (kA k).calm = kA k := rfl

/-- Any list that nobody writes into. -/
theorem elems_list {e : ET} {fl : Fl} {es : List AV} {σ : St} : elemsL e (.list fl e.c es) σ = some es := by simp [elemsL]

/-! lists -/
theorem ixl_map {α : Type} {f : α → AV} {l : List α} {i c : Nat} {k : IntKind} (h : i < l.length) (hc : c ≠ 0) : indexAddrL (.sl c) (.list .sh c (l.map f)) (.s (.int k (i : Int))) = some (.rop (f l[i]).cells) := by
  have h1 : (0 : Int) ≤ i := by omega
  have h2 : (i : Int) < (l.map f).length := by simp; omega
  simp only [indexAddrL, h1, h2, hc, ne_eq, not_false_eq_true, reduceCtorEq, and_self, if_true, Int.toNat_natCast]
  simp [List.getD, h]
theorem ixl_k {l : List Key} {i c : Nat} {k : IntKind} (h : i < l.length) (hc : c ≠ 0) : indexAddrL (.sl c) (.list .sh c (l.map kA)) (.s (.int k (i : Int))) = some (.rop (bs (l[i]).b)) := ixl_map h hc
theorem lenL_list {σ : St} {fl : Fl} {c : Nat} {es : List AV} : lenL .sl (.list fl c es) σ = some es.length := rfl
theorem lenL_str {σ : St} {l : List UInt8} : lenL .str (.s (.str l)) σ = some l.length := rfl

/-! comparing -/
theorem u8_inj {a b : UInt8} : AV.beq (u8 a) (u8 b) = decide (a = b) := by
  simp only [u8, AV.beq]
  by_cases h : a = b
  · simp [h]
  · have : ¬ ((a.toNat : Int) = b.toNat) := fun e => h (UInt8.toNat_inj.1 (by omega))
    simp [h, this]
theorem beq_bs : ∀ (a b : List UInt8), AV.beq.go (bs a) (bs b) = decide (a = b)
  | [], [] => rfl
  | [], _ :: _ => rfl
  | _ :: _, [] => rfl
  | x :: a, y :: b => by
    show (AV.beq (u8 x) (u8 y) && AV.beq.go (bs a) (bs b)) = _
    rw [u8_inj, beq_bs a b]
    by_cases h1 : x = y <;> by_cases h2 : a = b <;> simp [h1, h2]
theorem beq_app : ∀ (a b c d : List AV), a.length = b.length → AV.beq.go (a ++ c) (b ++ d) = (AV.beq.go a b && AV.beq.go c d)
  | [], [], c, d, _ => by simp [AV.beq.go]
  | [], _ :: _, _, _, h => by simp at h
  | _ :: _, [], _, _, h => by simp at h
  | x :: a, y :: b, c, d, h => by simp only [List.cons_append, AV.beq.go, beq_app a b c d (by simpa using h), Bool.and_assoc]
theorem beq_app_k (a b : Key) (c d : List AV) : AV.beq.go (bs a.b ++ c) (bs b.b ++ d) = (AV.beq.go (bs a.b) (bs b.b) && AV.beq.go c d) := beq_app _ _ _ _ (by rw [kc_length, kc_length])
theorem beq_kk (a b : Key) : AV.beq.go (bs a.b) (bs b.b) = decide (a = b) := by
  rw [beq_bs]
  by_cases h : a = b
  · simp [h]
  · have : ¬ a.b = b.b := fun e => h (Key.ext' e)
    simp [h, this]
theorem fits_bs : ∀ (l : List UInt8), fitsL (List.replicate l.length (.int .u8)) (bs l) = true
  | [] => rfl
  | x :: l => by
    show (_ && fitsL (List.replicate l.length (.int .u8)) (bs l)) = true
    rw [fits_bs l]; rfl
theorem fits_app : ∀ (a : List LK) (b : List LK) (c d : List AV), a.length = c.length → fitsL (a ++ b) (c ++ d) = (fitsL a c && fitsL b d)
  | [], _, [], _, _ => by simp [fitsL]
  | [], _, _ :: _, _, h => by simp at h
  | _ :: _, _, [], _, h => by simp at h
  | k :: a, b, x :: c, d, h => by simp only [List.cons_append, fitsL, fits_app a b c d (by simpa using h), Bool.and_assoc]
theorem fits_k (k : Key) : fitsL lk (bs k.b) = true := by
  have := fits_bs k.b
  rw [k.h] at this
  exact this
theorem fits_kr (k : Key) (ls : List LK) (r : List AV) : fitsL (lk ++ ls) (bs k.b ++ r) = fitsL ls r := by
  rw [fits_app _ _ _ _ (by rw [kc_length]; rfl), fits_k, Bool.true_and]

theorem slice_box {n c : Nat} {r : Ref} (h : 0 < n) (hc : c ≠ 0) : sliceL (.arr n c) (.ptr r 0) none none none = some (.row r 0 n n) := by
  simp [sliceL, bound, hc, h]
theorem fillL_nil {cs : List AV} : fillL cs [] = some cs := rfl
theorem len_map' {α β : Type} (f : α → β) (l : List α) : (l.map f).length = l.length := List.length_map _
theorem pick_ite {b : Bool} {x y : AV} : (if b = true then x else y) = cond b x y := by cases b <;> rfl
theorem nat_cast_lt {a b : Nat} : ((a : Int) < (b : Int)) ↔ a < b := by omega
end Go.AM
/-! Writes. -/
namespace Go.AM
open Go
set_option linter.unusedVariables false
set_option linter.unusedSimpArgs false

structure Wr where
  key : Key
  val : List UInt8
  gone : Bool
  deriving DecidableEq

def wc (w : Wr) : List AV := bs w.key.b ++ [.s (.str w.val), .s (.bool w.gone)]
def wA (w : Wr) : AV := .agg (wc w)
theorem wc_length (w : Wr) : (wc w).length = 18 := by simp [wc, kc_length]
theorem wc_eq (w : Wr) : wc w = bs w.key.b ++ [.s (.str w.val), .s (.bool w.gone)] := rfl
theorem wc_under {n : Nat} {w : Wr} : AV.under.go n (wc w) = true := by simp [wc, under_app', under_bs, AV.under, AV.under.go]
theorem wA_under {n : Nat} {w : Wr} : AV.under n (wA w) = true := wc_under
theorem wA_low {n : Nat} : ∀ {l : List Wr}, AV.under.go n (l.map wA) = true
  | [] => rfl
  | k :: l => by simp only [List.map_cons, AV.under.go, wA_under, wA_low (l := l), Bool.and_self]
theorem wc_cell {w : Wr} : ∀ c ∈ wc w, c.isCell = true := by
  intro c hc
  rcases List.mem_append.1 hc with h | h
  · exact u8_isCell c h
  · rcases List.mem_cons.1 h with rfl | h
    · rfl
    · rw [List.mem_singleton.1 h]; rfl
theorem wA_elems {l : List Wr} : Elems 18 (l.map wA) := by
  intro e he
  obtain ⟨k, _, rfl⟩ := List.mem_map.1 he
  exact ⟨wc_length k, wc_cell⟩
theorem look_wc (w : Wr) : (wc w).map AV.look = wc w := by
  rw [wc, look_app, map_look_bs]; rfl
theorem beq_wc (a b : Wr) : AV.beq.go (wc a) (wc b) = decide (a = b) := by
  rw [wc, wc, beq_app_k, beq_kk]
  cases a; cases b
  simp [AV.beq.go, AV.beq, Wr.mk.injEq, Bool.decide_and, Bool.and_assoc]
theorem fits_wc (w : Wr) : fitsL (lk ++ [.str, .bool]) (wc w) = true := by rw [wc, fits_kr]; rfl
theorem ixl_w {l : List Wr} {i c : Nat} {k : IntKind} (h : i < l.length) (hc : c ≠ 0) : indexAddrL (.sl c) (.list .sh c (l.map wA)) (.s (.int k (i : Int))) = some (.rop (wc l[i])) := ixl_map h hc
theorem take_wc (w : Wr) : (wc w).take 18 = wc w := List.take_of_length_le (Nat.le_of_eq (wc_length w))
theorem take_wk (w : Wr) : (wc w).take 16 = bs w.key.b := take_kc _ _
theorem drop_wc (w : Wr) : (wc w).drop 16 = [.s (.str w.val), .s (.bool w.gone)] := drop_kc _ _
def lstW (l : List Wr) : AV := .list .sh 18 (l.map wA)
theorem shift_rop {cs : List AV} {o : Nat} : shift (.rop cs) o = some (.rop (cs.drop o)) := rfl
theorem load1_rop {σ : St} {v : AV} {cs : List AV} : load1L false (.rop (v :: cs)) σ = some (v, σ) := rfl

/-- Appending one whole number to a list of one's own. -/
def slI (l : List Nat) : AV := if l = [] then .s .nilS else .list .uniq 1 (l.map fun (n : Nat) => AV.i n)

theorem WkF.full {sz : Nat} {es as bs : List AV} (h : WkF as bs) : WkF (.list .full sz es :: as) (.list .sh sz es :: bs) := .wk (show WkL [.list .full sz es] _ from .full .nil) h
theorem WkF.own {sz : Nat} {es as bs : List AV} (h : WkF as bs) : WkF (.list .own sz es :: as) (.list .sh sz es :: bs) := .wk (show WkL [.list .sh sz es] _ from .same .nil) h
theorem WkF.uniq {sz : Nat} {es as bs : List AV} (h : WkF as bs) : WkF (.list .uniq sz es :: as) (.list .sh sz es :: bs) := .wk (show WkL [.list .sh sz es] _ from .same .nil) h
theorem WkF.nilS {sz : Nat} {as bs : List AV} (hs : 0 < sz) (h : WkF as bs) : WkF (.s .nilS :: as) (.list .sh sz [] :: bs) := .wk (show WkL [.s .nilS] _ from .nilS hs .nil) h

def WkC (C : CallW) : Prop := ∀ t as bs σ K, WkF as bs → C t bs σ K → C t as σ K
end Go.AM
/-! Reads that are checked again behind a move. -/
namespace Go.AM
open Go
set_option linter.unusedVariables false

def okC (s : LStep) (fr : Fr) (v : AV) (σ : St) : Option Bool → Prop
  | some true => sameV (readL s fr σ) v = true
  | some false => AV.beq (.tup []) v = true
  | none => False
def okAll (drop : List Nat) (σ : St) : List LChk → Prop
  | [] => True
  | c :: cs => (drop.contains c.i = false → okC c.s c.fr c.v σ (guardL c.fr c.s.guard)) ∧ okAll drop σ cs
def leftC (drop : List Nat) : List LChk → List LChk
  | [] => []
  | c :: cs => if drop.contains c.i = true then leftC drop cs else c :: leftC drop cs
theorem okAll_nil {drop σ} : okAll drop σ [] = True := rfl
theorem okAll_cons {drop σ i s fr v cs} : okAll drop σ (⟨i, s, fr, v⟩ :: cs) = ((drop.contains i = false → okC s fr v σ (guardL fr s.guard)) ∧ okAll drop σ cs) := (rfl)
theorem leftC_nil {drop} : leftC drop [] = [] := rfl
theorem leftC_cons {drop i s fr v cs} : leftC drop (⟨i, s, fr, v⟩ :: cs) = if drop.contains i = true then leftC drop cs else ⟨i, s, fr, v⟩ :: leftC drop cs := (rfl)
theorem okC_true {s fr v σ} : okC s fr v σ (some true) = (sameV (readL s fr σ) v = true) := (rfl)
theorem okC_false {s fr v σ} : okC s fr v σ (some false) = (AV.beq (.tup []) v = true) := (rfl)
theorem sameV_some {u v} : sameV (some u) v = u.beq v := (rfl)
theorem leftC_eq {drop : List Nat} : ∀ (l : List LChk), (l.filter fun c => !drop.contains c.i) = leftC drop l
  | [] => rfl
  | c :: cs => by
    rw [List.filter_cons, leftC, leftC_eq cs]
    cases drop.contains c.i <;> rfl
theorem okAll_eq {drop : List Nat} {σ : St} : ∀ {l : List LChk}, okAll drop σ l → (l.filter fun c => !drop.contains c.i).all (fun c => c.ok σ) = true
  | [], _ => rfl
  | c :: cs, h => by
    rw [List.filter_cons]
    have h2 := okAll_eq h.2
    cases hd : drop.contains c.i with
    | true => simpa [hd] using h2
    | false =>
      have h1 := h.1 hd
      have hc : c.ok σ = true := by
        unfold LChk.ok
        cases hg : guardL c.fr c.s.guard with
        | none => rw [hg] at h1; exact h1.elim
        | some b => rw [hg] at h1; cases b <;> exact h1
      simp only [Bool.not_false, if_true, List.all_cons, hc, h2, Bool.and_self]
theorem mvK_chk {C : CallW} {P : Program} {rd : Bool} {drop chk rest is K fr σ} (h : okAll drop σ chk ∧ runT C P rd rest (leftC drop chk) is fr σ K) : mvK C P rd drop chk rest is K fr σ := by
  refine ⟨okAll_eq h.1, ?_⟩
  rw [leftC_eq]; exact h.2
theorem okAll_iff {drop : List Nat} {σ : St} : ∀ {l : List LChk}, (l.filter fun c => !drop.contains c.i).all (fun c => c.ok σ) = true → okAll drop σ l
  | [], _ => trivial
  | c :: cs, h => by
    rw [List.filter_cons] at h
    cases hd : drop.contains c.i with
    | true =>
      rw [hd] at h
      refine ⟨fun e => ?_, okAll_iff (by simpa using h)⟩
      rw [hd] at e; cases e
    | false =>
      rw [hd] at h
      simp only [Bool.not_false, if_true, List.all_cons, Bool.and_eq_true] at h
      refine ⟨fun _ => ?_, okAll_iff h.2⟩
      have h1 := h.1
      unfold LChk.ok at h1
      cases hg : guardL c.fr c.s.guard with
      | none => rw [hg] at h1; cases h1
      | some b => rw [hg] at h1; cases b <;> exact h1
theorem mvK_cons {C : CallW} {P : Program} {rd : Bool} {drop c chk rest is K fr σ} : mvK C P rd drop (c :: chk) rest is K fr σ = (okAll drop σ (c :: chk) ∧ runT C P rd rest (leftC drop (c :: chk)) is fr σ K) :=
  propext ⟨fun h => ⟨okAll_iff h.1, by have := h.2; rwa [leftC_eq] at this⟩, mvK_chk⟩
end Go.AM
/-! The equations of a run, bundled. -/
namespace Go.AM
open Go
set_option linter.unusedVariables false
theorem RUN_ :
  (((((((type_of% @Go.AM.runC_skip ∧ (type_of% @Go.AM.runC_sq ∧ type_of% @Go.AM.runC_tree)) ∧ ((type_of% @Go.AM.runC_seq ∧ type_of% @Go.AM.runC_cond) ∧ (type_of% @Go.AM.runC_block ∧ type_of% @Go.AM.runC_exit))) ∧ (((type_of% @Go.AM.runC_ret ∧ type_of% @Go.AM.runC_loop) ∧ (type_of% @Go.AM.cnd_true ∧ type_of% @Go.AM.cnd_false)) ∧ ((type_of% @Go.AM.nxt_nil ∧ type_of% @Go.AM.nxt_c) ∧ (type_of% @Go.AM.nxt_blk ∧ type_of% @Go.AM.nxt_lp)))) ∧ ((((type_of% @Go.AM.ext_nil ∧ type_of% @Go.AM.ext_c) ∧ (type_of% @Go.AM.ext_blk ∧ type_of% @Go.AM.ext_lp)) ∧ ((type_of% @Go.AM.rtn_nil ∧ type_of% @Go.AM.rtn_c) ∧ (type_of% @Go.AM.rtn_blk ∧ type_of% @Go.AM.rtn_lp))) ∧ (((type_of% @Go.AM.runS_nil ∧ type_of% @Go.AM.runS_op) ∧ (type_of% @Go.AM.runS_grd ∧ type_of% @Go.AM.grd_true)) ∧ ((type_of% @Go.AM.grd_false ∧ type_of% @Go.AM.thn_some) ∧ (type_of% @Go.AM.opS_call ∧ type_of% @Go.AM.call_fn))))) ∧ ((((type_of% @Go.AM.call_yield ∧ (type_of% @Go.AM.bak_eq ∧ type_of% @Go.AM.mb_t)) ∧ ((type_of% @Go.AM.mb_f ∧ type_of% @Go.AM.mayb_sc) ∧ (type_of% @Go.AM.mayb_bl ∧ type_of% @Go.AM.mayb_leaf))) ∧ (((type_of% @Go.AM.mayb_r0 ∧ type_of% @Go.AM.mayb_r1) ∧ (type_of% @Go.AM.mayb_r2 ∧ type_of% @Go.AM.mayb_r3)) ∧ ((type_of% @Go.AM.isEq.eq_1 ∧ type_of% @Go.AM.isEq.eq_2) ∧ (type_of% @Go.AM.isEq.eq_3 ∧ type_of% @Go.AM.maybeNil.eq_1)))) ∧ ((((type_of% @Go.AM.maybeNil.eq_2 ∧ type_of% @Go.AM.maybeNil.eq_3) ∧ (type_of% @Go.AM.runT_done ∧ type_of% @Go.AM.runT_stop)) ∧ ((type_of% @Go.AM.runT_rd ∧ type_of% @Go.AM.rdG_true) ∧ (type_of% @Go.AM.rdG_false ∧ type_of% @Go.AM.rdV_some))) ∧ (((type_of% @Go.AM.runT_mv ∧ type_of% @Go.AM.mvG_true) ∧ (type_of% @Go.AM.mvG_false ∧ type_of% @Go.AM.t_mv)) ∧ ((type_of% @Go.AM.t_pick ∧ type_of% @Go.AM.t_alloc) ∧ (type_of% @Go.AM.t_box ∧ type_of% @Go.AM.t_build)))))) ∧ (((((type_of% @Go.AM.t_bsl ∧ (type_of% @Go.AM.t_loadA ∧ type_of% @Go.AM.t_load1)) ∧ ((type_of% @Go.AM.t_store ∧ type_of% @Go.AM.t_nilc) ∧ (type_of% @Go.AM.t_bin ∧ type_of% @Go.AM.t_un))) ∧ (((type_of% @Go.AM.t_conv ∧ type_of% @Go.AM.t_mkfn) ∧ (type_of% @Go.AM.t_mkmap ∧ type_of% @Go.AM.t_mksl)) ∧ ((type_of% @Go.AM.t_slc ∧ type_of% @Go.AM.t_shift) ∧ (type_of% @Go.AM.t_part ∧ type_of% @Go.AM.t_ixa)))) ∧ ((((type_of% @Go.AM.t_ixs ∧ type_of% @Go.AM.t_ixv) ∧ (type_of% @Go.AM.t_look ∧ type_of% @Go.AM.t_upd)) ∧ ((type_of% @Go.AM.t_ext ∧ type_of% @Go.AM.t_len) ∧ (type_of% @Go.AM.t_cap ∧ type_of% @Go.AM.t_app))) ∧ (((type_of% @Go.AM.t_cpy ∧ type_of% @Go.AM.t_del) ∧ (type_of% @Go.AM.t_clr ∧ type_of% @Go.AM.t_mn)) ∧ ((type_of% @Go.AM.t_mx ∧ type_of% @Go.AM.t_thaw) ∧ (type_of% @Go.AM.t_frz ∧ type_of% @Go.AM.thnT_some))))) ∧ (((((type_of% @Go.AM.opT_call ∧ type_of% @Go.AM.callT_fn) ∧ (type_of% @Go.AM.callT_yield ∧ type_of% @Go.AM.bakT_eq)) ∧ ((type_of% @Go.AM.mvK_nil ∧ type_of% @Go.AM.readL.eq_1) ∧ (type_of% @Go.AM.LOp.opds.eq_1 ∧ type_of% @Go.AM.LOp.opds.eq_2))) ∧ (((type_of% @Go.AM.LOp.opds.eq_3 ∧ type_of% @Go.AM.LOp.opds.eq_4) ∧ (type_of% @Go.AM.LOp.opds.eq_5 ∧ type_of% @Go.AM.LOp.opds.eq_6)) ∧ ((type_of% @Go.AM.LOp.opds.eq_7 ∧ type_of% @Go.AM.LOp.opds.eq_8) ∧ (type_of% @Go.AM.LOp.opds.eq_9 ∧ type_of% @Go.AM.LOp.opds.eq_10)))) ∧ ((((type_of% @Go.AM.LOp.opds.eq_11 ∧ type_of% @Go.AM.LOp.opds.eq_12) ∧ (type_of% @Go.AM.LOp.opds.eq_13 ∧ type_of% @Go.AM.LOp.opds.eq_14)) ∧ ((type_of% @Go.AM.LOp.opds.eq_15 ∧ type_of% @Go.AM.LOp.opds.eq_16) ∧ (type_of% @Go.AM.LOp.opds.eq_17 ∧ type_of% @Go.AM.LOp.opds.eq_18))) ∧ (((type_of% @Go.AM.LOp.opds.eq_19 ∧ type_of% @Go.AM.LOp.opds.eq_20) ∧ (type_of% @Go.AM.LOp.opds.eq_21 ∧ type_of% @Go.AM.LOp.opds.eq_22)) ∧ ((type_of% @Go.AM.LOp.opds.eq_23 ∧ type_of% @Go.AM.LOp.opds.eq_24) ∧ (type_of% @Go.AM.LOp.opds.eq_25 ∧ type_of% @Go.AM.LOp.opds.eq_26))))))) ∧ ((((((type_of% @Go.AM.LOp.opds.eq_27 ∧ (type_of% @Go.AM.LOp.opds.eq_28 ∧ type_of% @Go.AM.LOp.opds.eq_29)) ∧ ((type_of% @Go.AM.LOp.opds.eq_30 ∧ type_of% @Go.AM.LOp.opds.eq_31) ∧ (type_of% @Go.AM.LOp.opds.eq_32 ∧ type_of% @Go.AM.LOp.opds.eq_33))) ∧ (((type_of% @Go.AM.LOp.opds.eq_34 ∧ type_of% @Go.AM.LOp.opds.eq_35) ∧ (type_of% @Go.AM.LOp.opds.eq_36 ∧ type_of% @Go.AM.LOp.opds.eq_37)) ∧ ((type_of% @Go.AM.LOp.opds.eq_38 ∧ type_of% @Go.AM.LOp.opds.eq_39) ∧ (type_of% @Go.AM.calmL.eq_1 ∧ type_of% @Go.AM.calmL.eq_2)))) ∧ ((((type_of% @Go.AM.AV.isUniq.eq_1 ∧ type_of% @Go.AM.AV.isUniq.eq_2) ∧ (type_of% @Go.AM.depL.eq_1 ∧ type_of% @Go.AM.depL.eq_2)) ∧ ((type_of% @Go.AM.depL.eq_3 ∧ type_of% @Go.AM.depL.eq_4) ∧ (type_of% @Go.AM.depL.eq_5 ∧ type_of% @Go.AM.depL.eq_6))) ∧ (((type_of% @Go.AM.depL.eq_7 ∧ type_of% @Go.AM.settledL.eq_1) ∧ (type_of% @Go.AM.settledL.eq_2 ∧ type_of% @Go.AM.settledL.eq_3)) ∧ ((type_of% @Go.AM.settledL.eq_4 ∧ type_of% @Go.AM.settledL.eq_5) ∧ (type_of% @Go.AM.settledL.eq_6 ∧ type_of% @Go.AM.settledL.eq_7))))) ∧ ((((type_of% @Go.AM.settledL.eq_8 ∧ (type_of% @Go.AM.settledL.eq_9 ∧ type_of% @Go.AM.settledL.eq_10)) ∧ ((type_of% @Option.toList_none.{0} ∧ type_of% @Option.toList_some.{0}) ∧ (type_of% @Go.AM.e_mv ∧ type_of% @Go.AM.e_pick))) ∧ (((type_of% @Go.AM.e_alloc ∧ type_of% @Go.AM.e_box) ∧ (type_of% @Go.AM.e_build ∧ type_of% @Go.AM.e_bsl)) ∧ ((type_of% @Go.AM.e_loadA ∧ type_of% @Go.AM.e_load1) ∧ (type_of% @Go.AM.e_store ∧ type_of% @Go.AM.e_nilc)))) ∧ ((((type_of% @Go.AM.e_bin ∧ type_of% @Go.AM.e_un) ∧ (type_of% @Go.AM.e_conv ∧ type_of% @Go.AM.e_mkfn)) ∧ ((type_of% @Go.AM.e_mkmap ∧ type_of% @Go.AM.e_mksl) ∧ (type_of% @Go.AM.e_slc ∧ type_of% @Go.AM.e_shift))) ∧ (((type_of% @Go.AM.e_part ∧ type_of% @Go.AM.e_ixa) ∧ (type_of% @Go.AM.e_ixs ∧ type_of% @Go.AM.e_ixv)) ∧ ((type_of% @Go.AM.e_look ∧ type_of% @Go.AM.e_upd) ∧ (type_of% @Go.AM.e_ext ∧ type_of% @Go.AM.e_len)))))) ∧ (((((type_of% @Go.AM.e_cap ∧ (type_of% @Go.AM.e_app ∧ type_of% @Go.AM.e_cpy)) ∧ ((type_of% @Go.AM.e_del ∧ type_of% @Go.AM.e_clr) ∧ (type_of% @Go.AM.e_mn ∧ type_of% @Go.AM.e_mx))) ∧ (((type_of% @Go.AM.e_thaw ∧ type_of% @Go.AM.e_frz) ∧ (type_of% @Go.AM.evL.eq_1 ∧ type_of% @Go.AM.evL.eq_2)) ∧ ((type_of% @Go.AM.evL.eq_3 ∧ type_of% @Go.AM.evL.eq_4) ∧ (type_of% @Go.AM.evL.eq_5 ∧ type_of% @Go.AM.evL.eq_6)))) ∧ ((((type_of% @Go.AM.evL.eq_7 ∧ type_of% @Go.AM.evL.eq_8) ∧ (type_of% @Go.AM.evL.eq_9 ∧ type_of% @Go.AM.evL.eq_10)) ∧ ((type_of% @Go.AM.evL.eq_11 ∧ type_of% @Go.AM.evL.eq_12) ∧ (type_of% @Go.AM.evL.eq_13 ∧ type_of% @Go.AM.evL.eq_14))) ∧ (((type_of% @Go.AM.evL.eq_15 ∧ type_of% @Go.AM.evL.eq_16) ∧ (type_of% @Go.AM.evL.eq_17 ∧ type_of% @Go.AM.evL.eq_18)) ∧ ((type_of% @Go.AM.evL.eq_19 ∧ type_of% @Go.AM.evL.eq_20) ∧ (type_of% @Go.AM.evL.eq_21 ∧ type_of% @Go.AM.evL.eq_22))))) ∧ (((((type_of% @Go.AM.evL.eq_23 ∧ type_of% @Go.AM.evL.eq_24) ∧ (type_of% @Go.AM.evL.eq_25 ∧ type_of% @Go.AM.evL.eq_26)) ∧ ((type_of% @Go.AM.evL.eq_27 ∧ type_of% @Go.AM.evL.eq_28) ∧ (type_of% @Go.AM.evL.eq_29 ∧ type_of% @Go.AM.evL.eq_30))) ∧ (((type_of% @Go.AM.evL.eq_31 ∧ type_of% @Go.AM.evL.eq_32) ∧ (type_of% @Go.AM.evL.eq_33 ∧ type_of% @Go.AM.evL.eq_34)) ∧ ((type_of% @Go.AM.evL.eq_35 ∧ type_of% @Go.AM.evL.eq_36) ∧ (type_of% @Go.AM.evL.eq_37 ∧ type_of% @Go.AM.evL.eq_38)))) ∧ ((((type_of% @Go.AM.evL.eq_39 ∧ type_of% @Go.AM.evL.eq_40) ∧ (type_of% @Go.AM.run_fn ∧ type_of% @Go.AM.fin_ret)) ∧ ((type_of% @Go.AM.fin_normal ∧ type_of% @Go.AM.end1_nil) ∧ (type_of% @Go.AM.end1_one ∧ type_of% @Go.AM.end1_two))) ∧ (((type_of% @Go.AM.end1_three ∧ type_of% @Go.AM.end1_four) ∧ (type_of% @Go.AM.ress_nil ∧ type_of% @Go.AM.ress_t)) ∧ ((type_of% @Go.AM.ress_many ∧ type_of% @Go.AM.ress_one) ∧ (type_of% @Go.AM.cns_some ∧ type_of% @Go.AM.cns2_some)))))))) :=
  ⟨⟨⟨⟨⟨⟨⟨@Go.AM.runC_skip, ⟨@Go.AM.runC_sq, @Go.AM.runC_tree⟩⟩, ⟨⟨@Go.AM.runC_seq, @Go.AM.runC_cond⟩, ⟨@Go.AM.runC_block, @Go.AM.runC_exit⟩⟩⟩, ⟨⟨⟨@Go.AM.runC_ret, @Go.AM.runC_loop⟩, ⟨@Go.AM.cnd_true, @Go.AM.cnd_false⟩⟩, ⟨⟨@Go.AM.nxt_nil, @Go.AM.nxt_c⟩, ⟨@Go.AM.nxt_blk, @Go.AM.nxt_lp⟩⟩⟩⟩, ⟨⟨⟨⟨@Go.AM.ext_nil, @Go.AM.ext_c⟩, ⟨@Go.AM.ext_blk, @Go.AM.ext_lp⟩⟩, ⟨⟨@Go.AM.rtn_nil, @Go.AM.rtn_c⟩, ⟨@Go.AM.rtn_blk, @Go.AM.rtn_lp⟩⟩⟩, ⟨⟨⟨@Go.AM.runS_nil, @Go.AM.runS_op⟩, ⟨@Go.AM.runS_grd, @Go.AM.grd_true⟩⟩, ⟨⟨@Go.AM.grd_false, @Go.AM.thn_some⟩, ⟨@Go.AM.opS_call, @Go.AM.call_fn⟩⟩⟩⟩⟩, ⟨⟨⟨⟨@Go.AM.call_yield, ⟨@Go.AM.bak_eq, @Go.AM.mb_t⟩⟩, ⟨⟨@Go.AM.mb_f, @Go.AM.mayb_sc⟩, ⟨@Go.AM.mayb_bl, @Go.AM.mayb_leaf⟩⟩⟩, ⟨⟨⟨@Go.AM.mayb_r0, @Go.AM.mayb_r1⟩, ⟨@Go.AM.mayb_r2, @Go.AM.mayb_r3⟩⟩, ⟨⟨@Go.AM.isEq.eq_1, @Go.AM.isEq.eq_2⟩, ⟨@Go.AM.isEq.eq_3, @Go.AM.maybeNil.eq_1⟩⟩⟩⟩, ⟨⟨⟨⟨@Go.AM.maybeNil.eq_2, @Go.AM.maybeNil.eq_3⟩, ⟨@Go.AM.runT_done, @Go.AM.runT_stop⟩⟩, ⟨⟨@Go.AM.runT_rd, @Go.AM.rdG_true⟩, ⟨@Go.AM.rdG_false, @Go.AM.rdV_some⟩⟩⟩, ⟨⟨⟨@Go.AM.runT_mv, @Go.AM.mvG_true⟩, ⟨@Go.AM.mvG_false, @Go.AM.t_mv⟩⟩, ⟨⟨@Go.AM.t_pick, @Go.AM.t_alloc⟩, ⟨@Go.AM.t_box, @Go.AM.t_build⟩⟩⟩⟩⟩⟩, ⟨⟨⟨⟨⟨@Go.AM.t_bsl, ⟨@Go.AM.t_loadA, @Go.AM.t_load1⟩⟩, ⟨⟨@Go.AM.t_store, @Go.AM.t_nilc⟩, ⟨@Go.AM.t_bin, @Go.AM.t_un⟩⟩⟩, ⟨⟨⟨@Go.AM.t_conv, @Go.AM.t_mkfn⟩, ⟨@Go.AM.t_mkmap, @Go.AM.t_mksl⟩⟩, ⟨⟨@Go.AM.t_slc, @Go.AM.t_shift⟩, ⟨@Go.AM.t_part, @Go.AM.t_ixa⟩⟩⟩⟩, ⟨⟨⟨⟨@Go.AM.t_ixs, @Go.AM.t_ixv⟩, ⟨@Go.AM.t_look, @Go.AM.t_upd⟩⟩, ⟨⟨@Go.AM.t_ext, @Go.AM.t_len⟩, ⟨@Go.AM.t_cap, @Go.AM.t_app⟩⟩⟩, ⟨⟨⟨@Go.AM.t_cpy, @Go.AM.t_del⟩, ⟨@Go.AM.t_clr, @Go.AM.t_mn⟩⟩, ⟨⟨@Go.AM.t_mx, @Go.AM.t_thaw⟩, ⟨@Go.AM.t_frz, @Go.AM.thnT_some⟩⟩⟩⟩⟩, ⟨⟨⟨⟨⟨@Go.AM.opT_call, @Go.AM.callT_fn⟩, ⟨@Go.AM.callT_yield, @Go.AM.bakT_eq⟩⟩, ⟨⟨@Go.AM.mvK_nil, @Go.AM.readL.eq_1⟩, ⟨@Go.AM.LOp.opds.eq_1, @Go.AM.LOp.opds.eq_2⟩⟩⟩, ⟨⟨⟨@Go.AM.LOp.opds.eq_3, @Go.AM.LOp.opds.eq_4⟩, ⟨@Go.AM.LOp.opds.eq_5, @Go.AM.LOp.opds.eq_6⟩⟩, ⟨⟨@Go.AM.LOp.opds.eq_7, @Go.AM.LOp.opds.eq_8⟩, ⟨@Go.AM.LOp.opds.eq_9, @Go.AM.LOp.opds.eq_10⟩⟩⟩⟩, ⟨⟨⟨⟨@Go.AM.LOp.opds.eq_11, @Go.AM.LOp.opds.eq_12⟩, ⟨@Go.AM.LOp.opds.eq_13, @Go.AM.LOp.opds.eq_14⟩⟩, ⟨⟨@Go.AM.LOp.opds.eq_15, @Go.AM.LOp.opds.eq_16⟩, ⟨@Go.AM.LOp.opds.eq_17, @Go.AM.LOp.opds.eq_18⟩⟩⟩, ⟨⟨⟨@Go.AM.LOp.opds.eq_19, @Go.AM.LOp.opds.eq_20⟩, ⟨@Go.AM.LOp.opds.eq_21, @Go.AM.LOp.opds.eq_22⟩⟩, ⟨⟨@Go.AM.LOp.opds.eq_23, @Go.AM.LOp.opds.eq_24⟩, ⟨@Go.AM.LOp.opds.eq_25, @Go.AM.LOp.opds.eq_26⟩⟩⟩⟩⟩⟩⟩, ⟨⟨⟨⟨⟨⟨@Go.AM.LOp.opds.eq_27, ⟨@Go.AM.LOp.opds.eq_28, @Go.AM.LOp.opds.eq_29⟩⟩, ⟨⟨@Go.AM.LOp.opds.eq_30, @Go.AM.LOp.opds.eq_31⟩, ⟨@Go.AM.LOp.opds.eq_32, @Go.AM.LOp.opds.eq_33⟩⟩⟩, ⟨⟨⟨@Go.AM.LOp.opds.eq_34, @Go.AM.LOp.opds.eq_35⟩, ⟨@Go.AM.LOp.opds.eq_36, @Go.AM.LOp.opds.eq_37⟩⟩, ⟨⟨@Go.AM.LOp.opds.eq_38, @Go.AM.LOp.opds.eq_39⟩, ⟨@Go.AM.calmL.eq_1, @Go.AM.calmL.eq_2⟩⟩⟩⟩, ⟨⟨⟨⟨@Go.AM.AV.isUniq.eq_1, @Go.AM.AV.isUniq.eq_2⟩, ⟨@Go.AM.depL.eq_1, @Go.AM.depL.eq_2⟩⟩, ⟨⟨@Go.AM.depL.eq_3, @Go.AM.depL.eq_4⟩, ⟨@Go.AM.depL.eq_5, @Go.AM.depL.eq_6⟩⟩⟩, ⟨⟨⟨@Go.AM.depL.eq_7, @Go.AM.settledL.eq_1⟩, ⟨@Go.AM.settledL.eq_2, @Go.AM.settledL.eq_3⟩⟩, ⟨⟨@Go.AM.settledL.eq_4, @Go.AM.settledL.eq_5⟩, ⟨@Go.AM.settledL.eq_6, @Go.AM.settledL.eq_7⟩⟩⟩⟩⟩, ⟨⟨⟨⟨@Go.AM.settledL.eq_8, ⟨@Go.AM.settledL.eq_9, @Go.AM.settledL.eq_10⟩⟩, ⟨⟨@Option.toList_none.{0}, @Option.toList_some.{0}⟩, ⟨@Go.AM.e_mv, @Go.AM.e_pick⟩⟩⟩, ⟨⟨⟨@Go.AM.e_alloc, @Go.AM.e_box⟩, ⟨@Go.AM.e_build, @Go.AM.e_bsl⟩⟩, ⟨⟨@Go.AM.e_loadA, @Go.AM.e_load1⟩, ⟨@Go.AM.e_store, @Go.AM.e_nilc⟩⟩⟩⟩, ⟨⟨⟨⟨@Go.AM.e_bin, @Go.AM.e_un⟩, ⟨@Go.AM.e_conv, @Go.AM.e_mkfn⟩⟩, ⟨⟨@Go.AM.e_mkmap, @Go.AM.e_mksl⟩, ⟨@Go.AM.e_slc, @Go.AM.e_shift⟩⟩⟩, ⟨⟨⟨@Go.AM.e_part, @Go.AM.e_ixa⟩, ⟨@Go.AM.e_ixs, @Go.AM.e_ixv⟩⟩, ⟨⟨@Go.AM.e_look, @Go.AM.e_upd⟩, ⟨@Go.AM.e_ext, @Go.AM.e_len⟩⟩⟩⟩⟩⟩, ⟨⟨⟨⟨⟨@Go.AM.e_cap, ⟨@Go.AM.e_app, @Go.AM.e_cpy⟩⟩, ⟨⟨@Go.AM.e_del, @Go.AM.e_clr⟩, ⟨@Go.AM.e_mn, @Go.AM.e_mx⟩⟩⟩, ⟨⟨⟨@Go.AM.e_thaw, @Go.AM.e_frz⟩, ⟨@Go.AM.evL.eq_1, @Go.AM.evL.eq_2⟩⟩, ⟨⟨@Go.AM.evL.eq_3, @Go.AM.evL.eq_4⟩, ⟨@Go.AM.evL.eq_5, @Go.AM.evL.eq_6⟩⟩⟩⟩, ⟨⟨⟨⟨@Go.AM.evL.eq_7, @Go.AM.evL.eq_8⟩, ⟨@Go.AM.evL.eq_9, @Go.AM.evL.eq_10⟩⟩, ⟨⟨@Go.AM.evL.eq_11, @Go.AM.evL.eq_12⟩, ⟨@Go.AM.evL.eq_13, @Go.AM.evL.eq_14⟩⟩⟩, ⟨⟨⟨@Go.AM.evL.eq_15, @Go.AM.evL.eq_16⟩, ⟨@Go.AM.evL.eq_17, @Go.AM.evL.eq_18⟩⟩, ⟨⟨@Go.AM.evL.eq_19, @Go.AM.evL.eq_20⟩, ⟨@Go.AM.evL.eq_21, @Go.AM.evL.eq_22⟩⟩⟩⟩⟩, ⟨⟨⟨⟨⟨@Go.AM.evL.eq_23, @Go.AM.evL.eq_24⟩, ⟨@Go.AM.evL.eq_25, @Go.AM.evL.eq_26⟩⟩, ⟨⟨@Go.AM.evL.eq_27, @Go.AM.evL.eq_28⟩, ⟨@Go.AM.evL.eq_29, @Go.AM.evL.eq_30⟩⟩⟩, ⟨⟨⟨@Go.AM.evL.eq_31, @Go.AM.evL.eq_32⟩, ⟨@Go.AM.evL.eq_33, @Go.AM.evL.eq_34⟩⟩, ⟨⟨@Go.AM.evL.eq_35, @Go.AM.evL.eq_36⟩, ⟨@Go.AM.evL.eq_37, @Go.AM.evL.eq_38⟩⟩⟩⟩, ⟨⟨⟨⟨@Go.AM.evL.eq_39, @Go.AM.evL.eq_40⟩, ⟨@Go.AM.run_fn, @Go.AM.fin_ret⟩⟩, ⟨⟨@Go.AM.fin_normal, @Go.AM.end1_nil⟩, ⟨@Go.AM.end1_one, @Go.AM.end1_two⟩⟩⟩, ⟨⟨⟨@Go.AM.end1_three, @Go.AM.end1_four⟩, ⟨@Go.AM.ress_nil, @Go.AM.ress_t⟩⟩, ⟨⟨@Go.AM.ress_many, @Go.AM.ress_one⟩, ⟨@Go.AM.cns_some, @Go.AM.cns2_some⟩⟩⟩⟩⟩⟩⟩⟩
theorem FR_ :
  ((((((type_of% @Go.AM.putA.eq_1 ∧ (type_of% @Go.AM.putA.eq_2 ∧ type_of% @Go.AM.opL.eq_1)) ∧ (type_of% @Go.AM.opL.eq_2 ∧ (type_of% @Go.AM.opL.eq_3 ∧ type_of% @Go.AM.opL.eq_4))) ∧ ((type_of% @Go.AM.seL.eq_1 ∧ (type_of% @Go.AM.tkL.eq_1 ∧ type_of% @Go.AM.tkL.eq_2)) ∧ ((type_of% @Go.AM.tkL.eq_3 ∧ type_of% @Go.AM.tkAllL.eq_1) ∧ (type_of% @Go.AM.tkAllL.eq_2 ∧ type_of% @Go.AM.sharedL.eq_1)))) ∧ (((type_of% @Go.AM.sharedL.eq_2 ∧ (type_of% @Go.AM.settleL.eq_1 ∧ type_of% @Go.AM.settleL.eq_2)) ∧ ((type_of% @Go.AM.guardL.eq_1 ∧ type_of% @Go.AM.guardL.eq_2) ∧ (type_of% @Go.AM.AV.look.eq_1 ∧ type_of% @Go.AM.AV.look.eq_2))) ∧ ((type_of% @Go.AM.AV.look.eq_3 ∧ (type_of% @Go.AM.AV.sh.eq_1 ∧ type_of% @Go.AM.AV.sh.eq_2)) ∧ ((type_of% @Go.AM.AV.sh.eq_3 ∧ type_of% @Go.AM.AV.left.eq_1) ∧ (type_of% @Go.AM.AV.left.eq_2 ∧ type_of% @Go.AM.AV.left.eq_3))))) ∧ ((((type_of% @Go.AM.AV.calm.eq_1 ∧ (type_of% @Go.AM.AV.calm.eq_2 ∧ type_of% @Go.AM.AV.cells.eq_1)) ∧ (type_of% @Go.AM.AV.cells.eq_2 ∧ (type_of% @Go.AM.AV.fit.eq_1 ∧ type_of% @Go.AM.AV.fit.eq_2))) ∧ ((type_of% @Go.AM.AV.fit.eq_3 ∧ (type_of% @Go.AM.AV.isSlice.eq_1 ∧ type_of% @Go.AM.AV.isSlice.eq_2)) ∧ ((type_of% @Go.AM.AV.isSlice.eq_3 ∧ type_of% @Go.AM.AV.isSlice.eq_4) ∧ (type_of% @Go.AM.AV.isStr.eq_1 ∧ type_of% @Go.AM.AV.isStr.eq_2)))) ∧ (((type_of% @Go.AM.AV.nilKind.eq_1 ∧ (type_of% @Go.AM.AV.nilKind.eq_2 ∧ type_of% @Go.AM.AV.nilKind.eq_3)) ∧ ((type_of% @Go.AM.AV.nilKind.eq_4 ∧ type_of% @Go.AM.AV.nilKind.eq_5) ∧ (type_of% @Go.AM.AV.refKind.eq_1 ∧ type_of% @Go.AM.AV.refKind.eq_2))) ∧ ((type_of% @Go.AM.AV.refKind.eq_3 ∧ (type_of% @Go.AM.AV.refKind.eq_4 ∧ type_of% @Go.AM.AV.refKind.eq_5)) ∧ ((type_of% @Go.AM.AV.refKind.eq_6 ∧ type_of% @Go.AM.AV.refKind.eq_7) ∧ (type_of% @Go.AM.AV.refKind.eq_8 ∧ type_of% @List.getD_cons_zero.{0})))))) ∧ (((((type_of% @List.getD_cons_succ.{0} ∧ (type_of% @List.set_cons_zero.{0} ∧ type_of% @List.set_cons_succ.{0})) ∧ (type_of% @List.getElem?_cons_zero.{0} ∧ (type_of% @List.getElem?_cons_succ.{0} ∧ type_of% @List.length_cons.{0}))) ∧ ((type_of% @List.length_nil.{0} ∧ (type_of% @List.replicate_succ.{0} ∧ type_of% @List.replicate_zero.{0})) ∧ ((type_of% @List.cons_append.{0} ∧ type_of% @List.nil_append.{0}) ∧ (type_of% @List.append_nil.{0} ∧ type_of% @List.map_cons.{0, 0})))) ∧ (((type_of% @List.map_nil.{0, 0} ∧ (type_of% @List.take_succ_cons.{0} ∧ type_of% @List.take_zero.{0})) ∧ ((type_of% @List.drop_succ_cons.{0} ∧ type_of% @List.drop_zero.{0}) ∧ (type_of% @List.all_cons.{0} ∧ type_of% @List.all_nil.{0}))) ∧ ((type_of% @Option.map_some.{0, 0} ∧ (type_of% @Option.map_none.{0, 0} ∧ type_of% @Option.bind_some.{0, 0})) ∧ ((type_of% @Nat.zero_add ∧ type_of% @Nat.add_zero) ∧ (type_of% @Nat.zero_mul ∧ type_of% @Go.AM.cast_lit))))) ∧ ((((type_of% @Go.AM.gd_t ∧ (type_of% @Go.AM.gd_f ∧ type_of% @gt_iff_lt.{0})) ∧ ((type_of% @ge_iff_le.{0} ∧ type_of% @or_self) ∧ (type_of% @or_false ∧ type_of% @false_or))) ∧ ((type_of% @true_implies ∧ (type_of% @false_implies ∧ type_of% @and_true)) ∧ ((type_of% @true_and ∧ type_of% @Bool.false_eq_true) ∧ (type_of% @Bool.true_eq_false ∧ type_of% @not_false_eq_true)))) ∧ (((type_of% @not_true_eq_false ∧ (type_of% @beq_self_eq_true.{0} ∧ type_of% @beq_iff_eq.{0})) ∧ ((type_of% @Bool.and_true ∧ type_of% @Bool.true_and) ∧ (type_of% @Bool.and_self ∧ type_of% @Bool.not_true))) ∧ ((type_of% @Bool.not_false ∧ (type_of% @Bool.or_false ∧ type_of% @Bool.false_or)) ∧ ((type_of% @Bool.or_true ∧ type_of% @Bool.true_or) ∧ (type_of% @decide_true ∧ type_of% @decide_false))))))) :=
  ⟨⟨⟨⟨⟨⟨@Go.AM.putA.eq_1, ⟨@Go.AM.putA.eq_2, @Go.AM.opL.eq_1⟩⟩, ⟨@Go.AM.opL.eq_2, ⟨@Go.AM.opL.eq_3, @Go.AM.opL.eq_4⟩⟩⟩, ⟨⟨@Go.AM.seL.eq_1, ⟨@Go.AM.tkL.eq_1, @Go.AM.tkL.eq_2⟩⟩, ⟨⟨@Go.AM.tkL.eq_3, @Go.AM.tkAllL.eq_1⟩, ⟨@Go.AM.tkAllL.eq_2, @Go.AM.sharedL.eq_1⟩⟩⟩⟩, ⟨⟨⟨@Go.AM.sharedL.eq_2, ⟨@Go.AM.settleL.eq_1, @Go.AM.settleL.eq_2⟩⟩, ⟨⟨@Go.AM.guardL.eq_1, @Go.AM.guardL.eq_2⟩, ⟨@Go.AM.AV.look.eq_1, @Go.AM.AV.look.eq_2⟩⟩⟩, ⟨⟨@Go.AM.AV.look.eq_3, ⟨@Go.AM.AV.sh.eq_1, @Go.AM.AV.sh.eq_2⟩⟩, ⟨⟨@Go.AM.AV.sh.eq_3, @Go.AM.AV.left.eq_1⟩, ⟨@Go.AM.AV.left.eq_2, @Go.AM.AV.left.eq_3⟩⟩⟩⟩⟩, ⟨⟨⟨⟨@Go.AM.AV.calm.eq_1, ⟨@Go.AM.AV.calm.eq_2, @Go.AM.AV.cells.eq_1⟩⟩, ⟨@Go.AM.AV.cells.eq_2, ⟨@Go.AM.AV.fit.eq_1, @Go.AM.AV.fit.eq_2⟩⟩⟩, ⟨⟨@Go.AM.AV.fit.eq_3, ⟨@Go.AM.AV.isSlice.eq_1, @Go.AM.AV.isSlice.eq_2⟩⟩, ⟨⟨@Go.AM.AV.isSlice.eq_3, @Go.AM.AV.isSlice.eq_4⟩, ⟨@Go.AM.AV.isStr.eq_1, @Go.AM.AV.isStr.eq_2⟩⟩⟩⟩, ⟨⟨⟨@Go.AM.AV.nilKind.eq_1, ⟨@Go.AM.AV.nilKind.eq_2, @Go.AM.AV.nilKind.eq_3⟩⟩, ⟨⟨@Go.AM.AV.nilKind.eq_4, @Go.AM.AV.nilKind.eq_5⟩, ⟨@Go.AM.AV.refKind.eq_1, @Go.AM.AV.refKind.eq_2⟩⟩⟩, ⟨⟨@Go.AM.AV.refKind.eq_3, ⟨@Go.AM.AV.refKind.eq_4, @Go.AM.AV.refKind.eq_5⟩⟩, ⟨⟨@Go.AM.AV.refKind.eq_6, @Go.AM.AV.refKind.eq_7⟩, ⟨@Go.AM.AV.refKind.eq_8, @List.getD_cons_zero.{0}⟩⟩⟩⟩⟩⟩, ⟨⟨⟨⟨⟨@List.getD_cons_succ.{0}, ⟨@List.set_cons_zero.{0}, @List.set_cons_succ.{0}⟩⟩, ⟨@List.getElem?_cons_zero.{0}, ⟨@List.getElem?_cons_succ.{0}, @List.length_cons.{0}⟩⟩⟩, ⟨⟨@List.length_nil.{0}, ⟨@List.replicate_succ.{0}, @List.replicate_zero.{0}⟩⟩, ⟨⟨@List.cons_append.{0}, @List.nil_append.{0}⟩, ⟨@List.append_nil.{0}, @List.map_cons.{0, 0}⟩⟩⟩⟩, ⟨⟨⟨@List.map_nil.{0, 0}, ⟨@List.take_succ_cons.{0}, @List.take_zero.{0}⟩⟩, ⟨⟨@List.drop_succ_cons.{0}, @List.drop_zero.{0}⟩, ⟨@List.all_cons.{0}, @List.all_nil.{0}⟩⟩⟩, ⟨⟨@Option.map_some.{0, 0}, ⟨@Option.map_none.{0, 0}, @Option.bind_some.{0, 0}⟩⟩, ⟨⟨@Nat.zero_add, @Nat.add_zero⟩, ⟨@Nat.zero_mul, @Go.AM.cast_lit⟩⟩⟩⟩⟩, ⟨⟨⟨⟨@Go.AM.gd_t, ⟨@Go.AM.gd_f, @gt_iff_lt.{0}⟩⟩, ⟨⟨@ge_iff_le.{0}, @or_self⟩, ⟨@or_false, @false_or⟩⟩⟩, ⟨⟨@true_implies, ⟨@false_implies, @and_true⟩⟩, ⟨⟨@true_and, @Bool.false_eq_true⟩, ⟨@Bool.true_eq_false, @not_false_eq_true⟩⟩⟩⟩, ⟨⟨⟨@not_true_eq_false, ⟨@beq_self_eq_true.{0}, @beq_iff_eq.{0}⟩⟩, ⟨⟨@Bool.and_true, @Bool.true_and⟩, ⟨@Bool.and_self, @Bool.not_true⟩⟩⟩, ⟨⟨@Bool.not_false, ⟨@Bool.or_false, @Bool.false_or⟩⟩, ⟨⟨@Bool.or_true, @Bool.true_or⟩, ⟨@decide_true, @decide_false⟩⟩⟩⟩⟩⟩⟩
theorem OPK_ :
  ((((((type_of% @Go.AM.binL.eq_1 ∧ type_of% @Go.AM.binL.eq_2) ∧ (type_of% @Go.AM.binL.eq_3 ∧ (type_of% @Go.AM.binL.eq_4 ∧ type_of% @Go.AM.binL.eq_5))) ∧ ((type_of% @Go.AM.binL.eq_6 ∧ type_of% @Go.AM.binL.eq_7) ∧ (type_of% @Go.AM.binL.eq_8 ∧ (type_of% @Go.AM.binL.eq_9 ∧ type_of% @Go.AM.binL.eq_10)))) ∧ (((type_of% @Go.AM.binL.eq_11 ∧ type_of% @Go.AM.scBin.eq_1) ∧ (type_of% @Go.AM.scBin.eq_2 ∧ (type_of% @Go.AM.scBin.eq_3 ∧ type_of% @Go.AM.scBin.eq_4))) ∧ ((type_of% @Go.AM.scBin.eq_5 ∧ (type_of% @Go.AM.scBin.eq_6 ∧ type_of% @Go.AM.blBin.eq_1)) ∧ (type_of% @Go.AM.blBin.eq_2 ∧ (type_of% @Go.AM.blBin.eq_3 ∧ type_of% @Go.AM.intBin.eq_1))))) ∧ ((((type_of% @Go.AM.intBin.eq_2 ∧ type_of% @Go.AM.intBin.eq_3) ∧ (type_of% @Go.AM.intBin.eq_4 ∧ (type_of% @Go.AM.intBin.eq_5 ∧ type_of% @Go.AM.intBin.eq_6))) ∧ ((type_of% @Go.AM.intBin.eq_7 ∧ (type_of% @Go.AM.intBin.eq_8 ∧ type_of% @Go.AM.intBin.eq_9)) ∧ (type_of% @Go.AM.intBin.eq_10 ∧ (type_of% @Go.AM.intBin.eq_11 ∧ type_of% @Go.AM.intBin.eq_12)))) ∧ (((type_of% @Go.AM.intBin.eq_13 ∧ type_of% @Go.AM.intBin.eq_14) ∧ (type_of% @Go.AM.intBin.eq_15 ∧ (type_of% @Go.AM.intBin.eq_16 ∧ type_of% @Go.AM.intShift.eq_1))) ∧ ((type_of% @Go.AM.intShift.eq_2 ∧ (type_of% @Go.AM.intShift.eq_3 ∧ type_of% @Go.AM.unL.eq_1)) ∧ (type_of% @Go.AM.unL.eq_2 ∧ (type_of% @Go.AM.unL.eq_3 ∧ type_of% @Go.AM.unL.eq_4)))))) ∧ (((((type_of% @Go.AM.load1L.eq_1 ∧ type_of% @Go.AM.load1L.eq_2) ∧ (type_of% @Go.AM.load1L.eq_3 ∧ (type_of% @Go.AM.load1L.eq_4 ∧ type_of% @Go.AM.readCells.eq_1))) ∧ ((type_of% @Go.AM.readCells.eq_2 ∧ (type_of% @Go.AM.readCells.eq_3 ∧ type_of% @Go.AM.splice.eq_1)) ∧ (type_of% @Go.AM.splice.eq_2 ∧ (type_of% @Go.AM.mayHold.eq_1 ∧ type_of% @Go.AM.mayHold.eq_2)))) ∧ (((type_of% @Go.AM.boxOf_stk ∧ type_of% @Go.AM.boxOf_heap) ∧ (type_of% @Go.AM.setBox_stk ∧ (type_of% @Go.AM.setBox_heap ∧ type_of% @Go.AM.newBox_stk))) ∧ ((type_of% @Go.AM.newBox_heap ∧ (type_of% @Go.AM.app_get0 ∧ type_of% @Go.AM.app_get)) ∧ (type_of% @Go.AM.app_set0 ∧ (type_of% @Go.AM.app_set ∧ type_of% @Go.AM.app_take))))) ∧ ((((type_of% @Go.AM.app_one ∧ type_of% @List.length_append.{0}) ∧ (type_of% @Go.AM.shift.eq_1 ∧ (type_of% @Go.AM.shift.eq_2 ∧ type_of% @Go.AM.shift.eq_3))) ∧ ((type_of% @Go.AM.partL.eq_1 ∧ (type_of% @Go.AM.partL.eq_2 ∧ type_of% @Go.AM.capL.eq_1)) ∧ (type_of% @Go.AM.capL.eq_2 ∧ (type_of% @Go.AM.capL.eq_3 ∧ type_of% @Nat.add_assoc)))) ∧ (((type_of% @Go.AM.AV.under.eq_1 ∧ type_of% @Go.AM.AV.under.eq_2) ∧ (type_of% @Go.AM.AV.under.eq_3 ∧ (type_of% @Go.AM.AV.under.eq_4 ∧ type_of% @Go.AM.AV.under.eq_5))) ∧ ((type_of% @Go.AM.AV.under.eq_6 ∧ (type_of% @Go.AM.AV.under.go.eq_1 ∧ type_of% @Go.AM.AV.under.go.eq_2)) ∧ (type_of% @Go.AM.finL.eq_1 ∧ (type_of% @Go.AM.finL.eq_2 ∧ type_of% @Go.AM.finL.eq_3))))))) :=
  ⟨⟨⟨⟨⟨⟨@Go.AM.binL.eq_1, @Go.AM.binL.eq_2⟩, ⟨@Go.AM.binL.eq_3, ⟨@Go.AM.binL.eq_4, @Go.AM.binL.eq_5⟩⟩⟩, ⟨⟨@Go.AM.binL.eq_6, @Go.AM.binL.eq_7⟩, ⟨@Go.AM.binL.eq_8, ⟨@Go.AM.binL.eq_9, @Go.AM.binL.eq_10⟩⟩⟩⟩, ⟨⟨⟨@Go.AM.binL.eq_11, @Go.AM.scBin.eq_1⟩, ⟨@Go.AM.scBin.eq_2, ⟨@Go.AM.scBin.eq_3, @Go.AM.scBin.eq_4⟩⟩⟩, ⟨⟨@Go.AM.scBin.eq_5, ⟨@Go.AM.scBin.eq_6, @Go.AM.blBin.eq_1⟩⟩, ⟨@Go.AM.blBin.eq_2, ⟨@Go.AM.blBin.eq_3, @Go.AM.intBin.eq_1⟩⟩⟩⟩⟩, ⟨⟨⟨⟨@Go.AM.intBin.eq_2, @Go.AM.intBin.eq_3⟩, ⟨@Go.AM.intBin.eq_4, ⟨@Go.AM.intBin.eq_5, @Go.AM.intBin.eq_6⟩⟩⟩, ⟨⟨@Go.AM.intBin.eq_7, ⟨@Go.AM.intBin.eq_8, @Go.AM.intBin.eq_9⟩⟩, ⟨@Go.AM.intBin.eq_10, ⟨@Go.AM.intBin.eq_11, @Go.AM.intBin.eq_12⟩⟩⟩⟩, ⟨⟨⟨@Go.AM.intBin.eq_13, @Go.AM.intBin.eq_14⟩, ⟨@Go.AM.intBin.eq_15, ⟨@Go.AM.intBin.eq_16, @Go.AM.intShift.eq_1⟩⟩⟩, ⟨⟨@Go.AM.intShift.eq_2, ⟨@Go.AM.intShift.eq_3, @Go.AM.unL.eq_1⟩⟩, ⟨@Go.AM.unL.eq_2, ⟨@Go.AM.unL.eq_3, @Go.AM.unL.eq_4⟩⟩⟩⟩⟩⟩, ⟨⟨⟨⟨⟨@Go.AM.load1L.eq_1, @Go.AM.load1L.eq_2⟩, ⟨@Go.AM.load1L.eq_3, ⟨@Go.AM.load1L.eq_4, @Go.AM.readCells.eq_1⟩⟩⟩, ⟨⟨@Go.AM.readCells.eq_2, ⟨@Go.AM.readCells.eq_3, @Go.AM.splice.eq_1⟩⟩, ⟨@Go.AM.splice.eq_2, ⟨@Go.AM.mayHold.eq_1, @Go.AM.mayHold.eq_2⟩⟩⟩⟩, ⟨⟨⟨@Go.AM.boxOf_stk, @Go.AM.boxOf_heap⟩, ⟨@Go.AM.setBox_stk, ⟨@Go.AM.setBox_heap, @Go.AM.newBox_stk⟩⟩⟩, ⟨⟨@Go.AM.newBox_heap, ⟨@Go.AM.app_get0, @Go.AM.app_get⟩⟩, ⟨@Go.AM.app_set0, ⟨@Go.AM.app_set, @Go.AM.app_take⟩⟩⟩⟩⟩, ⟨⟨⟨⟨@Go.AM.app_one, @List.length_append.{0}⟩, ⟨@Go.AM.shift.eq_1, ⟨@Go.AM.shift.eq_2, @Go.AM.shift.eq_3⟩⟩⟩, ⟨⟨@Go.AM.partL.eq_1, ⟨@Go.AM.partL.eq_2, @Go.AM.capL.eq_1⟩⟩, ⟨@Go.AM.capL.eq_2, ⟨@Go.AM.capL.eq_3, @Nat.add_assoc⟩⟩⟩⟩, ⟨⟨⟨@Go.AM.AV.under.eq_1, @Go.AM.AV.under.eq_2⟩, ⟨@Go.AM.AV.under.eq_3, ⟨@Go.AM.AV.under.eq_4, @Go.AM.AV.under.eq_5⟩⟩⟩, ⟨⟨@Go.AM.AV.under.eq_6, ⟨@Go.AM.AV.under.go.eq_1, @Go.AM.AV.under.go.eq_2⟩⟩, ⟨@Go.AM.finL.eq_1, ⟨@Go.AM.finL.eq_2, @Go.AM.finL.eq_3⟩⟩⟩⟩⟩⟩⟩
theorem KEY_ :
  ((((((type_of% @Go.AM.bslL.eq_1 ∧ type_of% @Go.AM.fillE.eq_1) ∧ (type_of% @Go.AM.fillE.eq_2 ∧ (type_of% @List.isEmpty_nil.{0} ∧ type_of% @List.isEmpty_cons.{0}))) ∧ ((type_of% @Go.AM.under_s ∧ type_of% @Go.AM.cells_s) ∧ (type_of% @Go.AM.fit_s ∧ (type_of% @Go.AM.under_list ∧ type_of% @Go.AM.cells_list)))) ∧ (((type_of% @Go.AM.fit_list ∧ type_of% @Go.AM.storeS_stk) ∧ (type_of% @Go.AM.storeS_stk0 ∧ (type_of% @Go.AM.storeQ_stk ∧ type_of% @Go.AM.storeQ_stk0))) ∧ ((type_of% @Go.AM.cellsOf_some ∧ (type_of% @Go.AM.cells_u8 ∧ type_of% @Go.AM.fit_u8)) ∧ (type_of% @Go.AM.kA_cells ∧ (type_of% @Go.AM.kA_under ∧ type_of% @Go.AM.kA_low))))) ∧ ((((type_of% @Go.AM.kA_calm ∧ type_of% @Go.AM.under_u8) ∧ (type_of% @Go.AM.look_u8 ∧ (type_of% @Go.AM.elems_list ∧ type_of% @Go.AM.storeL_stk))) ∧ ((type_of% @Go.AM.storeL_stk0 ∧ (type_of% @Go.AM.readA_rop ∧ type_of% @Go.AM.readA_stk)) ∧ (type_of% @Go.AM.readA_stk0 ∧ (type_of% @Go.AM.zk_eq ∧ type_of% @Go.AM.kc_length)))) ∧ (((type_of% @Go.AM.take_kc ∧ type_of% @Go.AM.drop_kc) ∧ (type_of% @Go.AM.take_kc0 ∧ (type_of% @Go.AM.drop_zero' ∧ type_of% @Go.AM.get_kc16))) ∧ ((type_of% @Go.AM.get_kc17 ∧ (type_of% @Go.AM.take_all ∧ type_of% @Go.AM.look_app)) ∧ (type_of% @Go.AM.map_look_bs ∧ (type_of% @Go.AM.under_app' ∧ type_of% @Go.AM.under_bs)))))) ∧ (((((type_of% @Go.AM.ixl_k ∧ type_of% @Go.AM.lenL_list) ∧ (type_of% @Go.AM.lenL_str ∧ (type_of% @Go.AM.beq_app_k ∧ type_of% @Go.AM.beq_kk))) ∧ ((type_of% @Go.AM.fits_k ∧ (type_of% @Go.AM.fits_kr ∧ type_of% @Go.AM.slice_box)) ∧ (type_of% @Go.AM.fillL_nil ∧ (type_of% @Go.AM.len_map' ∧ type_of% @List.length_append.{0})))) ∧ (((type_of% @List.getD_cons_zero.{0} ∧ type_of% @List.getD_cons_succ.{0}) ∧ (type_of% @Go.AM.cellsEq.eq_1 ∧ (type_of% @List.getD_nil.{0} ∧ type_of% @List.length_set.{0}))) ∧ ((type_of% @Nat.zero_lt_succ ∧ (type_of% @Nat.lt_irrefl ∧ type_of% @List.set_cons_zero.{0})) ∧ (type_of% @List.set_cons_succ.{0} ∧ (type_of% @Nat.le_refl ∧ type_of% @Go.AM.fitsL.eq_1))))) ∧ ((((type_of% @Go.AM.fitsL.eq_2 ∧ type_of% @Go.AM.fitsL.eq_3) ∧ (type_of% @Go.AM.AV.beq.go.eq_1 ∧ (type_of% @Go.AM.AV.beq.go.eq_2 ∧ type_of% @Go.AM.AV.beq.go.eq_3))) ∧ ((type_of% @Go.AM.AV.beq.eq_1 ∧ (type_of% @Go.AM.AV.beq.eq_2 ∧ type_of% @Go.AM.AV.beq.eq_3)) ∧ (type_of% @Go.AM.AV.beq.eq_4 ∧ (type_of% @Go.AM.AV.beq.eq_5 ∧ type_of% @Go.AM.AV.beq.eq_6)))) ∧ (((type_of% @Go.AM.AV.beq.eq_7 ∧ type_of% @Go.AM.AV.beq.eq_8) ∧ (type_of% @Go.AM.AV.beq.eq_9 ∧ (type_of% @Go.AM.AV.beq.eq_10 ∧ type_of% @Go.AM.AV.beq.eq_11))) ∧ ((type_of% @Go.AM.AV.beq.eq_12 ∧ (type_of% @List.length_nil.{0} ∧ type_of% @List.length_cons.{0})) ∧ (type_of% @Go.AM.AV.cells.eq_1 ∧ (type_of% @Go.AM.AV.cells.eq_2 ∧ type_of% @Int.toNat_natCast))))))) :=
  ⟨⟨⟨⟨⟨⟨@Go.AM.bslL.eq_1, @Go.AM.fillE.eq_1⟩, ⟨@Go.AM.fillE.eq_2, ⟨@List.isEmpty_nil.{0}, @List.isEmpty_cons.{0}⟩⟩⟩, ⟨⟨@Go.AM.under_s, @Go.AM.cells_s⟩, ⟨@Go.AM.fit_s, ⟨@Go.AM.under_list, @Go.AM.cells_list⟩⟩⟩⟩, ⟨⟨⟨@Go.AM.fit_list, @Go.AM.storeS_stk⟩, ⟨@Go.AM.storeS_stk0, ⟨@Go.AM.storeQ_stk, @Go.AM.storeQ_stk0⟩⟩⟩, ⟨⟨@Go.AM.cellsOf_some, ⟨@Go.AM.cells_u8, @Go.AM.fit_u8⟩⟩, ⟨@Go.AM.kA_cells, ⟨@Go.AM.kA_under, @Go.AM.kA_low⟩⟩⟩⟩⟩, ⟨⟨⟨⟨@Go.AM.kA_calm, @Go.AM.under_u8⟩, ⟨@Go.AM.look_u8, ⟨@Go.AM.elems_list, @Go.AM.storeL_stk⟩⟩⟩, ⟨⟨@Go.AM.storeL_stk0, ⟨@Go.AM.readA_rop, @Go.AM.readA_stk⟩⟩, ⟨@Go.AM.readA_stk0, ⟨@Go.AM.zk_eq, @Go.AM.kc_length⟩⟩⟩⟩, ⟨⟨⟨@Go.AM.take_kc, @Go.AM.drop_kc⟩, ⟨@Go.AM.take_kc0, ⟨@Go.AM.drop_zero', @Go.AM.get_kc16⟩⟩⟩, ⟨⟨@Go.AM.get_kc17, ⟨@Go.AM.take_all, @Go.AM.look_app⟩⟩, ⟨@Go.AM.map_look_bs, ⟨@Go.AM.under_app', @Go.AM.under_bs⟩⟩⟩⟩⟩⟩, ⟨⟨⟨⟨⟨@Go.AM.ixl_k, @Go.AM.lenL_list⟩, ⟨@Go.AM.lenL_str, ⟨@Go.AM.beq_app_k, @Go.AM.beq_kk⟩⟩⟩, ⟨⟨@Go.AM.fits_k, ⟨@Go.AM.fits_kr, @Go.AM.slice_box⟩⟩, ⟨@Go.AM.fillL_nil, ⟨@Go.AM.len_map', @List.length_append.{0}⟩⟩⟩⟩, ⟨⟨⟨@List.getD_cons_zero.{0}, @List.getD_cons_succ.{0}⟩, ⟨@Go.AM.cellsEq.eq_1, ⟨@List.getD_nil.{0}, @List.length_set.{0}⟩⟩⟩, ⟨⟨@Nat.zero_lt_succ, ⟨@Nat.lt_irrefl, @List.set_cons_zero.{0}⟩⟩, ⟨@List.set_cons_succ.{0}, ⟨@Nat.le_refl, @Go.AM.fitsL.eq_1⟩⟩⟩⟩⟩, ⟨⟨⟨⟨@Go.AM.fitsL.eq_2, @Go.AM.fitsL.eq_3⟩, ⟨@Go.AM.AV.beq.go.eq_1, ⟨@Go.AM.AV.beq.go.eq_2, @Go.AM.AV.beq.go.eq_3⟩⟩⟩, ⟨⟨@Go.AM.AV.beq.eq_1, ⟨@Go.AM.AV.beq.eq_2, @Go.AM.AV.beq.eq_3⟩⟩, ⟨@Go.AM.AV.beq.eq_4, ⟨@Go.AM.AV.beq.eq_5, @Go.AM.AV.beq.eq_6⟩⟩⟩⟩, ⟨⟨⟨@Go.AM.AV.beq.eq_7, @Go.AM.AV.beq.eq_8⟩, ⟨@Go.AM.AV.beq.eq_9, ⟨@Go.AM.AV.beq.eq_10, @Go.AM.AV.beq.eq_11⟩⟩⟩, ⟨⟨@Go.AM.AV.beq.eq_12, ⟨@List.length_nil.{0}, @List.length_cons.{0}⟩⟩, ⟨@Go.AM.AV.cells.eq_1, ⟨@Go.AM.AV.cells.eq_2, @Int.toNat_natCast⟩⟩⟩⟩⟩⟩⟩
theorem WR_ :
  (((type_of% @Go.AM.wc_length ∧ (type_of% @Go.AM.wc_under ∧ type_of% @Go.AM.wA_low)) ∧ (type_of% @Go.AM.look_wc ∧ (type_of% @Go.AM.beq_wc ∧ type_of% @Go.AM.fits_wc))) ∧ ((type_of% @Go.AM.ixl_w ∧ (type_of% @Go.AM.take_wc ∧ type_of% @Go.AM.take_wk)) ∧ (type_of% @Go.AM.drop_wc ∧ (type_of% @Go.AM.shift_rop ∧ type_of% @Go.AM.load1_rop)))) :=
  ⟨⟨⟨@Go.AM.wc_length, ⟨@Go.AM.wc_under, @Go.AM.wA_low⟩⟩, ⟨@Go.AM.look_wc, ⟨@Go.AM.beq_wc, @Go.AM.fits_wc⟩⟩⟩, ⟨⟨@Go.AM.ixl_w, ⟨@Go.AM.take_wc, @Go.AM.take_wk⟩⟩, ⟨@Go.AM.drop_wc, ⟨@Go.AM.shift_rop, @Go.AM.load1_rop⟩⟩⟩⟩
theorem CHK_ :
  (((type_of% @Go.AM.mvK_cons ∧ type_of% @Go.AM.okAll_nil) ∧ (type_of% @Go.AM.okAll_cons ∧ (type_of% @Go.AM.leftC_nil ∧ type_of% @Go.AM.leftC_cons))) ∧ ((type_of% @Go.AM.okC_true ∧ type_of% @Go.AM.okC_false) ∧ (type_of% @Go.AM.sameV_some ∧ (type_of% @List.contains_cons.{0} ∧ type_of% @List.contains_nil.{0})))) :=
  ⟨⟨⟨@Go.AM.mvK_cons, @Go.AM.okAll_nil⟩, ⟨@Go.AM.okAll_cons, ⟨@Go.AM.leftC_nil, @Go.AM.leftC_cons⟩⟩⟩, ⟨⟨@Go.AM.okC_true, @Go.AM.okC_false⟩, ⟨@Go.AM.sameV_some, ⟨@List.contains_cons.{0}, @List.contains_nil.{0}⟩⟩⟩⟩
end Go.AM
