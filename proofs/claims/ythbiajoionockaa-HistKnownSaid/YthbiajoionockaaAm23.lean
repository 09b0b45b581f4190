import Derived.Test.YthbiajoionockaaAm22
/-! What an operation has to do with the slots it does not name. -/
namespace Go.AM
open Go
set_option linter.unusedVariables false
set_option linter.unusedSimpArgs false

theorem beq_eq : ∀ {a b : AV}, AV.beq a b = true → a = b
  | .s x, b, h => by cases b <;> simp_all [AV.beq]
  | .undef, b, h => by cases b <;> simp_all [AV.beq]
  | .agg l, b, h => by
    cases b with
    | agg l' => simp only [AV.beq] at h; rw [go h]
    | _ => simp [AV.beq] at h
  | .tup l, b, h => by
    cases b with
    | tup l' => simp only [AV.beq] at h; rw [go h]
    | _ => simp [AV.beq] at h
  | .list f n l, b, h => by
    cases b with
    | list f' n' l' => simp only [AV.beq, Bool.and_eq_true, decide_eq_true_eq] at h; rw [go h.2, h.1.1, h.1.2]
    | _ => simp [AV.beq] at h
  | .rop l, b, h => by
    cases b with
    | rop l' => simp only [AV.beq] at h; rw [go h]
    | _ => simp [AV.beq] at h
  | .ptr r o, b, h => by cases b <;> simp_all [AV.beq]
  | .row r o l c, b, h => by cases b <;> simp_all [AV.beq]
  | .map m, b, h => by cases b <;> simp_all [AV.beq]
  | .yield m, b, h => by cases b <;> simp_all [AV.beq]
  | .fn f l l', b, h => by
    cases b with
    | fn f' m m' => simp only [AV.beq, Bool.and_eq_true, decide_eq_true_eq] at h; rw [go h.1.2, go h.2, h.1.1]
    | _ => simp [AV.beq] at h
  where go : ∀ {a b : List AV}, AV.beq.go a b = true → a = b
  | [], [], _ => rfl
  | [], _ :: _, h => by simp [AV.beq.go] at h
  | _ :: _, [], h => by simp [AV.beq.go] at h
  | x :: xs, y :: ys, h => by
    simp only [AV.beq.go, Bool.and_eq_true] at h
    rw [beq_eq h.1, go h.2]

theorem beq_refl : ∀ (a : AV), AV.beq a a = true
  | .s x => by simp [AV.beq]
  | .undef => by simp [AV.beq]
  | .agg l => by simp only [AV.beq]; exact go l
  | .tup l => by simp only [AV.beq]; exact go l
  | .list f n l => by simp only [AV.beq, go l]; simp
  | .rop l => by simp only [AV.beq]; exact go l
  | .ptr r o => by simp [AV.beq]
  | .row r o l c => by simp [AV.beq]
  | .map m => by simp [AV.beq]
  | .yield m => by simp [AV.beq]
  | .fn f l l' => by simp only [AV.beq, go l, go l']; simp
  where go : ∀ (a : List AV), AV.beq.go a a = true
  | [] => by simp [AV.beq.go]
  | x :: xs => by simp only [AV.beq.go, beq_refl x, go xs]; rfl

section
variable {P : Program} {C : CallF} {cfg : Cfg} {f : FuncId} {fr fr' fr1 : Fr} {σ σ' : St} {ops : Array Oper} {d : Nat} {v : AV}

theorem getD_set (fr : Fr) (d t : Nat) (v : AV) (h : t ≠ d) : (fr.set d v).getD t .undef = fr.getD t .undef := by
  simp [List.getD, List.getElem?_set_ne (Ne.symm h)]

theorem opnd_set {x : Operand} (h : x ≠ .tmp d) : opnd (fr.set d v) x = opnd fr x := by
  cases x with
  | tmp t => exact getD_set _ _ _ _ fun e => h (by rw [e])
  | _ => rfl

theorem seen_set {x : Operand} (h : x ≠ .tmp d) : AM.seen (fr.set d v) x = AM.seen fr x := by unfold AM.seen; rw [opnd_set h]

theorem taken_set {x : Operand} (tk : Bool) (h : x ≠ .tmp d) : taken tk (fr.set d v) x = ((taken tk fr x).1, (taken tk fr x).2.set d v) := by
  cases x with
  | tmp t =>
    have hne : t ≠ d := fun e => h (by rw [e])
    unfold taken
    simp only [getD_set fr d t v hne]
    cases tk
    · simp only [Bool.false_eq_true, if_false]
      split
      · rw [List.set_comm _ _ (Ne.symm hne)]
      · rfl
    · simp only [if_true]
      rw [List.set_comm _ _ (Ne.symm hne)]
  | const c => simp [taken, opnd]
  | global n => simp [taken, opnd]
  | func g => simp [taken, opnd]

theorem takenAll_set : ∀ {xs : List Operand} {fr : Fr}, (∀ x ∈ xs, x ≠ .tmp d) → takenAll (fr.set d v) xs = ((takenAll fr xs).1, (takenAll fr xs).2.set d v)
  | [], fr, h => rfl
  | x :: xs, fr, h => by
    simp only [takenAll]
    rw [taken_set true (h x (by simp))]
    simp only
    rw [takenAll_set fun y hy => h y (by simp [hy])]

theorem settle_set : ∀ {xs : List Operand} {fr : Fr}, (∀ x ∈ xs, x ≠ .tmp d) → settle (fr.set d v) xs = (settle fr xs).set d v
  | [], fr, h => rfl
  | x :: xs, fr, h => by
    simp only [settle]
    rw [taken_set false (h x (by simp))]
    simp only
    rw [settle_set fun y hy => h y (by simp [hy])]

theorem thaw_set {x : Operand} (h : x ≠ .tmp d) : thaw (fr.set d v) x σ = (thaw fr x σ).map fun r => (r.1, r.2.1.set d v, r.2.2) := by
  cases x with
  | tmp t =>
    have hne : t ≠ d := fun e => h (by rw [e])
    unfold thaw
    simp only [getD_set fr d t v hne]
    split
    · split
      · rfl
      · cases newBox false _ σ with
        | none => rfl
        | some r => simp only [Option.map_some]; rw [List.set_comm _ _ (Ne.symm hne)]
    · rfl
    · rfl
  | _ => rfl

theorem settled_operands {op : Op} {x : Operand} (h : x ∈ settled op) : x ∈ op.operands.toList := by
  cases op <;> simp only [settled] at h <;> try (cases h; done)
  case build t ps => simpa [Op.operands] using h
  case buildSlice t n ps => simpa [Op.operands] using h
  case mapUpdate t m k v => simp [Op.operands] at *; exact .inr (.inr h)
  case insert t m k v => simp [Op.operands] at *; exact .inr (.inr h)
  case call c =>
    split at h
    · have := List.mem_of_mem_drop h
      simp only [Op.operands, Call.operands]
      simp_all
    · cases h

/-- A slot that an operation does not name is no matter to it. -/
theorem evOp_set {o : Oper} (h : ∀ x ∈ o.op.operands.toList, x ≠ .tmp d) : evOp C P cfg f o (fr.set d v) σ = (evOp C P cfg f o fr σ).map fun r => (r.1, r.2.1.set d v, r.2.2) := by
  obtain ⟨dst, op, ty, pos, after, guard⟩ := o
  dsimp only at h
  have mapsome : ∀ {α : Type} (o : Option α) (g : α → AV × Fr × St) (g' : α → AV × Fr × St), (∀ a, g a = ((g' a).1, (g' a).2.1.set d v, (g' a).2.2)) → o.map g = (o.map g').map fun r => (r.1, r.2.1.set d v, r.2.2) := by
    intro α o g g' hg
    cases o with
    | none => rfl
    | some a => simp [hg]
  have parts : ∀ (ps : Array (Nat × Operand)), (∀ p ∈ ps.toList, p.2 ≠ .tmp d) → (ps.toList.map fun (i, x) => (i, AM.seen (fr.set d v) x)) = ps.toList.map fun (i, x) => (i, AM.seen fr x) := by
    intro ps hp
    exact List.map_congr_left fun p hm => by
      obtain ⟨i, x⟩ := p
      simp only [seen_set (fr := fr) (v := v) (hp _ hm)]
  have many : ∀ (xs : List Operand), (∀ x ∈ xs, x ≠ .tmp d) → xs.map (AM.seen (fr.set d v)) = xs.map (AM.seen fr) := fun xs hx => List.map_congr_left fun x hm => seen_set (hx x hm)
  have optn : ∀ (x : Option Operand), (∀ y, x = some y → y ≠ .tmp d) → x.map (AM.seen (fr.set d v)) = x.map (AM.seen fr) := fun x hx => by
    cases x with
    | none => rfl
    | some y => simp [seen_set (hx y rfl)]
  cases op with
  | move x =>
    have hx := h x (by simp [Op.operands])
    simp only [evOp]
    split
    · exact thaw_set hx
    · split
      · rw [seen_set hx]; exact mapsome _ _ _ fun _ => rfl
      · rw [taken_set _ hx]; rfl
  | assign x =>
    have hx := h x (by simp [Op.operands])
    simp only [evOp]
    split
    · rw [seen_set hx]; exact mapsome _ _ _ fun _ => rfl
    · rw [taken_set _ hx]; rfl
  | pick c x y =>
    simp only [evOp]
    rw [seen_set (h c (by simp [Op.operands])), seen_set (h x (by simp [Op.operands])), seen_set (h y (by simp [Op.operands]))]
    split <;> rfl
  | alloc t =>
    simp only [evOp]
    cases zeroA P t with
    | none => rfl
    | some z => exact mapsome _ _ _ fun _ => rfl
  | box t x =>
    have hx := h x (by simp [Op.operands])
    simp only [evOp]
    rw [taken_set _ hx]
    dsimp only
    split
    · rfl
    · exact mapsome _ _ _ fun _ => rfl
  | build t ps =>
    simp only [evOp]
    rw [parts ps fun p hp => h _ (by simp only [Op.operands, List.toList_toArray]; exact List.mem_map.2 ⟨p, hp, rfl⟩)]
    exact mapsome _ _ _ fun _ => rfl
  | buildSlice t n ps =>
    simp only [evOp]
    rw [parts ps fun p hp => h _ (by simp only [Op.operands, List.toList_toArray]; exact List.mem_map.2 ⟨p, hp, rfl⟩)]
    exact mapsome _ _ _ fun _ => rfl
  | load t x =>
    simp only [evOp]
    rw [seen_set (h x (by simp [Op.operands]))]
    exact mapsome _ _ _ fun _ => rfl
  | store t p x =>
    have hx := h x (by simp [Op.operands])
    have hp := h p (by simp [Op.operands])
    simp only [evOp]
    rw [taken_set _ hx]
    dsimp only
    rw [seen_set hp]
    exact mapsome _ _ _ fun _ => rfl
  | nilCheck x =>
    simp only [evOp]
    rw [seen_set (h x (by simp [Op.operands]))]
    split <;> rfl
  | binOp op t x y yt =>
    simp only [evOp]
    rw [seen_set (h x (by simp [Op.operands])), seen_set (h y (by simp [Op.operands]))]
    exact mapsome _ _ _ fun _ => rfl
  | unOp op t x =>
    simp only [evOp]
    rw [seen_set (h x (by simp [Op.operands]))]
    exact mapsome _ _ _ fun _ => rfl
  | convert s t x =>
    simp only [evOp]
    rw [seen_set (h x (by simp [Op.operands]))]
    exact mapsome _ _ _ fun _ => rfl
  | makeFunc fn first captured =>
    simp only [evOp]
    rw [many first.toList fun x hx => h x (by simp only [Op.operands, Array.toList_append]; exact List.mem_append_left _ hx), many captured.toList fun x hx => h x (by simp only [Op.operands, Array.toList_append]; exact List.mem_append_right _ hx)]
    rfl
  | makeMap t x =>
    simp only [evOp]
    cases x with
    | none => rfl
    | some x =>
      dsimp only
      rw [seen_set (h x (by simp [Op.operands]))]
      split <;> rfl
  | makeSlice t l c =>
    simp only [evOp]
    rw [seen_set (h l (by simp [Op.operands])), seen_set (h c (by simp [Op.operands]))]
    exact mapsome _ _ _ fun _ => rfl
  | slice t x lo hi mx =>
    simp only [evOp]
    rw [seen_set (h x (by simp [Op.operands])), optn lo fun y e => h y (by simp [Op.operands, e]), optn hi fun y e => h y (by simp [Op.operands, e]), optn mx fun y e => h y (by simp [Op.operands, e])]
    exact mapsome _ _ _ fun _ => rfl
  | fieldAddr s x i =>
    simp only [evOp]
    rw [seen_set (h x (by simp [Op.operands]))]
    exact mapsome _ _ _ fun _ => rfl
  | field s x i =>
    simp only [evOp]
    rw [seen_set (h x (by simp [Op.operands]))]
    exact mapsome _ _ _ fun _ => rfl
  | indexAddr t x ix =>
    simp only [evOp]
    rw [seen_set (h x (by simp [Op.operands])), seen_set (h ix (by simp [Op.operands]))]
    exact mapsome _ _ _ fun _ => rfl
  | index t x ix =>
    simp only [evOp]
    rw [seen_set (h x (by simp [Op.operands])), seen_set (h ix (by simp [Op.operands]))]
    exact mapsome _ _ _ fun _ => rfl
  | lookup t x ix ok =>
    simp only [evOp]
    rw [seen_set (h x (by simp [Op.operands])), seen_set (h ix (by simp [Op.operands]))]
    exact mapsome _ _ _ fun _ => rfl
  | mapUpdate t m k x =>
    simp only [evOp]
    rw [seen_set (h m (by simp [Op.operands])), seen_set (h k (by simp [Op.operands])), seen_set (h x (by simp [Op.operands]))]
    exact mapsome _ _ _ fun _ => rfl
  | insert t m k x =>
    simp only [evOp]
    rw [seen_set (h m (by simp [Op.operands])), seen_set (h k (by simp [Op.operands])), seen_set (h x (by simp [Op.operands]))]
    exact mapsome _ _ _ fun _ => rfl
  | extract x i =>
    simp only [evOp]
    rw [seen_set (h x (by simp [Op.operands]))]
    exact mapsome _ _ _ fun _ => rfl
  | call c =>
    have hargs : ∀ x ∈ c.args.toList, x ≠ .tmp d := fun x hx => h x (by simp only [Op.operands, Call.operands, Array.toList_append]; exact List.mem_append_right _ hx)
    simp only [evOp]
    split
    · split
      · rename_i t x ht hx
        rw [seen_set (hargs x (by rw [hx]; simp))]
        exact mapsome _ _ _ fun _ => rfl
      · rfl
    · split
      · rename_i t x ht hx
        rw [seen_set (hargs x (by rw [hx]; simp))]
        exact mapsome _ _ _ fun _ => rfl
      · rfl
    · split
      · rename_i t tx s x ht hx
        rw [taken_set _ (hargs s (by rw [hx]; simp))]
        dsimp only
        rw [seen_set (hargs x (by rw [hx]; simp))]
        exact mapsome _ _ _ fun _ => rfl
      · rfl
    · split
      · rename_i t tx s x ht hx
        rw [seen_set (hargs s (by rw [hx]; simp)), seen_set (hargs x (by rw [hx]; simp))]
        exact mapsome _ _ _ fun _ => rfl
      · rfl
    · split
      · rename_i t tx s x ht hx
        rw [seen_set (hargs s (by rw [hx]; simp)), seen_set (hargs x (by rw [hx]; simp))]
        exact mapsome _ _ _ fun _ => rfl
      · rfl
    · split
      · rename_i t x ht hx
        rw [seen_set (hargs x (by rw [hx]; simp))]
        exact mapsome _ _ _ fun _ => rfl
      · rfl
    · rw [many _ hargs]
      split
      · split <;> rfl
      · rfl
    · rw [many _ hargs]
      split
      · split <;> rfl
      · rfl
    · rename_i gf hcal
      rw [seen_set (h gf (by simp only [Op.operands, Call.operands, hcal, Array.toList_append]; exact List.mem_append_left _ (by simp))), takenAll_set hargs]
      split
      · exact mapsome _ _ _ fun _ => rfl
      · exact mapsome _ _ _ fun _ => rfl
      · rfl
    · rfl
  | _ => rfl
end
end Go.AM
