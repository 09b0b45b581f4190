import Derived.Test.YthbiajoionockaaAm21
/-! One operation of the abstract machine is one of the model. -/
namespace Go.AM
open Go
set_option linter.unusedVariables false
set_option linter.unusedSimpArgs false

section
variable {P : Program} {g g' g1 g2 : G} {w w' w1 w2 : World} {ow ow' ow1 ow2 : Own} {σ σ' : St} {fr fr' : Fr} {tm : Array Value} {a : Act} {next : Act → World → Prop} {Q : Exit → Act → World → Prop}

theorem run_v {s : Sem Value} {val : Value} (h : s.run P w = .ok val w') : (do pure (Next.value (← s)) : Sem Next).run P w = .ok (.value val) w' := by
  rw [Sem.run_bind, h]; rfl

theorem run_u {s : Sem Unit} (h : s.run P w = .ok () w') : (do s; pure Next.skip : Sem Next).run P w = .ok .skip w' := by
  rw [Sem.run_bind, h]; rfl

theorem map_some {α β : Type} {o : Option α} {f : α → β} {y : β} (h : o.map f = some y) : ∃ x, o = some x ∧ f x = y := by
  cases o with
  | none => cases h
  | some x => exact ⟨x, rfl, by simpa using h⟩

/-- What an operation with value does. -/
theorem wp_v {rd : Option Nat} {o : Oper} {v : AV} {val : Value} (hr : (execOp a.eval o).run P w = .ok (.value val) w') (ho : ∃ g' ow', Out g w ow o.dst v fr' σ' a.tmps g' w' ow' val)
    (hn : ∀ g' w' ow' val, Out g w ow o.dst v fr' σ' a.tmps g' w' ow' val → next (a.put o.dst val) w') : o.wpIn (FW rd) 0 P a w next Q := by
  obtain ⟨g', ho⟩ := ho
  exact wp_value hr ho hn

theorem wp_s {rd : Option Nat} {o : Oper} {v : AV} (hr : (execOp a.eval o).run P w = .ok .skip w') (ho : ∃ g' ow', Out g w ow o.dst v fr' σ' a.tmps g' w' ow' undef)
    (hn : ∀ g' w' ow' val, Out g w ow o.dst v fr' σ' a.tmps g' w' ow' val → next (a.put o.dst val) w') : o.wpIn (FW rd) 0 P a w next Q := by
  obtain ⟨g', ho⟩ := ho
  exact wp_skipped hr ho hn

theorem Out.pure' {dst : Option Tmp} {v : AV} {val : Value} (r : Rel g w ow fr tm σ) (hv : V g w v val) : ∃ g' ow', Out g w ow dst v fr σ tm g' w ow' val := ⟨g, Out.pure r hv⟩

theorem taken_out {dst : Option Tmp} (r : Rel g w ow fr a.tmps σ) (tk : Bool) (x : Operand) : ∃ g' ow', Out g w ow dst (taken tk fr x).1 (taken tk fr x).2 σ a.tmps g' w ow' (a.eval x) := by
  cases tk with
  | true =>
    obtain ⟨ow1, r1, h1, f1, k1⟩ := taken_true r x
    have hm : ∀ b o, ownOf ow x b o → May g ow b o := fun b o h => .inr (ownOf_own h)
    exact ⟨g, Out.of r1 h1 f1 (Tr.refl _ _ _) (fun p b o h => .inl (.inr ⟨p, k1 _ _ _ h⟩)) (fun b o h => .inl (hm b o h)) (fun b o h1 h2 => .inl (.inl ⟨h1, h2⟩)) (fun _ _ h => .inr h) fun _ h => .inl h⟩
  | false =>
    obtain ⟨g1, ow1, r1, h1, h3, h4, h5, h6, h7, h8, h9⟩ := taken_false r x
    have W : Way g w ow g1 w ow1 := by
      refine ⟨h3, fun b o hm => .inl ?_, fun b o hw => ?_, fun b hb => .inl (h9 ▸ hb)⟩
      · rcases hm with ⟨k1, k2⟩ | ⟨p, hp⟩
        · exact .inl ⟨h6 b k1, h5 b o k2⟩
        · exact .inr ⟨p, h4 p b o hp⟩
      · rcases h7 b o hw with h | ⟨p, hp⟩
        · exact .inr h
        · exact .inl (.inr ⟨p, hp⟩)
    obtain ⟨ow2, o2⟩ := Out.pure (dst := dst) r1 h1
    exact ⟨g1, ow2, Out.after W r.ss.lt o2⟩

theorem opt_V (r : SF g w ow fr a.tmps) (x : Option Operand) : (∀ y, x.map (AM.seen fr) = some y → ∃ v, x.map a.eval = some v ∧ V g w y v) ∧ (x.map (AM.seen fr) = none → x.map a.eval = none) := by
  cases x with
  | none => exact ⟨fun y h => by simp at h, fun _ => rfl⟩
  | some x => exact ⟨fun y h => by simp at h; subst h; exact ⟨_, rfl, r.seen x⟩, fun h => by simp at h⟩

theorem seen_VL (r : SF g w ow fr a.tmps) : ∀ (l : List Operand), VL g w (l.map (AM.seen fr)) (l.map a.eval)
  | [] => .nil
  | x :: l => VL.cons_of (r.seen x) (seen_VL r l)

theorem arr_one {α : Type} {xs : Array α} {x : α} (h : xs.toList = [x]) : xs = #[x] := by cases xs; simp_all
theorem arr_two {α : Type} {xs : Array α} {x y : α} (h : xs.toList = [x, y]) : xs = #[x, y] := by cases xs; simp_all

theorem parts_len (l : Array (Nat × Operand)) (fr : Fr) (a : Act) : (l.toList.map fun (i, x) => (i, AM.seen fr x)).length = (l.map fun (i, x) => (i, a.eval x)).toList.length := by simp

theorem delete_types {t : TypeId} {ts : List TypeId} {ty : TypeId} {args : Array Value} : Builtin.delete_ (t :: ts).toArray ty args = Builtin.delete_ #[t] ty args := by
  simp [Builtin.delete_]

theorem map_one (f : Operand → Value) (x : Operand) : #[x].map f = #[f x] := by simp
theorem map_two (f : Operand → Value) (x y : Operand) : #[x, y].map f = #[f x, f y] := by simp

/-- What a call leads to, at an operation. -/
theorem runs_wp {rd : Option Nat} {o : Oper} {s : Sem Next} {R : Value → World → Prop} (he : execOp a.eval o = s) (h : Runs P s w R) (hn : ∀ v w', R v w' → next (a.put o.dst v) w') : o.wpIn (FW rd) 0 P a w next Q := by
  refine ⟨fun f _ => FW_fn rd f, ?_⟩
  rw [FW_round]
  rcases h with ⟨f, args, e1, e2⟩ | ⟨v, w', e1, e2⟩ | ⟨l, fn, tmps, as, bd, e1, e2⟩
  · rw [semAt_of (he ▸ e1) (by simp)]
    refine ⟨FW_depth rd 0, FW_calls (Calls.mono e2 fun e w' he => ?_)⟩
    cases e with
    | returned v => exact hn _ _ he
    | _ => exact he.elim
  · rw [semAt_of (he ▸ e1) (by simp)]
    exact hn _ _ e2
  · rw [semAt_of (he ▸ e1) (by simp)]
    refine ⟨FW_depth rd 0, ?_⟩
    have h3 : RoundIn (FW rd) (0 - 1) P l fn tmps as bd w fun e w' => match e with | .returned v => R v w' | _ => False := by
      cases rd with
      | none => exact e2
      | some l' => exact e2
    refine RoundIn.mono h3 fun e w' he => ?_
    cases e with
    | returned v => exact hn _ _ he
    | _ => exact he.elim

/-- A call of what a value names. -/
theorem callV_wp {rd : Option Nat} {C : CallF} (hC : Sound P C) (r : Rel g w ow fr a.tmps σ) {dst : Option Tmp} {c : Call} {ty : TypeId} {pos : String} {after : Array Edge} {guard : Option (Nat × Bool)} {gf : Operand} {h : FuncId} {first captured : List AV} {v : AV}
    (hcal : c.callee = .value gf) (hg : AM.seen fr gf = .fn (.func h) first captured) (he : C (.fn h) (first ++ (takenAll fr c.args.toList).1 ++ captured) σ = some (v, σ'))
    (hn : ∀ g' w' ow' val, Out g w ow dst v (takenAll fr c.args.toList).2 σ' a.tmps g' w' ow' val → next (a.put dst val) w') :
    Oper.wpIn (FW rd) 0 P { dst, op := .call c, type := ty, pos, after, guard } a w next Q := by
  have hV := r.sf.seen gf
  rw [hg] at hV
  generalize hgv : a.eval gf = gv at hV
  cases hV with
  | @fn _ _ _ xs ys _ _ h1 h2 _ =>
    obtain ⟨ow1, O, r1, hl, hv, f, hd, k1, k2⟩ := takenAll_rel c.args.toList r
    have rc := callee_rel (vs := (takenAll fr c.args.toList).1) (vv := c.args.toList.map a.eval) r1 h1 h2 (by rw [List.length_map, hl]) (fun i x hi => by
      obtain ⟨y, k3, k4⟩ := hv i x hi
      exact ⟨a.eval y, by rw [List.getElem?_map, k3]; rfl, k4⟩) f hd
    have hrun := hC (.fn h) _ σ v σ' he g w _ _ rc _ rfl
    refine runs_wp ?_ hrun fun rv w' hR => ?_
    · obtain ⟨cal, args, ats⟩ := c
      dsimp only at hcal; subst hcal
      have e : (xs.toList ++ args.toList.map a.eval ++ ys.toList).toArray = xs ++ args.map a.eval ++ ys := by
        apply Array.ext'; simp
      rw [e]
      simp only [execOp, resolve]
      rw [hgv]; rfl
    · obtain ⟨g', ow', hret⟩ := hR
      obtain ⟨ow2, ho⟩ := ret_out (dst := dst) r1 f k1 k2 hret
      exact hn _ _ _ _ ho

/-- A call of yield. -/
theorem yield_wp {rd : Option Nat} {C : CallF} (hC : Sound P C) (r : Rel g w ow fr a.tmps σ) {dst : Option Tmp} {c : Call} {ty : TypeId} {pos : String} {after : Array Edge} {guard : Option (Nat × Bool)} {gf : Operand} {h : Nat} {v : AV}
    (hcal : c.callee = .value gf) (hg : AM.seen fr gf = .yield h) (he : C (.yield h) (takenAll fr c.args.toList).1 σ = some (v, σ'))
    (hn : ∀ g' w' ow' val, Out g w ow dst v (takenAll fr c.args.toList).2 σ' a.tmps g' w' ow' val → next (a.put dst val) w') :
    Oper.wpIn (FW rd) 0 P { dst, op := .call c, type := ty, pos, after, guard } a w next Q := by
  have hV := r.sf.seen gf
  rw [hg] at hV
  generalize hgv : a.eval gf = gv at hV
  cases hV with
  | @yield _ b _ _ hb _ =>
    obtain ⟨ow1, O, r1, hl, hv, f, hd, k1, k2⟩ := takenAll_rel c.args.toList r
    have rc := callee_rel (first := []) (caps := []) (fv := []) (cv := []) (vs := (takenAll fr c.args.toList).1) (vv := c.args.toList.map a.eval) r1 .nil .nil (by rw [List.length_map, hl]) (fun i x hi => by
      obtain ⟨y, k3, k4⟩ := hv i x hi
      exact ⟨a.eval y, by rw [List.getElem?_map, k3]; rfl, k4⟩) f hd
    rw [List.nil_append, List.append_nil] at rc
    have hrun := hC (.yield h) _ σ v σ' he g w _ _ rc _ (by simp only [Tgt.sem, hb]; rfl)
    refine runs_wp ?_ hrun fun rv w' hR => ?_
    · obtain ⟨cal, args, ats⟩ := c
      dsimp only at hcal; subst hcal
      have e : ([] ++ args.toList.map a.eval ++ []).toArray = args.map a.eval := by
        apply Array.ext'; simp
      rw [e]
      simp only [execOp, resolve]
      rw [hgv]
      show invoke (.fn (.yield b) #[]) (#[] ++ args.map a.eval) = _
      rw [Array.empty_append]
      rfl
    · obtain ⟨g', ow', hret⟩ := hR
      obtain ⟨ow2, ho⟩ := ret_out (dst := dst) r1 f k1 k2 hret
      exact hn _ _ _ _ ho

theorem evOp_wp {rd : Option Nat} {C : CallF} (hC : Sound P C) {cfg : Cfg} {f : FuncId} {o : Oper} {v : AV} (r : Rel g w ow fr a.tmps σ) (h : evOp C P cfg f o fr σ = some (v, fr', σ'))
    (hn : ∀ g' w' ow' val, Out g w ow o.dst v fr' σ' a.tmps g' w' ow' val → next (a.put o.dst val) w') : o.wpIn (FW rd) 0 P a w next Q := by
  obtain ⟨dst, op, ty, pos, after, guard⟩ := o
  have S := r.sf.seen
  cases op with
  | move x =>
    simp only [evOp] at h
    split at h
    · exact wp_v rfl (thaw_out r h) hn
    · split at h
      · obtain ⟨⟨v', σ1⟩, h1, h2⟩ := map_some h
        simp only [Prod.mk.injEq] at h2; obtain ⟨rfl, rfl, rfl⟩ := h2
        exact wp_v rfl (freeze_out r h1 (S x)) hn
      · injection h with h; simp only [Prod.mk.injEq] at h; obtain ⟨rfl, rfl, rfl⟩ := h
        exact wp_v rfl (taken_out r _ x) hn
  | assign x =>
    simp only [evOp] at h
    split at h
    · obtain ⟨⟨v', σ1⟩, h1, h2⟩ := map_some h
      simp only [Prod.mk.injEq] at h2; obtain ⟨rfl, rfl, rfl⟩ := h2
      exact wp_v rfl (freeze_out r h1 (S x)) hn
    · injection h with h; simp only [Prod.mk.injEq] at h; obtain ⟨rfl, rfl, rfl⟩ := h
      exact wp_v rfl (taken_out r _ x) hn
  | pick c x y =>
    simp only [evOp] at h
    split at h
    case h_2 => cases h
    rename_i b hb
    injection h with h; simp only [Prod.mk.injEq] at h; obtain ⟨rfl, rfl, rfl⟩ := h
    have hc := S c
    rw [hb] at hc
    generalize hcv : a.eval c = cv at hc
    cases hc with
    | sc _ _ =>
      refine wp_v (w' := w) (val := if b then a.eval x else a.eval y) ?_ (Out.pure' r ?_) hn
      · simp only [execOp]; rw [hcv]; rfl
      · cases b
        · exact S y
        · exact S x
  | alloc t =>
    simp only [evOp] at h
    cases hz : zeroA P t with
    | none => rw [hz] at h; cases h
    | some z =>
      rw [hz] at h
      obtain ⟨⟨rf, σ1⟩, h1, h2⟩ := map_some h
      simp only [Prod.mk.injEq] at h2; obtain ⟨rfl, rfl, rfl⟩ := h2
      obtain ⟨val, w', k1, k2⟩ := alloc_out (dst := dst) r hz h1
      exact wp_v (run_v k1) k2 hn
  | box t x =>
    simp only [evOp] at h
    split at h
    · cases h
    · rename_i hf
      obtain ⟨⟨rf, σ1⟩, h1, h2⟩ := map_some h
      simp only [Prod.mk.injEq] at h2; obtain ⟨rfl, rfl, rfl⟩ := h2
      exact wp_v (run_v rfl) (box_out (t := t) r (by simpa using hf) h1) hn
  | build t parts =>
    simp only [evOp] at h
    obtain ⟨v', h1, h2⟩ := map_some h
    simp only [Prod.mk.injEq] at h2; obtain ⟨rfl, rfl, rfl⟩ := h2
    obtain ⟨val, k1, k2⟩ := build_run (vparts := parts.map fun (i, x) => (i, a.eval x)) h1 (parts_len _ _ _) (fun j p q hp hq => parts_V r.sf j p q hp (by simpa using hq))
    exact wp_v (run_v k1) (Out.pure' r k2) hn
  | buildSlice t n parts =>
    simp only [evOp] at h
    obtain ⟨v', h1, h2⟩ := map_some h
    simp only [Prod.mk.injEq] at h2; obtain ⟨rfl, rfl, rfl⟩ := h2
    obtain ⟨val, w', k1, k2⟩ := buildSlice_out (dst := dst) (vparts := parts.map fun (i, x) => (i, a.eval x)) r h1 (parts_len _ _ _) (fun j p q hp hq => parts_V r.sf j p q hp (by simpa using hq))
    exact wp_v (run_v k1) k2 hn
  | load t x =>
    simp only [evOp] at h
    obtain ⟨⟨v', σ1⟩, h1, h2⟩ := map_some h
    simp only [Prod.mk.injEq] at h2; obtain ⟨rfl, rfl, rfl⟩ := h2
    obtain ⟨val, k1, k2⟩ := load_out (dst := dst) r h1
    exact wp_v (run_v k1) k2 hn
  | store t p x =>
    simp only [evOp] at h
    obtain ⟨σ1, h1, h2⟩ := map_some h
    simp only [Prod.mk.injEq] at h2; obtain ⟨rfl, rfl, rfl⟩ := h2
    have hf : (taken true fr x).1.fit = true := by
      unfold AM.store at h1
      split at h1
      · split at h1
        · rename_i hc
          have := hc.2.2
          revert this
          cases (taken true fr x).1 with
          | list fl _ _ => cases fl <;> simp [AV.calm, AV.fit]
          | _ => simp [AV.calm, AV.fit]
        · cases h1
      · cases h1
    obtain ⟨w', k1, k2⟩ := store_out (dst := dst) r hf h1
    exact wp_s (run_u k1) k2 hn
  | nilCheck x =>
    simp only [evOp] at h
    have hx := S x
    generalize hxv : a.eval x = xv at hx
    split at h <;> cases h
    all_goals
      rename_i hs
      rw [hs] at hx
      refine wp_v (w' := w) (val := xv) ?_ (Out.pure' r hx) hn
      simp only [execOp]; rw [hxv]; cases hx <;> rfl
  | binOp op t x y yt =>
    simp only [evOp] at h
    obtain ⟨v', h1, h2⟩ := map_some h
    simp only [Prod.mk.injEq] at h2; obtain ⟨rfl, rfl, rfl⟩ := h2
    obtain ⟨val, k1, k2⟩ := binOp_run (o := Nobody) (o' := Nobody) h1 (PV.of (S x)) (PV.of (S y))
    exact wp_v (run_v k1) (Out.pure' r k2) hn
  | unOp op t x =>
    simp only [evOp] at h
    obtain ⟨v', h1, h2⟩ := map_some h
    simp only [Prod.mk.injEq] at h2; obtain ⟨rfl, rfl, rfl⟩ := h2
    obtain ⟨val, k1, k2⟩ := unOp_run (o := Nobody) h1 (PV.of (S x))
    exact wp_v (run_v k1) (Out.pure' r k2) hn
  | convert s d x =>
    simp only [evOp] at h
    obtain ⟨v', h1, h2⟩ := map_some h
    simp only [Prod.mk.injEq] at h2; obtain ⟨rfl, rfl, rfl⟩ := h2
    obtain ⟨val, w', k1, k2⟩ := convert_out (dst := dst) r h1 (S x)
    exact wp_v (run_v k1) k2 hn
  | makeFunc fn first captured =>
    simp only [evOp] at h
    simp only [Option.map_some] at h
    injection h with h; simp only [Prod.mk.injEq] at h; obtain ⟨rfl, rfl, rfl⟩ := h
    refine wp_v (w' := w) (val := .func fn (first.map a.eval) (captured.map a.eval)) rfl (Out.pure' r (.fn ?_ ?_ .nil)) hn
    · rw [Array.toList_map]; exact seen_VL r.sf _
    · rw [Array.toList_map]; exact seen_VL r.sf _
  | makeMap t x =>
    simp only [evOp] at h
    split at h
    · injection h with h; simp only [Prod.mk.injEq] at h; obtain ⟨rfl, rfl, rfl⟩ := h
      exact wp_v (run_v rfl) (newMap_out r) hn
    · rename_i x
      split at h
      case h_2 => cases h
      rename_i hu hs
      injection h with h; simp only [Prod.mk.injEq] at h; obtain ⟨rfl, rfl, rfl⟩ := h
      have hx := S x
      rw [hs] at hx
      generalize hxv : a.eval x = xv at hx
      cases hx with
      | sc _ _ =>
        refine wp_v (run_v ?_) (newMap_out r) hn
        simp [Option.map_some, hxv, Instr.makeMap, Sem.run_bind, run_underlying hu, Sc.toV, asInt]
        rfl
  | makeSlice t l c =>
    simp only [evOp] at h
    obtain ⟨⟨v', σ1⟩, h1, h2⟩ := map_some h
    simp only [Prod.mk.injEq] at h2; obtain ⟨rfl, rfl, rfl⟩ := h2
    obtain ⟨val, w', k1, k2⟩ := makeSlice_out (dst := dst) r h1 (S l) (S c)
    exact wp_v (run_v k1) k2 hn
  | slice t x lo hi mx =>
    simp only [evOp] at h
    obtain ⟨v', h1, h2⟩ := map_some h
    simp only [Prod.mk.injEq] at h2; obtain ⟨rfl, rfl, rfl⟩ := h2
    obtain ⟨val, k1, k2⟩ := sliceOf_run h1 (S x) (opt_V r.sf lo).1 (opt_V r.sf lo).2 (opt_V r.sf hi).1 (opt_V r.sf hi).2 (opt_V r.sf mx).1 (opt_V r.sf mx).2
    exact wp_v (run_v k1) (Out.pure' r k2) hn
  | fieldAddr s x i =>
    simp only [evOp] at h
    obtain ⟨v', h1, h2⟩ := map_some h
    simp only [Prod.mk.injEq] at h2; obtain ⟨rfl, rfl, rfl⟩ := h2
    cases hf : fieldOf P s i with
    | none => rw [hf] at h1; cases h1
    | some q =>
      rw [hf] at h1
      simp only [Option.bind_some] at h1
      split at h1
      · cases h1
      · rename_i h0
        obtain ⟨val, k1, k2⟩ := fieldAt_run hf h0 (S x) h1
        exact wp_v (run_v k1) (Out.pure' r k2) hn
  | field s x i =>
    simp only [evOp] at h
    obtain ⟨v', h1, h2⟩ := map_some h
    simp only [Prod.mk.injEq] at h2; obtain ⟨rfl, rfl, rfl⟩ := h2
    cases hf : fieldOf P s i with
    | none => rw [hf] at h1; cases h1
    | some q =>
      rw [hf] at h1
      simp only [Option.bind_some] at h1
      split at h1
      · rename_i cs hs
        obtain ⟨val, k1, k2⟩ := field_run hf (hs ▸ S x) h1
        exact wp_v (run_v k1) (Out.pure' r k2) hn
      · cases h1
  | indexAddr t x ix =>
    simp only [evOp] at h
    obtain ⟨v', h1, h2⟩ := map_some h
    simp only [Prod.mk.injEq] at h2; obtain ⟨rfl, rfl, rfl⟩ := h2
    obtain ⟨val, k1, k2⟩ := indexAt_run h1 (S x) (S ix)
    exact wp_v (run_v k1) (Out.pure' r k2) hn
  | index t x ix =>
    simp only [evOp] at h
    obtain ⟨v', h1, h2⟩ := map_some h
    simp only [Prod.mk.injEq] at h2; obtain ⟨rfl, rfl, rfl⟩ := h2
    obtain ⟨val, k1, k2⟩ := index_run h1 (S x) (S ix)
    exact wp_v (run_v k1) (Out.pure' r k2) hn
  | lookup t x ix ok =>
    simp only [evOp] at h
    obtain ⟨v', h1, h2⟩ := map_some h
    simp only [Prod.mk.injEq] at h2; obtain ⟨rfl, rfl, rfl⟩ := h2
    obtain ⟨val, k1, k2⟩ := lookup_run r.ss h1 (S x) (S ix)
    exact wp_v (run_v k1) (Out.pure' r k2) hn
  | mapUpdate t m k x =>
    simp only [evOp] at h
    obtain ⟨σ1, h1, h2⟩ := map_some h
    simp only [Prod.mk.injEq] at h2; obtain ⟨rfl, rfl, rfl⟩ := h2
    obtain ⟨w', k1, k2⟩ := update_out (dst := dst) r h1 (S m) (S k) (S x)
    exact wp_s (run_u k1) k2 hn
  | insert t m k x =>
    simp only [evOp] at h
    obtain ⟨σ1, h1, h2⟩ := map_some h
    simp only [Prod.mk.injEq] at h2; obtain ⟨rfl, rfl, rfl⟩ := h2
    obtain ⟨w', k1, k2⟩ := update_out (dst := dst) r h1 (S m) (S k) (S x)
    exact wp_s (run_u k1) k2 hn
  | extract x i =>
    simp only [evOp] at h
    obtain ⟨v', h1, h2⟩ := map_some h
    simp only [Prod.mk.injEq] at h2; obtain ⟨rfl, rfl, rfl⟩ := h2
    split at h1
    · rename_i vs hs
      obtain ⟨val, k1, k2⟩ := extract_run (hs ▸ S x) h1
      exact wp_v (run_v k1) (Out.pure' r k2) hn
    · cases h1
  | call c =>
    simp only [evOp] at h
    split at h
    · -- len
      rename_i hcal
      obtain ⟨v', h1, h2⟩ := map_some h
      simp only [Prod.mk.injEq] at h2; obtain ⟨rfl, rfl, rfl⟩ := h2
      split at h1
      · rename_i t x ht hx
        obtain ⟨n, h3, rfl⟩ := map_some h1
        obtain ⟨cal, args, ats⟩ := c
        dsimp only at hcal ht hx; subst hcal
        rw [arr_one ht, arr_one hx] at hn ⊢
        have k1 := lenOf_run (ty := ty) (o := Nobody) r.ss h3 (PV.of (S x))
        rw [← map_one a.eval x] at k1
        exact wp_v (run_v k1) (Out.pure' r (.sc (.int .i64 n) .nil)) hn
      · cases h1
    · -- cap
      rename_i hcal
      obtain ⟨v', h1, h2⟩ := map_some h
      simp only [Prod.mk.injEq] at h2; obtain ⟨rfl, rfl, rfl⟩ := h2
      split at h1
      · rename_i t x ht hx
        obtain ⟨n, h3, rfl⟩ := map_some h1
        obtain ⟨cal, args, ats⟩ := c
        dsimp only at hcal ht hx; subst hcal
        rw [arr_one ht, arr_one hx] at hn ⊢
        have k1 := capOf_run (ty := ty) (w := w) (o := Nobody) h3 (PV.of (S x))
        rw [← map_one a.eval x] at k1
        exact wp_v (run_v k1) (Out.pure' r (.sc (.int .i64 n) .nil)) hn
      · cases h1
    · -- append
      rename_i hcal
      split at h
      · rename_i t tx s x ht hx
        obtain ⟨⟨v', σ1⟩, h1, h2⟩ := map_some h
        simp only [Prod.mk.injEq] at h2; obtain ⟨rfl, rfl, rfl⟩ := h2
        obtain ⟨cal, args, ats⟩ := c
        dsimp only at hcal ht hx; subst hcal
        rw [arr_two ht, arr_two hx] at hn ⊢
        obtain ⟨val, w', k1, k2⟩ := append_out (dst := dst) (ty := ty) r h1
        rw [← map_two a.eval s x] at k1
        exact wp_v (run_v k1) k2 hn
      · cases h
    · -- copy
      rename_i hcal
      split at h
      · rename_i t tx s x ht hx
        obtain ⟨⟨v', σ1⟩, h1, h2⟩ := map_some h
        simp only [Prod.mk.injEq] at h2; obtain ⟨rfl, rfl, rfl⟩ := h2
        obtain ⟨cal, args, ats⟩ := c
        dsimp only at hcal ht hx; subst hcal
        rw [arr_two ht, arr_two hx] at hn ⊢
        obtain ⟨val, w', k1, k2⟩ := copy_out (dst := dst) (ty := ty) r h1 (S x) (S s)
        rw [← map_two a.eval s x] at k1
        exact wp_v (run_v k1) k2 hn
      · cases h
    · -- delete
      rename_i hcal
      split at h
      · rename_i t ts m k ht hx
        obtain ⟨σ1, h1, h2⟩ := map_some h
        simp only [Prod.mk.injEq] at h2; obtain ⟨rfl, rfl, rfl⟩ := h2
        obtain ⟨cal, args, ats⟩ := c
        dsimp only at hcal ht hx; subst hcal
        have e : ats = (t :: ts).toArray := by cases ats; simp_all
        rw [e, arr_two hx] at hn ⊢
        obtain ⟨w', k1, k2⟩ := delete_out (dst := dst) (ty := ty) r h1 (S m) (S k)
        rw [← delete_types (ts := ts), ← map_two a.eval m k] at k1
        exact wp_v (run_v k1) k2 hn
      · cases h
    · -- clear
      rename_i hcal
      split at h
      · rename_i t x ht hx
        obtain ⟨σ1, h1, h2⟩ := map_some h
        simp only [Prod.mk.injEq] at h2; obtain ⟨rfl, rfl, rfl⟩ := h2
        obtain ⟨cal, args, ats⟩ := c
        dsimp only at hcal ht hx; subst hcal
        rw [arr_one ht, arr_one hx] at hn ⊢
        obtain ⟨w', k1, k2⟩ := clear_out (dst := dst) (ty := ty) r h1 (S x)
        rw [← map_one a.eval x] at k1
        exact wp_v (run_v k1) k2 hn
      · cases h
    · -- min
      rename_i hcal
      split at h
      · rename_i k x k' y hx
        split at h
        · rename_i hk
          subst hk
          injection h with h; simp only [Prod.mk.injEq] at h; obtain ⟨rfl, rfl, rfl⟩ := h
          obtain ⟨cal, args, ats⟩ := c
          dsimp only at hcal hx; subst hcal
          have hl : args.toList.length = 2 := by have := congrArg List.length hx; simpa using this
          match hargs : args.toList, hl with
          | [p, q], _ =>
            rw [hargs] at hx
            simp only [List.map_cons, List.map_nil, List.cons.injEq, and_true] at hx
            have hp := S p
            have hq := S q
            rw [hx.1] at hp; rw [hx.2] at hq
            generalize hpv : a.eval p = pv at hp
            generalize hqv : a.eval q = qv at hq
            cases hp with
            | sc _ _ =>
              cases hq with
              | sc _ _ =>
                rw [arr_two hargs] at hn ⊢
                refine wp_v (w' := w) (val := .int k (if y < x then y else x)) ?_ (Out.pure' r (.sc (.int k (if y < x then y else x)) .nil)) hn
                have : (Builtin.min_ ats ty (#[p, q].map a.eval)).run P w = .ok (.int k (if y < x then y else x)) w := by rw [map_two, hpv, hqv]; rfl
                exact run_v this
        · cases h
      · cases h
    · -- max
      rename_i hcal
      split at h
      · rename_i k x k' y hx
        split at h
        · rename_i hk
          subst hk
          injection h with h; simp only [Prod.mk.injEq] at h; obtain ⟨rfl, rfl, rfl⟩ := h
          obtain ⟨cal, args, ats⟩ := c
          dsimp only at hcal hx; subst hcal
          have hl : args.toList.length = 2 := by have := congrArg List.length hx; simpa using this
          match hargs : args.toList, hl with
          | [p, q], _ =>
            rw [hargs] at hx
            simp only [List.map_cons, List.map_nil, List.cons.injEq, and_true] at hx
            have hp := S p
            have hq := S q
            rw [hx.1] at hp; rw [hx.2] at hq
            generalize hpv : a.eval p = pv at hp
            generalize hqv : a.eval q = qv at hq
            cases hp with
            | sc _ _ =>
              cases hq with
              | sc _ _ =>
                rw [arr_two hargs] at hn ⊢
                refine wp_v (w' := w) (val := .int k (if y > x then y else x)) ?_ (Out.pure' r (.sc (.int k (if y > x then y else x)) .nil)) hn
                have : (Builtin.max_ ats ty (#[p, q].map a.eval)).run P w = .ok (.int k (if y > x then y else x)) w := by rw [map_two, hpv, hqv]; rfl
                exact run_v this
        · cases h
      · cases h
    · rename_i gf hcal
      split at h
      · rename_i hf first captured hs
        obtain ⟨⟨v', σ1⟩, h1, h2⟩ := map_some h
        simp only [Prod.mk.injEq] at h2; obtain ⟨rfl, rfl, rfl⟩ := h2
        exact callV_wp hC r hcal hs h1 hn
      · rename_i hf hs
        obtain ⟨⟨v', σ1⟩, h1, h2⟩ := map_some h
        simp only [Prod.mk.injEq] at h2; obtain ⟨rfl, rfl, rfl⟩ := h2
        exact yield_wp hC r hcal hs h1 hn
      · cases h
    · cases h
  | _ => simp only [evOp] at h; cases h
end
end Go.AM
