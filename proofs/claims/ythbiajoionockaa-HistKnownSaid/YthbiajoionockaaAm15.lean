import Derived.Test.YthbiajoionockaaAm14
import Derived.Room.AppendUpon
/-! append, copy. -/
namespace Go.AM
open Go
set_option linter.unusedVariables false

section
variable {P : Program} {g g' : G} {w w' : World} {ow ow' ow1 : Own} {σ σ' : St} {fr fr' : Fr} {tm : Array Value} {a : Act} {dst : Option Tmp}

structure ElemInfo (P : Program) (e : TypeId) (i : TypeInfo) (zv : Value) (z : AV) : Prop where
  info : P.info? e = some i
  zero : i.zero = some zv
  plain : AV.ofPlain zv = some z
  size : i.size = P.cellsOf e
  bytes : i.bytes = bytesOf P e
  pos : P.cellsOf e ≠ 0
  bpos : bytesOf P e ≠ 0
  zlen : z.cells.length = P.cellsOf e
  zsize : zv.cells.size = P.cellsOf e

theorem elemOK_info {e : TypeId} (h : elemOK P e = true) : ∃ i zv z, zeroA P e = some z ∧ ElemInfo P e i zv z := by
  unfold elemOK at h
  split at h
  case h_2 => cases h
  rename_i z hz
  simp only [Bool.and_eq_true, beq_iff_eq, bne_iff_ne] at h
  obtain ⟨⟨h1, h2⟩, h3⟩ := h
  obtain ⟨zv, _, k2, k3⟩ := zeroA_run hz
  cases hi : P.info? e with
  | none => simp [hi] at k3
  | some i =>
    have hzi : i.zero = some zv := by simpa [hi] using k3
    obtain ⟨_, j, _⟩ := ofPlain_V (g := ⟨[], [], fun _ _ => False⟩) (w := default) k2
    exact ⟨i, zv, z, hz, hi, hzi, k2, by simp [Program.cellsOf, hi], by simp [bytesOf, hi], h2, h3, h1, by have := j.length; simp at this; omega⟩

theorem group_cells {e : TypeId} : ∀ {n : Nat} {cs : List AV}, (isAgg P e || P.cellsOf e == 1) = true → cs.length = n * P.cellsOf e → (∀ c ∈ cs, c.isCell = true) →
    (group P e n cs).flatMap AV.cells = cs ∧ (group P e n cs).length = n ∧ Elems (P.cellsOf e) (group P e n cs)
  | 0, cs, _, hl, _ => by
    have : cs = [] := by simpa using hl
    subst this; exact ⟨rfl, rfl, fun _ h => by cases h⟩
  | n + 1, cs, hk, hl, hc => by
    rw [Nat.add_mul, Nat.one_mul] at hl
    obtain ⟨h1, h2, h3⟩ := group_cells (n := n) (cs := cs.drop (P.cellsOf e)) hk (by rw [List.length_drop]; omega) fun c h => hc c (List.mem_of_mem_drop h)
    have hp : (pack P e (cs.take (P.cellsOf e))).cells = cs.take (P.cellsOf e) := by
      unfold pack
      split
      · rfl
      · rename_i hna
        have h1 : P.cellsOf e = 1 := by simpa [hna] using hk
        rw [h1] at hl ⊢
        cases cs with
        | nil => simp at hl
        | cons c r =>
          simp only [List.take_succ_cons, List.take_zero, List.getD_cons_zero]
          exact isCell_cells (hc c (by simp))
    have hpl : (cs.take (P.cellsOf e)).length = P.cellsOf e := by rw [List.length_take]; omega
    refine ⟨?_, by simp [group, h2], fun x hx => ?_⟩
    · simp only [group, List.flatMap_cons, hp, h1, List.take_append_drop]
    · simp only [group, List.mem_cons] at hx
      rcases hx with rfl | hx
      · rw [hp]; exact ⟨hpl, fun c h => hc c (List.mem_of_mem_take h)⟩
      · exact h3 x hx

theorem str_bytes (l : List UInt8) : byteCells ⟨l.toArray⟩ = (l.map fun b => Value.int .u8 b.toNat) := by simp [byteCells]

theorem str_V : ∀ (l : List UInt8), VL g w ((l.map fun b => AV.s (.int .u8 b.toNat)).flatMap AV.cells) (l.map fun b => Value.int .u8 b.toNat)
  | [] => .nil
  | b :: l => .sc (.int .u8 b.toNat) (str_V l)

theorem srcOK_str {t : TypeId} {l : List UInt8} (h : srcOK P (some t) (.s (.str l)) = true) : P.underlying t = some .string := by
  unfold srcOK at h
  cases hu : P.underlying t with
  | none => simp [hu] at h
  | some d => cases d <;> simp [hu, AV.isStr, AV.isSlice] at h ⊢

theorem srcOK_slice {t : TypeId} {x : AV} (h : srcOK P (some t) x = true) (hx : x.isStr = false) : ∃ e, P.underlying t = some (.slice e) := by
  unfold srcOK at h
  cases hu : P.underlying t with
  | none => simp [hu] at h
  | some d => cases d <;> simp [hu, hx] at h ⊢

theorem elems_run (s : SS g w ow σ) {e : TypeId} {t : TypeId} {x : AV} {xv : Value} {items : List AV} (h : elems P e x σ = some items) (hk : srcOK P (some t) x = true) (hx : V g w x xv) (h0 : P.cellsOf e ≠ 0) :
    ∃ news, Src P (P.cellsOf e) t xv items.length news w ∧ VL g w (items.flatMap AV.cells) news ∧ Elems (P.cellsOf e) items ∧ Builtin.lenOf xv = Sem.pure items.length ∧ ∀ k, k ≤ items.length → (Builtin.firstCells (P.cellsOf e) k xv).run P w = .ok (news.take (k * P.cellsOf e)).toArray w := by
  unfold elems at h
  split at h
  · injection h with h; subst h
    obtain rfl := hx.sc_inv
    obtain ⟨e', hu⟩ := srcOK_slice hk rfl
    exact ⟨[], Src.ofNil w hu 0, .nil, (fun _ h => by cases h), rfl, fun k _ => by rw [List.take_nil]; exact run_firstCells_none w (P.cellsOf e) k 0 0⟩
  · rename_i l
    split at h
    case isFalse => cases h
    rename_i h1
    injection h with h; subst h
    obtain rfl := hx.sc_inv
    have hs : (ByteArray.mk l.toArray).size = l.length := by simp [ByteArray.size]
    have hsrc := Src.ofString (P := P) w (srcOK_str hk) ⟨l.toArray⟩
    rw [str_bytes, hs] at hsrc
    refine ⟨_, by rw [h1, List.length_map]; exact hsrc, str_V l, fun x hx => ?_, by rw [List.length_map, ← hs]; rfl, fun k hk => ?_⟩
    rotate_left
    · simp only [Builtin.firstCells, Sc.toV, Sem.run_pure, h1, Nat.mul_one]
      congr 1
      apply Array.ext'
      simp [ByteArray.extract, ByteArray.copySlice, List.map_take]
    obtain ⟨b, _, rfl⟩ := List.mem_map.1 hx
    rw [h1]; exact ⟨rfl, fun c hc => by simp [AV.cells] at hc; subst hc; rfl⟩
  · rename_i fl sz es
    split at h
    case isFalse => cases h
    rename_i h1
    injection h with h; subst h; subst h1
    obtain ⟨e', hu⟩ := srcOK_slice hk rfl
    cases hx with
    | @list _ _ _ ad len cap xs _ _ k1 k2 k3 k4 k5 k6 k7 k8 k9 _ =>
    subst k2
    have hc : ∀ c ∈ es.flatMap AV.cells, c.isCell = true := fun c hc => by
      obtain ⟨x, hx, hcx⟩ := List.mem_flatMap.1 hc
      exact (k6 x hx).2 c hcx
    refine ⟨xs, Src.ofSlice w hu ad es.length cap xs (by rw [k8.length, elems_length fun x hx => (k6 x hx).1]) (fun j u hj => by rw [add_spot k5]; exact (k9 j u hj).1) ((Cells.of (ro := Nobody) k8 hc).one'), k8, k6, rfl, fun k hk => ?_⟩
    refine run_firstCells_some w _ k ad es.length cap (xs.take (k * P.cellsOf e)) ?_ fun j u hj => ?_
    · rw [List.length_take, k8.length, elems_length fun x hx => (k6 x hx).1, Nat.min_eq_left (Nat.mul_le_mul_right _ hk)]
    · rw [List.getElem?_take] at hj
      split at hj
      · rw [add_spot k5]; exact (k9 j u hj).1
      · cases hj
  · rename_i r off len cap
    split at h
    case isFalse => cases h
    rename_i hg
    cases hr : readCells σ (.ptr r off) (len * P.cellsOf e) with
    | none => simp [hr] at h
    | some cs =>
      simp [hr] at h; subst h
      obtain ⟨e', hu⟩ := srcOK_slice hk rfl
      obtain ⟨b, c, rfl, hb, h1, h2⟩ := hx.row_inv
      obtain ⟨ad, xs, hpv, h3, h4, h5, h6, h7⟩ := read_run s hr (.ptr hb .nil)
      injection hpv with hpv; injection hpv with hpv; subst hpv
      obtain ⟨g1, g2, g3⟩ := group_cells hg h4 h6
      rw [g2]
      refine ⟨xs, Src.ofSlice w hu _ len c xs (by rw [h5.length, h4]) h7 ((Cells.of (ro := Nobody) h5 h6).one'), by rw [g1]; exact h5, g3, rfl, fun k hk => ?_⟩
      refine run_firstCells_some w _ k _ len c (xs.take (k * P.cellsOf e)) ?_ fun j u hj => ?_
      · rw [List.length_take, h5.length, h4, Nat.min_eq_left (Nat.mul_le_mul_right _ hk)]
      · rw [List.getElem?_take] at hj
        split at hj
        · exact h7 j u hj
        · cases hj
  · cases h

theorem Sem.pure_run {α : Type} {x : Sem α} {v : α} (h : x = Sem.pure v) (w : World) : x.run P w = .ok v w := by rw [h]; rfl

theorem Out.wider {v : AV} {val : Value} (h : ∃ g' ow', Out g w ow1 dst v fr σ tm g' w' ow' val) (hall : ∀ p b o, ow1 p b o → ow p b o) : ∃ g' ow', Out g w ow dst v fr σ tm g' w' ow' val := by
  obtain ⟨g', ow', h⟩ := h
  have hm : ∀ b o, May g ow1 b o → May g ow b o := fun b o h => by
    rcases h with h | ⟨p, h⟩
    · exact .inl h
    · exact .own (hall _ _ _ h)
  exact ⟨g', ow', h.rel, h.tr.weaken hm, fun b o h' => (h.may b o h').imp (hm b o) id, fun b o h' => (h.keep b o h').imp (hm b o) id, h.hbn⟩

/-- A new array for what is appended. -/
theorem append_grow_out {t tx ty e : TypeId} {i : TypeInfo} {zv : Value} {z : AV} (I : ElemInfo P e i zv z) (ht : P.underlying t = some (.slice e)) {base : Option Addr} {sLen sCap : Nat} {olds news : List Value} {es items : List AV} {x : Value}
    (r : Rel g w ow1 fr tm σ) (hold : (Builtin.firstCells (P.cellsOf e) sLen (.slice base sLen sCap)).run P w.drew = .ok olds.toArray w.drew) (hs : Src P (P.cellsOf e) tx x items.length news w)
    (ho : VL g w (es.flatMap AV.cells) olds) (hn : VL g w (items.flatMap AV.cells) news) (he : Elems (P.cellsOf e) es) (hi : Elems (P.cellsOf e) items) (hle : AV.under.go 0 es = true) (hli : AV.under.go 0 items = true) (hsl : sLen = es.length)
    (hg : sCap < sLen + items.length) (hfit : Builtin.nextslicecap (sLen + items.length) sCap * bytesOf P e ≤ 2 ^ 48) (hall : ∀ p b o, ow1 p b o → ow p b o) :
    ∃ val w', (Builtin.append_ #[t, tx] ty #[.slice base sLen sCap, x]).run P w = .ok val w' ∧ (∃ g' ow', Out g w ow dst (.list .uniq (P.cellsOf e) (es ++ items)) fr σ tm g' w' ow' val) ∧ (∃ g' ow', Out g w ow dst (.list .own (P.cellsOf e) (es ++ items)) fr σ tm g' w' ow' val) := by
  have hb : 0 < bytesOf P e := Nat.pos_of_ne_zero I.bpos
  have hneed : sLen + items.length ≤ Builtin.nextslicecap (sLen + items.length) sCap := le_nextslicecap hg
  have h63 : ((sLen + items.length : Nat) : Int) ≤ 9223372036854775807 := by
    have h1 : Builtin.nextslicecap (sLen + items.length) sCap * 1 ≤ Builtin.nextslicecap (sLen + items.length) sCap * bytesOf P e := Nat.mul_le_mul_left _ hb
    omega
  have hrun := run_append_grow_src (P := P) w t tx ty e i zv ht I.info I.zero base sLen sCap olds (by rw [I.size]; exact hold) x items.length news (by rw [I.size]; exact hs) hg h63 (by rw [I.bytes]; simpa using hfit)
  refine ⟨_, _, hrun, ?_⟩
  have hge := grownCap_ge w (sLen + items.length) sCap e
  generalize grownCap w (sLen + items.length) sCap e = cap at hge
  have hrest : (olds ++ news ++ (Builtin.zeroCells zv.cells (cap - (sLen + items.length))).toList).length = cap * P.cellsOf e := by
    have hz : (Builtin.zeroCells zv.cells (cap - (sLen + items.length))).toList.length = (cap - (sLen + items.length)) * P.cellsOf e := by rw [Array.length_toList, size_zeroCells, I.zsize]
    have ho' := ho.length
    have hn' := hn.length
    rw [elems_length fun x h => (he x h).1] at ho'
    rw [elems_length fun x h => (hi x h).1] at hn'
    rw [List.length_append, List.length_append, ho', hn', hz, ← Nat.add_mul, ← Nat.add_mul, ← hsl]
    congr 1; omega
  have hel : (es ++ items).length = sLen + items.length := by rw [List.length_append, hsl]
  have hw : (w.drew.alloc (.cells ((olds ++ news).toArray ++ Builtin.zeroCells zv.cells (cap - (sLen + items.length))) e)).heap = w.heap.push (.cells (olds ++ news ++ (Builtin.zeroCells zv.cells (cap - (sLen + items.length))).toList).toArray e) := by
    show w.heap.push _ = _
    congr 2
    apply Array.ext'
    simp
  obtain ⟨wr', ro, k1, k2, k3, k4, k5, k7, k6⟩ := r.fresh (sz := P.cellsOf e) (cap := cap) (es := es ++ items) (xs := olds ++ news) (rest := (Builtin.zeroCells zv.cells (cap - (sLen + items.length))).toList) (E := e) (fz := (0, 0)) (Nat.pos_of_ne_zero I.pos) (he.app hi) (by rw [under_app, hle, hli]; rfl)
    (by rw [List.flatMap_append]; exact ho.app hn) (by rw [hel]; exact hge) hrest (by intro o _; simp) hw
  rw [hel] at k6
  exact ⟨Out.wider (Out.new k1 k2 k3 k4 k5 k7 k6) hall, Out.wider (Out.calm k1 k2 k3 k4 k5 k7 r.ss.lt k6 fun _ _ h => h) hall⟩

theorem room_out {t tx ty e : TypeId} {i : TypeInfo} {zv : Value} {z : AV} (I : ElemInfo P e i zv z) (ht : P.underlying t = some (.slice e)) {ad : Addr} {sLen sCap : Nat} {news : List Value} {x : Value} {n : Nat} (hsp : ad.spot = none) (hs : Src P (P.cellsOf e) tx x n news w) (hroom : sLen + n ≤ sCap)
    (hc : ∀ j, j < news.length → (w.cell? ⟨ad.block, ad.off + sLen * P.cellsOf e + j, none⟩).isSome = true) (hf : ∀ j, j < news.length → w.frozen? ⟨ad.block, ad.off + sLen * P.cellsOf e + j, none⟩ = false) :
    (Builtin.append_ #[t, tx] ty #[.slice (some ad) sLen sCap, x]).run P w = .ok (.slice (some ad) (sLen + n) sCap) (w.setCells ad.block (ad.off + sLen * P.cellsOf e) news) := by
  obtain ⟨b, off, sp⟩ := ad
  dsimp only at hsp; subst hsp
  have := run_append_room_src (P := P) w t tx ty e i ht I.info b off sLen sCap x n news (by rw [I.size]; exact hs) hroom (by rw [I.size]; exact hc) (by rw [I.size]; exact hf)
  rw [I.size] at this
  exact this

theorem append_out (r : Rel g w ow fr a.tmps σ) {so xo : Operand} {t tx ty : TypeId} {v : AV} (h : AM.append P t (some tx) (taken true fr so).1 (seen (taken true fr so).2 xo) σ = some (v, σ')) :
    ∃ val w', (Builtin.append_ #[t, tx] ty #[a.eval so, a.eval xo]).run P w = .ok val w' ∧ ∃ g' ow', Out g w ow dst v (taken true fr so).2 σ' a.tmps g' w' ow' val := by
  obtain ⟨ow1, r1, hp1, f1, k1⟩ := taken_true r so
  have hx := r1.sf.seen xo
  have hm1 : ∀ b o, ownOf ow so b o → May g ow b o := fun b o h => by cases so <;> first | exact .own h | exact h.elim
  unfold AM.append at h
  split at h
  case h_2 => cases h
  rename_i e ht
  split at h
  · cases h
  rename_i hok
  simp only [Bool.not_eq_true', Bool.not_eq_false, Bool.and_eq_true] at hok
  obtain ⟨i, zv, z, hz, I⟩ := elemOK_info hok.2
  split at h
  · cases h
  rename_i items hit
  obtain ⟨news, hsrc, hnv, hel, hlen, _⟩ := elems_run r1.ss hit hok.1 hx I.pos
  split at h
  · cases h
  rename_i hlow
  have hlow : AV.under.go 0 items = true := by simpa using hlow
  have hsrcD := hsrc
  generalize hq : (taken true fr so).1 = sv at h hp1
  split at h
  · -- onto nil
    have hsv : a.eval so = .slice none 0 0 := V.sc_inv hp1
    split at h
    · rename_i hemp
      have hi0 : items = [] := by simpa using hemp
      subst hi0
      simp only [Option.some.injEq, Prod.mk.injEq] at h
      obtain ⟨rfl, rfl⟩ := h
      have hn0 : news = [] := hnv.nil_left
      subst hn0
      refine ⟨.slice none 0 0, w, ?_, Out.wider ⟨g, Out.pure r1 (.sc .nilS .nil)⟩ k1⟩
      rw [hsv]
      have hc0 : (Builtin.firstCells (P.cellsOf e) 0 (a.eval xo)).run P w = .ok #[] w := hsrc.cells
      rcases hsrc.kind with ⟨e', hk⟩ | hk <;> simp [Builtin.append_, run_underlying ht, run_underlying hk, sizeOf, typeInfo, I.info, I.size, hlen, hc0]
    · rename_i hemp
      split at h
      case isFalse => cases h
      rename_i hfit
      simp only [Option.some.injEq, Prod.mk.injEq] at h
      obtain ⟨rfl, rfl⟩ := h
      have hpos : 0 < items.length := List.length_pos_iff.2 (by simpa using hemp)
      obtain ⟨val, w', j1, j2, _⟩ := append_grow_out (dst := dst) (tx := tx) (ty := ty) (ow := ow) I ht (base := none) (sLen := 0) (sCap := 0) (olds := []) (es := []) r1 (run_firstCells_none w.drew _ 0 0 0) hsrc .nil hnv (fun _ h => by cases h) hel rfl hlow rfl (by omega) (by rw [Nat.zero_add, nextslicecap_zero hpos]; exact hfit) k1
      exact ⟨val, w', by rw [hsv]; exact j1, j2⟩
  · rename_i fl sz es
    split at h
    · cases h
    rename_i hsz
    have hsz : sz = P.cellsOf e := by simpa using hsz
    subst hsz
    obtain ⟨ad, cap, hsv, hle, hfull, _⟩ := V_len_slice hp1
    split at h
    · rename_i hemp
      have hi0 : items = [] := by simpa using hemp
      subst hi0
      simp only [Option.some.injEq, Prod.mk.injEq] at h
      obtain ⟨rfl, rfl⟩ := h
      have hn0 : news = [] := hnv.nil_left
      subst hn0
      have hsp : ad.spot = none := by
        cases fl with
        | own => obtain ⟨h1, _⟩ := hp1; rw [hsv] at h1; cases h1 with | list _ _ _ _ h5 _ _ _ _ _ => exact h5
        | uniq => obtain ⟨a', c', xs, u⟩ := hp1; have := u.val; rw [hsv] at this; injection this with h1; injection h1 with h1; subst h1; exact u.spot
        | sh => have h1 : V g w _ _ := hp1; rw [hsv] at h1; cases h1 with | list _ _ _ _ h5 _ _ _ _ _ => exact h5
        | full => have h1 : V g w _ _ := hp1; rw [hsv] at h1; cases h1 with | list _ _ _ _ h5 _ _ _ _ _ => exact h5
      have hrun := room_out (ty := ty) (sLen := es.length) (sCap := cap) I ht hsp hsrc hle (fun j hj => by simp at hj) (fun j hj => by simp at hj)
      refine ⟨.slice (some ad) es.length cap, w, by rw [hsv]; simpa [World.setCells] using hrun, g, ?_⟩
      rw [hsv] at hp1
      exact Out.of r1 hp1 f1 (Tr.refl _ _ _) (fun p b o h => .inl (.own (k1 _ _ _ h))) (fun b o h => .inl (hm1 _ _ h)) (fun b o h1 h2 => .inl (.inl ⟨h1, h2⟩)) (fun _ _ h => .inr h) (fun _ h => .inl h)
    · rename_i hemp
      have hpos : 0 < items.length := List.length_pos_iff.2 (by simpa using hemp)
      -- a view of what was there
      have view : ∀ {fl : Fl}, V g w (.list fl (P.cellsOf e) es) (a.eval so) → ∃ xs, VL g w (es.flatMap AV.cells) xs ∧ Elems (P.cellsOf e) es ∧ AV.under.go 0 es = true ∧ (Builtin.firstCells (P.cellsOf e) es.length (.slice (some ad) es.length cap)).run P w.drew = .ok xs.toArray w.drew := by
        intro fl hV
        rw [hsv] at hV
        cases hV with
        | @list _ _ _ _ _ _ xs _ _ c1 c2 c3 c4 c5 c6 c7 c8 c9 _ =>
        exact ⟨xs, c8, c6, c7, run_firstCells_some w.drew _ es.length ad es.length cap xs (by rw [c8.length, elems_length fun x h => (c6 x h).1]) fun j u hj => by rw [add_spot c5]; exact (c9 j u hj).1⟩
      have big : ∀ {c : Nat}, c < es.length + items.length → 2 * (es.length + items.length) * bytesOf P e ≤ 2 ^ 48 → Builtin.nextslicecap (es.length + items.length) c * bytesOf P e ≤ 2 ^ 48 := fun hc hb => Nat.le_trans (Nat.mul_le_mul_right _ (nextslicecap_le hc)) hb
      cases fl with
      | sh => simp at h
      | full =>
        obtain ⟨xs, c1, c2, c3, c4⟩ := view (fl := .full) hp1
        have hcap := hfull rfl
        subst hcap
        simp only at h
        split at h
        · rename_i hes
          have he0 : es = [] := by simpa using hes
          subst he0
          split at h
          case isFalse => cases h
          rename_i hfit
          simp only [Option.some.injEq, Prod.mk.injEq] at h
          obtain ⟨rfl, rfl⟩ := h
          obtain ⟨val, w', j1, j2, _⟩ := append_grow_out (dst := dst) (tx := tx) (ty := ty) (ow := ow) I ht r1 c4 hsrc c1 hnv c2 hel c3 hlow rfl (by simpa using hpos) (by simp only [List.length_nil, Nat.zero_add]; rw [nextslicecap_zero hpos]; exact hfit) k1
          exact ⟨val, w', by rw [hsv]; exact j1, j2⟩
        · split at h
          case isFalse => cases h
          rename_i hfit
          simp only [Option.some.injEq, Prod.mk.injEq] at h
          obtain ⟨rfl, rfl⟩ := h
          obtain ⟨val, w', j1, _, j2⟩ := append_grow_out (dst := dst) (tx := tx) (ty := ty) (ow := ow) I ht r1 c4 hsrc c1 hnv c2 hel c3 hlow rfl (by omega) (big (by omega) hfit) k1
          exact ⟨val, w', by rw [hsv]; exact j1, j2⟩
      | own =>
        simp only at h
        split at h
        case isFalse => cases h
        rename_i hfit
        simp only [Option.some.injEq, Prod.mk.injEq] at h
        obtain ⟨rfl, rfl⟩ := h
        by_cases hroom : es.length + items.length ≤ cap
        · rw [hsv] at hp1
          obtain ⟨_, d2, d3, d4, d5, d6, X, ro', d7, d8, d9, d10, d12, d11⟩ := r1.grow (.inl rfl) hp1 f1 hel hlow hnv hroom
          refine ⟨_, _, by rw [hsv]; exact room_out (ty := ty) I ht d2 hsrc hroom d5 d6, g.less X, ?_⟩
          exact Out.of d7 d11 d9 (d8.weaken fun b o h => hm1 _ _ h) (fun p b o h => .inl (.own (k1 _ _ _ h))) (fun b o h => .inl (hm1 _ _ (d10 _ _ h))) (fun b o h1 h2 => .inl (.inl ⟨h1, h2.1⟩)) (fun b o h => (Classical.em (X b o)).elim (fun hx => .inl (hm1 _ _ (d12 _ _ hx))) fun hx => .inr ⟨h, hx⟩) (fun _ h => .inl h)
        · obtain ⟨xs, c1, c2, c3, c4⟩ := view (fl := .sh) hp1.1
          obtain ⟨val, w', j1, _, j2⟩ := append_grow_out (dst := dst) (tx := tx) (ty := ty) (ow := ow) I ht r1 c4 hsrc c1 hnv c2 hel c3 hlow rfl (by omega) (big (by omega) hfit) k1
          exact ⟨val, w', by rw [hsv]; exact j1, j2⟩
      | uniq =>
        simp only at h
        split at h
        case isFalse => cases h
        rename_i hfit
        simp only [Option.some.injEq, Prod.mk.injEq] at h
        obtain ⟨rfl, rfl⟩ := h
        by_cases hroom : es.length + items.length ≤ cap
        · rw [hsv] at hp1
          obtain ⟨_, d2, d3, d4, d5, d6, X, ro', d7, d8, d9, d10, d12, d11⟩ := r1.grow (.inr rfl) hp1 f1 hel hlow hnv hroom
          refine ⟨_, _, by rw [hsv]; exact room_out (ty := ty) I ht d2 hsrc hroom d5 d6, g.less X, ?_⟩
          exact Out.of d7 d11 d9 (d8.weaken fun b o h => hm1 _ _ h) (fun p b o h => .inl (.own (k1 _ _ _ h))) (fun b o h => .inl (hm1 _ _ (d10 _ _ h))) (fun b o h1 h2 => .inl (.inl ⟨h1, h2.1⟩)) (fun b o h => (Classical.em (X b o)).elim (fun hx => .inl (hm1 _ _ (d12 _ _ hx))) fun hx => .inr ⟨h, hx⟩) (fun _ h => .inl h)
        · obtain ⟨a', c', xs, u⟩ := hp1
          have hval := u.val
          rw [hsv] at hval
          injection hval with e1 _ e3
          injection e1 with e1; subst e1; subst e3
          have c4 : (Builtin.firstCells (P.cellsOf e) es.length (.slice (some ad) es.length cap)).run P w.drew = .ok xs.toArray w.drew :=
            run_firstCells_some w.drew _ es.length ad es.length cap xs u.len fun j v hj => by rw [add_spot u.spot]; exact u.cell j v hj
          obtain ⟨val, w', j1, j2, _⟩ := append_grow_out (dst := dst) (tx := tx) (ty := ty) (ow := ow) I ht r1 c4 hsrc u.vl hnv u.elems hel u.low hlow rfl (by omega) (big (by omega) hfit) k1
          exact ⟨val, w', by rw [hsv]; exact j1, j2⟩
  · rename_i rf off len cap
    split at h
    case isFalse => cases h
    rename_i hroom
    cases hw : writeCells σ rf (off + len * P.cellsOf e) (items.flatMap AV.cells) with
    | none => simp [hw] at h
    | some σ1 =>
      simp [hw] at h
      obtain ⟨rfl, rfl⟩ := h
      have hV : V g w (.row rf off len cap) (a.eval so) := hp1
      obtain ⟨b, c, hsv, hb, h1, h2⟩ := hV.row_inv
      have hcells : ∀ c ∈ items.flatMap AV.cells, c.isCell = true := fun c hc => by
        obtain ⟨x, hx, hcx⟩ := List.mem_flatMap.1 hc
        exact (hel x hx).2 c hcx
      obtain ⟨d1, d2, ow', d3, d4, d5, _⟩ := r1.write hw hb (Cells.of (ro := Nobody) hnv hcells) (Free.nobody _ _)
      refine ⟨_, _, by rw [hsv]; exact room_out (ty := ty) (ad := ⟨b, off, none⟩) I ht rfl hsrc (by omega) d1 d2, Out.wider (g := g) (ow1 := ow1) ⟨g, ?_⟩ k1⟩
      exact Out.of d3 (PV.of (o := Nobody) (.row hb (by omega) h2 .nil)) (Free.nobody _ _) d4 (fun p b o h => (d5 p b o h).elim (fun h => .inl (.own h)) fun h => h.elim) (fun b o h => h.elim) (fun b o h1 h2 => .inl (.inl ⟨h1, h2⟩)) (fun _ _ h => .inr h) (fun _ h => .inl h)
  · cases h
end
end Go.AM
