import Derived.Test.YthbiajoionockaaM1
import Derived.Room.AppendUpon
import Derived.Laws.IdiomStrings
/-! append, copy. -/
namespace Go.AM
open Go
set_option linter.unusedVariables false

section
variable {P : Program} {g g' : G} {w w' : World} {ow ow' ow1 : Own} {σ σ' : St} {fr fr' : Fr} {tm : Array Value} {a : Act} {dst : Option Tmp}

structure ElemInfo (P : Program) (e : TypeId) (i : TypeInfo) (zv : Value) (z : AV) : Prop where
  info : P.info? e = some i
  zero : i.zero = some zv
  plain : AV.ofPlain zv = some z
  size : i.size = P.cellsOf e
  bytes : i.bytes = bytesOf P e
  pos : P.cellsOf e ≠ 0
  bpos : bytesOf P e ≠ 0
  zlen : z.cells.length = P.cellsOf e
  zsize : zv.cells.size = P.cellsOf e

theorem elemOK_info {e : TypeId} (h : elemOK P e = true) : ∃ i zv z, zeroA P e = some z ∧ ElemInfo P e i zv z := by
  unfold elemOK at h
  split at h
  case h_2 => cases h
  rename_i z hz
  simp only [Bool.and_eq_true, beq_iff_eq, bne_iff_ne] at h
  obtain ⟨⟨h1, h2⟩, h3⟩ := h
  obtain ⟨zv, _, k2, k3⟩ := zeroA_run hz
  cases hi : P.info? e with
  | none => simp [hi] at k3
  | some i =>
    have hzi : i.zero = some zv := by simpa [hi] using k3
    obtain ⟨_, j, _⟩ := ofPlain_V (g := ⟨[], [], fun _ _ => False⟩) (w := default) k2
    exact ⟨i, zv, z, hz, hi, hzi, k2, by simp [Program.cellsOf, hi], by simp [bytesOf, hi], h2, h3, h1, by have := j.length; simp at this; omega⟩

theorem group_cells {e : TypeId} : ∀ {n : Nat} {cs : List AV}, (isAgg P e || P.cellsOf e == 1) = true → cs.length = n * P.cellsOf e → (∀ c ∈ cs, c.isCell = true) →
    (group P e n cs).flatMap AV.cells = cs ∧ (group P e n cs).length = n ∧ Elems (P.cellsOf e) (group P e n cs)
  | 0, cs, _, hl, _ => by
    have : cs = [] := by simpa using hl
    subst this; exact ⟨rfl, rfl, fun _ h => by cases h⟩
  | n + 1, cs, hk, hl, hc => by
    rw [Nat.add_mul, Nat.one_mul] at hl
    obtain ⟨h1, h2, h3⟩ := group_cells (n := n) (cs := cs.drop (P.cellsOf e)) hk (by rw [List.length_drop]; omega) fun c h => hc c (List.mem_of_mem_drop h)
    have hp : (pack P e (cs.take (P.cellsOf e))).cells = cs.take (P.cellsOf e) := by
      unfold pack
      split
      · rfl
      · rename_i hna
        have h1 : P.cellsOf e = 1 := by simpa [hna] using hk
        rw [h1] at hl ⊢
        cases cs with
        | nil => simp at hl
        | cons c r =>
          simp only [List.take_succ_cons, List.take_zero, List.getD_cons_zero]
          exact isCell_cells (hc c (by simp))
    have hpl : (cs.take (P.cellsOf e)).length = P.cellsOf e := by rw [List.length_take]; omega
    refine ⟨?_, by simp [group, h2], fun x hx => ?_⟩
    · simp only [group, List.flatMap_cons, hp, h1, List.take_append_drop]
    · simp only [group, List.mem_cons] at hx
      rcases hx with rfl | hx
      · rw [hp]; exact ⟨hpl, fun c h => hc c (List.mem_of_mem_take h)⟩
      · exact h3 x hx

theorem str_bytes (l : List UInt8) : byteCells ⟨l.toArray⟩ = (l.map fun b => Value.int .u8 b.toNat) := by simp [byteCells]

theorem str_V : ∀ (l : List UInt8), VL g w ((l.map fun b => AV.s (.int .u8 b.toNat)).flatMap AV.cells) (l.map fun b => Value.int .u8 b.toNat)
  | [] => .nil
  | b :: l => .sc (.int .u8 b.toNat) (str_V l)

theorem srcOK_str {t : TypeId} {l : List UInt8} (h : srcOK P (some t) (.s (.str l)) = true) : P.underlying t = some .string := by
  unfold srcOK at h
  cases hu : P.underlying t with
  | none => simp [hu] at h
  | some d => cases d <;> simp [hu, AV.isStr, AV.isSlice] at h ⊢

theorem srcOK_slice {t : TypeId} {x : AV} (h : srcOK P (some t) x = true) (hx : x.isStr = false) : ∃ e, P.underlying t = some (.slice e) := by
  unfold srcOK at h
  cases hu : P.underlying t with
  | none => simp [hu] at h
  | some d => cases d <;> simp [hu, hx] at h ⊢

theorem elems_run (s : SS g w ow σ) {e : TypeId} {t : TypeId} {x : AV} {xv : Value} {items : List AV} (h : elems P e x σ = some items) (hk : srcOK P (some t) x = true) (hx : V g w x xv) (h0 : P.cellsOf e ≠ 0) :
    ∃ news, Src P (P.cellsOf e) t xv items.length news w ∧ VL g w (items.flatMap AV.cells) news ∧ Elems (P.cellsOf e) items ∧ Builtin.lenOf xv = Sem.pure items.length ∧ ∀ k, k ≤ items.length → (Builtin.firstCells (P.cellsOf e) k xv).run P w = .ok (news.take (k * P.cellsOf e)).toArray w := by
  unfold elems at h
  split at h
  · injection h with h; subst h
    obtain rfl := hx.sc_inv
    obtain ⟨e', hu⟩ := srcOK_slice hk rfl
    exact ⟨[], Src.ofNil w hu 0, .nil, (fun _ h => by cases h), rfl, fun k _ => by rw [List.take_nil]; exact run_firstCells_none w (P.cellsOf e) k 0 0⟩
  · rename_i l
    split at h
    case isFalse => cases h
    rename_i h1
    injection h with h; subst h
    obtain rfl := hx.sc_inv
    have hs : (ByteArray.mk l.toArray).size = l.length := by simp [ByteArray.size]
    have hsrc := Src.ofString (P := P) w (srcOK_str hk) ⟨l.toArray⟩
    rw [str_bytes, hs] at hsrc
    refine ⟨_, by rw [h1, List.length_map]; exact hsrc, str_V l, fun x hx => ?_, by rw [List.length_map, ← hs]; rfl, fun k hk => ?_⟩
    rotate_left
    · simp only [Builtin.firstCells, Sc.toV, Sem.run_pure, h1, Nat.mul_one]
      congr 1
      apply Array.ext'
      simp [ByteArray.extract, ByteArray.copySlice, List.map_take]
    obtain ⟨b, _, rfl⟩ := List.mem_map.1 hx
    rw [h1]; exact ⟨rfl, fun c hc => by simp [AV.cells] at hc; subst hc; rfl⟩
  · rename_i fl sz es
    split at h
    case isFalse => cases h
    rename_i h1
    injection h with h; subst h; subst h1
    obtain ⟨e', hu⟩ := srcOK_slice hk rfl
    cases hx with
    | lnil _ _ => exact ⟨[], Src.ofNil w hu 0, .nil, (fun _ h => by cases h), rfl, fun k _ => by rw [List.take_nil]; exact run_firstCells_none w (P.cellsOf e) k 0 0⟩
    | @list _ _ _ ad len cap xs _ _ k1 k2 k3 k4 k5 k6 k7 k8 k9 _ =>
    subst k2
    have hc : ∀ c ∈ es.flatMap AV.cells, c.isCell = true := fun c hc => by
      obtain ⟨x, hx, hcx⟩ := List.mem_flatMap.1 hc
      exact (k6 x hx).2 c hcx
    have kk : ∀ j u, xs[j]? = some u → w.cell? (ad.add j) = some u := fun j u hj => by
      rcases k5 with rfl | k5
      · have := k8.length; simp at this; rw [this] at hj; cases hj
      · rw [add_spot k5]; exact (k9 j u hj).1
    refine ⟨xs, Src.ofSlice w hu ad es.length cap xs (by rw [k8.length, elems_length fun x hx => (k6 x hx).1]) kk ((Cells.of (ro := Nobody) k8 hc).one'), k8, k6, rfl, fun k hk => ?_⟩
    refine run_firstCells_some w _ k ad es.length cap (xs.take (k * P.cellsOf e)) ?_ fun j u hj => ?_
    · rw [List.length_take, k8.length, elems_length fun x hx => (k6 x hx).1, Nat.min_eq_left (Nat.mul_le_mul_right _ hk)]
    · rw [List.getElem?_take] at hj
      split at hj
      · exact kk j u hj
      · cases hj
  · rename_i r off len cap
    split at h
    case isFalse => cases h
    rename_i hg
    cases hr : readCells σ (.ptr r off) (len * P.cellsOf e) with
    | none => simp [hr] at h
    | some cs =>
      simp [hr] at h; subst h
      obtain ⟨e', hu⟩ := srcOK_slice hk rfl
      obtain ⟨b, c, rfl, hb, h1, h2⟩ := hx.row_inv
      obtain ⟨ad, xs, hpv, h3, h4, h5, h6, h7⟩ := read_run s hr (.ptr hb .nil)
      injection hpv with hpv; injection hpv with hpv; subst hpv
      obtain ⟨g1, g2, g3⟩ := group_cells hg h4 h6
      rw [g2]
      refine ⟨xs, Src.ofSlice w hu _ len c xs (by rw [h5.length, h4]) h7 ((Cells.of (ro := Nobody) h5 h6).one'), by rw [g1]; exact h5, g3, rfl, fun k hk => ?_⟩
      refine run_firstCells_some w _ k _ len c (xs.take (k * P.cellsOf e)) ?_ fun j u hj => ?_
      · rw [List.length_take, h5.length, h4, Nat.min_eq_left (Nat.mul_le_mul_right _ hk)]
      · rw [List.getElem?_take] at hj
        split at hj
        · exact h7 j u hj
        · cases hj
  · cases h

theorem Sem.pure_run {α : Type} {x : Sem α} {v : α} (h : x = Sem.pure v) (w : World) : x.run P w = .ok v w := by rw [h]; rfl

theorem Out.wider {v : AV} {val : Value} (h : ∃ g' ow', Out g w ow1 dst v fr σ tm g' w' ow' val) (hall : ∀ p b o, ow1 p b o → ow p b o) : ∃ g' ow', Out g w ow dst v fr σ tm g' w' ow' val := by
  obtain ⟨g', ow', h⟩ := h
  have hm : ∀ b o, May g ow1 b o → May g ow b o := fun b o h => by
    rcases h with h | ⟨p, h⟩
    · exact .inl h
    · exact .own (hall _ _ _ h)
  exact ⟨g', ow', h.rel, h.tr.weaken hm, fun b o h' => (h.may b o h').imp (hm b o) id, fun b o h' => (h.keep b o h').imp (hm b o) id, h.hbn⟩

/-- A new array for what is appended. -/
theorem append_grow_out {t tx ty e : TypeId} {i : TypeInfo} {zv : Value} {z : AV} (I : ElemInfo P e i zv z) (ht : P.underlying t = some (.slice e)) {base : Option Addr} {sLen sCap : Nat} {olds news : List Value} {es items : List AV} {x : Value}
    (r : Rel g w ow1 fr tm σ) (hold : (Builtin.firstCells (P.cellsOf e) sLen (.slice base sLen sCap)).run P w.drew = .ok olds.toArray w.drew) (hs : Src P (P.cellsOf e) tx x items.length news w)
    (ho : VL g w (es.flatMap AV.cells) olds) (hn : VL g w (items.flatMap AV.cells) news) (he : Elems (P.cellsOf e) es) (hi : Elems (P.cellsOf e) items) (hle : AV.under.go 0 es = true) (hli : AV.under.go 0 items = true) (hsl : sLen = es.length)
    (hg : sCap < sLen + items.length) (hfit : Builtin.nextslicecap (sLen + items.length) sCap * bytesOf P e ≤ 2 ^ 48) (hall : ∀ p b o, ow1 p b o → ow p b o) :
    ∃ val w', (Builtin.append_ #[t, tx] ty #[.slice base sLen sCap, x]).run P w = .ok val w' ∧ (∃ g' ow', Out g w ow dst (.list .uniq (P.cellsOf e) (es ++ items)) fr σ tm g' w' ow' val) ∧ (∃ g' ow', Out g w ow dst (.list .own (P.cellsOf e) (es ++ items)) fr σ tm g' w' ow' val) := by
  have hb : 0 < bytesOf P e := Nat.pos_of_ne_zero I.bpos
  have hneed : sLen + items.length ≤ Builtin.nextslicecap (sLen + items.length) sCap := le_nextslicecap hg
  have h63 : ((sLen + items.length : Nat) : Int) ≤ 9223372036854775807 := by
    have h1 : Builtin.nextslicecap (sLen + items.length) sCap * 1 ≤ Builtin.nextslicecap (sLen + items.length) sCap * bytesOf P e := Nat.mul_le_mul_left _ hb
    omega
  have hrun := run_append_grow_src (P := P) w t tx ty e i zv ht I.info I.zero base sLen sCap olds (by rw [I.size]; exact hold) x items.length news (by rw [I.size]; exact hs) hg h63 (by rw [I.bytes]; simpa using hfit)
  refine ⟨_, _, hrun, ?_⟩
  have hge := grownCap_ge w (sLen + items.length) sCap e
  generalize grownCap w (sLen + items.length) sCap e = cap at hge
  have hrest : (olds ++ news ++ (Builtin.zeroCells zv.cells (cap - (sLen + items.length))).toList).length = cap * P.cellsOf e := by
    have hz : (Builtin.zeroCells zv.cells (cap - (sLen + items.length))).toList.length = (cap - (sLen + items.length)) * P.cellsOf e := by rw [Array.length_toList, size_zeroCells, I.zsize]
    have ho' := ho.length
    have hn' := hn.length
    rw [elems_length fun x h => (he x h).1] at ho'
    rw [elems_length fun x h => (hi x h).1] at hn'
    rw [List.length_append, List.length_append, ho', hn', hz, ← Nat.add_mul, ← Nat.add_mul, ← hsl]
    congr 1; omega
  have hel : (es ++ items).length = sLen + items.length := by rw [List.length_append, hsl]
  have hw : (w.drew.alloc (.cells ((olds ++ news).toArray ++ Builtin.zeroCells zv.cells (cap - (sLen + items.length))) e)).heap = w.heap.push (.cells (olds ++ news ++ (Builtin.zeroCells zv.cells (cap - (sLen + items.length))).toList).toArray e) := by
    show w.heap.push _ = _
    congr 2
    apply Array.ext'
    simp
  obtain ⟨wr', ro, k1, k2, k3, k4, k5, k7, k6⟩ := r.fresh (sz := P.cellsOf e) (cap := cap) (es := es ++ items) (xs := olds ++ news) (rest := (Builtin.zeroCells zv.cells (cap - (sLen + items.length))).toList) (E := e) (fz := (0, 0)) (Nat.pos_of_ne_zero I.pos) (he.app hi) (by rw [under_app, hle, hli]; rfl)
    (by rw [List.flatMap_append]; exact ho.app hn) (by rw [hel]; exact hge) hrest (by intro o _; simp) hw
  rw [hel] at k6
  exact ⟨Out.wider (Out.new k1 k2 k3 k4 k5 k7 k6) hall, Out.wider (Out.calm k1 k2 k3 k4 k5 k7 r.ss.lt k6 fun _ _ h => h) hall⟩

theorem room_out {t tx ty e : TypeId} {i : TypeInfo} {zv : Value} {z : AV} (I : ElemInfo P e i zv z) (ht : P.underlying t = some (.slice e)) {ad : Addr} {sLen sCap : Nat} {news : List Value} {x : Value} {n : Nat} (hsp : ad.spot = none) (hs : Src P (P.cellsOf e) tx x n news w) (hroom : sLen + n ≤ sCap)
    (hc : ∀ j, j < news.length → (w.cell? ⟨ad.block, ad.off + sLen * P.cellsOf e + j, none⟩).isSome = true) (hf : ∀ j, j < news.length → w.frozen? ⟨ad.block, ad.off + sLen * P.cellsOf e + j, none⟩ = false) :
    (Builtin.append_ #[t, tx] ty #[.slice (some ad) sLen sCap, x]).run P w = .ok (.slice (some ad) (sLen + n) sCap) (w.setCells ad.block (ad.off + sLen * P.cellsOf e) news) := by
  obtain ⟨b, off, sp⟩ := ad
  dsimp only at hsp; subst hsp
  have := run_append_room_src (P := P) w t tx ty e i ht I.info b off sLen sCap x n news (by rw [I.size]; exact hs) hroom (by rw [I.size]; exact hc) (by rw [I.size]; exact hf)
  rw [I.size] at this
  exact this

theorem append_out (r : Rel g w ow fr a.tmps σ) {so xo : Operand} {t tx ty : TypeId} {v : AV} (h : AM.append P t (some tx) (taken true fr so).1 (seen (taken true fr so).2 xo) σ = some (v, σ')) :
    ∃ val w', (Builtin.append_ #[t, tx] ty #[a.eval so, a.eval xo]).run P w = .ok val w' ∧ ∃ g' ow', Out g w ow dst v (taken true fr so).2 σ' a.tmps g' w' ow' val := by
  obtain ⟨ow1, r1, hp1, f1, k1⟩ := taken_true r so
  have hx := r1.sf.seen xo
  have hm1 : ∀ b o, ownOf ow so b o → May g ow b o := fun b o h => by cases so <;> first | exact .own h | exact h.elim
  unfold AM.append at h
  split at h
  case h_2 => cases h
  rename_i e ht
  split at h
  · cases h
  rename_i hok
  simp only [Bool.not_eq_true', Bool.not_eq_false, Bool.and_eq_true] at hok
  obtain ⟨i, zv, z, hz, I⟩ := elemOK_info hok.2
  split at h
  · cases h
  rename_i items hit
  obtain ⟨news, hsrc, hnv, hel, hlen, _⟩ := elems_run r1.ss hit hok.1 hx I.pos
  split at h
  · cases h
  rename_i hlow
  have hlow : AV.under.go 0 items = true := by simpa using hlow
  have hsrcD := hsrc
  generalize hq : (taken true fr so).1 = sv at h hp1
  split at h
  · -- onto nil
    have hsv : a.eval so = .slice none 0 0 := V.sc_inv hp1
    split at h
    · rename_i hemp
      have hi0 : items = [] := by simpa using hemp
      subst hi0
      simp only [Option.some.injEq, Prod.mk.injEq] at h
      obtain ⟨rfl, rfl⟩ := h
      have hn0 : news = [] := hnv.nil_left
      subst hn0
      refine ⟨.slice none 0 0, w, ?_, Out.wider ⟨g, Out.pure r1 (.sc .nilS .nil)⟩ k1⟩
      rw [hsv]
      have hc0 : (Builtin.firstCells (P.cellsOf e) 0 (a.eval xo)).run P w = .ok #[] w := hsrc.cells
      rcases hsrc.kind with ⟨e', hk⟩ | hk <;> simp [Builtin.append_, run_underlying ht, run_underlying hk, sizeOf, typeInfo, I.info, I.size, hlen, hc0]
    · rename_i hemp
      split at h
      case isFalse => cases h
      rename_i hfit
      simp only [Option.some.injEq, Prod.mk.injEq] at h
      obtain ⟨rfl, rfl⟩ := h
      have hpos : 0 < items.length := List.length_pos_iff.2 (by simpa using hemp)
      obtain ⟨val, w', j1, j2, _⟩ := append_grow_out (dst := dst) (tx := tx) (ty := ty) (ow := ow) I ht (base := none) (sLen := 0) (sCap := 0) (olds := []) (es := []) r1 (run_firstCells_none w.drew _ 0 0 0) hsrc .nil hnv (fun _ h => by cases h) hel rfl hlow rfl (by omega) (by rw [Nat.zero_add, nextslicecap_zero hpos]; exact hfit) k1
      exact ⟨val, w', by rw [hsv]; exact j1, j2⟩
  · rename_i fl sz es
    split at h
    · cases h
    rename_i hsz
    have hsz : sz = P.cellsOf e := by simpa using hsz
    subst hsz
    obtain ⟨oad, cap, hsv, hle, hfull, _, hnone⟩ := V_len_slice hp1
    cases oad with
    | none =>
      obtain ⟨rfl, rfl, rfl⟩ := hnone rfl
      split at h
      case isFalse => cases h
      rename_i hemp
      have hi0 : items = [] := by simpa using hemp
      subst hi0
      simp only [Option.some.injEq, Prod.mk.injEq] at h
      obtain ⟨rfl, rfl⟩ := h
      have hn0 : news = [] := hnv.nil_left
      subst hn0
      refine ⟨.slice none 0 0, w, ?_, Out.wider ⟨g, Out.pure r1 (.lnil (by omega) .nil)⟩ k1⟩
      rw [hsv]
      have hc0 : (Builtin.firstCells (P.cellsOf e) 0 (a.eval xo)).run P w = .ok #[] w := hsrc.cells
      rcases hsrc.kind with ⟨e', hk⟩ | hk <;> simp [Builtin.append_, run_underlying ht, run_underlying hk, sizeOf, typeInfo, I.info, I.size, hlen, hc0]
    | some ad =>
    split at h
    · rename_i hemp
      have hi0 : items = [] := by simpa using hemp
      subst hi0
      simp only [Option.some.injEq, Prod.mk.injEq] at h
      obtain ⟨rfl, rfl⟩ := h
      have hn0 : news = [] := hnv.nil_left
      subst hn0
      have hrun : (Builtin.append_ #[t, tx] ty #[.slice (some ad) es.length cap, a.eval xo]).run P w = .ok (.slice (some ad) es.length cap) w := by
        have hc0 : (Builtin.firstCells (P.cellsOf e) 0 (a.eval xo)).run P w = .ok #[] w := hsrc.cells
        rcases hsrc.kind with ⟨e', hk⟩ | hk <;> simp [Builtin.append_, run_underlying ht, run_underlying hk, sizeOf, typeInfo, I.info, I.size, hlen, hc0, hle, storeCells]
      refine ⟨.slice (some ad) es.length cap, w, by rw [hsv]; exact hrun, g, ?_⟩
      rw [hsv] at hp1
      exact Out.of r1 hp1 f1 (Tr.refl _ _ _) (fun p b o h => .inl (.own (k1 _ _ _ h))) (fun b o h => .inl (hm1 _ _ h)) (fun b o h1 h2 => .inl (.inl ⟨h1, h2⟩)) (fun _ _ h => .inr h) (fun _ h => .inl h)
    · rename_i hemp
      have hpos : 0 < items.length := List.length_pos_iff.2 (by simpa using hemp)
      -- a view of what was there
      have view : ∀ {fl : Fl}, V g w (.list fl (P.cellsOf e) es) (a.eval so) → ∃ xs, VL g w (es.flatMap AV.cells) xs ∧ Elems (P.cellsOf e) es ∧ AV.under.go 0 es = true ∧ (Builtin.firstCells (P.cellsOf e) es.length (.slice (some ad) es.length cap)).run P w.drew = .ok xs.toArray w.drew := by
        intro fl hV
        rw [hsv] at hV
        cases hV with
        | @list _ _ _ _ _ _ xs _ _ c1 c2 c3 c4 c5 c6 c7 c8 c9 _ =>
        exact ⟨xs, c8, c6, c7, run_firstCells_some w.drew _ es.length ad es.length cap xs (by rw [c8.length, elems_length fun x h => (c6 x h).1]) fun j u hj => by
          rcases c5 with rfl | c5
          · have := c8.length; simp at this; rw [this] at hj; cases hj
          · rw [add_spot c5]; exact (c9 j u hj).1⟩
      have big : ∀ {c : Nat}, c < es.length + items.length → 2 * (es.length + items.length) * bytesOf P e ≤ 2 ^ 48 → Builtin.nextslicecap (es.length + items.length) c * bytesOf P e ≤ 2 ^ 48 := fun hc hb => Nat.le_trans (Nat.mul_le_mul_right _ (nextslicecap_le hc)) hb
      cases fl with
      | sh => simp at h
      | full =>
        obtain ⟨xs, c1, c2, c3, c4⟩ := view (fl := .full) hp1
        have hcap := hfull rfl
        subst hcap
        simp only at h
        split at h
        · rename_i hes
          have he0 : es = [] := by simpa using hes
          subst he0
          split at h
          case isFalse => cases h
          rename_i hfit
          simp only [Option.some.injEq, Prod.mk.injEq] at h
          obtain ⟨rfl, rfl⟩ := h
          obtain ⟨val, w', j1, j2, _⟩ := append_grow_out (dst := dst) (tx := tx) (ty := ty) (ow := ow) I ht r1 c4 hsrc c1 hnv c2 hel c3 hlow rfl (by simpa using hpos) (by simp only [List.length_nil, Nat.zero_add]; rw [nextslicecap_zero hpos]; exact hfit) k1
          exact ⟨val, w', by rw [hsv]; exact j1, j2⟩
        · split at h
          case isFalse => cases h
          rename_i hfit
          simp only [Option.some.injEq, Prod.mk.injEq] at h
          obtain ⟨rfl, rfl⟩ := h
          obtain ⟨val, w', j1, _, j2⟩ := append_grow_out (dst := dst) (tx := tx) (ty := ty) (ow := ow) I ht r1 c4 hsrc c1 hnv c2 hel c3 hlow rfl (by omega) (big (by omega) hfit) k1
          exact ⟨val, w', by rw [hsv]; exact j1, j2⟩
      | own =>
        simp only at h
        split at h
        case isFalse => cases h
        rename_i hfit
        simp only [Option.some.injEq, Prod.mk.injEq] at h
        obtain ⟨rfl, rfl⟩ := h
        by_cases hroom : es.length + items.length ≤ cap
        · rw [hsv] at hp1
          obtain ⟨_, d2, d3, d4, d5, d6, X, ro', d7, d8, d9, d10, d12, d11⟩ := r1.grow (.inl rfl) hp1 f1 hel hlow hnv hroom
          refine ⟨_, _, by rw [hsv]; exact room_out (ty := ty) I ht d2 hsrc hroom d5 d6, g.less X, ?_⟩
          exact Out.of d7 d11 d9 (d8.weaken fun b o h => hm1 _ _ h) (fun p b o h => .inl (.own (k1 _ _ _ h))) (fun b o h => .inl (hm1 _ _ (d10 _ _ h))) (fun b o h1 h2 => .inl (.inl ⟨h1, h2.1⟩)) (fun b o h => (Classical.em (X b o)).elim (fun hx => .inl (hm1 _ _ (d12 _ _ hx))) fun hx => .inr ⟨h, hx⟩) (fun _ h => .inl h)
        · obtain ⟨xs, c1, c2, c3, c4⟩ := view (fl := .sh) hp1.1
          obtain ⟨val, w', j1, _, j2⟩ := append_grow_out (dst := dst) (tx := tx) (ty := ty) (ow := ow) I ht r1 c4 hsrc c1 hnv c2 hel c3 hlow rfl (by omega) (big (by omega) hfit) k1
          exact ⟨val, w', by rw [hsv]; exact j1, j2⟩
      | uniq =>
        simp only at h
        split at h
        case isFalse => cases h
        rename_i hfit
        simp only [Option.some.injEq, Prod.mk.injEq] at h
        obtain ⟨rfl, rfl⟩ := h
        by_cases hroom : es.length + items.length ≤ cap
        · rw [hsv] at hp1
          obtain ⟨_, d2, d3, d4, d5, d6, X, ro', d7, d8, d9, d10, d12, d11⟩ := r1.grow (.inr rfl) hp1 f1 hel hlow hnv hroom
          refine ⟨_, _, by rw [hsv]; exact room_out (ty := ty) I ht d2 hsrc hroom d5 d6, g.less X, ?_⟩
          exact Out.of d7 d11 d9 (d8.weaken fun b o h => hm1 _ _ h) (fun p b o h => .inl (.own (k1 _ _ _ h))) (fun b o h => .inl (hm1 _ _ (d10 _ _ h))) (fun b o h1 h2 => .inl (.inl ⟨h1, h2.1⟩)) (fun b o h => (Classical.em (X b o)).elim (fun hx => .inl (hm1 _ _ (d12 _ _ hx))) fun hx => .inr ⟨h, hx⟩) (fun _ h => .inl h)
        · obtain ⟨a', c', xs, u⟩ := hp1
          have hval := u.val
          rw [hsv] at hval
          injection hval with e1 _ e3
          injection e1 with e1; subst e1; subst e3
          have c4 : (Builtin.firstCells (P.cellsOf e) es.length (.slice (some ad) es.length cap)).run P w.drew = .ok xs.toArray w.drew :=
            run_firstCells_some w.drew _ es.length ad es.length cap xs u.len fun j v hj => by rw [add_spot u.spot]; exact u.cell j v hj
          obtain ⟨val, w', j1, j2, _⟩ := append_grow_out (dst := dst) (tx := tx) (ty := ty) (ow := ow) I ht r1 c4 hsrc u.vl hnv u.elems hel u.low hlow rfl (by omega) (big (by omega) hfit) k1
          exact ⟨val, w', by rw [hsv]; exact j1, j2⟩
  · rename_i rf off len cap
    split at h
    case isFalse => cases h
    rename_i hroom
    cases hw : writeCells σ rf (off + len * P.cellsOf e) (items.flatMap AV.cells) with
    | none => simp [hw] at h
    | some σ1 =>
      simp [hw] at h
      obtain ⟨rfl, rfl⟩ := h
      have hV : V g w (.row rf off len cap) (a.eval so) := hp1
      obtain ⟨b, c, hsv, hb, h1, h2⟩ := hV.row_inv
      have hcells : ∀ c ∈ items.flatMap AV.cells, c.isCell = true := fun c hc => by
        obtain ⟨x, hx, hcx⟩ := List.mem_flatMap.1 hc
        exact (hel x hx).2 c hcx
      obtain ⟨d1, d2, ow', d3, d4, d5, _⟩ := r1.write hw hb (Cells.of (ro := Nobody) hnv hcells) (Free.nobody _ _)
      refine ⟨_, _, by rw [hsv]; exact room_out (ty := ty) (ad := ⟨b, off, none⟩) I ht rfl hsrc (by omega) d1 d2, Out.wider (g := g) (ow1 := ow1) ⟨g, ?_⟩ k1⟩
      exact Out.of d3 (PV.of (o := Nobody) (.row hb (by omega) h2 .nil)) (Free.nobody _ _) d4 (fun p b o h => (d5 p b o h).elim (fun h => .inl (.own h)) fun h => h.elim) (fun b o h => h.elim) (fun b o h1 h2 => .inl (.inl ⟨h1, h2⟩)) (fun _ _ h => .inr h) (fun _ h => .inl h)
  · cases h
end
end Go.AM
/-! Slices that are made, copied, cleared; bytes and texts. -/
namespace Go.AM
open Go
set_option linter.unusedVariables false
set_option linter.unusedSimpArgs false

section
variable {P : Program} {g g' : G} {w w' : World} {ow ow' ow1 : Own} {σ σ' : St} {fr fr' : Fr} {tm : Array Value} {a : Act} {dst : Option Tmp}

theorem Elems.replicate {z : AV} {n k : Nat} (h : z.cells.length = n) (hc : ∀ c ∈ z.cells, c.isCell = true) : Elems n (List.replicate k z) := fun e he => by
  rw [List.eq_of_mem_replicate he]; exact ⟨h, hc⟩

theorem buildSlice_out (r : Rel g w ow fr tm σ) {t : TypeId} {len : Nat} {parts : List (Nat × AV)} {vparts : Array (Nat × Value)} {v : AV} (h : buildSlice P t len parts = some v) (hl : parts.length = vparts.toList.length)
    (hp : ∀ (j : Nat) p q, parts[j]? = some p → vparts.toList[j]? = some q → p.1 = q.1 ∧ V g w p.2 q.2) :
    ∃ val w', (Instr.buildSlice t len vparts).run P w = .ok val w' ∧ ∃ g' ow', Out g w ow dst v fr σ tm g' w' ow' val := by
  unfold buildSlice at h
  split at h
  case h_2 => cases h
  rename_i e ht
  split at h
  · rename_i h0
    subst h0
    split at h
    case isFalse => cases h
    rename_i hok
    injection h with h; subst h
    obtain ⟨i, zv, z, hz, I⟩ := elemOK_info hok.1
    have hp0 : vparts = #[] := by
      have : parts = [] := by simpa using hok.2
      subst this
      exact Array.eq_empty_of_size_eq_zero (by simpa using hl.symm)
    subst hp0
    refine ⟨.slice (some ⟨w.heap.size, 0, none⟩) 0 0, w.alloc (.cells #[] e), ?_, ?_⟩
    · simp [Instr.buildSlice, run_underlying ht, run_sizeOf I.pos, Instr.fill, newRow, show Array.range 0 = #[] from rfl]
    · obtain ⟨wr', ro, k1, k2, k3, k4, k5, k7, k6⟩ := r.fresh (w' := w.alloc (.cells #[] e)) (sz := P.cellsOf e) (cap := 0) (es := []) (xs := []) (rest := []) (E := e) (fz := (0, 0)) (Nat.pos_of_ne_zero I.pos) (fun _ h => by cases h) rfl .nil (Nat.le_refl _) (by simp) (by intro o h; simp at h) rfl
      exact Out.calm k1 k2 k3 k4 k5 k7 r.ss.lt k6 fun _ _ h => h.toFull
  · rename_i h0
    split at h
    · cases h
    rename_i hok
    simp only [not_or, Bool.not_eq_true', Bool.not_eq_false] at hok
    split at h
    case h_2 => cases h
    rename_i z hz
    cases hf : fillE (P.cellsOf e) (List.replicate len z) parts with
    | none => simp [hf] at h
    | some es =>
      simp [hf] at h; subst h
      obtain ⟨i, zv, z', hz', I⟩ := elemOK_info (P := P) (e := e) (by simpa using hok.1)
      rw [hz] at hz'; injection hz' with hz'; subst hz'
      obtain ⟨_, _, c3, c4, c5, _⟩ := ofPlain_V (g := g) (w := w) I.plain
      have hpos : 0 < P.cellsOf e := Nat.pos_of_ne_zero I.pos
      obtain ⟨j1, j2, j3, j4⟩ := fillE_fillA (fun x hx => by rw [List.eq_of_mem_replicate hx]; exact I.zlen) (under_mem.2 fun x hx => by rw [List.eq_of_mem_replicate hx]; exact c5) hf
      have hrc : ∀ c ∈ (List.replicate len z).flatMap AV.cells, c.isCell = true := fun c hc => by
        obtain ⟨x, hx, hcx⟩ := List.mem_flatMap.1 hc
        rw [List.eq_of_mem_replicate hx] at hcx; exact c3 c hcx
      obtain ⟨xs', f1, f2, f3⟩ := fill_run (g := g) (w := w) _ parts vparts.toList _ _ _ j1 hl hp (zeros_V I.plain I.zlen hpos len) hrc
      have hes : es.length = len := by rw [j3, List.length_replicate]
      have hel : Elems (P.cellsOf e) es := fun x hx => ⟨j2 x hx, fun c hc => f3 c (List.mem_flatMap.2 ⟨x, hx, hc⟩)⟩
      have hrun := run_buildSlice (P := P) w t e len vparts xs' i zv ht I.info I.zero (by rw [I.size]; omega) (by rw [I.size]; exact Nat.mul_ne_zero h0 I.pos) (by rw [I.size]; exact f1)
      refine ⟨_, _, hrun, ?_⟩
      have hxl : xs'.toList.length = len * P.cellsOf e := by rw [f2.length, elems_length j2, hes]
      obtain ⟨wr', ro, k1, k2, k3, k4, k5, k7, k6⟩ := r.fresh (w' := w.alloc (.cells xs' e)) (sz := P.cellsOf e) (cap := len) (es := es) (xs := xs'.toList) (rest := []) (E := e) (fz := (0, 0)) hpos hel j4 f2 (Nat.le_of_eq hes) (by simpa using hxl) (by intro o _; simp) (by rw [List.append_nil, Array.toArray_toList]; rfl)
      rw [hes] at k6
      exact Out.calm k1 k2 k3 k4 k5 k7 r.ss.lt k6 fun _ _ h => h.toFull

theorem makeSlice_out (r : Rel g w ow fr tm σ) {asList hp : Bool} {t : TypeId} {l c v : AV} {lv cv : Value} (h : makeSlice P asList hp t l c σ = some (v, σ')) (hl : V g w l lv) (hc : V g w c cv) :
    ∃ val w', (Instr.makeSlice t lv cv).run P w = .ok val w' ∧ ∃ g' ow', Out g w ow dst v fr σ' tm g' w' ow' val := by
  unfold makeSlice at h
  split at h
  case h_2 => cases h
  rename_i e k1 l k2 c ht
  obtain rfl := hl.sc_inv
  obtain rfl := hc.sc_inv
  split at h
  case isFalse => cases h
  rename_i hcond
  obtain ⟨h1, h2, h3, h4, h5⟩ := hcond
  obtain ⟨i, zv, z, hz, I⟩ := elemOK_info h5
  obtain ⟨_, c2, c3, c4, c5, _⟩ := ofPlain_V (g := g) (w := w) I.plain
  have hpos : 0 < P.cellsOf e := Nat.pos_of_ne_zero I.pos
  have hwl : IntKind.i64.wrap l = l := by unfold IntKind.wrap; simp [IntKind.bits, IntKind.signed]; omega
  have hwc : IntKind.i64.wrap c = c := by unfold IntKind.wrap; simp [IntKind.bits, IntKind.signed]; omega
  have hzer : ∀ (k : Nat), ((Array.range (k * P.cellsOf e)).map (zv.cells[· % zv.cells.size]!)).size = k * P.cellsOf e := fun k => by simp
  have hb1 : (i.bytes : Int) * c ≤ 2 ^ 47 := by rw [I.bytes]; exact h4
  have hb1' : (i.bytes : Int) * l ≤ 2 ^ 47 := Int.le_trans (Int.mul_le_mul_of_nonneg_left h2 (by omega)) hb1
  have hbr : ¬ roomBytes < c.toNat * i.bytes := by
    have : ((c.toNat * i.bytes : Nat) : Int) = i.bytes * c := by rw [Int.natCast_mul, Int.toNat_of_nonneg (by omega), Int.mul_comm]
    have h' : ((c.toNat * i.bytes : Nat) : Int) ≤ 2 ^ 47 := by rw [this]; exact hb1
    unfold roomBytes
    omega
  have hn0 : zv.cells.size ≠ 0 := by rw [I.zsize]; exact I.pos
  have hrun : (Instr.makeSlice t (.int k1 l) (.int k2 c)).run P w = .ok (.slice (some ⟨w.heap.size, 0, none⟩) l.toNat c.toNat) (w.alloc (.cells ((Array.range (c.toNat * P.cellsOf e)).map (zv.cells[· % zv.cells.size]!)) e)) := by
    have e1 : ¬ c < 0 := by omega
    have e2 : ¬ l < 0 := by omega
    have e3 : ¬ c < l := by omega
    have e4 : ¬ (281474976710656 : Int) < i.bytes * c := by omega
    have e5 : ¬ (281474976710656 : Int) < i.bytes * l := by omega
    by_cases hc0 : c.toNat * P.cellsOf e = 0
    · simp [Instr.makeSlice, run_underlying ht, asInt, asIntOf, typeInfo, I.info, hwl, hwc, e1, e2, e3, e4, e5, askRoom, hbr, run_sizeOf I.pos, hc0, newRow, show Array.range 0 = #[] from rfl]
    · simp [Instr.makeSlice, run_underlying ht, asInt, asIntOf, typeInfo, I.info, hwl, hwc, e1, e2, e3, e4, e5, askRoom, hbr, run_sizeOf I.pos, hc0, newRow, zeroValue, I.zero]
  refine ⟨_, _, hrun, ?_⟩
  rw [hz] at h
  dsimp only at h
  split at h
  · -- as a list
    simp only [Option.some.injEq, Prod.mk.injEq] at h
    obtain ⟨rfl, rfl⟩ := h
    have hlc : l.toNat ≤ c.toNat := by omega
    have hw0 : (w.alloc (.cells ((Array.range (c.toNat * P.cellsOf e)).map (zv.cells[· % zv.cells.size]!)) e)).heap = w.heap.push (.cells ((((Array.range (c.toNat * P.cellsOf e)).map (zv.cells[· % zv.cells.size]!)).toList.take (l.toNat * P.cellsOf e)) ++ (((Array.range (c.toNat * P.cellsOf e)).map (zv.cells[· % zv.cells.size]!)).toList.drop (l.toNat * P.cellsOf e))).toArray e) := by
      rw [List.take_append_drop, Array.toArray_toList]; rfl
    have hv := (zeros_V (g := g) (w := w) I.plain I.zlen hpos c.toNat).takes (l.toNat * P.cellsOf e)
    rw [← flatMap_take (fun x hx => by rw [List.eq_of_mem_replicate hx]; exact I.zlen), List.take_replicate, Nat.min_eq_left hlc] at hv
    obtain ⟨wr', ro, k1, k2, k3, k4, k5, k7, k6⟩ := r.fresh (sz := P.cellsOf e) (cap := c.toNat) (es := List.replicate l.toNat z) (E := e) (fz := (0, 0)) hpos (Elems.replicate I.zlen c3) (under_mem.2 fun x hx => by rw [List.eq_of_mem_replicate hx]; exact c5) hv (by simpa using hlc) (by rw [List.take_append_drop]; simp) (by intro o _; simp) hw0
    rw [List.length_replicate] at k6
    exact Out.new k1 k2 k3 k4 k5 k7 k6
  · cases hb : AM.newBox hp (List.replicate c.toNat z.cells).flatten σ with
    | none => simp [hb] at h
    | some q =>
      obtain ⟨rf, σ1⟩ := q
      simp [hb] at h
      obtain ⟨rfl, rfl⟩ := h
      have hfl : (List.replicate c.toNat z.cells).flatten = (List.replicate c.toNat z).flatMap AV.cells := by rw [List.flatMap_def, List.map_replicate]
      have hv := zeros_V (g := g) (w := w) I.plain I.zlen hpos c.toNat
      rw [← hfl] at hv
      have hcc : ∀ x ∈ (List.replicate c.toNat z.cells).flatten, x.isCell = true := fun x hx => by
        obtain ⟨l', hl', hx'⟩ := List.mem_flatten.1 hx
        rw [List.eq_of_mem_replicate hl'] at hx'; exact c3 x hx'
      obtain ⟨g', ow', r', j1, j2, j3, j4, j5, j6, j7⟩ := r.newBox hb (Cells.of (ro := Nobody) hv hcc) (Free.nobody _ _) (w' := w.alloc (.cells ((Array.range (c.toNat * P.cellsOf e)).map (zv.cells[· % zv.cells.size]!)) e)) rfl
      obtain ⟨ow'', h⟩ := Out.of (g := g) (w := w) (ow := ow) (dst := dst) (v := .row rf 0 l.toNat c.toNat) r' (PV.of (o := Nobody) (.row j1 (by omega) (Nat.le_refl _) .nil)) (Free.nobody _ _) j2.nought (fun p b o h => (j3 p b o h).elim (fun h => .inl (.own h)) fun h => h.elim) (fun b o h => h.elim) (fun b o hb hw => by
        rcases j5 b hb with hb | hb
        · rcases j2.wr b o hw with hw | hw
          · exact .inl (.inl ⟨hb, hw⟩)
          · exact .inr hw
        · exact .inr (Nat.le_of_eq hb.symm)) (fun b o h => .inr (j6 b o h)) (fun b h => (j7 b h).imp id fun h => Nat.le_of_eq h.symm)
      exact ⟨g', ow'', h⟩

theorem copy_out (r : Rel g w ow fr a.tmps σ) {x d v : AV} {t tx ty : TypeId} {xv dv : Value} (h : copyTo P t (some tx) d x σ = some (v, σ')) (hx : V g w x xv) (hd : V g w d dv) :
    ∃ val w', (Builtin.copy_ #[t, tx] ty #[dv, xv]).run P w = .ok val w' ∧ ∃ g' ow', Out g w ow dst v fr σ' a.tmps g' w' ow' val := by
  unfold copyTo at h
  split at h
  case h_2 => cases h
  rename_i e ht
  split at h
  · cases h
  rename_i hok
  simp only [Bool.not_eq_true', Bool.not_eq_false, Bool.and_eq_true] at hok
  obtain ⟨i, zv, z, hz, I⟩ := elemOK_info hok.2
  split at h
  case h_2 => cases h
  rename_i rf off len cap items hit
  obtain ⟨news, hsrc, hnv, hel, hlen, hpre⟩ := elems_run r.ss hit hok.1 hx I.pos
  cases hw : writeCells σ rf off ((items.take len).flatMap AV.cells) with
  | none => simp [hw] at h
  | some σ1 =>
    simp only [hw, Option.map_some, Option.some.injEq, Prod.mk.injEq] at h
    obtain ⟨rfl, rfl⟩ := h
    obtain ⟨b, c, rfl, hb, h1, h2⟩ := hd.row_inv
    have hcells : ∀ c ∈ (items.take len).flatMap AV.cells, c.isCell = true := fun c hc => by
      obtain ⟨x, hx, hcx⟩ := List.mem_flatMap.1 hc
      exact (hel x (List.mem_of_mem_take hx)).2 c hcx
    have hvt : VL g w ((items.take len).flatMap AV.cells) (news.take (len * P.cellsOf e)) := by
      rw [flatMap_take fun x hx => (hel x hx).1]; exact hnv.takes _
    obtain ⟨j1, ow', j2, j3, j4⟩ := write_run (P := P) r hw hb (Cells.of (ro := Nobody) hvt hcells) (Free.nobody _ _)
    refine ⟨goInt (items.take len).length, w.setCells b off (news.take (len * P.cellsOf e)), ?_, g, ?_⟩
    · have hfc := hpre (min len items.length) (Nat.min_le_right _ _)
      have htk : news.take (min len items.length * P.cellsOf e) = news.take (len * P.cellsOf e) := by
        have hnl : news.length = items.length * P.cellsOf e := by rw [hnv.length, elems_length fun x hx => (hel x hx).1]
        by_cases hle : items.length ≤ len
        · rw [Nat.min_eq_right hle, List.take_of_length_le (by omega), List.take_of_length_le (by rw [hnl]; exact Nat.mul_le_mul_right _ hle)]
        · rw [Nat.min_eq_left (by omega)]
      rw [htk] at hfc
      have hmm : items.length.min len = min len items.length := Nat.min_comm _ _
      simp [Builtin.copy_, run_underlying ht, hlen, run_sizeOf I.pos, hmm, hfc, j1]
    · exact Out.of j2 (PV.of (o := Nobody) (.sc (.int .i64 _) .nil)) (Free.nobody _ _) j3 (fun p b o h => (j4 p b o h).elim (fun h => .inl (.own h)) fun h => h.elim) (fun b o h => h.elim) (fun b o h1 h2 => .inl (.inl ⟨h1, h2⟩)) (fun _ _ h => .inr h) (fun _ h => .inl h)

theorem zeroCells_eq (zc : Array Value) (n : Nat) : Builtin.zeroCells zc n = (Array.range (n * zc.size)).map (zc[· % zc.size]!) := rfl

theorem clear_out (r : Rel g w ow fr a.tmps σ) {x : AV} {t ty : TypeId} {xv : Value} (h : clearA P t x σ = some σ') (hx : V g w x xv) :
    ∃ w', (Builtin.clear_ #[t] ty #[xv]).run P w = .ok (.tuple #[]) w' ∧ ∃ g' ow', Out g w ow dst (.tup []) fr σ' a.tmps g' w' ow' (.tuple #[]) := by
  have nothing : σ' = σ → (Builtin.clear_ #[t] ty #[xv]).run P w = .ok (.tuple #[]) w → ∃ w', (Builtin.clear_ #[t] ty #[xv]).run P w = .ok (.tuple #[]) w' ∧ ∃ g' ow', Out g w ow dst (.tup []) fr σ' a.tmps g' w' ow' (.tuple #[]) := by
    rintro rfl h
    exact ⟨w, h, g, Out.pure r (.tup .nil .nil)⟩
  unfold clearA at h
  split at h
  · rename_i e rf off len cap ht
    obtain ⟨b, c, rfl, hb, h1, h2⟩ := hx.row_inv
    cases hz : zeroA P e with
    | none => simp [hz] at h
    | some z =>
      simp only [hz, Option.bind_some] at h
      split at h
      case isFalse => cases h
      rename_i hok
      obtain ⟨i, zv, z', hz', I⟩ := elemOK_info hok
      rw [hz] at hz'; injection hz' with hz'; subst hz'
      obtain ⟨_, c2, c3, c4, c5, _⟩ := ofPlain_V (g := g) (w := w) I.plain
      have hpos : 0 < P.cellsOf e := Nat.pos_of_ne_zero I.pos
      by_cases hl : len = 0
      · subst hl
        refine nothing ?_ (by simp [Builtin.clear_, run_underlying ht])
        simp only [List.replicate_zero, List.flatten_nil] at h
        unfold writeCells at h
        cases hcs : boxOf σ rf with
        | none => simp [hcs] at h
        | some cs =>
          simp only [hcs, Option.bind_some] at h
          split at h
          · injection h with h
            rw [← h]
            have h0 : splice cs off [] = cs := by simp [splice]
            rw [h0]
            cases rf with
            | stk n =>
              simp only [boxOf] at hcs
              obtain ⟨hl, rfl⟩ := List.getElem?_eq_some_iff.1 hcs
              simp [setBox]
            | heap n =>
              simp only [boxOf] at hcs
              split at hcs
              · rename_i cs' hn
                injection hcs with hcs; subst hcs
                obtain ⟨hl, hn⟩ := List.getElem?_eq_some_iff.1 hn
                simp [setBox, ← hn]
              · cases hcs
          · cases h
      · have hfl : (List.replicate len z.cells).flatten = (List.replicate len z).flatMap AV.cells := by rw [List.flatMap_def, List.map_replicate]
        have hv := zeros_V (g := g) (w := w) I.plain I.zlen hpos len
        rw [← hfl] at hv
        have hcc : ∀ x ∈ (List.replicate len z.cells).flatten, x.isCell = true := fun x hx => by
          obtain ⟨l', hl', hx'⟩ := List.mem_flatten.1 hx
          rw [List.eq_of_mem_replicate hl'] at hx'; exact c3 x hx'
        obtain ⟨j1, ow', j2, j3, j4⟩ := write_run (P := P) r h hb (Cells.of (ro := Nobody) hv hcc) (Free.nobody _ _)
        refine ⟨_, ?_, g, Out.of j2 (PV.of (o := Nobody) (.tup (xs := #[]) .nil .nil)) (Free.nobody _ _) j3 (fun p b o h => (j4 p b o h).elim (fun h => .inl (.own h)) fun h => h.elim) (fun b o h => h.elim) (fun b o h1 h2 => .inl (.inl ⟨h1, h2⟩)) (fun _ _ h => .inr h) (fun _ h => .inl h)⟩
        have hze : ∀ w, (zeroValue e).run P w = .ok zv w := fun w => by simp [zeroValue, typeInfo, I.info, I.zero]
        obtain ⟨m, rfl⟩ : ∃ m, len = m + 1 := ⟨len - 1, by omega⟩
        simp only [Builtin.clear_]
        simp [run_underlying ht, hze, zeroCells_eq, I.zsize]
        rw [I.zsize] at j1
        simp at j1
        rw [j1]; rfl
  · rename_i e ht
    injection h with h
    obtain rfl := hx.sc_inv
    exact nothing h.symm (by simp [Builtin.clear_, run_underlying ht, Sc.toV])
  · rename_i e fl sz ht
    injection h with h
    obtain ⟨ad, cap, rfl, _⟩ := V_len_slice (o := fun _ _ => False) (PV.of hx)
    exact nothing h.symm (by cases ad <;> simp [Builtin.clear_, run_underlying ht])
  · cases h
end
end Go.AM
/-! Conversions; rows that were lists, and back. -/
namespace Go.AM
open Go
set_option linter.unusedVariables false
set_option linter.unusedSimpArgs false

section
variable {P : Program} {g g' : G} {w w' : World} {ow ow' ow1 : Own} {σ σ' : St} {fr fr' : Fr} {tm : Array Value} {a : Act} {dst : Option Tmp}

theorem bytesIn_V : ∀ {cs : List AV} {vs : List Value} {l : List UInt8}, VL g w cs vs → bytesIn cs = some l → ∃ ns : List Int, vs = ns.map (Value.int .u8) ∧ l = ns.map fun n => UInt8.ofNat n.toNat
  | [], vs, l, h, hb => by simp [bytesIn] at hb; subst hb; rw [h.nil_left]; exact ⟨[], rfl, rfl⟩
  | c :: cs, vs, l, h, hb => by
    obtain ⟨v, vs', rfl, h1, h2⟩ := h.cons_left
    unfold bytesIn at hb
    split at hb
    · rename_i heq; cases heq
    · rename_i n r heq
      injection heq with e1 e2; subst e1; subst e2
      cases hr : bytesIn cs with
      | none => simp [hr] at hb
      | some l' =>
        simp [hr] at hb; subst hb
        obtain ⟨ns, k1, k2⟩ := bytesIn_V h2 hr
        exact ⟨n :: ns, by rw [h1.sc_inv, k1]; rfl, by rw [k2]; rfl⟩
    · cases hb

theorem foldl_push : ∀ (ns : List Int) (r : ByteArray), ns.foldl (fun r n => r.push (UInt8.ofNat n.toNat)) r = ⟨r.data ++ (ns.map fun n => UInt8.ofNat n.toNat).toArray⟩
  | [], r => by simp
  | n :: ns, r => by
    rw [List.foldl_cons, foldl_push ns]
    simp [ByteArray.push]

theorem bytesIn_cells {items : List AV} {l : List UInt8} (h : bytesIn items = some l) : items.flatMap AV.cells = items := by
  induction items generalizing l with
  | nil => rfl
  | cons c cs ih =>
    unfold bytesIn at h
    split at h
    · rename_i heq; cases heq
    · rename_i n r heq
      injection heq with e1 e2; subst e1; subst e2
      cases hr : bytesIn cs with
      | none => simp [hr] at h
      | some l' => rw [List.flatMap_cons, ih hr]; rfl
    · cases h

theorem convert_out (r : Rel g w ow fr tm σ) {s d : TypeId} {z0 v : AV} {xv : Value} (h : convert P s d z0 σ = some v) (hx : V g w z0 xv) :
    ∃ val w', (Go.convert s d xv).run P w = .ok val w' ∧ ∃ g' ow', Out g w ow dst v fr σ tm g' w' ow' val := by
  unfold AM.convert at h
  split at h
  · rename_i ds k k' n hs hd
    injection h with h; subst h
    obtain rfl := hx.sc_inv
    refine ⟨.int k (k.wrap n), w, ?_, g, Out.pure r (.sc (.int k _) .nil)⟩
    simp [Go.convert, run_underlying hs, run_underlying hd, Sc.toV, Conv.intToInt]
  · rename_i ds l hs hd
    injection h with h; subst h
    obtain rfl := hx.sc_inv
    refine ⟨_, w, ?_, g, Out.pure r (.sc (.str l) .nil)⟩
    simp [Go.convert, run_underlying hs, run_underlying hd, Sc.toV]
  · rename_i e l hs hd
    split at h
    case h_2 => cases h
    rename_i he
    split at h
    case isFalse => cases h
    rename_i hc
    injection h with h; subst h
    obtain rfl := hx.sc_inv
    obtain ⟨hc1, hc2, hc3⟩ := hc
    have hsz : (ByteArray.mk l.toArray).size = l.length := by simp [ByteArray.size]
    have hrun := run_bytes_of_string (P := P) w s d e ⟨l.toArray⟩ hs hd he
    rw [hsz] at hrun
    have hge := grownCap_ge w l.length 0 e
    generalize grownCap w l.length 0 e = cap at hrun hge
    have hrow : (bytesRow ⟨l.toArray⟩ cap).size = cap := by simp [bytesRow]; omega
    rw [hrow] at hrun
    refine ⟨_, _, hrun, ?_⟩
    have hw : (w.drew.alloc (.cells (bytesRow ⟨l.toArray⟩ cap) e (cap, cap + 1))).heap = w.heap.push (.cells ((l.map fun (b : UInt8) => Value.int .u8 b.toNat) ++ List.replicate (cap - l.length) (Value.int .u8 0)).toArray e (cap, cap + 1)) := by
      show w.heap.push _ = _
      congr 2
      apply Array.ext'
      simp [bytesRow, hsz]
    obtain ⟨wr', ro, k1, k2, k3, k4, k5, k7, k6⟩ := r.fresh (sz := 1) (cap := cap) (es := l.map fun b => AV.s (.int .u8 b.toNat)) (xs := l.map fun b => Value.int .u8 b.toNat) (rest := List.replicate (cap - l.length) (Value.int .u8 0)) (E := e) (fz := (cap, cap + 1)) Nat.one_pos
      (fun x hx => by obtain ⟨b, _, rfl⟩ := List.mem_map.1 hx; exact ⟨rfl, fun c hc => by simp [AV.cells] at hc; subst hc; rfl⟩)
      (under_mem.2 fun x hx => by obtain ⟨b, _, rfl⟩ := List.mem_map.1 hx; rfl) (str_V l) (by simpa using hge) (by simp; omega) (by intro o ho; omega) hw
    rw [List.length_map] at k6
    exact Out.new k1 k2 k3 k4 k5 k7 k6
  · rename_i z1 _ _ _ e hs hd hne
    split at h
    case h_2 => cases h
    rename_i he
    split at h
    case isFalse => cases h
    rename_i hc
    simp only [Bool.and_eq_true, beq_iff_eq] at hc
    obtain ⟨hc1, hc2⟩ := hc
    cases hit : elems P e z1 σ with
    | none => simp [hit] at h
    | some items =>
      simp only [hit, Option.bind_some] at h
      cases hb : bytesIn items with
      | none => simp [hb] at h
      | some l =>
        simp only [hb, Option.map_some, Option.some.injEq] at h
        subst h
        obtain ⟨news, hsrc, hnv, hel, hlen, hpre⟩ := elems_run r.ss (t := s) hit (by simp [srcOK, hs, hc1]) hx (by omega)
        rw [bytesIn_cells hb] at hnv
        obtain ⟨ns, k1, k2⟩ := bytesIn_V hnv hb
        subst k1; subst k2
        refine ⟨_, w, ?_, g, Out.pure r (.sc (.str _) .nil)⟩
        have hn : ns.length = items.length := by have := hnv.length; simpa using this
        have hfull := hpre items.length (Nat.le_refl _)
        rw [hc2, Nat.mul_one, List.take_of_length_le (by simp [hn])] at hfull
        -- what kind of slice
        have hk : xv = .slice none 0 0 ∨ ∃ ad n c, xv = .slice (some ad) n c ∧ n = items.length := by
          cases z1 with
          | s y =>
            cases y <;> simp [AV.isSlice] at hc1
            exact .inl hx.sc_inv
          | list fl sz es =>
            rcases hx.list_inv with ⟨ad, cap, rfl, _⟩ | ⟨_, _, rfl⟩
            rotate_left
            · exact .inl rfl
            refine .inr ⟨_, _, _, rfl, ?_⟩
            simp only [Builtin.lenOf] at hlen
            exact Sem.pure.inj hlen
          | row rf off len cap =>
            obtain ⟨b, c, rfl, _⟩ := hx.row_inv
            refine .inr ⟨_, _, _, rfl, ?_⟩
            simp only [Builtin.lenOf] at hlen
            exact Sem.pure.inj hlen
          | _ => simp [AV.isSlice] at hc1
        rcases hk with rfl | ⟨ad, n, c, rfl, rfl⟩
        · have hn0 : items.length = 0 := (Sem.pure.inj (show Sem.pure 0 = Sem.pure items.length from hlen)).symm
          have hns : ns = [] := List.length_eq_zero_iff.1 (by omega)
          subst hns
          simp [Go.convert, run_underlying hs, run_underlying hd, run_underlying he, Conv.bytesToString, Sc.toV]
          rfl
        · have hload : (loadCells ad items.length).run P w = .ok (ns.map (Value.int .u8)).toArray w := by simpa [Builtin.firstCells] using hfull
          have := run_bytesToString (P := P) w ad items.length c ns hload
          simp [Go.convert, run_underlying hs, run_underlying hd, run_underlying he, this, Sc.toV]
          rw [foldl_push]
          simp
  · cases h
end
end Go.AM
/-! Rows that were lists, and back; maps. -/
namespace Go.AM
open Go
set_option linter.unusedVariables false
set_option linter.unusedSimpArgs false

section
variable {P : Program} {g g' : G} {w w' : World} {ow ow' ow1 : Own} {σ σ' : St} {fr fr' : Fr} {tm : Array Value} {a : Act} {dst : Option Tmp}

/-- A list that nobody else sees becomes a box. -/
theorem Rel.thaw (r : Rel g w ow fr tm σ) {ro : Nat → Nat → Prop} {sz cap : Nat} {es : List AV} {v : Value} {ad : Addr} {xs : List Value} (u : Uniq g w ro sz es v ad cap xs) (f : Free g ow ro) (hne : es ≠ []) (hlow : AV.under.go σ.stk.length (es.flatMap AV.cells) = true) :
    Rel ⟨g.sb ++ [ad.block], g.hb, g.wr⟩ w ow fr tm { σ with stk := σ.stk ++ [es.flatMap AV.cells] } ∧ Tr Nought g w ⟨g.sb ++ [ad.block], g.hb, g.wr⟩ w := by
  have hlen := u.len
  have hpos : 0 < es.length * sz := Nat.mul_pos (List.length_pos_iff.2 hne) u.pos
  have hcap : es.length * sz ≤ cap * sz := Nat.mul_le_mul_right _ u.le
  have hro : ∀ i, i < cap * sz → ro ad.block i := fun i hi => by have := (u.spare i (Nat.zero_le _) hi).1; rwa [u.off, Nat.zero_add] at this
  have hnb : ¬ g.isBox ad.block := f.box _ _ (hro 0 (by omega))
  have hcl : (es.flatMap AV.cells).length = es.length * sz := elems_length fun e h => (u.elems e h).1
  -- the block
  obtain ⟨cs, E, fz, hobj⟩ : ∃ cs E fz, w.heap[ad.block]? = some (.cells cs E fz) := by
    obtain ⟨v, hv⟩ := (u.spare 0 (Nat.zero_le _) (by omega)).2.1
    unfold World.cell? at hv
    split at hv
    · rename_i cs E fz h; exact ⟨cs, E, fz, h⟩
    · cases hv
  have hcell : ∀ (i : Nat) (v : Value), w.cell? ⟨ad.block, i, none⟩ = some v → cs[i]? = some v := fun i v h => by simpa [World.cell?, hobj] using h
  have t : Tr Nought g w ⟨g.sb ++ [ad.block], g.hb, g.wr⟩ w := ⟨Nat.le_refl _, fun _ _ _ => rfl, fun _ _ _ _ => rfl, fun _ _ v h => ⟨v, h⟩, fun _ _ _ => rfl, fun _ _ h => .inl h, fun n b hn => by rw [List.getElem?_append_left (List.getElem?_eq_some_iff.1 hn).1]; exact hn, fun _ _ h => h, ⟨rfl, rfl, rfl⟩⟩
  have hib : ∀ b, (⟨g.sb ++ [ad.block], g.hb, g.wr⟩ : G).isBox b → g.isBox b ∨ b = ad.block := fun b hb => by
    rcases hb with hb | hb
    · rcases List.mem_append.1 hb with hb | hb
      · exact .inl (.inl hb)
      · exact .inr (by simpa using hb)
    · exact .inl (.inr hb)
  refine ⟨⟨?_, ⟨r.own.wr, fun p b o h hb => (hib b hb).elim (r.own.box _ _ _ h) fun e => ?_, r.own.one⟩, r.sf.later t (fun _ _ h => h.elim) (fun _ _ _ _ h => h) fun _ _ _ h => h⟩, t⟩
  · exact {
      slen := by simp [r.ss.slen]
      hlen := r.ss.hlen
      nodup := by
        have h0 := r.ss.nodup
        have hn : ad.block ∉ g.sb ++ g.hb := fun hm => hnb (List.mem_append.1 hm)
        show (g.sb ++ [ad.block] ++ g.hb).Nodup
        rw [List.append_assoc]
        exact (List.Perm.nodup_iff (List.perm_middle (l₁ := g.sb) (l₂ := g.hb) (a := ad.block))).2 (List.nodup_cons.2 ⟨hn, h0⟩)
      lt := r.ss.lt
      stk := fun n c hn => by
        by_cases e : n < σ.stk.length
        · rw [List.getElem?_append_left e] at hn
          obtain ⟨h0, b, xs, E, fz, h1, h2⟩ := r.ss.stk n c hn
          exact ⟨h0, b, xs, E, fz, t.sb _ _ h1, h2.still t (fun i b x h => h) fun o h => h⟩
        · have e' : n = σ.stk.length := by
            have := (List.getElem?_eq_some_iff.1 hn).1
            simp at this; omega
          subst e'
          rw [List.getElem?_append_right (Nat.le_refl _)] at hn
          simp at hn; subst hn
          refine ⟨hlow, ad.block, cs, E, fz, by simp [← r.ss.slen], hobj, ?_, fun i x hi => ?_, fun i hi => ⟨f.wr _ _ (hro i (by omega)), ?_⟩⟩
          · rw [hcl]
            have := (u.spare (es.length * sz - 1) (Nat.zero_le _) (by omega)).2.1
            obtain ⟨v, hv⟩ := this
            rw [u.off, Nat.zero_add] at hv
            have := (Array.getElem?_eq_some_iff.1 (hcell _ _ hv)).1
            omega
          · obtain ⟨v, h1, h2⟩ := u.vl.get hi
            have := u.cell i v h1
            rw [u.off, Nat.zero_add] at this
            obtain ⟨e, he, hec⟩ := List.mem_flatMap.1 (List.mem_of_getElem? hi)
            exact ⟨v, hcell _ _ this, PV.of (VL.later (t.later fun _ _ h => h.elim) h2), (u.elems e he).2 x hec⟩
          · have := (u.spare i (Nat.zero_le _) (by omega)).2.2
            rw [u.off, Nat.zero_add] at this
            simp only [World.frozen?, hobj] at this
            simpa using this
      heap := fun n c hn => by
        obtain ⟨h0, b, xs, E, fz, h1, h2⟩ := r.ss.heap n c hn
        exact ⟨h0, b, xs, E, fz, h1, h2.still t (fun i b x h => h) fun o h => h⟩
      maps := fun n es c hn => by
        obtain ⟨b, xs, h1, h2⟩ := r.ss.maps n es c hn
        exact ⟨b, xs, h1, h2.still t fun o h => h⟩
      loops := fun n l hn => by
        obtain ⟨b, q, h1, h2⟩ := r.ss.loops n l hn
        exact ⟨b, q, h1, h2.still t fun o h => h⟩
      iters := fun n l hn => by
        obtain ⟨b, q, h1, h2⟩ := r.ss.iters n l hn
        exact ⟨b, q, h1, h2.still t fun o h => h⟩
      dead := fun n hn => by
        obtain ⟨b, h1, h2⟩ := r.ss.dead n hn
        exact ⟨b, h1, t.lt h2⟩ }
  · subst e
    exact f.apart _ _ _ h (u.all _ (r.own.wr _ _ _ h))

theorem thaw_out (r : Rel g w ow fr a.tmps σ) {x : Operand} {v : AV} (h : AM.thaw fr x σ = some (v, fr', σ')) : ∃ g' ow', Out g w ow dst v fr' σ' a.tmps g' w ow' (a.eval x) := by
  unfold AM.thaw at h
  split at h
  case h_2 => cases h
  rename_i t
  split at h
  · rename_i sz es hv
    split at h
    · cases h
    rename_i hne
    have hne : es ≠ [] := by simpa using hne
    cases hb : AM.newBox false (es.flatMap AV.cells) σ with
    | none => simp [hb] at h
    | some q =>
      obtain ⟨rf, σ1⟩ := q
      simp only [hb, Option.map_some, Option.some.injEq, Prod.mk.injEq] at h
      obtain ⟨rfl, rfl, rfl⟩ := h
      unfold AM.newBox at hb
      simp only [Bool.false_eq_true, if_false] at hb
      split at hb
      case isFalse => cases hb
      rename_i hlow
      simp only [Option.some.injEq, Prod.mk.injEq] at hb
      obtain ⟨rfl, rfl⟩ := hb
      obtain ⟨h1, h2, h3⟩ := r.take t
      rw [hv] at h1
      obtain ⟨ad, cap, xs, u⟩ := h1
      obtain ⟨r', t'⟩ := h2.thaw u h3 hne hlow
      have hev : a.eval (.tmp t) = .slice (some ⟨ad.block, 0, none⟩) es.length cap := by
        have := u.val
        show a.tmps.getD t undef = _
        rw [this]
        have h1 := u.off
        have h2 := u.spot
        cases ad; simp_all
      have hV : V ⟨g.sb ++ [ad.block], g.hb, g.wr⟩ w (.row (.stk σ.stk.length) 0 es.length es.length) (a.eval (.tmp t)) := by
        rw [hev]
        exact .row (by simp [G.ref, ← r.ss.slen]) (Nat.le_refl _) u.le .nil
      -- the slot holds the row
      have r2 : Rel ⟨g.sb ++ [ad.block], g.hb, g.wr⟩ w (ow.set (.slot t) Nobody) (fr.set t (.row (.stk σ.stk.length) 0 es.length es.length)) a.tmps { σ with stk := σ.stk ++ [es.flatMap AV.cells] } := by
        refine ⟨r'.ss, r'.own, ⟨by rw [r.sf.size]; simp, fun i x hi => ?_⟩⟩
        by_cases e : i = t
        · subst e
          have hl : i < fr.length := by
            rcases Nat.lt_or_ge i fr.length with h | h
            · exact h
            · rw [List.getElem?_eq_none (by simpa using h)] at hi; simp at hi
          rw [List.getElem?_set_self hl] at hi
          injection hi with hi; subst hi
          obtain ⟨v, hv1, _⟩ := r.sf.val i _ (List.getElem?_eq_getElem hl)
          refine ⟨v, hv1, PV.of ?_⟩
          have : a.tmps.getD i undef = v := by simp [hv1]
          rw [← this]; exact hV
        · rw [List.getElem?_set_ne (Ne.symm e)] at hi
          exact r'.sf.val i x (by rw [List.getElem?_set_ne (Ne.symm e)]; exact hi)
      have hall : ∀ p b o, (ow.set (.slot t) Nobody) p b o → ow p b o := fun p b o h => by
        by_cases e : p = .slot t
        · rw [e, Own.set_same] at h; exact h.elim
        · rw [Own.set_other _ _ e] at h; exact h
      obtain ⟨ow'', ho⟩ := Out.of (g := g) (w := w) (ow := ow) (dst := dst) r2 (PV.of (o := Nobody) hV) (Free.nobody _ _) t'.nought (fun p b o h => .inl (.own (hall _ _ _ h))) (fun b o h => h.elim) (fun b o hb hw => by
        rcases hb with hb | hb
        · rcases List.mem_append.1 hb with hb | hb
          · exact .inl (.inl ⟨.inl hb, hw⟩)
          · have : b = ad.block := by simpa using hb
            subst this
            exact .inl (.own (u.all _ hw))
        · exact .inl (.inl ⟨.inr hb, hw⟩)) (fun _ _ h => .inr h) (fun _ h => .inl h)
      exact ⟨_, ow'', ho⟩
  · rename_i hv
    simp only [Option.some.injEq, Prod.mk.injEq] at h
    obtain ⟨rfl, rfl, rfl⟩ := h
    have := r.sf.getD t
    rw [hv] at this
    exact ⟨g, Out.pure r this⟩
  · cases h

theorem freeze_out (r : Rel g w ow fr a.tmps σ) {t : TypeId} {x v : AV} {xv : Value} (h : AM.freeze P t x σ = some (v, σ')) (hx : V g w x xv) : ∃ g' ow', Out g w ow dst v fr σ' a.tmps g' w ow' xv := by
  unfold AM.freeze at h
  split at h
  · rename_i e n len cap ht
    cases hr : readCells σ (.ptr (.stk n) 0) (len * P.cellsOf e) with
    | none => simp [hr] at h
    | some cs =>
      simp only [hr, Option.bind_some] at h
      split at h
      case isFalse => cases h
      rename_i hc
      obtain ⟨hc1, hc2, hc3⟩ := hc
      simp only [Option.some.injEq, Prod.mk.injEq] at h
      obtain ⟨rfl, rfl⟩ := h
      obtain ⟨b, c, rfl, hb, h1, h2⟩ := hx.row_inv
      obtain ⟨ad, xs, hpv, h3, h4, h5, h6, h7⟩ := read_run r.ss hr (.ptr hb .nil)
      injection hpv with hpv; injection hpv with hpv; subst hpv
      obtain ⟨g1, g2, g3⟩ := group_cells hc3 h4 h6
      have hbs : g.sb[n]? = some b := hb
      have hbox : g.isBox b := .inl (List.mem_of_getElem? hbs)
      have hlt : n < σ.stk.length := by rw [← r.ss.slen]; exact (List.getElem?_eq_some_iff.1 hbs).1
      obtain ⟨_, b', bx, E, fz, k1, k2⟩ := r.ss.stk n _ (List.getElem?_eq_getElem hlt)
      rw [hbs] at k1; injection k1 with k1; subst k1
      let X : Nat → Nat → Prop := fun b' _ => b' = b
      have t : Tr Nought g w (g.less X) w := Tr.less X
      have r' : Rel (g.less X) w ow fr a.tmps { σ with stk := σ.stk.set n [] } := by
        refine ⟨?_, ⟨fun p b' o h => ⟨r.own.wr _ _ _ h, fun hx => r.own.box _ _ _ h (by rw [show b' = b from hx]; exact hbox)⟩, r.own.box, r.own.one⟩, r.sf.later t (fun _ _ h => h.elim) (fun _ _ _ _ h => h) fun _ _ _ h => h⟩
        obtain ⟨n1, n2, n3⟩ := nodup_ref r.ss.nodup
        refine r.ss.replace r.own hbox t (fun _ _ h => h.elim) (fun b' o h => r.ss.lt _ _ h.1) rfl rfl (fun b' o hne _ h => ⟨h, hne⟩) (by simp) rfl ?_ ?_ ?_ ?_ ?_ ?_ ?_ ?_ ?_
        · intro m c hm hmb
          obtain rfl := n1 _ _ _ hmb hbs
          dsimp only at hm
          rw [List.getElem?_set_self hlt] at hm
          injection hm with hm; subst hm
          exact ⟨rfl, bx, E, fz, k2.obj, Nat.zero_le _, fun i a hi => by simp at hi, fun i hi => by simp at hi⟩
        · intro m c _ hmb; exact (n3 _ _ _ hbs hmb).elim
        · intro m es c _ hmb; exact (n3 _ _ _ hbs hmb).elim
        · intro m l _ hmb; exact (n3 _ _ _ hbs hmb).elim
        · intro m l _ hmb; exact (n3 _ _ _ hbs hmb).elim
        · intro m hne
          have e : n ≠ m := fun e => hne (e ▸ hbs)
          dsimp only; rw [List.getElem?_set_ne e]
        · intro m _; rfl
        · intro m i b' x _ h; exact h
        · intro m i b' x _ h; exact h
      have hV : V (g.less X) w (.list .sh (P.cellsOf e) (group P e len cs)) (.slice (some ⟨b, 0, none⟩) len c) := by
        refine .list (xs := xs) (.inl rfl) g2.symm (by omega) hc2 (.inr rfl) g3 ?_ (by rw [g1]; exact h5.later (t.later fun _ _ h => h.elim)) (fun i v hi => ?_) .nil
        · -- no references in what is read
          refine under_mem.2 fun x hx => ?_
          have hcx : ∀ c ∈ x.cells, AV.under 0 c = true := fun c hc => by
            have : c ∈ (group P e len cs).flatMap AV.cells := List.mem_flatMap.2 ⟨x, hx, hc⟩
            rw [g1] at this
            exact (under_mem.1 hc1) c this
          cases x with
          | agg l => simp only [AV.under]; exact under_mem.2 fun c hc => hcx c hc
          | _ => exact hcx _ (by simp [AV.cells])
        · have := h7 i v hi
          rw [Addr.add_lit] at this
          exact ⟨this, fun hw => hw.2 rfl⟩
      obtain ⟨ow'', ho⟩ := Out.of (g := g) (w := w) (ow := ow) (dst := dst) r' (PV.of (o := Nobody) hV) (Free.nobody _ _) t.nought (fun p b o h => .inl (.own h)) (fun b o h => h.elim) (fun b o h1 h2 => .inl (.inl ⟨h1, h2.1⟩)) (fun b' o h => (Classical.em (b' = b)).elim (fun hx => .inl (.inl ⟨by rw [hx]; exact hbox, h⟩)) fun hx => .inr ⟨h, hx⟩) (fun _ h => .inl h)
      exact ⟨_, ow'', ho⟩
  · simp only [Option.some.injEq, Prod.mk.injEq] at h
    obtain ⟨rfl, rfl⟩ := h
    exact ⟨g, Out.pure r hx⟩
  · cases h
end
end Go.AM
/-! Maps. -/
namespace Go.AM
open Go
set_option linter.unusedVariables false
set_option linter.unusedSimpArgs false

section
variable {P : Program} {g g' : G} {w w' : World} {ow ow' ow1 : Own} {σ σ' : St} {fr fr' : Fr} {tm : Array Value} {a : Act} {dst : Option Tmp}

/-- Entries, one by one. -/
def EntriesOK (g : G) (w : World) (es : List Entry) (xs : List MapEntry) : Prop := xs.length = es.length ∧ ∀ (i : Nat) (e : Entry), es[i]? = some e → ∃ x, xs[i]? = some x ∧ EntryOK g w e x

theorem EntriesOK.tail {e : Entry} {x : MapEntry} {es : List Entry} {xs : List MapEntry} (h : EntriesOK g w (e :: es) (x :: xs)) : EntryOK g w e x ∧ EntriesOK g w es xs := by
  refine ⟨?_, by simpa using h.1, fun i e' hi => h.2 (i + 1) e' hi⟩
  obtain ⟨x', h1, h2⟩ := h.2 0 e rfl
  simp at h1; subst h1; exact h2

theorem findNow_run {d : TypeDesc} (hd : nowKind d = true) {kT : TypeId} (hu : P.underlying kT = some d) {k : AV} {kv : Value} (hk : k.toV = some kv) : ∀ {es : List Entry} {xs : List MapEntry} {i : Nat} {r : Option (Nat × Entry)},
    EntriesOK g w es xs → findA P kT k es i = some r → Instr.findNow d kv xs i = some (r.bind fun (j, e) => (xs[j - i]?).map fun x => (j, x.val)) ∧ ∀ j e, r = some (j, e) → i ≤ j ∧ es[j - i]? = some e
  | [], xs, i, r, h, hf => by
    have : xs = [] := List.length_eq_zero_iff.1 h.1
    subst this
    simp [findA] at hf; subst hf
    exact ⟨rfl, fun _ _ h => by cases h⟩
  | e :: es, [], i, r, h, hf => by have := h.1; simp at this
  | e :: es, x :: xs, i, r, h, hf => by
    obtain ⟨h1, h2⟩ := h.tail
    simp only [findA, keyEq, hk, h1.plain, hu, hd, if_true] at hf
    cases hs : Instr.sameNow d kv x.key with
    | none => simp [hs] at hf
    | some b =>
      simp only [hs] at hf
      cases b with
      | true =>
        simp only [Option.some.injEq] at hf; subst hf
        refine ⟨by simp [Instr.findNow, hs], fun j e' h => ?_⟩
        simp only [Option.some.injEq, Prod.mk.injEq] at h
        obtain ⟨rfl, rfl⟩ := h
        exact ⟨Nat.le_refl _, by simp⟩
      | false =>
        simp only at hf
        obtain ⟨k1, k2⟩ := findNow_run hd hu hk h2 hf
        refine ⟨?_, fun j e' h => ?_⟩
        · simp only [Instr.findNow, hs, k1]
          cases r with
          | none => rfl
          | some q =>
            obtain ⟨j, e'⟩ := q
            have := (k2 j e' rfl).1
            simp only [Option.bind_some]
            rw [show j - i = (j - (i + 1)) + 1 by omega, List.getElem?_cons_succ]
        · obtain ⟨m1, m2⟩ := k2 j e' h
          refine ⟨by omega, ?_⟩
          rw [show j - i = (j - (i + 1)) + 1 by omega, List.getElem?_cons_succ]; exact m2

theorem findAsking_run {d : TypeDesc} (hd : nowKind d = false) {kT : TypeId} (hu : P.underlying kT = some d) {k : AV} {kv : Value} (hk : k.toV = some kv) : ∀ {es : List Entry} {xs : List MapEntry} {i : Nat} {r : Option (Nat × Entry)},
    EntriesOK g w es xs → findA P kT k es i = some r → (Instr.findAsking kT kv xs i).run P w = .ok (r.bind fun (j, e) => (xs[j - i]?).map fun x => (j, x.val)) w ∧ ∀ j e, r = some (j, e) → i ≤ j ∧ es[j - i]? = some e
  | [], xs, i, r, h, hf => by
    have : xs = [] := List.length_eq_zero_iff.1 h.1
    subst this
    simp [findA] at hf; subst hf
    exact ⟨rfl, fun _ _ h => by cases h⟩
  | e :: es, [], i, r, h, hf => by have := h.1; simp at this
  | e :: es, x :: xs, i, r, h, hf => by
    obtain ⟨h1, h2⟩ := h.tail
    simp only [findA, keyEq, hk, h1.plain, hu, hd, Bool.false_eq_true, if_false] at hf
    cases hs : val P (Op.equal kT kv x.key) with
    | none => simp [hs] at hf
    | some b =>
      simp only [hs] at hf
      have hrun := val_run hs w
      cases b with
      | true =>
        simp only [Option.some.injEq] at hf; subst hf
        refine ⟨by simp [Instr.findAsking, hrun], fun j e' h => ?_⟩
        simp only [Option.some.injEq, Prod.mk.injEq] at h
        obtain ⟨rfl, rfl⟩ := h
        exact ⟨Nat.le_refl _, by simp⟩
      | false =>
        simp only at hf
        obtain ⟨k1, k2⟩ := findAsking_run hd hu hk h2 hf
        refine ⟨?_, fun j e' h => ?_⟩
        · simp [Instr.findAsking, hrun, k1]
          cases r with
          | none => rfl
          | some q =>
            obtain ⟨j, e'⟩ := q
            have := (k2 j e' rfl).1
            simp only [Option.bind_some]
            rw [show j - i = (j - (i + 1)) + 1 by omega, List.getElem?_cons_succ]
        · obtain ⟨m1, m2⟩ := k2 j e' h
          refine ⟨by omega, ?_⟩
          rw [show j - i = (j - (i + 1)) + 1 by omega, List.getElem?_cons_succ]; exact m2

theorem sameNow_none {d : TypeDesc} (hd : nowKind d = false) (a b : Value) : Instr.sameNow d a b = none := by
  cases d <;> simp [nowKind] at hd <;> rfl

theorem findKey_run {kT : TypeId} {k : AV} {kv : Value} (hk : k.toV = some kv) {es : List Entry} {xs : List MapEntry} {r : Option (Nat × Entry)} (hu : (P.underlying kT).isSome = true) (h : EntriesOK g w es xs) (hf : findA P kT k es 0 = some r) :
    (Instr.findKey kT kv xs).run P w = .ok (r.bind fun (j, e) => (xs[j]?).map fun x => (j, x.val)) w ∧ ∀ j e, r = some (j, e) → es[j]? = some e := by
  obtain ⟨d, hd⟩ := Option.isSome_iff_exists.1 hu
  cases hn : nowKind d with
  | true =>
    obtain ⟨k1, k2⟩ := findNow_run hn hd hk h hf
    exact ⟨by simp [Instr.findKey, run_underlying hd, k1], fun j e he => by simpa using (k2 j e he).2⟩
  | false =>
    obtain ⟨k1, k2⟩ := findAsking_run hn hd hk h hf
    refine ⟨?_, fun j e he => by simpa using (k2 j e he).2⟩
    cases xs with
    | nil =>
      have hr : r = none := by
        have : es = [] := List.length_eq_zero_iff.1 h.1.symm
        subst this; simp [findA] at hf; exact hf.symm
      subst hr
      simp [Instr.findKey, run_underlying hd, Instr.findNow]
    | cons x xs =>
      have : Instr.findNow d kv (x :: xs) 0 = none := by simp [Instr.findNow, sameNow_none hn]
      simp [Instr.findKey, run_underlying hd, this]
      simpa using k1

theorem keyMay_run {kT : TypeId} {k : AV} (h : keyMay P kT k = true) : ∃ kv, k.toV = some kv ∧ (∀ b w, (Instr.checkKey b 10000 kT kv).run P w = .ok () w) := by
  unfold keyMay at h
  split at h
  case h_2 => cases h
  rename_i kv hk
  simp only [Bool.and_eq_true] at h
  obtain ⟨h1, h2⟩ := h
  obtain ⟨u1, k1⟩ := Option.isSome_iff_exists.1 h1
  obtain ⟨u2, k2⟩ := Option.isSome_iff_exists.1 h2
  exact ⟨kv, hk, fun b w => by
    cases b
    · exact val_run k1 w
    · exact val_run k2 w⟩

theorem SS.map (s : SS g w ow σ) {h : Nat} {es : List Entry} {c : Nat} (hm : mapOf σ (.map h) = some (es, c)) : σ.heap[h]? = some (.map es c) ∧ ∃ b xs, g.hb[h]? = some b ∧ MapOK g w b es c xs := by
  unfold mapOf at hm
  simp only at hm
  split at hm
  · rename_i es' c' hh
    simp only [Option.some.injEq, Prod.mk.injEq] at hm
    obtain ⟨rfl, rfl⟩ := hm
    exact ⟨hh, s.maps _ _ _ hh⟩
  · cases hm

theorem MapOK.entries {b : Nat} {es : List Entry} {c : Nat} {xs : Array MapEntry} (h : MapOK g w b es c xs) : EntriesOK g w es xs.toList :=
  ⟨by simpa using h.size, fun i e hi => by obtain ⟨x, h1, h2⟩ := h.val i e hi; exact ⟨x, by simpa using h1, h2⟩⟩

theorem lookup_run (s : SS g w ow σ) {t : TypeId} {m k v : AV} {mv kv : Value} {ok : Bool} (h : lookup P t m k ok σ = some v) (hm : V g w m mv) (hk : V g w k kv) :
    ∃ val, (Instr.lookup t mv kv ok).run P w = .ok val w ∧ V g w v val := by
  unfold lookup at h
  split at h
  case h_2 => cases h
  rename_i kT eT ht
  split at h
  · cases h
  rename_i hmay
  simp only [Bool.not_eq_true', Bool.not_eq_false] at hmay
  obtain ⟨kv', hk1, hk2⟩ := keyMay_run hmay
  obtain rfl := toV_eq hk hk1
  split at h
  · cases h
  rename_i es c hmo
  have hkT : (P.underlying kT).isSome = true := by
    have := hmay
    unfold keyMay at this
    rw [hk1] at this
    simp only [Bool.and_eq_true] at this
    obtain ⟨u, hu⟩ := Option.isSome_iff_exists.1 this.1
    have := val_run hu w
    cases hd : P.underlying kT with
    | some d => rfl
    | none =>
      unfold Instr.checkKey at this
      simp [underlying, hd, stuck, Sem.run] at this
  -- the entries that the run sees
  have hes : ∃ xs : Array MapEntry, EntriesOK g w es xs.toList ∧ ((mv = .map none ∧ xs = #[]) ∨ ∃ b, mv = .map (some b) ∧ (getObj b).run P w = .ok (.map xs c) w) := by
    cases m with
    | s y =>
      cases y <;> simp [mapOf] at hmo
      obtain ⟨rfl, rfl⟩ := hmo
      exact ⟨#[], ⟨rfl, fun i e h => by simp at h⟩, .inl ⟨hm.sc_inv, rfl⟩⟩
    | map n =>
      obtain ⟨_, b, xs, hb, hM⟩ := s.map hmo
      obtain ⟨b', rfl, hb'⟩ := hm.map_inv
      rw [hb] at hb'; injection hb' with hb'; subst hb'
      exact ⟨xs, hM.entries, .inr ⟨b, rfl, by simp [getObj, Sem.run, hM.obj]⟩⟩
    | _ => simp [mapOf] at hmo
  obtain ⟨xs, hE, hK⟩ := hes
  have hrun : ∀ r, findA P kT k es 0 = some r → (Instr.findKey kT kv xs.toList).run P w = .ok (r.bind fun (j, e) => (xs[j]?).map fun x => (j, x.val)) w ∧ ∀ j e, r = some (j, e) → es[j]? = some e := fun r hr => by
    obtain ⟨k1, k2⟩ := findKey_run (w := w) hk1 hkT hE hr
    exact ⟨by simpa using k1, k2⟩
  split at h
  · rename_i j e hf
    injection h with h
    obtain ⟨k1, k2⟩ := hrun _ hf
    obtain ⟨x, hx1, hx2⟩ := hE.2 j e (k2 j e rfl)
    have hx1' : xs[j]? = some x := by simpa using hx1
    simp only [Option.bind_some, hx1', Option.map_some] at k1
    refine ⟨if ok then .tuple #[x.val, .bool true] else x.val, ?_, ?_⟩
    · rcases hK with ⟨rfl, rfl⟩ | ⟨b, rfl, hg⟩
      · simp at hx1
      · simp [Instr.lookup, run_underlying ht, hg, hk2, k1]
    · rw [← h]
      cases ok
      · exact hx2.val
      · exact .tup (xs := #[x.val, .bool true]) (VL.cons_of hx2.val (.sc (.bool true) .nil)) .nil
  · rename_i hf
    cases hz : zeroA P eT with
    | none => simp [hz] at h
    | some z =>
      simp only [hz, Option.map_some, Option.some.injEq] at h
      obtain ⟨k1, _⟩ := hrun _ hf
      simp only [Option.bind_none] at k1
      obtain ⟨zv, hz1, hz2, _⟩ := zeroA_run hz
      have hzV := (ofPlain_V (g := g) (w := w) hz2).1
      refine ⟨if ok then .tuple #[zv, .bool false] else zv, ?_, ?_⟩
      · rcases hK with ⟨rfl, rfl⟩ | ⟨b, rfl, hg⟩
        · simp at k1
          simp [Instr.lookup, run_underlying ht, hk2, k1, hz1]
        · simp [Instr.lookup, run_underlying ht, hg, hk2, k1, hz1]
      · rw [← h]
        cases ok
        · exact hzV
        · exact .tup (xs := #[zv, .bool false]) (VL.cons_of hzV (.sc (.bool false) .nil)) .nil
  · cases h
end
end Go.AM
/-! Maps that are made and written. -/
namespace Go.AM
open Go
set_option linter.unusedVariables false
set_option linter.unusedSimpArgs false

section
variable {P : Program} {g g' : G} {w w' : World} {ow ow' ow1 : Own} {σ σ' : St} {fr fr' : Fr} {tm : Array Value} {a : Act} {dst : Option Tmp}

theorem setObj_run {b : Nat} {xs xs' : Array MapEntry} {c c' : Nat} (h : w.heap[b]? = some (.map xs c)) : (setObj b (.map xs' c')).run P w = .ok () { w with heap := w.heap.setIfInBounds b (.map xs' c') } := by
  simp [setObj, Sem.run, h]

theorem Rel.setMap (r : Rel g w ow fr tm σ) {h b : Nat} {es es' : List Entry} {c c' : Nat} {xs xs' : Array MapEntry} (hh : σ.heap[h]? = some (.map es c)) (hb : g.hb[h]? = some b) (hM : MapOK g w b es c xs) (hE : EntriesOK g w es' xs'.toList) :
    Rel g { w with heap := w.heap.setIfInBounds b (.map xs' c') } ow fr tm (setMap σ h es' c') ∧ Tr (May g ow) g w g { w with heap := w.heap.setIfInBounds b (.map xs' c') } := by
  have hblt : b < w.heap.size := (Array.getElem?_eq_some_iff.1 hM.obj).1
  have hisb : g.isBox b := .inr (List.mem_of_getElem? hb)
  have hnc : ∀ o, w.cell? ⟨b, o, none⟩ = none := fun o => by simp [World.cell?, hM.obj]
  have hget : ∀ b', (w.heap.setIfInBounds b (.map xs' c'))[b']? = if b' = b then some (.map xs' c') else w.heap[b']? := fun b' => by
    by_cases e : b' = b
    · subst e; rw [if_pos rfl, Array.getElem?_setIfInBounds_self_of_lt hblt]
    · rw [if_neg e, Array.getElem?_setIfInBounds_ne (Ne.symm e)]
  have t : Tr (fun b' o => b' = b ∧ o = 0) g w g { w with heap := w.heap.setIfInBounds b (.map xs' c') } := {
    env := ⟨rfl, rfl, rfl⟩
    size := by simp
    obj := fun b' hb' hm => by
      have e : b' ≠ b := fun e => hm 0 ⟨e, rfl⟩
      show (w.heap.setIfInBounds b (.map xs' c'))[b']? = _
      rw [hget, if_neg e]
    cell := fun b' o _ _ => by
      by_cases e : b' = b
      · subst e
        rw [hnc]
        show World.cell? _ _ = none
        unfold World.cell?
        show (match (w.heap.setIfInBounds b' (.map xs' c'))[b']? with | some (.cells c _ _) => _ | _ => none) = none
        rw [hget, if_pos rfl]
      · unfold World.cell?
        show (match (w.heap.setIfInBounds b (.map xs' c'))[b']? with | some (.cells c _ _) => _ | _ => none) = _
        rw [hget, if_neg e]; rfl
    live := fun b' o v hv => by
      have e : b' ≠ b := fun e => by subst e; rw [hnc] at hv; cases hv
      refine ⟨v, ?_⟩
      unfold World.cell? at *
      show (match (w.heap.setIfInBounds b (.map xs' c'))[b']? with | some (.cells c _ _) => _ | _ => none) = _
      rw [hget, if_neg e]; exact hv
    froz := fun b' o _ => by
      by_cases e : b' = b
      · subst e
        unfold World.frozen?
        show (match (w.heap.setIfInBounds b' (.map xs' c'))[b']? with | some (.cells _ _ (lo, hi)) => _ | _ => false) = _
        rw [hget, if_pos rfl, hM.obj]
      · unfold World.frozen?
        show (match (w.heap.setIfInBounds b (.map xs' c'))[b']? with | some (.cells _ _ (lo, hi)) => _ | _ => false) = _
        rw [hget, if_neg e]; rfl
    wr := fun _ _ h => .inl h
    sb := fun _ _ h => h
    hb := fun _ _ h => h }
  have hMw : ∀ b' o, (b' = b ∧ o = 0) → b' = b ∧ g.wr b' o := fun b' o h => by obtain ⟨rfl, rfl⟩ := h; exact ⟨rfl, hM.wr⟩
  have L := t.later fun b' o h => (hMw b' o h).2
  obtain ⟨n1, n2, n3⟩ := nodup_ref r.ss.nodup
  refine ⟨⟨?_, r.own, r.sf.later t (fun b' o h => (hMw b' o h).2) (fun i b' x h h' => r.own.box _ _ _ h (h'.1 ▸ hisb)) fun _ _ _ h => h⟩, t.weaken fun b' o h => .inl ⟨(hMw _ _ h).1 ▸ hisb, (hMw _ _ h).2⟩⟩
  have hl : h < σ.heap.length := (List.getElem?_eq_some_iff.1 hh).1
  refine r.ss.replace r.own hisb t hMw (fun b' o h => t.lt (r.ss.lt _ _ h)) rfl rfl (fun _ _ _ _ h => h) rfl (by simp [AM.setMap]) ?_ ?_ ?_ ?_ ?_ (fun _ _ => rfl) ?_ (fun _ _ _ _ _ h => h) (fun _ _ _ _ _ h => h)
  · intro n cs _ hmb; exact (n3 _ _ _ hmb hb).elim
  · intro n cs hn hmb
    obtain rfl := n2 _ _ _ hmb hb
    simp only [AM.setMap] at hn
    rw [List.getElem?_set_self hl] at hn; simp at hn
  · intro n es'' c'' hn hmb
    obtain rfl := n2 _ _ _ hmb hb
    simp only [AM.setMap] at hn
    rw [List.getElem?_set_self hl] at hn
    simp at hn
    obtain ⟨rfl, rfl⟩ := hn
    refine ⟨xs', by show (w.heap.setIfInBounds b (.map xs' c'))[b]? = _; rw [hget, if_pos rfl], by simpa using hE.1, fun i e hi => ?_, hM.wr⟩
    obtain ⟨x, h1, h2⟩ := hE.2 i e hi
    exact ⟨x, by simpa using h1, h2.later L⟩
  · intro n l hn hmb
    obtain rfl := n2 _ _ _ hmb hb
    simp only [AM.setMap] at hn
    rw [List.getElem?_set_self hl] at hn; simp at hn
  · intro n l hn hmb
    obtain rfl := n2 _ _ _ hmb hb
    simp only [AM.setMap] at hn
    rw [List.getElem?_set_self hl] at hn; simp at hn
  · intro n hne
    have e : h ≠ n := fun e => hne (e ▸ hb)
    simp only [AM.setMap]; rw [List.getElem?_set_ne e]

theorem Out.setMap (r : Rel g w ow fr tm σ) {h b : Nat} {es es' : List Entry} {c c' : Nat} {xs xs' : Array MapEntry} {v : AV} {val : Value} (hh : σ.heap[h]? = some (.map es c)) (hb : g.hb[h]? = some b) (hM : MapOK g w b es c xs) (hE : EntriesOK g w es' xs'.toList)
    (hv : V g { w with heap := w.heap.setIfInBounds b (.map xs' c') } v val) : ∃ g' ow', Out g w ow dst v fr (AM.setMap σ h es' c') tm g' { w with heap := w.heap.setIfInBounds b (.map xs' c') } ow' val := by
  obtain ⟨r', t⟩ := r.setMap (c' := c') hh hb hM hE
  obtain ⟨ow', ho⟩ := Out.of (g := g) (w := w) (ow := ow) (dst := dst) r' (PV.of (o := Nobody) hv) (Free.nobody _ _) t (fun p b o h => .inl (.own h)) (fun b o h => h.elim) (fun b o h1 h2 => .inl (.inl ⟨h1, h2⟩)) (fun _ _ h => .inr h) (fun _ h => .inl h)
  exact ⟨g, ow', ho⟩

theorem update_out (r : Rel g w ow fr a.tmps σ) {t : TypeId} {m k v : AV} {mv kv vv : Value} (h : update P t m k v σ = some σ') (hm : V g w m mv) (hk : V g w k kv) (hv : V g w v vv) :
    ∃ w', (Instr.mapUpdate t mv kv vv).run P w = .ok () w' ∧ ∃ g' ow', Out g w ow dst .undef fr σ' a.tmps g' w' ow' undef := by
  unfold update at h
  split at h
  case h_2 => cases h
  rename_i kT eT ht
  split at h
  · cases h
  rename_i hmay
  simp only [Bool.or_eq_true, Bool.not_eq_true', not_or, Bool.not_eq_false] at hmay
  obtain ⟨hmay, hlow⟩ := hmay
  obtain ⟨kv', hk1, hk2⟩ := keyMay_run hmay
  obtain rfl := toV_eq hk hk1
  have hkT : (P.underlying kT).isSome = true := by
    have := hmay
    unfold keyMay at this
    rw [hk1] at this
    simp only [Bool.and_eq_true] at this
    obtain ⟨u, hu⟩ := Option.isSome_iff_exists.1 this.1
    have := val_run hu w
    cases hd : P.underlying kT with
    | some d => rfl
    | none =>
      unfold Instr.checkKey at this
      simp [underlying, hd, stuck, Sem.run] at this
  split at h
  case h_2 => cases h
  rename_i n
  split at h
  · cases h
  rename_i es c hmo
  obtain ⟨hh, b, xs, hb, hM⟩ := r.ss.map hmo
  obtain ⟨b', rfl, hb'⟩ := hm.map_inv
  rw [hb] at hb'; injection hb' with hb'; subst hb'
  have hg : (getObj b).run P w = .ok (.map xs c) w := by simp [getObj, Sem.run, hM.obj]
  split at h
  · rename_i j e hf
    obtain ⟨k1, k2⟩ := findKey_run (w := w) hk1 hkT hM.entries hf
    have hj := k2 j e rfl
    obtain ⟨x, hx1, hx2⟩ := hM.val j e hj
    simp only [Option.bind_some, Array.getElem?_toList, hx1, Option.map_some] at k1
    split at h
    case h_2 => cases h
    rename_i old new ho hn
    split at h
    case isFalse => cases h
    rename_i hsame
    injection h with h; subst h
    rw [hk1] at hn; injection hn with hn; subst hn
    rw [hx2.plain] at ho; injection ho with ho; subst ho
    refine ⟨{ w with heap := w.heap.setIfInBounds b (.map (xs.modify j fun e => { e with key := kv, val := vv }) c) }, ?_, Out.setMap r hh hb hM ?_ (.undef undef .nil)⟩
    · have hks : (Instr.keyThatStays x.key kv).run P w = .ok kv w := by simp [Instr.keyThatStays, hsame]
      simp [Instr.mapUpdate, run_underlying ht, hg, hk2, k1, hx1, hks, setObj_run hM.obj]
    · refine ⟨by simp [hM.size], fun i e' hi => ?_⟩
      by_cases e1 : i = j
      · subst e1
        have hl : i < es.length := (List.getElem?_eq_some_iff.1 hj).1
        rw [List.getElem?_set_self hl] at hi
        injection hi with hi; subst hi
        exact ⟨{ x with key := kv, val := vv }, by simp [Array.getElem?_modify, hx1], hk, hv, hx2.born, hlow, hk1⟩
      · rw [List.getElem?_set_ne (Ne.symm e1)] at hi
        obtain ⟨y, hy1, hy2⟩ := hM.val i e' hi
        exact ⟨y, by simp [Array.getElem?_modify, Ne.symm e1, hy1], hy2⟩
  · rename_i hf
    injection h with h; subst h
    obtain ⟨k1, _⟩ := findKey_run (w := w) hk1 hkT hM.entries hf
    simp only [Option.bind_none] at k1
    refine ⟨{ w with heap := w.heap.setIfInBounds b (.map (xs.push { key := kv, val := vv, born := c }) (c + 1)) }, ?_, Out.setMap r hh hb hM ?_ (.undef undef .nil)⟩
    · simp [Instr.mapUpdate, run_underlying ht, hg, hk2, k1, setObj_run hM.obj]
    · refine ⟨by simp [hM.size], fun i e' hi => ?_⟩
      by_cases e1 : i < es.length
      · rw [List.getElem?_append_left e1] at hi
        obtain ⟨y, hy1, hy2⟩ := hM.val i e' hi
        exact ⟨y, by rw [Array.getElem?_toList, Array.getElem?_push_lt (by rw [hM.size]; exact e1)]; rw [← hy1]; exact (Array.getElem?_eq_getElem _).symm, hy2⟩
      · have e2 : i = es.length := by have := (List.getElem?_eq_some_iff.1 hi).1; simp at this; omega
        subst e2
        rw [List.getElem?_append_right (Nat.le_refl _)] at hi
        simp at hi; subst hi
        exact ⟨{ key := kv, val := vv, born := c }, by simp [← hM.size], hk, hv, rfl, hlow, hk1⟩
  · cases h

theorem delete_out (r : Rel g w ow fr a.tmps σ) {t ty : TypeId} {m k : AV} {mv kv : Value} (h : deleteA P t m k σ = some σ') (hm : V g w m mv) (hk : V g w k kv) :
    ∃ w', (Builtin.delete_ #[t] ty #[mv, kv]).run P w = .ok (.tuple #[]) w' ∧ ∃ g' ow', Out g w ow dst (.tup []) fr σ' a.tmps g' w' ow' (.tuple #[]) := by
  unfold deleteA at h
  split at h
  case h_2 => cases h
  rename_i kT eT ht
  split at h
  · cases h
  rename_i hmay
  simp only [Bool.not_eq_true', Bool.not_eq_false] at hmay
  obtain ⟨kv', hk1, hk2⟩ := keyMay_run hmay
  obtain rfl := toV_eq hk hk1
  have hkT : (P.underlying kT).isSome = true := by
    have := hmay
    unfold keyMay at this
    rw [hk1] at this
    simp only [Bool.and_eq_true] at this
    obtain ⟨u, hu⟩ := Option.isSome_iff_exists.1 this.1
    have := val_run hu w
    cases hd : P.underlying kT with
    | some d => rfl
    | none =>
      unfold Instr.checkKey at this
      simp [underlying, hd, stuck, Sem.run] at this
  split at h
  · injection h with h; subst h
    obtain rfl := hm.sc_inv
    exact ⟨w, by simp [Builtin.delete_, run_underlying ht, Sc.toV, hk2], g, Out.pure r (.tup (xs := #[]) .nil .nil)⟩
  · rename_i n
    split at h
    · cases h
    rename_i es c hmo
    obtain ⟨hh, b, xs, hb, hM⟩ := r.ss.map hmo
    obtain ⟨b', rfl, hb'⟩ := hm.map_inv
    rw [hb] at hb'; injection hb' with hb'; subst hb'
    have hg : (getObj b).run P w = .ok (.map xs c) w := by simp [getObj, Sem.run, hM.obj]
    split at h
    · rename_i j e hf
      injection h with h; subst h
      obtain ⟨k1, k2⟩ := findKey_run (w := w) hk1 hkT hM.entries hf
      have hj := k2 j e rfl
      obtain ⟨x, hx1, hx2⟩ := hM.val j e hj
      simp only [Option.bind_some, Array.getElem?_toList, hx1, Option.map_some] at k1
      refine ⟨{ w with heap := w.heap.setIfInBounds b (.map (xs.eraseIdxIfInBounds j) c) }, by simp [Builtin.delete_, run_underlying ht, hg, hk2, k1, setObj_run hM.obj], Out.setMap r hh hb hM ?_ (.tup (xs := #[]) .nil .nil)⟩
      have hlt : j < xs.size := (Array.getElem?_eq_some_iff.1 hx1).1
      have hlt' : j < es.length := (List.getElem?_eq_some_iff.1 hj).1
      have htl : (xs.eraseIdxIfInBounds j).toList = xs.toList.eraseIdx j := by simp [Array.eraseIdxIfInBounds, hlt]
      rw [htl]
      refine ⟨by rw [List.length_eraseIdx, List.length_eraseIdx]; simp [hM.size, hlt'], fun i e' hi => ?_⟩
      rw [List.getElem?_eraseIdx] at hi ⊢
      split at hi
      · rename_i hlt2
        obtain ⟨y, hy1, hy2⟩ := hM.val i e' hi
        exact ⟨y, by rw [if_pos hlt2]; simpa using hy1, hy2⟩
      · rename_i hlt2
        obtain ⟨y, hy1, hy2⟩ := hM.val (i + 1) e' hi
        exact ⟨y, by rw [if_neg hlt2]; simpa using hy1, hy2⟩
    · rename_i hf
      injection h with h; subst h
      obtain ⟨k1, _⟩ := findKey_run (w := w) hk1 hkT hM.entries hf
      simp only [Option.bind_none] at k1
      exact ⟨{ w with heap := w.heap.setIfInBounds b (.map xs c) }, by simp [Builtin.delete_, run_underlying ht, hg, hk2, k1, setObj_run hM.obj], Out.setMap r hh hb hM hM.entries (.tup (xs := #[]) .nil .nil)⟩
    · cases h
  · cases h

/-- A new map. -/
theorem newMap_out (r : Rel g w ow fr tm σ) : ∃ g' ow', Out g w ow dst (.map σ.heap.length) fr { σ with heap := σ.heap ++ [.map [] 0] } tm g' (w.alloc (.map #[] 0)) ow' (.map (some w.heap.size)) := by
  have hnew : (w.alloc (.map #[] 0)).heap[w.heap.size]? = some (.map #[] 0) := by
    show (w.heap.push _)[w.heap.size]? = _
    simp
  have hlt : ∀ {b : Nat}, g.isBox b → b ≠ w.heap.size := fun hb e => by have := G.isBox_lt r.ss hb; omega
  have t : Tr Nought g w ⟨g.sb, g.hb ++ [w.heap.size], fun b o => g.wr b o ∨ b = w.heap.size ∧ o = 0⟩ (w.alloc (.map #[] 0)) := Tr.new (ob := .map #[] 0) rfl (X := fun o => o = 0) (fun _ _ h => h) (fun n b hn => by rw [List.getElem?_append_left (List.getElem?_eq_some_iff.1 hn).1]; exact hn)
  have hib : ∀ b, (⟨g.sb, g.hb ++ [w.heap.size], fun b o => g.wr b o ∨ b = w.heap.size ∧ o = 0⟩ : G).isBox b → g.isBox b ∨ b = w.heap.size := fun b hb => by
    rcases hb with hb | hb
    · exact .inl (.inl hb)
    · rcases List.mem_append.1 hb with hb | hb
      · exact .inl (.inr hb)
      · exact .inr (by simpa using hb)
  have hown : ∀ p b o, ow p b o → b < w.heap.size := fun p b o h => r.ss.lt _ _ (r.own.wr _ _ _ h)
  have s' : SS ⟨g.sb, g.hb ++ [w.heap.size], fun b o => g.wr b o ∨ b = w.heap.size ∧ o = 0⟩ (w.alloc (.map #[] 0)) ow { σ with heap := σ.heap ++ [.map [] 0] } := {
    slen := r.ss.slen
    hlen := by simp [r.ss.hlen]
    nodup := by
      have h0 := r.ss.nodup
      have hn : w.heap.size ∉ g.sb ++ g.hb := fun hm => hlt (List.mem_append.1 hm) rfl
      show (g.sb ++ (g.hb ++ [w.heap.size])).Nodup
      rw [← List.append_assoc, (List.perm_append_singleton _ _).nodup_iff]
      exact List.nodup_cons.2 ⟨hn, h0⟩
    lt := fun b o h => by
      rcases h with h | h
      · exact t.lt (r.ss.lt _ _ h)
      · rw [h.1]; simp
    stk := fun n c hn => by
      obtain ⟨h0, b, xs, E, fz, h1, h2⟩ := r.ss.stk n c hn
      exact ⟨h0, b, xs, E, fz, h1, h2.still t (fun i b x h => h) fun o h => .inl h⟩
    heap := fun n c hn => by
      by_cases e : n < σ.heap.length
      · rw [List.getElem?_append_left e] at hn
        obtain ⟨h0, b, xs, E, fz, h1, h2⟩ := r.ss.heap n c hn
        exact ⟨h0, b, xs, E, fz, t.hb _ _ h1, h2.still t (fun i b x h => h) fun o h => .inl h⟩
      · have e' : n = σ.heap.length := by
          have := (List.getElem?_eq_some_iff.1 hn).1
          simp at this; omega
        subst e'
        rw [List.getElem?_append_right (Nat.le_refl _)] at hn
        simp at hn
    maps := fun n es c hn => by
      by_cases e : n < σ.heap.length
      · rw [List.getElem?_append_left e] at hn
        obtain ⟨b, xs, h1, h2⟩ := r.ss.maps n es c hn
        exact ⟨b, xs, t.hb _ _ h1, h2.still t fun o h => .inl h⟩
      · have e' : n = σ.heap.length := by
          have := (List.getElem?_eq_some_iff.1 hn).1
          simp at this; omega
        subst e'
        rw [List.getElem?_append_right (Nat.le_refl _)] at hn
        simp at hn
        obtain ⟨rfl, rfl⟩ := hn
        exact ⟨w.heap.size, #[], by simp [← r.ss.hlen], hnew, rfl, fun i e h => by simp at h, .inr ⟨rfl, rfl⟩⟩
    loops := fun n l hn => by
      by_cases e : n < σ.heap.length
      · rw [List.getElem?_append_left e] at hn
        obtain ⟨b, q, h1, h2⟩ := r.ss.loops n l hn
        exact ⟨b, q, t.hb _ _ h1, h2.still t fun o h => .inl h⟩
      · have e' : n = σ.heap.length := by
          have := (List.getElem?_eq_some_iff.1 hn).1
          simp at this; omega
        subst e'
        rw [List.getElem?_append_right (Nat.le_refl _)] at hn
        simp at hn
    iters := fun n l hn => by
      by_cases e : n < σ.heap.length
      · rw [List.getElem?_append_left e] at hn
        obtain ⟨b, q, h1, h2⟩ := r.ss.iters n l hn
        exact ⟨b, q, t.hb _ _ h1, h2.still t fun o h => .inl h⟩
      · have e' : n = σ.heap.length := by
          have := (List.getElem?_eq_some_iff.1 hn).1
          simp at this; omega
        subst e'
        rw [List.getElem?_append_right (Nat.le_refl _)] at hn
        simp at hn
    dead := fun n hn => by
      by_cases e : n < σ.heap.length
      · rw [List.getElem?_append_left e] at hn
        obtain ⟨b, h1, h2⟩ := r.ss.dead n hn
        exact ⟨b, t.hb _ _ h1, t.lt h2⟩
      · have e' : n = σ.heap.length := by
          have := (List.getElem?_eq_some_iff.1 hn).1
          simp at this; omega
        subst e'
        rw [List.getElem?_append_right (Nat.le_refl _)] at hn
        simp at hn }
  have o' : OW ⟨g.sb, g.hb ++ [w.heap.size], fun b o => g.wr b o ∨ b = w.heap.size ∧ o = 0⟩ ow := ⟨fun p b o h => .inl (r.own.wr _ _ _ h), fun p b o h hb => (hib b hb).elim (r.own.box _ _ _ h) fun e => by have := hown _ _ _ h; omega, r.own.one⟩
  have r' : Rel ⟨g.sb, g.hb ++ [w.heap.size], fun b o => g.wr b o ∨ b = w.heap.size ∧ o = 0⟩ (w.alloc (.map #[] 0)) ow fr tm { σ with heap := σ.heap ++ [.map [] 0] } := ⟨s', o', r.sf.later t (fun _ _ h => h.elim) (fun _ _ _ _ h => h) fun _ _ _ h => h⟩
  obtain ⟨ow'', ho⟩ := Out.of (g := g) (w := w) (ow := ow) (dst := dst) (v := .map σ.heap.length) (val := .map (some w.heap.size)) r' (PV.of (o := Nobody) (.map (by simp [← r.ss.hlen]) .nil)) (Free.nobody _ _) t.nought (fun p b o h => .inl (.own h)) (fun b o h => h.elim) (fun b o hb hw => by
    rcases hib b hb with hb | hb
    · rcases hw with hw | hw
      · exact .inl (.inl ⟨hb, hw⟩)
      · exact .inr (Nat.le_of_eq hw.1.symm)
    · exact .inr (Nat.le_of_eq hb.symm)) (fun _ _ h => .inr (.inl h)) (fun b hb => (List.mem_append.1 hb).imp id fun h => Nat.le_of_eq ((List.mem_singleton.1 h).symm))
  exact ⟨_, ow'', ho⟩
end
end Go.AM
/-! Ways, what is settled, what is taken for a call, and what a call brings back. -/
namespace Go.AM
open Go
set_option linter.unusedVariables false
set_option linter.unusedSimpArgs false

structure Way (g : G) (w : World) (ow : Own) (g' : G) (w' : World) (ow' : Own) : Prop where
  tr : Tr (May g ow) g w g' w'
  may : ∀ b o, May g' ow' b o → May g ow b o ∨ w.heap.size ≤ b
  keep : ∀ b o, g.wr b o → May g ow b o ∨ g'.wr b o
  hbn : ∀ b, b ∈ g'.hb → b ∈ g.hb ∨ w.heap.size ≤ b

section
variable {P : Program} {g g' g1 g2 : G} {w w' w1 w2 : World} {ow ow' ow1 ow2 : Own} {σ σ' : St} {fr fr' : Fr} {tm : Array Value} {a : Act} {dst : Option Tmp}

theorem Way.refl (g : G) (w : World) (ow : Own) : Way g w ow g w ow := ⟨Tr.refl _ _ _, fun _ _ h => .inl h, fun _ _ h => .inr h, fun _ h => .inl h⟩

theorem Way.trans (h : Way g w ow g1 w1 ow1) (h' : Way g1 w1 ow1 g2 w2 ow2) (hlt : ∀ b o, g.wr b o → b < w.heap.size) : Way g w ow g2 w2 ow2 where
  tr := h.tr.trans h'.tr h.may
  may b o hm := by
    rcases h'.may b o hm with h1 | h1
    · exact h.may b o h1
    · exact .inr (Nat.le_trans h.tr.size h1)
  keep b o hw := by
    rcases h.keep b o hw with h1 | h1
    · exact .inl h1
    · rcases h'.keep b o h1 with h2 | h2
      · rcases h.may b o h2 with h3 | h3
        · exact .inl h3
        · have := hlt b o hw; omega
      · exact .inr h2
  hbn b hb := by
    rcases h'.hbn b hb with h1 | h1
    · exact h.hbn b h1
    · exact .inr (Nat.le_trans h.tr.size h1)

theorem Way.only (h : ∀ p b o, ow1 p b o → ow p b o) : Way g w ow g w ow1 :=
  ⟨Tr.refl _ _ _, fun b o hm => .inl (hm.imp id fun ⟨p, hp⟩ => ⟨p, h p b o hp⟩), fun _ _ h => .inr h, fun _ h => .inl h⟩

theorem Out.way {v : AV} {val : Value} (h : Out g w ow dst v fr' σ' tm g' w' ow' val) : Way g w ow g' w' ow' := ⟨h.tr, h.may, h.keep, h.hbn⟩

/-- An outcome behind a way. -/
theorem Out.after {v : AV} {val : Value} (hw : Way g w ow g1 w1 ow1) (hlt : ∀ b o, g.wr b o → b < w.heap.size) (h : Out g1 w1 ow1 dst v fr' σ' tm g' w' ow' val) : Out g w ow dst v fr' σ' tm g' w' ow' val :=
  let W := hw.trans h.way hlt
  ⟨h.rel, W.tr, W.may, W.keep, W.hbn⟩

/-- One operand is looked at, and may be seen from now on. -/
theorem settle_one (r : Rel g w ow fr a.tmps σ) (x : Operand) : ∃ g1 ow1, Rel g1 w ow1 (taken false fr x).2 a.tmps σ ∧ Way g w ow g1 w ow1 := by
  obtain ⟨g1, ow1, h1, h2, h3, h4, h5, h6, h7, h8, h9⟩ := taken_false r x
  refine ⟨g1, ow1, h1, h3, fun b o hm => .inl ?_, fun b o hw => ?_, fun b hb => .inl (h9 ▸ hb)⟩
  · rcases hm with ⟨k1, k2⟩ | ⟨p, hp⟩
    · exact .inl ⟨h6 b k1, h5 b o k2⟩
    · exact .inr ⟨p, h4 p b o hp⟩
  · rcases h7 b o hw with h | ⟨p, hp⟩
    · exact .inr h
    · exact .inl (.inr ⟨p, hp⟩)

theorem settle_way : ∀ (xs : List Operand) {g : G} {ow : Own} {fr : Fr}, Rel g w ow fr a.tmps σ → ∃ g1 ow1, Rel g1 w ow1 (settle fr xs) a.tmps σ ∧ Way g w ow g1 w ow1
  | [], g, ow, fr, r => ⟨g, ow, r, Way.refl _ _ _⟩
  | x :: xs, g, ow, fr, r => by
    obtain ⟨g1, ow1, r1, w1⟩ := settle_one r x
    obtain ⟨g2, ow2, r2, w2⟩ := settle_way xs r1
    exact ⟨g2, ow2, r2, w1.trans w2 r.ss.lt⟩

theorem ownOf_own {x : Operand} {b o : Nat} (h : ownOf ow x b o) : ∃ p, ow p b o := by
  cases x with
  | tmp t => exact ⟨_, h⟩
  | _ => exact h.elim

/-- All that is taken for a call. -/
theorem takenAll_rel : ∀ (xs : List Operand) {ow : Own} {fr : Fr}, Rel g w ow fr a.tmps σ →
    ∃ (ow1 : Own) (O : Nat → Nat → Nat → Prop), Rel g w ow1 (takenAll fr xs).2 a.tmps σ ∧ (takenAll fr xs).1.length = xs.length ∧
      (∀ (i : Nat) (v : AV), (takenAll fr xs).1[i]? = some v → ∃ x, xs[i]? = some x ∧ PV g w (O i) v (a.eval x)) ∧ (∀ i, Free g ow1 (O i)) ∧
      (∀ i j b o, O i b o → O j b o → i = j) ∧ (∀ p b o, ow1 p b o → ow p b o) ∧ (∀ i b o, O i b o → ∃ p, ow p b o)
  | [], ow, fr, r => ⟨ow, fun _ => Nobody, r, rfl, fun i v h => by simp [takenAll] at h, fun _ => Free.nobody _ _, fun _ _ _ _ h => h.elim, fun _ _ _ h => h, fun _ _ _ h => h.elim⟩
  | x :: xs, ow, fr, r => by
    obtain ⟨ow1, r1, h1, f1, k1⟩ := taken_true r x
    obtain ⟨ow2, O, r2, hl, hv, f2, hd, k2, k3⟩ := takenAll_rel xs r1
    have e : takenAll fr (x :: xs) = ((taken true fr x).1 :: (takenAll (taken true fr x).2 xs).1, (takenAll (taken true fr x).2 xs).2) := rfl
    rw [e]
    refine ⟨ow2, fun i => match i with | 0 => ownOf ow x | i + 1 => O i, r2, by simp [hl], ?_, ?_, ?_, fun p b o h => k1 _ _ _ (k2 _ _ _ h), ?_⟩
    · intro i v hi
      cases i with
      | zero => simp at hi; subst hi; exact ⟨x, rfl, h1⟩
      | succ i => obtain ⟨y, h3, h4⟩ := hv i v (by simpa using hi); exact ⟨y, by simpa using h3, h4⟩
    · intro i
      cases i with
      | zero => exact ⟨f1.wr, f1.box, fun p b o h => f1.apart p b o (k2 _ _ _ h)⟩
      | succ i => exact f2 i
    · intro i j b o hi hj
      cases i with
      | zero =>
        cases j with
        | zero => rfl
        | succ j => obtain ⟨p, hp⟩ := k3 j b o hj; exact (f1.apart p b o hp hi).elim
      | succ i =>
        cases j with
        | zero => obtain ⟨p, hp⟩ := k3 i b o hi; exact (f1.apart p b o hp hj).elim
        | succ j => rw [hd i j b o hi hj]
    · intro i b o hi
      cases i with
      | zero => exact ownOf_own hi
      | succ i => obtain ⟨p, hp⟩ := k3 i b o hi; exact ⟨p, k1 _ _ _ hp⟩

/-- What a call brings back. -/
structure Ret (g : G) (w : World) (ow : Own) (v : AV) (σ' : St) (rv : Value) (g' : G) (w' : World) (ow' : Own) : Prop where
  rel : Rel g' w' ow' [v] #[rv] σ'
  way : Way g w ow g' w' ow'
  sb : g'.sb = g.sb

/-- What a call leads to. -/
def Runs (P : Program) (s : Sem Next) (w : World) (R : Value → World → Prop) : Prop :=
  (∃ f args, s.run P w = .ok (.enter f args) w ∧ Calls P f args w fun e w' => match e with | .returned v => R v w' | _ => False) ∨
  (∃ v w', s.run P w = .ok (.value v) w' ∧ R v w') ∨
  ∃ l fn tmps assign body, s.run P w = .ok (.round l fn tmps assign body) w ∧ RoundIn Fence.wide 0 P l fn tmps assign body w fun e w' => match e with | .returned v => R v w' | _ => False

abbrev CallF := Tgt → List AV → St → Option (AV × St)

def Tgt.sem (g : G) (xs : Array Value) : Tgt → Option (Sem Next)
  | .fn h => some (callFunc h xs)
  | .yield h => (g.hb[h]?).map fun b => Instr.yield b xs

def Sound (P : Program) (C : CallF) : Prop :=
  ∀ (t : Tgt) (args : List AV) (σ : St) (v : AV) (σ' : St), C t args σ = some (v, σ') → ∀ (g : G) (w : World) (ow : Own) (xs : Array Value), Rel g w ow args xs σ → ∀ s, t.sem g xs = some s →
    Runs P s w fun rv w' => ∃ g' ow', Ret g w ow v σ' rv g' w' ow'

/-- Who owns what in the call. -/
def calleeOwn (ow1 : Own) (O : Nat → Nat → Nat → Prop) (n : Nat) : Own
  | .slot i => if i < n then Nobody else O (i - n)
  | p => ow1 p

theorem calleeOwn_slot {O : Nat → Nat → Nat → Prop} {n i b o : Nat} (h : calleeOwn ow1 O n (.slot i) b o) : n ≤ i ∧ O (i - n) b o := by
  simp only [calleeOwn] at h
  split at h
  · exact h.elim
  · exact ⟨by omega, h⟩

theorem callee_own {O : Nat → Nat → Nat → Prop} {n : Nat} (h : OW g ow1) (f : ∀ i, Free g ow1 (O i)) (hd : ∀ i j b o, O i b o → O j b o → i = j) : OW g (calleeOwn ow1 O n) := by
  refine ⟨fun p b o hp => ?_, fun p b o hp => ?_, fun p q b o hp hq => ?_⟩
  · cases p with
    | slot i => exact (f _).wr _ _ (calleeOwn_slot hp).2
    | _ => exact h.wr _ _ _ hp
  · cases p with
    | slot i => exact (f _).box _ _ (calleeOwn_slot hp).2
    | _ => exact h.box _ _ _ hp
  · cases p with
    | slot i =>
      obtain ⟨h1, h2⟩ := calleeOwn_slot hp
      cases q with
      | slot j =>
        obtain ⟨h3, h4⟩ := calleeOwn_slot hq
        have := hd _ _ _ _ h2 h4
        have : i = j := by omega
        rw [this]
      | stk m j => exact ((f _).apart (.stk m j) _ _ hq h2).elim
      | heap m j => exact ((f _).apart (.heap m j) _ _ hq h2).elim
    | stk m i =>
      cases q with
      | slot j => exact ((f _).apart (.stk m i) _ _ hp (calleeOwn_slot hq).2).elim
      | stk m' j => exact h.one _ _ _ _ hp hq
      | heap m' j => exact h.one _ _ _ _ hp hq
    | heap m i =>
      cases q with
      | slot j => exact ((f _).apart (.heap m i) _ _ hp (calleeOwn_slot hq).2).elim
      | stk m' j => exact h.one _ _ _ _ hp hq
      | heap m' j => exact h.one _ _ _ _ hp hq

/-- The frame of the call. -/
theorem callee_rel {O : Nat → Nat → Nat → Prop} {first caps vs : List AV} {fv cv vv : List Value} (r : Rel g w ow1 fr tm σ) (hf : VL g w first fv) (hc : VL g w caps cv) (hl : vv.length = vs.length)
    (hv : ∀ (i : Nat) (v : AV), vs[i]? = some v → ∃ x, vv[i]? = some x ∧ PV g w (O i) v x) (f : ∀ i, Free g ow1 (O i)) (hd : ∀ i j b o, O i b o → O j b o → i = j) :
    Rel g w (calleeOwn ow1 O first.length) (first ++ vs ++ caps) (fv ++ vv ++ cv).toArray σ where
  ss := r.ss.own (fun _ _ _ _ h => h) fun _ _ _ _ h => h
  own := callee_own r.own f hd
  sf := by
    have h1 := hf.length
    have h2 := hc.length
    refine ⟨by simp [h1, h2, hl], fun i x hi => ?_⟩
    simp only [List.getElem?_toArray]
    by_cases c1 : i < first.length
    · rw [List.append_assoc, List.getElem?_append_left c1] at hi
      obtain ⟨v, k1, k2⟩ := hf.get hi
      exact ⟨v, by rw [List.append_assoc, List.getElem?_append_left (by omega)]; exact k1, PV.of k2⟩
    · by_cases c2 : i < first.length + vs.length
      · rw [List.append_assoc, List.getElem?_append_right (by omega), List.getElem?_append_left (by omega)] at hi
        obtain ⟨v, k1, k2⟩ := hv _ x hi
        refine ⟨v, by rw [List.append_assoc, List.getElem?_append_right (by omega), List.getElem?_append_left (by omega), h1]; exact k1, ?_⟩
        simp only [calleeOwn, if_neg c1]; exact k2
      · rw [List.getElem?_append_right (by simp; omega)] at hi
        obtain ⟨v, k1, k2⟩ := hc.get hi
        refine ⟨v, by rw [List.getElem?_append_right (by simp; omega)]; simpa [h1, hl] using k1, PV.of k2⟩

/-- Back from a call. -/
theorem ret_out {O : Nat → Nat → Nat → Prop} {n : Nat} {v : AV} {rv : Value} (r : Rel g w ow1 fr tm σ) (f : ∀ i, Free g ow1 (O i)) (k1 : ∀ p b o, ow1 p b o → ow p b o) (k2 : ∀ i b o, O i b o → ∃ p, ow p b o)
    (h : Ret g w (calleeOwn ow1 O n) v σ' rv g' w' ow') : ∃ ow2, Out g w ow dst v fr σ' tm g' w' ow2 rv := by
  have hmay : ∀ b o, May g (calleeOwn ow1 O n) b o → May g ow b o := by
    intro b o hm
    rcases hm with hm | ⟨p, hp⟩
    · exact .inl hm
    · cases p with
      | slot i => exact .inr (k2 _ _ _ (calleeOwn_slot hp).2)
      | stk m i => exact .inr ⟨_, k1 (.stk m i) _ _ hp⟩
      | heap m i => exact .inr ⟨_, k1 (.heap m i) _ _ hp⟩
  have hno : ∀ i b o, ow1 (.slot i) b o → ¬ May g (calleeOwn ow1 O n) b o := by
    intro i b o hi hm
    rcases hm with ⟨hm, _⟩ | ⟨p, hp⟩
    · exact r.own.box _ _ _ hi hm
    · cases p with
      | slot j => exact (f _).apart _ _ _ hi (calleeOwn_slot hp).2
      | stk m j => exact Pl.noConfusion (r.own.one _ _ _ _ hi (show ow1 (.stk m j) b o from hp))
      | heap m j => exact Pl.noConfusion (r.own.one _ _ _ _ hi (show ow1 (.heap m j) b o from hp))
  have hlt : ∀ i b o, ow1 (.slot i) b o → b < w.heap.size := fun i b o hi => r.ss.lt _ _ (r.own.wr _ _ _ hi)
  let ow2 : Own := fun p => match p with | .slot i => ow1 (.slot i) | p => ow' p
  have hap : ∀ i p b o, ow1 (.slot i) b o → ¬ ow' p b o := fun i p b o hi hp => by
    rcases h.way.may b o (.inr ⟨p, hp⟩) with hm | hm
    · exact hno _ _ _ hi hm
    · have := hlt _ _ _ hi; omega
  have r2 : Rel g' w' ow2 fr tm σ' := by
    refine ⟨h.rel.ss.own (fun _ _ _ _ h => h) fun _ _ _ _ h => h, ⟨fun p b o hp => ?_, fun p b o hp => ?_, fun p q b o hp hq => ?_⟩, ?_⟩
    · cases p with
      | slot i => exact (h.way.keep b o (r.own.wr _ _ _ hp)).resolve_left (hno _ _ _ hp)
      | stk m i => exact h.rel.own.wr _ _ _ (show ow' _ b o from hp)
      | heap m i => exact h.rel.own.wr _ _ _ (show ow' _ b o from hp)
    · cases p with
      | slot i =>
        intro hb
        rcases hb with hb | hb
        · rw [h.sb] at hb; exact r.own.box _ _ _ hp (.inl hb)
        · rcases h.way.hbn b hb with hb | hb
          · exact r.own.box _ _ _ hp (.inr hb)
          · have := hlt _ _ _ hp; omega
      | stk m i => exact h.rel.own.box _ _ _ (show ow' _ b o from hp)
      | heap m i => exact h.rel.own.box _ _ _ (show ow' _ b o from hp)
    · cases p with
      | slot i =>
        cases q with
        | slot j => exact r.own.one _ _ _ _ hp hq
        | stk m j => exact (hap _ _ _ _ hp (show ow' (.stk m j) b o from hq)).elim
        | heap m j => exact (hap _ _ _ _ hp (show ow' (.heap m j) b o from hq)).elim
      | stk m i =>
        cases q with
        | slot j => exact (hap _ _ _ _ hq (show ow' (.stk m i) b o from hp)).elim
        | stk m' j => exact h.rel.own.one _ _ _ _ (show ow' (.stk m i) b o from hp) (show ow' (.stk m' j) b o from hq)
        | heap m' j => exact h.rel.own.one _ _ _ _ (show ow' (.stk m i) b o from hp) (show ow' (.heap m' j) b o from hq)
      | heap m i =>
        cases q with
        | slot j => exact (hap _ _ _ _ hq (show ow' (.heap m i) b o from hp)).elim
        | stk m' j => exact h.rel.own.one _ _ _ _ (show ow' (.heap m i) b o from hp) (show ow' (.stk m' j) b o from hq)
        | heap m' j => exact h.rel.own.one _ _ _ _ (show ow' (.heap m i) b o from hp) (show ow' (.heap m' j) b o from hq)
    · refine ⟨r.sf.size, fun i x hi => ?_⟩
      obtain ⟨u, h1, h2⟩ := r.sf.val i x hi
      refine ⟨u, h1, (h2.later h.way.tr (fun b o hm => ?_) (hno i)).move fun _ _ h => h⟩
      rcases hm with hm | ⟨p, hp⟩
      · exact hm.2
      · cases p with
        | slot j => exact (f _).wr _ _ (calleeOwn_slot hp).2
        | stk m j => exact r.own.wr (.stk m j) _ _ hp
        | heap m j => exact r.own.wr (.heap m j) _ _ hp
  have hv : PV g' w' (ow' (.slot 0)) v rv := by
    obtain ⟨u, h1, h2⟩ := h.rel.sf.val 0 v rfl
    simp at h1; subst h1; exact h2
  have hfree : Free g' ow2 (ow' (.slot 0)) := ⟨h.rel.own.wr _, h.rel.own.box _, fun p b o hp hq => by
    cases p with
    | slot i => exact hap _ _ _ _ hp hq
    | stk m i => exact Pl.noConfusion (h.rel.own.one _ _ _ _ hq (show ow' (.stk m i) b o from hp))
    | heap m i => exact Pl.noConfusion (h.rel.own.one _ _ _ _ hq (show ow' (.heap m i) b o from hp))⟩
  have hm' : ∀ b o, May g' ow' b o → May g ow b o ∨ w.heap.size ≤ b := fun b o hm => (h.way.may b o hm).imp (hmay b o) id
  refine Out.of r2 hv hfree (h.way.tr.weaken hmay) (fun p b o hp => ?_) (fun b o hp => hm' b o (.inr ⟨_, hp⟩)) (fun b o h1 h2 => hm' b o (.inl ⟨h1, h2⟩)) (fun b o hw => (h.way.keep b o hw).imp (hmay b o) id) h.way.hbn
  cases p with
  | slot i => exact .inl (.inr ⟨_, k1 _ _ _ hp⟩)
  | stk m i => exact hm' b o (.inr ⟨_, show ow' (.stk m i) b o from hp⟩)
  | heap m i => exact hm' b o (.inr ⟨_, show ow' (.heap m i) b o from hp⟩)
end
end Go.AM
/-! One operation of the abstract machine is one of the model. -/
namespace Go.AM
open Go
set_option linter.unusedVariables false
set_option linter.unusedSimpArgs false

section
variable {P : Program} {g g' g1 g2 : G} {w w' w1 w2 : World} {ow ow' ow1 ow2 : Own} {σ σ' : St} {fr fr' : Fr} {tm : Array Value} {a : Act} {next : Act → World → Prop} {Q : Exit → Act → World → Prop}

theorem run_v {s : Sem Value} {val : Value} (h : s.run P w = .ok val w') : (do pure (Next.value (← s)) : Sem Next).run P w = .ok (.value val) w' := by
  rw [Sem.run_bind, h]; rfl

theorem run_u {s : Sem Unit} (h : s.run P w = .ok () w') : (do s; pure Next.skip : Sem Next).run P w = .ok .skip w' := by
  rw [Sem.run_bind, h]; rfl

theorem map_some {α β : Type} {o : Option α} {f : α → β} {y : β} (h : o.map f = some y) : ∃ x, o = some x ∧ f x = y := by
  cases o with
  | none => cases h
  | some x => exact ⟨x, rfl, by simpa using h⟩

/-- What an operation with value does. -/
theorem wp_v {rd : Option Nat} {o : Oper} {v : AV} {val : Value} (hr : (execOp a.eval o).run P w = .ok (.value val) w') (ho : ∃ g' ow', Out g w ow o.dst v fr' σ' a.tmps g' w' ow' val)
    (hn : ∀ g' w' ow' val, Out g w ow o.dst v fr' σ' a.tmps g' w' ow' val → next (a.put o.dst val) w') : o.wpIn (FW rd) 0 P a w next Q := by
  obtain ⟨g', ho⟩ := ho
  exact wp_value hr ho hn

theorem wp_s {rd : Option Nat} {o : Oper} {v : AV} (hr : (execOp a.eval o).run P w = .ok .skip w') (ho : ∃ g' ow', Out g w ow o.dst v fr' σ' a.tmps g' w' ow' undef)
    (hn : ∀ g' w' ow' val, Out g w ow o.dst v fr' σ' a.tmps g' w' ow' val → next (a.put o.dst val) w') : o.wpIn (FW rd) 0 P a w next Q := by
  obtain ⟨g', ho⟩ := ho
  exact wp_skipped hr ho hn

theorem Out.pure' {dst : Option Tmp} {v : AV} {val : Value} (r : Rel g w ow fr tm σ) (hv : V g w v val) : ∃ g' ow', Out g w ow dst v fr σ tm g' w ow' val := ⟨g, Out.pure r hv⟩

theorem taken_out {dst : Option Tmp} (r : Rel g w ow fr a.tmps σ) (tk : Bool) (x : Operand) : ∃ g' ow', Out g w ow dst (taken tk fr x).1 (taken tk fr x).2 σ a.tmps g' w ow' (a.eval x) := by
  cases tk with
  | true =>
    obtain ⟨ow1, r1, h1, f1, k1⟩ := taken_true r x
    have hm : ∀ b o, ownOf ow x b o → May g ow b o := fun b o h => .inr (ownOf_own h)
    exact ⟨g, Out.of r1 h1 f1 (Tr.refl _ _ _) (fun p b o h => .inl (.inr ⟨p, k1 _ _ _ h⟩)) (fun b o h => .inl (hm b o h)) (fun b o h1 h2 => .inl (.inl ⟨h1, h2⟩)) (fun _ _ h => .inr h) fun _ h => .inl h⟩
  | false =>
    obtain ⟨g1, ow1, r1, h1, h3, h4, h5, h6, h7, h8, h9⟩ := taken_false r x
    have W : Way g w ow g1 w ow1 := by
      refine ⟨h3, fun b o hm => .inl ?_, fun b o hw => ?_, fun b hb => .inl (h9 ▸ hb)⟩
      · rcases hm with ⟨k1, k2⟩ | ⟨p, hp⟩
        · exact .inl ⟨h6 b k1, h5 b o k2⟩
        · exact .inr ⟨p, h4 p b o hp⟩
      · rcases h7 b o hw with h | ⟨p, hp⟩
        · exact .inr h
        · exact .inl (.inr ⟨p, hp⟩)
    obtain ⟨ow2, o2⟩ := Out.pure (dst := dst) r1 h1
    exact ⟨g1, ow2, Out.after W r.ss.lt o2⟩

theorem opt_V (r : SF g w ow fr a.tmps) (x : Option Operand) : (∀ y, x.map (AM.seen fr) = some y → ∃ v, x.map a.eval = some v ∧ V g w y v) ∧ (x.map (AM.seen fr) = none → x.map a.eval = none) := by
  cases x with
  | none => exact ⟨fun y h => by simp at h, fun _ => rfl⟩
  | some x => exact ⟨fun y h => by simp at h; subst h; exact ⟨_, rfl, r.seen x⟩, fun h => by simp at h⟩

theorem seen_VL (r : SF g w ow fr a.tmps) : ∀ (l : List Operand), VL g w (l.map (AM.seen fr)) (l.map a.eval)
  | [] => .nil
  | x :: l => VL.cons_of (r.seen x) (seen_VL r l)

theorem arr_one {α : Type} {xs : Array α} {x : α} (h : xs.toList = [x]) : xs = #[x] := by cases xs; simp_all
theorem arr_two {α : Type} {xs : Array α} {x y : α} (h : xs.toList = [x, y]) : xs = #[x, y] := by cases xs; simp_all

theorem parts_len (l : Array (Nat × Operand)) (fr : Fr) (a : Act) : (l.toList.map fun (i, x) => (i, AM.seen fr x)).length = (l.map fun (i, x) => (i, a.eval x)).toList.length := by simp

theorem delete_types {t : TypeId} {ts : List TypeId} {ty : TypeId} {args : Array Value} : Builtin.delete_ (t :: ts).toArray ty args = Builtin.delete_ #[t] ty args := by
  simp [Builtin.delete_]

theorem map_one (f : Operand → Value) (x : Operand) : #[x].map f = #[f x] := by simp
theorem map_two (f : Operand → Value) (x y : Operand) : #[x, y].map f = #[f x, f y] := by simp

/-- What a call leads to, at an operation. -/
theorem runs_wp {rd : Option Nat} {o : Oper} {s : Sem Next} {R : Value → World → Prop} (he : execOp a.eval o = s) (h : Runs P s w R) (hn : ∀ v w', R v w' → next (a.put o.dst v) w') : o.wpIn (FW rd) 0 P a w next Q := by
  refine ⟨fun f _ => FW_fn rd f, ?_⟩
  rw [FW_round]
  rcases h with ⟨f, args, e1, e2⟩ | ⟨v, w', e1, e2⟩ | ⟨l, fn, tmps, as, bd, e1, e2⟩
  · rw [semAt_of (he ▸ e1) (by simp)]
    refine ⟨FW_depth rd 0, FW_calls (Calls.mono e2 fun e w' he => ?_)⟩
    cases e with
    | returned v => exact hn _ _ he
    | _ => exact he.elim
  · rw [semAt_of (he ▸ e1) (by simp)]
    exact hn _ _ e2
  · rw [semAt_of (he ▸ e1) (by simp)]
    refine ⟨FW_depth rd 0, ?_⟩
    have h3 : RoundIn (FW rd) (0 - 1) P l fn tmps as bd w fun e w' => match e with | .returned v => R v w' | _ => False := by
      cases rd with
      | none => exact e2
      | some l' => exact e2
    refine RoundIn.mono h3 fun e w' he => ?_
    cases e with
    | returned v => exact hn _ _ he
    | _ => exact he.elim

/-- A call of what a value names. -/
theorem callV_wp {rd : Option Nat} {C : CallF} (hC : Sound P C) (r : Rel g w ow fr a.tmps σ) {dst : Option Tmp} {c : Call} {ty : TypeId} {pos : String} {after : Array Edge} {guard : Option (Nat × Bool)} {gf : Operand} {h : FuncId} {first captured : List AV} {v : AV}
    (hcal : c.callee = .value gf) (hg : AM.seen fr gf = .fn (.func h) first captured) (he : C (.fn h) (first ++ (takenAll fr c.args.toList).1 ++ captured) σ = some (v, σ'))
    (hn : ∀ g' w' ow' val, Out g w ow dst v (takenAll fr c.args.toList).2 σ' a.tmps g' w' ow' val → next (a.put dst val) w') :
    Oper.wpIn (FW rd) 0 P { dst, op := .call c, type := ty, pos, after, guard } a w next Q := by
  have hV := r.sf.seen gf
  rw [hg] at hV
  generalize hgv : a.eval gf = gv at hV
  cases hV with
  | @fn _ _ _ xs ys _ _ h1 h2 _ =>
    obtain ⟨ow1, O, r1, hl, hv, f, hd, k1, k2⟩ := takenAll_rel c.args.toList r
    have rc := callee_rel (vs := (takenAll fr c.args.toList).1) (vv := c.args.toList.map a.eval) r1 h1 h2 (by rw [List.length_map, hl]) (fun i x hi => by
      obtain ⟨y, k3, k4⟩ := hv i x hi
      exact ⟨a.eval y, by rw [List.getElem?_map, k3]; rfl, k4⟩) f hd
    have hrun := hC (.fn h) _ σ v σ' he g w _ _ rc _ rfl
    refine runs_wp ?_ hrun fun rv w' hR => ?_
    · obtain ⟨cal, args, ats⟩ := c
      dsimp only at hcal; subst hcal
      have e : (xs.toList ++ args.toList.map a.eval ++ ys.toList).toArray = xs ++ args.map a.eval ++ ys := by
        apply Array.ext'; simp
      rw [e]
      simp only [execOp, resolve]
      rw [hgv]; rfl
    · obtain ⟨g', ow', hret⟩ := hR
      obtain ⟨ow2, ho⟩ := ret_out (dst := dst) r1 f k1 k2 hret
      exact hn _ _ _ _ ho

/-- A call of yield. -/
theorem yield_wp {rd : Option Nat} {C : CallF} (hC : Sound P C) (r : Rel g w ow fr a.tmps σ) {dst : Option Tmp} {c : Call} {ty : TypeId} {pos : String} {after : Array Edge} {guard : Option (Nat × Bool)} {gf : Operand} {h : Nat} {v : AV}
    (hcal : c.callee = .value gf) (hg : AM.seen fr gf = .yield h) (he : C (.yield h) (takenAll fr c.args.toList).1 σ = some (v, σ'))
    (hn : ∀ g' w' ow' val, Out g w ow dst v (takenAll fr c.args.toList).2 σ' a.tmps g' w' ow' val → next (a.put dst val) w') :
    Oper.wpIn (FW rd) 0 P { dst, op := .call c, type := ty, pos, after, guard } a w next Q := by
  have hV := r.sf.seen gf
  rw [hg] at hV
  generalize hgv : a.eval gf = gv at hV
  cases hV with
  | @yield _ b _ _ hb _ =>
    obtain ⟨ow1, O, r1, hl, hv, f, hd, k1, k2⟩ := takenAll_rel c.args.toList r
    have rc := callee_rel (first := []) (caps := []) (fv := []) (cv := []) (vs := (takenAll fr c.args.toList).1) (vv := c.args.toList.map a.eval) r1 .nil .nil (by rw [List.length_map, hl]) (fun i x hi => by
      obtain ⟨y, k3, k4⟩ := hv i x hi
      exact ⟨a.eval y, by rw [List.getElem?_map, k3]; rfl, k4⟩) f hd
    rw [List.nil_append, List.append_nil] at rc
    have hrun := hC (.yield h) _ σ v σ' he g w _ _ rc _ (by simp only [Tgt.sem, hb]; rfl)
    refine runs_wp ?_ hrun fun rv w' hR => ?_
    · obtain ⟨cal, args, ats⟩ := c
      dsimp only at hcal; subst hcal
      have e : ([] ++ args.toList.map a.eval ++ []).toArray = args.map a.eval := by
        apply Array.ext'; simp
      rw [e]
      simp only [execOp, resolve]
      rw [hgv]
      show invoke (.fn (.yield b) #[]) (#[] ++ args.map a.eval) = _
      rw [Array.empty_append]
      rfl
    · obtain ⟨g', ow', hret⟩ := hR
      obtain ⟨ow2, ho⟩ := ret_out (dst := dst) r1 f k1 k2 hret
      exact hn _ _ _ _ ho

theorem evOp_wp {rd : Option Nat} {C : CallF} (hC : Sound P C) {cfg : Cfg} {f : FuncId} {o : Oper} {v : AV} (r : Rel g w ow fr a.tmps σ) (h : evOp C P cfg f o fr σ = some (v, fr', σ'))
    (hn : ∀ g' w' ow' val, Out g w ow o.dst v fr' σ' a.tmps g' w' ow' val → next (a.put o.dst val) w') : o.wpIn (FW rd) 0 P a w next Q := by
  obtain ⟨dst, op, ty, pos, after, guard⟩ := o
  have S := r.sf.seen
  cases op with
  | move x =>
    simp only [evOp] at h
    split at h
    · exact wp_v rfl (thaw_out r h) hn
    · split at h
      · obtain ⟨⟨v', σ1⟩, h1, h2⟩ := map_some h
        simp only [Prod.mk.injEq] at h2; obtain ⟨rfl, rfl, rfl⟩ := h2
        exact wp_v rfl (freeze_out r h1 (S x)) hn
      · injection h with h; simp only [Prod.mk.injEq] at h; obtain ⟨rfl, rfl, rfl⟩ := h
        exact wp_v rfl (taken_out r _ x) hn
  | assign x =>
    simp only [evOp] at h
    split at h
    · obtain ⟨⟨v', σ1⟩, h1, h2⟩ := map_some h
      simp only [Prod.mk.injEq] at h2; obtain ⟨rfl, rfl, rfl⟩ := h2
      exact wp_v rfl (freeze_out r h1 (S x)) hn
    · injection h with h; simp only [Prod.mk.injEq] at h; obtain ⟨rfl, rfl, rfl⟩ := h
      exact wp_v rfl (taken_out r _ x) hn
  | pick c x y =>
    simp only [evOp] at h
    split at h
    case h_2 => cases h
    rename_i b hb
    injection h with h; simp only [Prod.mk.injEq] at h; obtain ⟨rfl, rfl, rfl⟩ := h
    have hc := S c
    rw [hb] at hc
    generalize hcv : a.eval c = cv at hc
    cases hc with
    | sc _ _ =>
      refine wp_v (w' := w) (val := if b then a.eval x else a.eval y) ?_ (Out.pure' r ?_) hn
      · simp only [execOp]; rw [hcv]; rfl
      · cases b
        · exact S y
        · exact S x
  | alloc t =>
    simp only [evOp] at h
    cases hz : zeroA P t with
    | none => rw [hz] at h; cases h
    | some z =>
      rw [hz] at h
      obtain ⟨⟨rf, σ1⟩, h1, h2⟩ := map_some h
      simp only [Prod.mk.injEq] at h2; obtain ⟨rfl, rfl, rfl⟩ := h2
      obtain ⟨val, w', k1, k2⟩ := alloc_out (dst := dst) r hz h1
      exact wp_v (run_v k1) k2 hn
  | box t x =>
    simp only [evOp] at h
    split at h
    · cases h
    · rename_i hf
      obtain ⟨⟨rf, σ1⟩, h1, h2⟩ := map_some h
      simp only [Prod.mk.injEq] at h2; obtain ⟨rfl, rfl, rfl⟩ := h2
      exact wp_v (run_v rfl) (box_out (t := t) r (by simpa using hf) h1) hn
  | build t parts =>
    simp only [evOp] at h
    obtain ⟨v', h1, h2⟩ := map_some h
    simp only [Prod.mk.injEq] at h2; obtain ⟨rfl, rfl, rfl⟩ := h2
    obtain ⟨val, k1, k2⟩ := build_run (vparts := parts.map fun (i, x) => (i, a.eval x)) h1 (parts_len _ _ _) (fun j p q hp hq => parts_V r.sf j p q hp (by simpa using hq))
    exact wp_v (run_v k1) (Out.pure' r k2) hn
  | buildSlice t n parts =>
    simp only [evOp] at h
    obtain ⟨v', h1, h2⟩ := map_some h
    simp only [Prod.mk.injEq] at h2; obtain ⟨rfl, rfl, rfl⟩ := h2
    obtain ⟨val, w', k1, k2⟩ := buildSlice_out (dst := dst) (vparts := parts.map fun (i, x) => (i, a.eval x)) r h1 (parts_len _ _ _) (fun j p q hp hq => parts_V r.sf j p q hp (by simpa using hq))
    exact wp_v (run_v k1) k2 hn
  | load t x =>
    simp only [evOp] at h
    obtain ⟨⟨v', σ1⟩, h1, h2⟩ := map_some h
    simp only [Prod.mk.injEq] at h2; obtain ⟨rfl, rfl, rfl⟩ := h2
    obtain ⟨val, k1, k2⟩ := load_out (dst := dst) r h1
    exact wp_v (run_v k1) k2 hn
  | store t p x =>
    simp only [evOp] at h
    obtain ⟨σ1, h1, h2⟩ := map_some h
    simp only [Prod.mk.injEq] at h2; obtain ⟨rfl, rfl, rfl⟩ := h2
    have hf : (taken true fr x).1.fit = true := by
      unfold AM.store at h1
      split at h1
      · split at h1
        · rename_i hc
          have := hc.2.2
          revert this
          cases (taken true fr x).1 with
          | list fl _ _ => cases fl <;> simp [AV.calm, AV.fit]
          | _ => simp [AV.calm, AV.fit]
        · cases h1
      · cases h1
    obtain ⟨w', k1, k2⟩ := store_out (dst := dst) r hf h1
    exact wp_s (run_u k1) k2 hn
  | nilCheck x =>
    simp only [evOp] at h
    have hx := S x
    generalize hxv : a.eval x = xv at hx
    split at h <;> cases h
    all_goals
      rename_i hs
      rw [hs] at hx
      refine wp_v (w' := w) (val := xv) ?_ (Out.pure' r hx) hn
      simp only [execOp]; rw [hxv]; cases hx <;> rfl
  | binOp op t x y yt =>
    simp only [evOp] at h
    obtain ⟨v', h1, h2⟩ := map_some h
    simp only [Prod.mk.injEq] at h2; obtain ⟨rfl, rfl, rfl⟩ := h2
    obtain ⟨val, k1, k2⟩ := binOp_run (o := Nobody) (o' := Nobody) h1 (PV.of (S x)) (PV.of (S y))
    exact wp_v (run_v k1) (Out.pure' r k2) hn
  | unOp op t x =>
    simp only [evOp] at h
    obtain ⟨v', h1, h2⟩ := map_some h
    simp only [Prod.mk.injEq] at h2; obtain ⟨rfl, rfl, rfl⟩ := h2
    obtain ⟨val, k1, k2⟩ := unOp_run (o := Nobody) h1 (PV.of (S x))
    exact wp_v (run_v k1) (Out.pure' r k2) hn
  | convert s d x =>
    simp only [evOp] at h
    obtain ⟨v', h1, h2⟩ := map_some h
    simp only [Prod.mk.injEq] at h2; obtain ⟨rfl, rfl, rfl⟩ := h2
    obtain ⟨val, w', k1, k2⟩ := convert_out (dst := dst) r h1 (S x)
    exact wp_v (run_v k1) k2 hn
  | makeFunc fn first captured =>
    simp only [evOp] at h
    simp only [Option.map_some] at h
    injection h with h; simp only [Prod.mk.injEq] at h; obtain ⟨rfl, rfl, rfl⟩ := h
    refine wp_v (w' := w) (val := .func fn (first.map a.eval) (captured.map a.eval)) rfl (Out.pure' r (.fn ?_ ?_ .nil)) hn
    · rw [Array.toList_map]; exact seen_VL r.sf _
    · rw [Array.toList_map]; exact seen_VL r.sf _
  | makeMap t x =>
    simp only [evOp] at h
    split at h
    · injection h with h; simp only [Prod.mk.injEq] at h; obtain ⟨rfl, rfl, rfl⟩ := h
      exact wp_v (run_v rfl) (newMap_out r) hn
    · rename_i x
      split at h
      case h_2 => cases h
      rename_i hu hs
      injection h with h; simp only [Prod.mk.injEq] at h; obtain ⟨rfl, rfl, rfl⟩ := h
      have hx := S x
      rw [hs] at hx
      generalize hxv : a.eval x = xv at hx
      cases hx with
      | sc _ _ =>
        refine wp_v (run_v ?_) (newMap_out r) hn
        simp [Option.map_some, hxv, Instr.makeMap, Sem.run_bind, run_underlying hu, Sc.toV, asInt]
        rfl
  | makeSlice t l c =>
    simp only [evOp] at h
    obtain ⟨⟨v', σ1⟩, h1, h2⟩ := map_some h
    simp only [Prod.mk.injEq] at h2; obtain ⟨rfl, rfl, rfl⟩ := h2
    obtain ⟨val, w', k1, k2⟩ := makeSlice_out (dst := dst) r h1 (S l) (S c)
    exact wp_v (run_v k1) k2 hn
  | slice t x lo hi mx =>
    simp only [evOp] at h
    obtain ⟨v', h1, h2⟩ := map_some h
    simp only [Prod.mk.injEq] at h2; obtain ⟨rfl, rfl, rfl⟩ := h2
    obtain ⟨val, k1, k2⟩ := sliceOf_run h1 (S x) (opt_V r.sf lo).1 (opt_V r.sf lo).2 (opt_V r.sf hi).1 (opt_V r.sf hi).2 (opt_V r.sf mx).1 (opt_V r.sf mx).2
    exact wp_v (run_v k1) (Out.pure' r k2) hn
  | fieldAddr s x i =>
    simp only [evOp] at h
    obtain ⟨v', h1, h2⟩ := map_some h
    simp only [Prod.mk.injEq] at h2; obtain ⟨rfl, rfl, rfl⟩ := h2
    cases hf : fieldOf P s i with
    | none => rw [hf] at h1; cases h1
    | some q =>
      rw [hf] at h1
      simp only [Option.bind_some] at h1
      split at h1
      · cases h1
      · rename_i h0
        obtain ⟨val, k1, k2⟩ := fieldAt_run hf h0 (S x) h1
        exact wp_v (run_v k1) (Out.pure' r k2) hn
  | field s x i =>
    simp only [evOp] at h
    obtain ⟨v', h1, h2⟩ := map_some h
    simp only [Prod.mk.injEq] at h2; obtain ⟨rfl, rfl, rfl⟩ := h2
    cases hf : fieldOf P s i with
    | none => rw [hf] at h1; cases h1
    | some q =>
      rw [hf] at h1
      simp only [Option.bind_some] at h1
      split at h1
      · rename_i cs hs
        obtain ⟨val, k1, k2⟩ := field_run hf (hs ▸ S x) h1
        exact wp_v (run_v k1) (Out.pure' r k2) hn
      · cases h1
  | indexAddr t x ix =>
    simp only [evOp] at h
    obtain ⟨v', h1, h2⟩ := map_some h
    simp only [Prod.mk.injEq] at h2; obtain ⟨rfl, rfl, rfl⟩ := h2
    obtain ⟨val, k1, k2⟩ := indexAt_run h1 (S x) (S ix)
    exact wp_v (run_v k1) (Out.pure' r k2) hn
  | index t x ix =>
    simp only [evOp] at h
    obtain ⟨v', h1, h2⟩ := map_some h
    simp only [Prod.mk.injEq] at h2; obtain ⟨rfl, rfl, rfl⟩ := h2
    obtain ⟨val, k1, k2⟩ := index_run h1 (S x) (S ix)
    exact wp_v (run_v k1) (Out.pure' r k2) hn
  | lookup t x ix ok =>
    simp only [evOp] at h
    obtain ⟨v', h1, h2⟩ := map_some h
    simp only [Prod.mk.injEq] at h2; obtain ⟨rfl, rfl, rfl⟩ := h2
    obtain ⟨val, k1, k2⟩ := lookup_run r.ss h1 (S x) (S ix)
    exact wp_v (run_v k1) (Out.pure' r k2) hn
  | mapUpdate t m k x =>
    simp only [evOp] at h
    obtain ⟨σ1, h1, h2⟩ := map_some h
    simp only [Prod.mk.injEq] at h2; obtain ⟨rfl, rfl, rfl⟩ := h2
    obtain ⟨w', k1, k2⟩ := update_out (dst := dst) r h1 (S m) (S k) (S x)
    exact wp_s (run_u k1) k2 hn
  | insert t m k x =>
    simp only [evOp] at h
    obtain ⟨σ1, h1, h2⟩ := map_some h
    simp only [Prod.mk.injEq] at h2; obtain ⟨rfl, rfl, rfl⟩ := h2
    obtain ⟨w', k1, k2⟩ := update_out (dst := dst) r h1 (S m) (S k) (S x)
    exact wp_s (run_u k1) k2 hn
  | extract x i =>
    simp only [evOp] at h
    obtain ⟨v', h1, h2⟩ := map_some h
    simp only [Prod.mk.injEq] at h2; obtain ⟨rfl, rfl, rfl⟩ := h2
    split at h1
    · rename_i vs hs
      obtain ⟨val, k1, k2⟩ := extract_run (hs ▸ S x) h1
      exact wp_v (run_v k1) (Out.pure' r k2) hn
    · cases h1
  | call c =>
    simp only [evOp] at h
    split at h
    · -- len
      rename_i hcal
      obtain ⟨v', h1, h2⟩ := map_some h
      simp only [Prod.mk.injEq] at h2; obtain ⟨rfl, rfl, rfl⟩ := h2
      split at h1
      · rename_i t x ht hx
        obtain ⟨n, h3, rfl⟩ := map_some h1
        obtain ⟨cal, args, ats⟩ := c
        dsimp only at hcal ht hx; subst hcal
        rw [arr_one ht, arr_one hx] at hn ⊢
        have k1 := lenOf_run (ty := ty) (o := Nobody) r.ss h3 (PV.of (S x))
        rw [← map_one a.eval x] at k1
        exact wp_v (run_v k1) (Out.pure' r (.sc (.int .i64 n) .nil)) hn
      · cases h1
    · -- cap
      rename_i hcal
      obtain ⟨v', h1, h2⟩ := map_some h
      simp only [Prod.mk.injEq] at h2; obtain ⟨rfl, rfl, rfl⟩ := h2
      split at h1
      · rename_i t x ht hx
        obtain ⟨n, h3, rfl⟩ := map_some h1
        obtain ⟨cal, args, ats⟩ := c
        dsimp only at hcal ht hx; subst hcal
        rw [arr_one ht, arr_one hx] at hn ⊢
        have k1 := capOf_run (ty := ty) (w := w) (o := Nobody) h3 (PV.of (S x))
        rw [← map_one a.eval x] at k1
        exact wp_v (run_v k1) (Out.pure' r (.sc (.int .i64 n) .nil)) hn
      · cases h1
    · -- append
      rename_i hcal
      split at h
      · rename_i t tx s x ht hx
        obtain ⟨⟨v', σ1⟩, h1, h2⟩ := map_some h
        simp only [Prod.mk.injEq] at h2; obtain ⟨rfl, rfl, rfl⟩ := h2
        obtain ⟨cal, args, ats⟩ := c
        dsimp only at hcal ht hx; subst hcal
        rw [arr_two ht, arr_two hx] at hn ⊢
        obtain ⟨val, w', k1, k2⟩ := append_out (dst := dst) (ty := ty) r h1
        rw [← map_two a.eval s x] at k1
        exact wp_v (run_v k1) k2 hn
      · cases h
    · -- copy
      rename_i hcal
      split at h
      · rename_i t tx s x ht hx
        obtain ⟨⟨v', σ1⟩, h1, h2⟩ := map_some h
        simp only [Prod.mk.injEq] at h2; obtain ⟨rfl, rfl, rfl⟩ := h2
        obtain ⟨cal, args, ats⟩ := c
        dsimp only at hcal ht hx; subst hcal
        rw [arr_two ht, arr_two hx] at hn ⊢
        obtain ⟨val, w', k1, k2⟩ := copy_out (dst := dst) (ty := ty) r h1 (S x) (S s)
        rw [← map_two a.eval s x] at k1
        exact wp_v (run_v k1) k2 hn
      · cases h
    · -- delete
      rename_i hcal
      split at h
      · rename_i t ts m k ht hx
        obtain ⟨σ1, h1, h2⟩ := map_some h
        simp only [Prod.mk.injEq] at h2; obtain ⟨rfl, rfl, rfl⟩ := h2
        obtain ⟨cal, args, ats⟩ := c
        dsimp only at hcal ht hx; subst hcal
        have e : ats = (t :: ts).toArray := by cases ats; simp_all
        rw [e, arr_two hx] at hn ⊢
        obtain ⟨w', k1, k2⟩ := delete_out (dst := dst) (ty := ty) r h1 (S m) (S k)
        rw [← delete_types (ts := ts), ← map_two a.eval m k] at k1
        exact wp_v (run_v k1) k2 hn
      · cases h
    · -- clear
      rename_i hcal
      split at h
      · rename_i t x ht hx
        obtain ⟨σ1, h1, h2⟩ := map_some h
        simp only [Prod.mk.injEq] at h2; obtain ⟨rfl, rfl, rfl⟩ := h2
        obtain ⟨cal, args, ats⟩ := c
        dsimp only at hcal ht hx; subst hcal
        rw [arr_one ht, arr_one hx] at hn ⊢
        obtain ⟨w', k1, k2⟩ := clear_out (dst := dst) (ty := ty) r h1 (S x)
        rw [← map_one a.eval x] at k1
        exact wp_v (run_v k1) k2 hn
      · cases h
    · -- min
      rename_i hcal
      split at h
      · rename_i k x k' y hx
        split at h
        · rename_i hk
          subst hk
          injection h with h; simp only [Prod.mk.injEq] at h; obtain ⟨rfl, rfl, rfl⟩ := h
          obtain ⟨cal, args, ats⟩ := c
          dsimp only at hcal hx; subst hcal
          have hl : args.toList.length = 2 := by have := congrArg List.length hx; simpa using this
          match hargs : args.toList, hl with
          | [p, q], _ =>
            rw [hargs] at hx
            simp only [List.map_cons, List.map_nil, List.cons.injEq, and_true] at hx
            have hp := S p
            have hq := S q
            rw [hx.1] at hp; rw [hx.2] at hq
            generalize hpv : a.eval p = pv at hp
            generalize hqv : a.eval q = qv at hq
            cases hp with
            | sc _ _ =>
              cases hq with
              | sc _ _ =>
                rw [arr_two hargs] at hn ⊢
                refine wp_v (w' := w) (val := .int k (if y < x then y else x)) ?_ (Out.pure' r (.sc (.int k (if y < x then y else x)) .nil)) hn
                have : (Builtin.min_ ats ty (#[p, q].map a.eval)).run P w = .ok (.int k (if y < x then y else x)) w := by rw [map_two, hpv, hqv]; rfl
                exact run_v this
        · cases h
      · cases h
    · -- max
      rename_i hcal
      split at h
      · rename_i k x k' y hx
        split at h
        · rename_i hk
          subst hk
          injection h with h; simp only [Prod.mk.injEq] at h; obtain ⟨rfl, rfl, rfl⟩ := h
          obtain ⟨cal, args, ats⟩ := c
          dsimp only at hcal hx; subst hcal
          have hl : args.toList.length = 2 := by have := congrArg List.length hx; simpa using this
          match hargs : args.toList, hl with
          | [p, q], _ =>
            rw [hargs] at hx
            simp only [List.map_cons, List.map_nil, List.cons.injEq, and_true] at hx
            have hp := S p
            have hq := S q
            rw [hx.1] at hp; rw [hx.2] at hq
            generalize hpv : a.eval p = pv at hp
            generalize hqv : a.eval q = qv at hq
            cases hp with
            | sc _ _ =>
              cases hq with
              | sc _ _ =>
                rw [arr_two hargs] at hn ⊢
                refine wp_v (w' := w) (val := .int k (if y > x then y else x)) ?_ (Out.pure' r (.sc (.int k (if y > x then y else x)) .nil)) hn
                have : (Builtin.max_ ats ty (#[p, q].map a.eval)).run P w = .ok (.int k (if y > x then y else x)) w := by rw [map_two, hpv, hqv]; rfl
                exact run_v this
        · cases h
      · cases h
    · rename_i gf hcal
      split at h
      · rename_i hf first captured hs
        obtain ⟨⟨v', σ1⟩, h1, h2⟩ := map_some h
        simp only [Prod.mk.injEq] at h2; obtain ⟨rfl, rfl, rfl⟩ := h2
        exact callV_wp hC r hcal hs h1 hn
      · rename_i hf hs
        obtain ⟨⟨v', σ1⟩, h1, h2⟩ := map_some h
        simp only [Prod.mk.injEq] at h2; obtain ⟨rfl, rfl, rfl⟩ := h2
        exact yield_wp hC r hcal hs h1 hn
      · cases h
    · cases h
  | _ => simp only [evOp] at h; cases h
end
end Go.AM
/-! What an operation has to do with the slots it does not name. -/
namespace Go.AM
open Go
set_option linter.unusedVariables false
set_option linter.unusedSimpArgs false

theorem beq_eq : ∀ {a b : AV}, AV.beq a b = true → a = b
  | .s x, b, h => by cases b <;> simp_all [AV.beq]
  | .undef, b, h => by cases b <;> simp_all [AV.beq]
  | .agg l, b, h => by
    cases b with
    | agg l' => simp only [AV.beq] at h; rw [go h]
    | _ => simp [AV.beq] at h
  | .tup l, b, h => by
    cases b with
    | tup l' => simp only [AV.beq] at h; rw [go h]
    | _ => simp [AV.beq] at h
  | .list f n l, b, h => by
    cases b with
    | list f' n' l' => simp only [AV.beq, Bool.and_eq_true, decide_eq_true_eq] at h; rw [go h.2, h.1.1, h.1.2]
    | _ => simp [AV.beq] at h
  | .rop l, b, h => by
    cases b with
    | rop l' => simp only [AV.beq] at h; rw [go h]
    | _ => simp [AV.beq] at h
  | .ptr r o, b, h => by cases b <;> simp_all [AV.beq]
  | .row r o l c, b, h => by cases b <;> simp_all [AV.beq]
  | .map m, b, h => by cases b <;> simp_all [AV.beq]
  | .yield m, b, h => by cases b <;> simp_all [AV.beq]
  | .fn f l l', b, h => by
    cases b with
    | fn f' m m' => simp only [AV.beq, Bool.and_eq_true, decide_eq_true_eq] at h; rw [go h.1.2, go h.2, h.1.1]
    | _ => simp [AV.beq] at h
  where go : ∀ {a b : List AV}, AV.beq.go a b = true → a = b
  | [], [], _ => rfl
  | [], _ :: _, h => by simp [AV.beq.go] at h
  | _ :: _, [], h => by simp [AV.beq.go] at h
  | x :: xs, y :: ys, h => by
    simp only [AV.beq.go, Bool.and_eq_true] at h
    rw [beq_eq h.1, go h.2]

theorem beq_refl : ∀ (a : AV), AV.beq a a = true
  | .s x => by simp [AV.beq]
  | .undef => by simp [AV.beq]
  | .agg l => by simp only [AV.beq]; exact go l
  | .tup l => by simp only [AV.beq]; exact go l
  | .list f n l => by simp only [AV.beq, go l]; simp
  | .rop l => by simp only [AV.beq]; exact go l
  | .ptr r o => by simp [AV.beq]
  | .row r o l c => by simp [AV.beq]
  | .map m => by simp [AV.beq]
  | .yield m => by simp [AV.beq]
  | .fn f l l' => by simp only [AV.beq, go l, go l']; simp
  where go : ∀ (a : List AV), AV.beq.go a a = true
  | [] => by simp [AV.beq.go]
  | x :: xs => by simp only [AV.beq.go, beq_refl x, go xs]; rfl

section
variable {P : Program} {C : CallF} {cfg : Cfg} {f : FuncId} {fr fr' fr1 : Fr} {σ σ' : St} {ops : Array Oper} {d : Nat} {v : AV}

theorem getD_set (fr : Fr) (d t : Nat) (v : AV) (h : t ≠ d) : (fr.set d v).getD t .undef = fr.getD t .undef := by
  simp [List.getD, List.getElem?_set_ne (Ne.symm h)]

theorem opnd_set {x : Operand} (h : x ≠ .tmp d) : opnd (fr.set d v) x = opnd fr x := by
  cases x with
  | tmp t => exact getD_set _ _ _ _ fun e => h (by rw [e])
  | _ => rfl

theorem seen_set {x : Operand} (h : x ≠ .tmp d) : AM.seen (fr.set d v) x = AM.seen fr x := by unfold AM.seen; rw [opnd_set h]

theorem taken_set {x : Operand} (tk : Bool) (h : x ≠ .tmp d) : taken tk (fr.set d v) x = ((taken tk fr x).1, (taken tk fr x).2.set d v) := by
  cases x with
  | tmp t =>
    have hne : t ≠ d := fun e => h (by rw [e])
    unfold taken
    simp only [getD_set fr d t v hne]
    cases tk
    · simp only [Bool.false_eq_true, if_false]
      split
      · rw [List.set_comm _ _ (Ne.symm hne)]
      · rfl
    · simp only [if_true]
      rw [List.set_comm _ _ (Ne.symm hne)]
  | const c => simp [taken, opnd]
  | global n => simp [taken, opnd]
  | func g => simp [taken, opnd]

theorem takenAll_set : ∀ {xs : List Operand} {fr : Fr}, (∀ x ∈ xs, x ≠ .tmp d) → takenAll (fr.set d v) xs = ((takenAll fr xs).1, (takenAll fr xs).2.set d v)
  | [], fr, h => rfl
  | x :: xs, fr, h => by
    simp only [takenAll]
    rw [taken_set true (h x (by simp))]
    simp only
    rw [takenAll_set fun y hy => h y (by simp [hy])]

theorem settle_set : ∀ {xs : List Operand} {fr : Fr}, (∀ x ∈ xs, x ≠ .tmp d) → settle (fr.set d v) xs = (settle fr xs).set d v
  | [], fr, h => rfl
  | x :: xs, fr, h => by
    simp only [settle]
    rw [taken_set false (h x (by simp))]
    simp only
    rw [settle_set fun y hy => h y (by simp [hy])]

theorem thaw_set {x : Operand} (h : x ≠ .tmp d) : thaw (fr.set d v) x σ = (thaw fr x σ).map fun r => (r.1, r.2.1.set d v, r.2.2) := by
  cases x with
  | tmp t =>
    have hne : t ≠ d := fun e => h (by rw [e])
    unfold thaw
    simp only [getD_set fr d t v hne]
    split
    · split
      · rfl
      · cases newBox false _ σ with
        | none => rfl
        | some r => simp only [Option.map_some]; rw [List.set_comm _ _ (Ne.symm hne)]
    · rfl
    · rfl
  | _ => rfl

theorem settled_operands {op : Op} {x : Operand} (h : x ∈ settled op) : x ∈ op.operands.toList := by
  cases op <;> simp only [settled] at h <;> try (cases h; done)
  case build t ps => simpa [Op.operands] using h
  case buildSlice t n ps => simpa [Op.operands] using h
  case mapUpdate t m k v => simp [Op.operands] at *; exact .inr (.inr h)
  case insert t m k v => simp [Op.operands] at *; exact .inr (.inr h)
  case convert a b y => simp [Op.operands] at *; simp [h]
  case slice t y lo hi mx => simp [Op.operands] at *; simp [h]
  case indexAddr t y i => simp [Op.operands] at *; simp [h]
  case call c =>
    split at h
    · have := List.mem_of_mem_drop h
      simp only [Op.operands, Call.operands]
      simp_all
    · simp only [Op.operands, Call.operands]
      simp_all
    · simp only [Op.operands, Call.operands]
      simp_all
    · cases h

/-- A slot that an operation does not name is no matter to it. -/
theorem evOp_set {o : Oper} (h : ∀ x ∈ o.op.operands.toList, x ≠ .tmp d) : evOp C P cfg f o (fr.set d v) σ = (evOp C P cfg f o fr σ).map fun r => (r.1, r.2.1.set d v, r.2.2) := by
  obtain ⟨dst, op, ty, pos, after, guard⟩ := o
  dsimp only at h
  have mapsome : ∀ {α : Type} (o : Option α) (g : α → AV × Fr × St) (g' : α → AV × Fr × St), (∀ a, g a = ((g' a).1, (g' a).2.1.set d v, (g' a).2.2)) → o.map g = (o.map g').map fun r => (r.1, r.2.1.set d v, r.2.2) := by
    intro α o g g' hg
    cases o with
    | none => rfl
    | some a => simp [hg]
  have parts : ∀ (ps : Array (Nat × Operand)), (∀ p ∈ ps.toList, p.2 ≠ .tmp d) → (ps.toList.map fun (i, x) => (i, AM.seen (fr.set d v) x)) = ps.toList.map fun (i, x) => (i, AM.seen fr x) := by
    intro ps hp
    exact List.map_congr_left fun p hm => by
      obtain ⟨i, x⟩ := p
      simp only [seen_set (fr := fr) (v := v) (hp _ hm)]
  have many : ∀ (xs : List Operand), (∀ x ∈ xs, x ≠ .tmp d) → xs.map (AM.seen (fr.set d v)) = xs.map (AM.seen fr) := fun xs hx => List.map_congr_left fun x hm => seen_set (hx x hm)
  have optn : ∀ (x : Option Operand), (∀ y, x = some y → y ≠ .tmp d) → x.map (AM.seen (fr.set d v)) = x.map (AM.seen fr) := fun x hx => by
    cases x with
    | none => rfl
    | some y => simp [seen_set (hx y rfl)]
  cases op with
  | move x =>
    have hx := h x (by simp [Op.operands])
    simp only [evOp]
    split
    · exact thaw_set hx
    · split
      · rw [seen_set hx]; exact mapsome _ _ _ fun _ => rfl
      · rw [taken_set _ hx]; rfl
  | assign x =>
    have hx := h x (by simp [Op.operands])
    simp only [evOp]
    split
    · rw [seen_set hx]; exact mapsome _ _ _ fun _ => rfl
    · rw [taken_set _ hx]; rfl
  | pick c x y =>
    simp only [evOp]
    rw [seen_set (h c (by simp [Op.operands])), seen_set (h x (by simp [Op.operands])), seen_set (h y (by simp [Op.operands]))]
    split <;> rfl
  | alloc t =>
    simp only [evOp]
    cases zeroA P t with
    | none => rfl
    | some z => exact mapsome _ _ _ fun _ => rfl
  | box t x =>
    have hx := h x (by simp [Op.operands])
    simp only [evOp]
    rw [taken_set _ hx]
    dsimp only
    split
    · rfl
    · exact mapsome _ _ _ fun _ => rfl
  | build t ps =>
    simp only [evOp]
    rw [parts ps fun p hp => h _ (by simp only [Op.operands, List.toList_toArray]; exact List.mem_map.2 ⟨p, hp, rfl⟩)]
    exact mapsome _ _ _ fun _ => rfl
  | buildSlice t n ps =>
    simp only [evOp]
    rw [parts ps fun p hp => h _ (by simp only [Op.operands, List.toList_toArray]; exact List.mem_map.2 ⟨p, hp, rfl⟩)]
    exact mapsome _ _ _ fun _ => rfl
  | load t x =>
    simp only [evOp]
    rw [seen_set (h x (by simp [Op.operands]))]
    exact mapsome _ _ _ fun _ => rfl
  | store t p x =>
    have hx := h x (by simp [Op.operands])
    have hp := h p (by simp [Op.operands])
    simp only [evOp]
    rw [taken_set _ hx]
    dsimp only
    rw [seen_set hp]
    exact mapsome _ _ _ fun _ => rfl
  | nilCheck x =>
    simp only [evOp]
    rw [seen_set (h x (by simp [Op.operands]))]
    split <;> rfl
  | binOp op t x y yt =>
    simp only [evOp]
    rw [seen_set (h x (by simp [Op.operands])), seen_set (h y (by simp [Op.operands]))]
    exact mapsome _ _ _ fun _ => rfl
  | unOp op t x =>
    simp only [evOp]
    rw [seen_set (h x (by simp [Op.operands]))]
    exact mapsome _ _ _ fun _ => rfl
  | convert s t x =>
    simp only [evOp]
    rw [seen_set (h x (by simp [Op.operands]))]
    exact mapsome _ _ _ fun _ => rfl
  | makeFunc fn first captured =>
    simp only [evOp]
    rw [many first.toList fun x hx => h x (by simp only [Op.operands, Array.toList_append]; exact List.mem_append_left _ hx), many captured.toList fun x hx => h x (by simp only [Op.operands, Array.toList_append]; exact List.mem_append_right _ hx)]
    rfl
  | makeMap t x =>
    simp only [evOp]
    cases x with
    | none => rfl
    | some x =>
      dsimp only
      rw [seen_set (h x (by simp [Op.operands]))]
      split <;> rfl
  | makeSlice t l c =>
    simp only [evOp]
    rw [seen_set (h l (by simp [Op.operands])), seen_set (h c (by simp [Op.operands]))]
    exact mapsome _ _ _ fun _ => rfl
  | slice t x lo hi mx =>
    simp only [evOp]
    rw [seen_set (h x (by simp [Op.operands])), optn lo fun y e => h y (by simp [Op.operands, e]), optn hi fun y e => h y (by simp [Op.operands, e]), optn mx fun y e => h y (by simp [Op.operands, e])]
    exact mapsome _ _ _ fun _ => rfl
  | fieldAddr s x i =>
    simp only [evOp]
    rw [seen_set (h x (by simp [Op.operands]))]
    exact mapsome _ _ _ fun _ => rfl
  | field s x i =>
    simp only [evOp]
    rw [seen_set (h x (by simp [Op.operands]))]
    exact mapsome _ _ _ fun _ => rfl
  | indexAddr t x ix =>
    simp only [evOp]
    rw [seen_set (h x (by simp [Op.operands])), seen_set (h ix (by simp [Op.operands]))]
    exact mapsome _ _ _ fun _ => rfl
  | index t x ix =>
    simp only [evOp]
    rw [seen_set (h x (by simp [Op.operands])), seen_set (h ix (by simp [Op.operands]))]
    exact mapsome _ _ _ fun _ => rfl
  | lookup t x ix ok =>
    simp only [evOp]
    rw [seen_set (h x (by simp [Op.operands])), seen_set (h ix (by simp [Op.operands]))]
    exact mapsome _ _ _ fun _ => rfl
  | mapUpdate t m k x =>
    simp only [evOp]
    rw [seen_set (h m (by simp [Op.operands])), seen_set (h k (by simp [Op.operands])), seen_set (h x (by simp [Op.operands]))]
    exact mapsome _ _ _ fun _ => rfl
  | insert t m k x =>
    simp only [evOp]
    rw [seen_set (h m (by simp [Op.operands])), seen_set (h k (by simp [Op.operands])), seen_set (h x (by simp [Op.operands]))]
    exact mapsome _ _ _ fun _ => rfl
  | extract x i =>
    simp only [evOp]
    rw [seen_set (h x (by simp [Op.operands]))]
    exact mapsome _ _ _ fun _ => rfl
  | call c =>
    have hargs : ∀ x ∈ c.args.toList, x ≠ .tmp d := fun x hx => h x (by simp only [Op.operands, Call.operands, Array.toList_append]; exact List.mem_append_right _ hx)
    simp only [evOp]
    split
    · split
      · rename_i t x ht hx
        rw [seen_set (hargs x (by rw [hx]; simp))]
        exact mapsome _ _ _ fun _ => rfl
      · rfl
    · split
      · rename_i t x ht hx
        rw [seen_set (hargs x (by rw [hx]; simp))]
        exact mapsome _ _ _ fun _ => rfl
      · rfl
    · split
      · rename_i t tx s x ht hx
        rw [taken_set _ (hargs s (by rw [hx]; simp))]
        dsimp only
        rw [seen_set (hargs x (by rw [hx]; simp))]
        exact mapsome _ _ _ fun _ => rfl
      · rfl
    · split
      · rename_i t tx s x ht hx
        rw [seen_set (hargs s (by rw [hx]; simp)), seen_set (hargs x (by rw [hx]; simp))]
        exact mapsome _ _ _ fun _ => rfl
      · rfl
    · split
      · rename_i t tx s x ht hx
        rw [seen_set (hargs s (by rw [hx]; simp)), seen_set (hargs x (by rw [hx]; simp))]
        exact mapsome _ _ _ fun _ => rfl
      · rfl
    · split
      · rename_i t x ht hx
        rw [seen_set (hargs x (by rw [hx]; simp))]
        exact mapsome _ _ _ fun _ => rfl
      · rfl
    · rw [many _ hargs]
      split
      · split <;> rfl
      · rfl
    · rw [many _ hargs]
      split
      · split <;> rfl
      · rfl
    · rename_i gf hcal
      rw [seen_set (h gf (by simp only [Op.operands, Call.operands, hcal, Array.toList_append]; exact List.mem_append_left _ (by simp))), takenAll_set hargs]
      split
      · exact mapsome _ _ _ fun _ => rfl
      · exact mapsome _ _ _ fun _ => rfl
      · rfl
    · rfl
  | _ => rfl
end
end Go.AM
/-! Orders that are drawn: readers may go first. -/
namespace Go.AM
open Go
set_option linter.unusedVariables false
set_option linter.unusedSimpArgs false

def Calmer (fr fr' : Fr) : Prop := fr'.length = fr.length ∧ ∀ t, (fr.getD t .undef).isUniq = false → (fr'.getD t .undef).isUniq = false ∧ (fr'.getD t .undef).look = (fr.getD t .undef).look

theorem Calmer.refl (fr : Fr) : Calmer fr fr := ⟨rfl, fun _ h => ⟨h, rfl⟩⟩

theorem Calmer.trans {fr fr1 fr2 : Fr} (h : Calmer fr fr1) (h' : Calmer fr1 fr2) : Calmer fr fr2 :=
  ⟨h'.1.trans h.1, fun t ht => ⟨(h'.2 t (h.2 t ht).1).1, (h'.2 t (h.2 t ht).1).2.trans (h.2 t ht).2⟩⟩

theorem calmer_set {fr : Fr} {t : Nat} {u : AV} (h : (fr.getD t .undef).isUniq = false → u.isUniq = false ∧ u.look = (fr.getD t .undef).look) : Calmer fr (fr.set t u) := by
  refine ⟨by simp, fun s hs => ?_⟩
  by_cases e : s = t
  · subst e
    by_cases hl : s < fr.length
    · have : (fr.set s u).getD s .undef = u := by simp [List.getD, hl]
      rw [this]; exact h hs
    · have : (fr.set s u).getD s .undef = fr.getD s .undef := by simp [List.getD, hl]
      rw [this]; exact ⟨hs, rfl⟩
  · rw [getD_set _ _ _ _ e]; exact ⟨hs, rfl⟩

theorem left_calm {v : AV} (h : v.isUniq = false) : v.left.isUniq = false ∧ v.left.look = v.look := by
  cases v with
  | list fl _ _ => cases fl <;> simp_all [AV.left, AV.isUniq, AV.look]
  | _ => simp_all [AV.left, AV.isUniq, AV.look]

theorem taken_calmer (tk : Bool) (fr : Fr) (x : Operand) : Calmer fr (taken tk fr x).2 := by
  cases x with
  | tmp t =>
    unfold taken
    cases tk
    · simp only [Bool.false_eq_true, if_false]
      split
      · rename_i h
        exact calmer_set fun hu => by rw [h] at hu; simp [AV.isUniq] at hu
      · exact Calmer.refl _
    · simp only [if_true]
      exact calmer_set left_calm
  | _ => exact Calmer.refl _

theorem takenAll_calmer : ∀ (xs : List Operand) (fr : Fr), Calmer fr (takenAll fr xs).2
  | [], fr => Calmer.refl _
  | x :: xs, fr => (taken_calmer true fr x).trans (takenAll_calmer xs _)

theorem settle_calmer : ∀ (xs : List Operand) (fr : Fr), Calmer fr (settle fr xs)
  | [], fr => Calmer.refl _
  | x :: xs, fr => (taken_calmer false fr x).trans (settle_calmer xs _)

section
variable {P : Program} {C : CallF} {cfg : Cfg} {f : FuncId} {fr fr' fr1 : Fr} {σ σ' : St} {ops : Array Oper} {d : Nat} {v : AV}

theorem thaw_calmer {x : Operand} (h : thaw fr x σ = some (v, fr', σ')) : Calmer fr fr' := by
  cases x with
  | tmp t =>
    unfold thaw at h
    dsimp only at h
    split at h
    · rename_i hu
      split at h
      · cases h
      · obtain ⟨r, _, h2⟩ := map_some h
        simp only [Prod.mk.injEq] at h2; obtain ⟨_, rfl, _⟩ := h2
        exact calmer_set fun h => by rw [hu] at h; simp [AV.isUniq] at h
    · injection h with h; simp only [Prod.mk.injEq] at h; obtain ⟨_, rfl, _⟩ := h; exact Calmer.refl _
    · cases h
  | _ => cases h

theorem evOp_calmer {o : Oper} (h : evOp C P cfg f o fr σ = some (v, fr', σ')) : Calmer fr fr' := by
  obtain ⟨dst, op, ty, pos, after, guard⟩ := o
  have one : ∀ {α : Type} {x : Option α} {g : α → AV × Fr × St}, x.map g = some (v, fr', σ') → (∀ a, (g a).2.1 = fr) → Calmer fr fr' := by
    intro α x g hx hg
    obtain ⟨a, _, h2⟩ := map_some hx
    have := hg a
    rw [h2] at this
    dsimp only at this; subst this; exact Calmer.refl _
  have two : ∀ {α : Type} {x : Option α} {g : α → AV × Fr × St} {fr1 : Fr}, Calmer fr fr1 → x.map g = some (v, fr', σ') → (∀ a, (g a).2.1 = fr1) → Calmer fr fr' := by
    intro α x g fr1 hc hx hg
    obtain ⟨a, _, h2⟩ := map_some hx
    have := hg a
    rw [h2] at this
    dsimp only at this; subst this; exact hc
  have same : ∀ {u : AV} {s : St}, some (u, fr, s) = some (v, fr', σ') → Calmer fr fr' := by
    intro u s h; injection h with h; simp only [Prod.mk.injEq] at h; obtain ⟨_, rfl, _⟩ := h; exact Calmer.refl _
  have other : ∀ {u : AV} {s : St} {fr1 : Fr}, Calmer fr fr1 → some (u, fr1, s) = some (v, fr', σ') → Calmer fr fr' := by
    intro u s fr1 hc h; injection h with h; simp only [Prod.mk.injEq] at h; obtain ⟨_, rfl, _⟩ := h; exact hc
  cases op with
  | move x =>
    simp only [evOp] at h
    split at h
    · exact thaw_calmer h
    · split at h
      · exact one h fun _ => rfl
      · exact other (taken_calmer _ _ _) h
  | assign x =>
    simp only [evOp] at h
    split at h
    · exact one h fun _ => rfl
    · exact other (taken_calmer _ _ _) h
  | pick c x y =>
    simp only [evOp] at h
    split at h
    · exact same h
    · cases h
  | alloc t =>
    simp only [evOp] at h
    cases hz : zeroA P t with
    | none => rw [hz] at h; cases h
    | some z => rw [hz] at h; exact one h fun _ => rfl
  | box t x =>
    simp only [evOp] at h
    split at h
    · cases h
    · exact two (taken_calmer _ _ _) h fun _ => rfl
  | store t p x =>
    simp only [evOp] at h
    exact two (taken_calmer _ _ _) h fun _ => rfl
  | nilCheck x =>
    simp only [evOp] at h
    split at h <;> first | exact same h | cases h
  | makeMap t x =>
    simp only [evOp] at h
    split at h
    · exact same h
    · split at h
      · exact same h
      · cases h
  | call c =>
    simp only [evOp] at h
    split at h
    · exact one h fun _ => rfl
    · exact one h fun _ => rfl
    · split at h
      · exact two (taken_calmer _ _ _) h fun _ => rfl
      · cases h
    · split at h
      · exact one h fun _ => rfl
      · cases h
    · split at h
      · exact one h fun _ => rfl
      · cases h
    · split at h
      · exact one h fun _ => rfl
      · cases h
    · split at h
      · split at h
        · exact same h
        · cases h
      · cases h
    · split at h
      · split at h
        · exact same h
        · cases h
      · cases h
    · split at h
      · exact two (takenAll_calmer _ _) h fun _ => rfl
      · exact two (takenAll_calmer _ _) h fun _ => rfl
      · cases h
    · cases h
  | build | buildSlice | load | binOp | unOp | convert | makeFunc | makeSlice | slice | fieldAddr | field | indexAddr | index | lookup | mapUpdate | insert | extract =>
    simp only [evOp] at h
    exact one h fun _ => rfl
  | _ => simp only [evOp] at h; cases h

theorem sh_look {v : AV} (h : v.isUniq = false) : v.sh = v.look := by
  cases v with
  | list fl _ _ => cases fl <;> simp_all [AV.sh, AV.isUniq, AV.look]
  | _ => simp_all [AV.sh, AV.look]

theorem taken_calm {x : Operand} (h : calmAt fr x = true) : taken false fr x = (AM.seen fr x, fr) := by
  cases x with
  | tmp t =>
    have hu : (fr.getD t .undef).isUniq = false := by simpa [calmAt] using h
    unfold taken AM.seen
    simp only [Bool.false_eq_true, if_false]
    split
    · rename_i e; rw [e] at hu; simp [AV.isUniq] at hu
    · rw [sh_look hu]; rfl
  | const c =>
    unfold taken AM.seen opnd
    simp only [AV.ofV]
    split <;> rfl
  | _ => rfl

theorem settle_calm : ∀ (xs : List Operand), (∀ x ∈ xs, calmAt fr x = true) → settle fr xs = fr
  | [], _ => rfl
  | x :: xs, h => by
    simp only [settle]
    rw [taken_calm (h x (by simp))]
    exact settle_calm xs fun y hy => h y (by simp [hy])

/-- A reader sees what it sees. -/
theorem reader_eq {o : Oper} (hr : readerOp cfg f o = true) (hs : ∀ x ∈ o.op.operands.toList, AM.seen fr1 x = AM.seen fr x) (hc : ∀ x ∈ o.op.operands.toList, calmAt fr x = true) (hc1 : ∀ x ∈ o.op.operands.toList, calmAt fr1 x = true) :
    evOp C P cfg f o fr1 σ = (evOp C P cfg f o fr σ).map fun r => (r.1, fr1, r.2.2) := by
  obtain ⟨dst, op, ty, pos, after, guard⟩ := o
  dsimp only at hs hc hc1
  have mapsome : ∀ {α : Type} (o : Option α) (g g' : α → AV × Fr × St), (∀ a, g a = ((g' a).1, fr1, (g' a).2.2)) → o.map g = (o.map g').map fun r => (r.1, fr1, r.2.2) := by
    intro α o g g' hg
    cases o with
    | none => rfl
    | some a => simp [hg]
  have parts : ∀ (ps : Array (Nat × Operand)), (∀ p ∈ ps.toList, AM.seen fr1 p.2 = AM.seen fr p.2) → (ps.toList.map fun (i, x) => (i, AM.seen fr1 x)) = ps.toList.map fun (i, x) => (i, AM.seen fr x) := by
    intro ps hp
    exact List.map_congr_left fun p hm => by
      obtain ⟨i, x⟩ := p
      have := hp _ hm
      dsimp only at this
      simp only [this]
  have many : ∀ (xs : List Operand), (∀ x ∈ xs, AM.seen fr1 x = AM.seen fr x) → xs.map (AM.seen fr1) = xs.map (AM.seen fr) := fun xs hx => List.map_congr_left fun x hm => hx x hm
  have optn : ∀ (x : Option Operand), (∀ y, x = some y → AM.seen fr1 y = AM.seen fr y) → x.map (AM.seen fr1) = x.map (AM.seen fr) := fun x hx => by
    cases x with
    | none => rfl
    | some y => simp [hx y rfl]
  cases op with
  | move x =>
    simp only [readerOp, Bool.and_eq_true, Bool.not_eq_true'] at hr
    have hx : x ∈ (Op.move x).operands.toList := by simp [Op.operands]
    simp only [evOp, hr.1.1, hr.1.2, hr.2, Bool.false_eq_true, if_false]
    rw [taken_calm (hc1 x hx), taken_calm (hc x hx), hs x hx]
    rfl
  | load t x =>
    simp only [evOp]
    rw [hs x (by simp [Op.operands])]
    exact mapsome _ _ _ fun _ => rfl
  | pick c x y =>
    simp only [evOp]
    rw [hs c (by simp [Op.operands]), hs x (by simp [Op.operands]), hs y (by simp [Op.operands])]
    split <;> rfl
  | nilCheck x =>
    simp only [evOp]
    rw [hs x (by simp [Op.operands])]
    split <;> rfl
  | binOp op t x y yt =>
    simp only [evOp]
    rw [hs x (by simp [Op.operands]), hs y (by simp [Op.operands])]
    exact mapsome _ _ _ fun _ => rfl
  | unOp op t x =>
    simp only [evOp]
    rw [hs x (by simp [Op.operands])]
    exact mapsome _ _ _ fun _ => rfl
  | convert s t x =>
    simp only [evOp]
    rw [hs x (by simp [Op.operands])]
    exact mapsome _ _ _ fun _ => rfl
  | fieldAddr s x i =>
    simp only [evOp]
    rw [hs x (by simp [Op.operands])]
    exact mapsome _ _ _ fun _ => rfl
  | field s x i =>
    simp only [evOp]
    rw [hs x (by simp [Op.operands])]
    exact mapsome _ _ _ fun _ => rfl
  | indexAddr t x ix =>
    simp only [evOp]
    rw [hs x (by simp [Op.operands]), hs ix (by simp [Op.operands])]
    exact mapsome _ _ _ fun _ => rfl
  | index t x ix =>
    simp only [evOp]
    rw [hs x (by simp [Op.operands]), hs ix (by simp [Op.operands])]
    exact mapsome _ _ _ fun _ => rfl
  | lookup t x ix ok =>
    simp only [evOp]
    rw [hs x (by simp [Op.operands]), hs ix (by simp [Op.operands])]
    exact mapsome _ _ _ fun _ => rfl
  | extract x i =>
    simp only [evOp]
    rw [hs x (by simp [Op.operands])]
    exact mapsome _ _ _ fun _ => rfl
  | slice t x lo hi mx =>
    simp only [evOp]
    rw [hs x (by simp [Op.operands]), optn lo fun y e => hs y (by simp [Op.operands, e]), optn hi fun y e => hs y (by simp [Op.operands, e]), optn mx fun y e => hs y (by simp [Op.operands, e])]
    exact mapsome _ _ _ fun _ => rfl
  | makeFunc fn first captured =>
    simp only [evOp]
    rw [many first.toList fun x hx => hs x (by simp only [Op.operands, Array.toList_append]; exact List.mem_append_left _ hx), many captured.toList fun x hx => hs x (by simp only [Op.operands, Array.toList_append]; exact List.mem_append_right _ hx)]
    rfl
  | build t ps =>
    simp only [evOp]
    rw [parts ps fun p hp => hs _ (by simp only [Op.operands, List.toList_toArray]; exact List.mem_map.2 ⟨p, hp, rfl⟩)]
    exact mapsome _ _ _ fun _ => rfl
  | buildSlice t n ps =>
    simp only [evOp]
    rw [parts ps fun p hp => hs _ (by simp only [Op.operands, List.toList_toArray]; exact List.mem_map.2 ⟨p, hp, rfl⟩)]
    exact mapsome _ _ _ fun _ => rfl
  | call c =>
    have hargs : ∀ x ∈ c.args.toList, AM.seen fr1 x = AM.seen fr x := fun x hx => hs x (by simp only [Op.operands, Call.operands, Array.toList_append]; exact List.mem_append_right _ hx)
    simp only [readerOp] at hr
    split at hr
    · rename_i hcal
      simp only [evOp, hcal]
      split
      · rename_i t x ht hx
        rw [hargs x (by rw [hx]; simp)]
        exact mapsome _ _ _ fun _ => rfl
      · rfl
    · rename_i hcal
      simp only [evOp, hcal]
      split
      · rename_i t x ht hx
        rw [hargs x (by rw [hx]; simp)]
        exact mapsome _ _ _ fun _ => rfl
      · rfl
    · cases hr
  | _ => simp [readerOp] at hr

theorem load_state {t : TypeId} {p : AV} {s : St} (h : load P false t p σ = some (v, s)) : s = σ := by
  unfold load at h
  split at h
  · split at h
    · cases h
    · obtain ⟨_, _, h2⟩ := map_some h; simp only [Prod.mk.injEq] at h2; exact h2.2.symm
  · dsimp only at h
    split at h
    · simp only [Option.some.injEq, Prod.mk.injEq] at h; exact h.2.symm
    · cases h
  · cases h

/-- A reader changes no memory. -/
theorem reader_state {o : Oper} (hr : readerOp cfg f o = true) (hc : ∀ x ∈ o.op.operands.toList, calmAt fr x = true) (h : evOp C P cfg f o fr σ = some (v, fr', σ')) : fr' = fr ∧ σ' = σ := by
  have e := reader_eq (C := C) (P := P) (σ := σ) hr (fun _ _ => rfl) hc hc
  rw [h] at e
  simp only [Option.map_some, Option.some.injEq, Prod.mk.injEq, true_and, and_true] at e
  refine ⟨e, ?_⟩
  obtain ⟨dst, op, ty, pos, after, guard⟩ := o
  have one : ∀ {α : Type} {x : Option α} {g : α → AV × Fr × St}, x.map g = some (v, fr', σ') → (∀ a, (g a).2.2 = σ) → σ' = σ := by
    intro α x g hx hg
    obtain ⟨a, _, h2⟩ := map_some hx
    have := hg a
    rw [h2] at this
    exact this
  cases op with
  | move x =>
    simp only [readerOp, Bool.and_eq_true, Bool.not_eq_true'] at hr
    simp only [evOp, hr.1.1, hr.1.2, hr.2, Bool.false_eq_true, if_false] at h
    simp only [Option.some.injEq, Prod.mk.injEq] at h
    exact h.2.2.symm
  | load t x =>
    simp only [readerOp, Bool.not_eq_true'] at hr
    simp only [evOp, hr] at h
    obtain ⟨⟨u, s⟩, h1, h2⟩ := map_some h
    simp only [Prod.mk.injEq] at h2
    rw [← h2.2.2]; exact load_state h1
  | pick c x y =>
    simp only [evOp] at h
    split at h
    · simp only [Option.some.injEq, Prod.mk.injEq] at h; exact h.2.2.symm
    · cases h
  | nilCheck x =>
    simp only [evOp] at h
    split at h <;> first | (simp only [Option.some.injEq, Prod.mk.injEq] at h; exact h.2.2.symm) | cases h
  | call c =>
    simp only [readerOp] at hr
    split at hr
    · rename_i hcal
      simp only [evOp, hcal] at h
      exact one h fun _ => rfl
    · rename_i hcal
      simp only [evOp, hcal] at h
      exact one h fun _ => rfl
    · cases hr
  | binOp | unOp | convert | fieldAddr | field | indexAddr | index | lookup | extract | slice | makeFunc | build | buildSlice =>
    simp only [evOp] at h
    exact one h fun _ => rfl
  | _ => simp [readerOp] at hr

theorem elems_free {e : TypeId} {x : AV} (s : St) (h : ∀ r o l c, x ≠ .row r o l c) : elems P e x s = elems P e x σ := by
  cases x with
  | row r o l c => exact (h r o l c rfl).elim
  | s y => cases y <;> rfl
  | _ => rfl

/-- What does not hang on memory is the same in any. -/
theorem nondep_eq {i : Nat} {o : Oper} (hi : ops[i]? = some o) (hr : readerOp cfg f o = true) (hd : depA ops i fr = false) (s : St) :
    (evOp C P cfg f o fr s).map (·.1) = (evOp C P cfg f o fr σ).map (·.1) := by
  obtain ⟨dst, op, ty, pos, after, guard⟩ := o
  have one : ∀ {α : Type} {x y : Option α} {g g' : α → AV × Fr × St}, x = y → (∀ a, (g a).1 = (g' a).1) → (x.map g).map (·.1) = (y.map g').map (·.1) := by
    intro α x y g g' e hg
    subst e
    cases x with
    | none => rfl
    | some a => simp [hg]
  simp only [depA, hi] at hd
  cases op with
  | move x =>
    simp only [readerOp, Bool.and_eq_true, Bool.not_eq_true'] at hr
    simp only [evOp, hr.1.1, hr.1.2, hr.2, Bool.false_eq_true, if_false]
    rfl
  | load t x =>
    simp only [readerOp, Bool.not_eq_true'] at hr
    dsimp only at hd
    split at hd
    case h_2 => cases hd
    rename_i cs hs
    simp only [evOp, hr, hs]
    simp only [load]
    split
    · split
      · rfl
      · simp only [readCells]
        split <;> rfl
    · simp only [readCells]
      split
      · rename_i u he
        split at he
        · simp only [Option.some.injEq] at he
          rename_i hl
          simp only [hl, if_true, he, Option.map_some]
        · cases he
      · rename_i he
        by_cases hl : 1 ≤ cs.length
        · simp only [hl, if_true] at he ⊢
        · simp only [hl, if_false]
    · rfl
  | pick c x y =>
    simp only [evOp]
    split <;> rfl
  | nilCheck x =>
    simp only [evOp]
    split <;> rfl
  | convert a b x =>
    dsimp only at hd
    split at hd
    · cases hd
    · rename_i hs
      simp only [evOp]
      refine one ?_ fun _ => rfl
      simp only [convert]
      split <;> first | rfl | skip
      split
      · rw [elems_free (σ := σ) s fun r o l c => hs r o l c]
      · rfl
  | lookup t x ix ok => simp at hd
  | call c =>
    simp only [readerOp] at hr
    split at hr
    · rename_i hcal
      simp only [evOp, hcal]
      refine one ?_ fun _ => rfl
      split
      · rename_i t x ht hx
        have ha : c.args[0]? = some x := by rw [← Array.getElem?_toList, hx]; rfl
        simp only [ha] at hd
        split at hd
        · cases hd
        · rename_i hs
          congr 1
          unfold lenOf
          split <;> first | rfl | skip
          all_goals (rename_i h1 h2 h3; exact (hs _ ‹_›).elim)
      · rfl
    · rename_i hcal
      simp only [evOp, hcal]
      exact one rfl fun _ => rfl
    · cases hr
  | binOp | unOp | fieldAddr | field | indexAddr | index | extract | slice | makeFunc | build | buildSlice =>
    simp only [evOp]
    exact one rfl fun _ => rfl
  | _ => simp [readerOp] at hr
end
end Go.AM
/-! A region whose order is drawn: one order stands for all. -/
namespace Go.AM
open Go
set_option linter.unusedVariables false
set_option linter.unusedSimpArgs false

/-- Whatever the order, it ends so; and all memories on the way are as J says. -/
def AnyJ (C : CallF) (P : Program) (cfg : Cfg) (f : FuncId) (ops : Array Oper) (J : Array Bool → St → Prop) (R : Fr × St) : Nat → Array Bool → Fr → St → Prop
  | 0, listed, fr, σ => Region.ready .any ops listed = [] ∧ (fr, σ) = R ∧ J listed σ
  | n + 1, listed, fr, σ => J listed σ ∧ (Region.ready .any ops listed = [] → (fr, σ) = R) ∧
    ∀ i ∈ Region.ready .any ops listed, ∃ fr' σ', stepA C P cfg f ops i fr σ = some (fr', σ') ∧ AnyJ C P cfg f ops J R n (listed.setIfInBounds i true) fr' σ'

section
variable {P : Program} {C : CallF} {cfg : Cfg} {f : FuncId} {fr fr' fr1 : Fr} {σ σ' : St} {ops : Array Oper} {d : Nat} {v : AV} {J J' : Array Bool → St → Prop} {R : Fr × St}

theorem AnyJ.here : ∀ {n : Nat} {listed : Array Bool} {fr : Fr} {σ : St}, AnyJ C P cfg f ops J R n listed fr σ → J listed σ
  | 0, _, _, _, h => h.2.2
  | _ + 1, _, _, _, h => h.1

/-- More is listed. -/
def More (l l' : Array Bool) : Prop := ∀ x : Nat, l.getD x false = true → l'.getD x false = true

theorem More.set (l : Array Bool) (i : Nat) : More l (l.setIfInBounds i true) := fun x h => getD_set_true h

theorem AnyJ.mono : ∀ {n : Nat} {listed : Array Bool} {fr : Fr} {σ : St}, (∀ L s, More listed L → J L s → J' L s) → AnyJ C P cfg f ops J R n listed fr σ → AnyJ C P cfg f ops J' R n listed fr σ
  | 0, l, _, _, hJ, h => ⟨h.1, h.2.1, hJ _ _ (fun _ h => h) h.2.2⟩
  | _ + 1, l, _, _, hJ, h => ⟨hJ _ _ (fun _ h => h) h.1, h.2.1, fun i hi => by
    obtain ⟨fr', σ', h1, h2⟩ := h.2.2 i hi
    exact ⟨fr', σ', h1, h2.mono fun L s hm => hJ L s fun x hx => hm x (More.set l i x hx)⟩⟩

/-- Something that is listed, and no reader, hangs on k. -/
def Dep (cfg : Cfg) (f : FuncId) (ops : Array Oper) (l : Array Bool) (k : Nat) : Prop := ∃ j, l.getD j false = true ∧ isReader cfg f ops j = false ∧ hangsOn ops j k = true

/-- What is listed hangs on what is listed. -/
def Closed (ops : Array Oper) (l : Array Bool) : Prop := ∀ j k, l.getD j false = true → hangsOn ops j k = true → l.getD k false = true

theorem ready_hangs {l : Array Bool} {j k : Nat} (hj : j ∈ Region.ready .any ops l) (h : hangsOn ops j k = true) : l.getD k false = true := by
  obtain ⟨_, o, ho, hall⟩ := mem_ready.1 hj
  unfold hangsOn at h
  rw [ho] at h
  dsimp only at h
  obtain ⟨e, he, hb⟩ := Array.any_eq_true'.1 h
  simp only [Bool.and_eq_true, beq_iff_eq] at hb
  rw [← hb.2]; exact hall e he hb.1

theorem getD_set_cases {l : Array Bool} {i x : Nat} (h : (l.setIfInBounds i true).getD x false = true) : x = i ∨ l.getD x false = true := by
  by_cases e : i = x
  · exact .inl e.symm
  · rw [getD_set_ne false e] at h; exact .inr h

theorem Closed.set {l : Array Bool} {j : Nat} (hc : Closed ops l) (hj : j ∈ Region.ready .any ops l) : Closed ops (l.setIfInBounds j true) := by
  intro x k hx hk
  rcases getD_set_cases hx with rfl | hx
  · exact getD_set_true (ready_hangs hj hk)
  · exact getD_set_true (hc x k hx hk)

theorem ready_unlisted {l : Array Bool} {i : Nat} (hi : i ∈ Region.ready .any ops l) : l.getD i false = false := by
  have h0 := (mem_ready.1 hi).1
  rcases Nat.lt_or_ge i l.size with h' | h'
  · simp [h'] at h0 ⊢; exact h0
  · simp [Array.getElem?_eq_none h']

/-- Nothing that is listed hangs on what is still to come. -/
theorem not_dep {l : Array Bool} {i : Nat} (hc : Closed ops l) (hi : i ∈ Region.ready .any ops l) : ¬ Dep cfg f ops (l.setIfInBounds i true) i := by
  rintro ⟨j, hj, _, hk⟩
  have hu := ready_unlisted hi
  rcases getD_set_cases hj with rfl | hj
  · rw [ready_hangs hi hk] at hu; cases hu
  · rw [hc j i hj hk] at hu; cases hu

/-- What the slots that an operation looks at must still be. -/
def Agree (T : List Tmp) (fr fr1 : Fr) : Prop := fr1.length = fr.length ∧ ∀ t ∈ T, (fr.getD t .undef).isUniq = false → (fr1.getD t .undef).isUniq = false ∧ (fr1.getD t .undef).look = (fr.getD t .undef).look

theorem look_s {u : AV} {x : Sc} (h : u.look = .s x) : u = .s x := by
  cases u with
  | list fl _ _ => cases fl <;> simp [AV.look] at h
  | _ => first | (simp [AV.look] at h; done) | (simp [AV.look] at h; rw [h])

theorem look_tup {u : AV} {x : List AV} (h : u.look = .tup x) : u = .tup x := by
  cases u with
  | list fl _ _ => cases fl <;> simp [AV.look] at h
  | _ => first | (simp [AV.look] at h; done) | (simp [AV.look] at h; rw [h])

theorem guardA_agree {o : Oper} {b : Bool} (ha : Agree (o.looksAt ops) fr fr1) (h : guardA ops fr o = some b) : guardA ops fr1 o = some b := by
  unfold guardA at h ⊢
  cases hg : o.guard with
  | none => rw [hg] at h; exact h
  | some jw =>
    obtain ⟨j, want⟩ := jw
    rw [hg] at h
    dsimp only at h ⊢
    cases hd : (ops[j]?).bind (·.dst) with
    | none => rw [hd] at h; exact h
    | some d =>
      rw [hd] at h
      dsimp only at h ⊢
      have hm : d ∈ o.looksAt ops := by
        unfold Oper.looksAt
        rw [hg]
        refine List.mem_append_right _ ?_
        simp [hd]
      have key : ∀ u, fr[d]? = some u → u.isUniq = false → ∃ u', fr1[d]? = some u' ∧ u'.look = u.look := by
        intro u hu hn
        have hl : d < fr.length := (List.getElem?_eq_some_iff.1 hu).1
        have hl1 : d < fr1.length := by rw [ha.1]; exact hl
        have e : fr.getD d .undef = u := by simp [List.getD, hu]
        have := ha.2 d hm (by rw [e]; exact hn)
        refine ⟨fr1[d], List.getElem?_eq_getElem hl1, ?_⟩
        have e1 : fr1.getD d .undef = fr1[d] := by simp [List.getD, hl1]
        rw [← e1, this.2, e]
      split at h
      · rename_i b' hb
        obtain ⟨u', h1, h2⟩ := key _ hb rfl
        rw [h1, look_s (u := u') (by rw [h2]; rfl)]
        exact h
      · rename_i hb
        obtain ⟨u', h1, h2⟩ := key _ hb rfl
        rw [h1, look_tup (u := u') (by rw [h2]; rfl)]
        exact h
      · cases h

theorem agree_operand {o : Oper} (ha : Agree (o.looksAt ops) fr fr1) {x : Operand} (hx : x ∈ o.op.operands.toList) (hc : calmAt fr x = true) : AM.seen fr1 x = AM.seen fr x ∧ calmAt fr1 x = true := by
  cases x with
  | tmp t =>
    have hm : t ∈ o.looksAt ops := List.mem_append_left _ (List.mem_filterMap.2 ⟨.tmp t, hx, rfl⟩)
    have hu : (fr.getD t .undef).isUniq = false := by simpa [calmAt] using hc
    have := ha.2 t hm hu
    exact ⟨this.2, by simp only [calmAt, this.1]; rfl⟩
  | _ => exact ⟨rfl, rfl⟩

theorem readV_agree {i : Nat} {o : Oper} (hi : ops[i]? = some o) (ha : Agree (o.looksAt ops) fr fr1) (h : readV C P cfg f ops i fr σ = some v) : readV C P cfg f ops i fr1 σ = some v := by
  unfold readV at h ⊢
  rw [hi] at h ⊢
  dsimp only at h ⊢
  cases hg : guardA ops fr o with
  | none => rw [hg] at h; cases h
  | some b =>
    rw [hg] at h; rw [guardA_agree ha hg]
    cases b with
    | false => exact h
    | true =>
      dsimp only at h ⊢
      split at h
      case isFalse => cases h
      rename_i hc
      simp only [Bool.and_eq_true, List.all_eq_true] at hc
      have hc1 : ∀ x ∈ o.op.operands.toList, calmAt fr1 x = true := fun x hx => (agree_operand ha hx (hc.2 x hx)).2
      rw [if_pos (by simp only [Bool.and_eq_true, List.all_eq_true]; exact ⟨hc.1, hc1⟩), reader_eq hc.1 (fun x hx => (agree_operand ha hx (hc.2 x hx)).1) hc.2 hc1]
      rw [← h]
      cases evOp C P cfg f o fr σ <;> rfl

theorem readV_step {i : Nat} {o : Oper} (hi : ops[i]? = some o) (h : readV C P cfg f ops i fr σ = some v) : stepA C P cfg f ops i fr σ = some (putA o.dst v fr, σ) := by
  unfold readV at h
  unfold stepA
  rw [hi] at h ⊢
  dsimp only at h ⊢
  cases hg : guardA ops fr o with
  | none => rw [hg] at h; cases h
  | some b =>
    rw [hg] at h
    cases b with
    | false => dsimp only at h ⊢; injection h with h; rw [h]
    | true =>
      dsimp only at h ⊢
      split at h
      case isFalse => cases h
      rename_i hc
      simp only [Bool.and_eq_true, List.all_eq_true] at hc
      rw [settle_calm _ fun x hx => hc.2 x (settled_operands hx)]
      obtain ⟨⟨u, fr', σ'⟩, h1, h2⟩ := map_some h
      obtain ⟨rfl, rfl⟩ := reader_state hc.1 hc.2 h1
      dsimp only at h2; subst h2
      rw [h1]

theorem guardA_put {o : Oper} (h : ∀ e, o.dst = o.dst → e = d → e ∉ o.looksAt ops) : guardA ops (fr.set d v) o = guardA ops fr o := by
  unfold guardA
  cases hg : o.guard with
  | none => rfl
  | some jw =>
    obtain ⟨j, want⟩ := jw
    dsimp only
    cases hd : (ops[j]?).bind (·.dst) with
    | none => rfl
    | some t =>
      have hm : t ∈ o.looksAt ops := by
        unfold Oper.looksAt
        rw [hg]
        exact List.mem_append_right _ (by simp [hd])
      have hne : d ≠ t := fun e => h d rfl rfl (e ▸ hm)
      dsimp only
      rw [List.getElem?_set_ne hne]

/-- A step does not mind a slot that it does not look at. -/
theorem stepA_put {j : Nat} {o : Oper} {x : Option Tmp} (hj : ops[j]? = some o) (h : ∀ d, x = some d → d ∉ o.looksAt ops) (h' : ∀ d, x = some d → o.dst ≠ some d) :
    stepA C P cfg f ops j (putA x v fr) σ = (stepA C P cfg f ops j fr σ).map fun r => (putA x v r.1, r.2) := by
  cases x with
  | none => simp only [putA]; cases stepA C P cfg f ops j fr σ <;> rfl
  | some d =>
    have hd := h d rfl
    have hd' := h' d rfl
    have hop : ∀ x ∈ o.op.operands.toList, x ≠ .tmp d := fun x hx e => hd (List.mem_append_left _ (List.mem_filterMap.2 ⟨.tmp d, e ▸ hx, rfl⟩))
    have put : ∀ (u : AV) (fr : Fr), putA o.dst u (fr.set d v) = (putA o.dst u fr).set d v := by
      intro u fr
      cases hod : o.dst with
      | none => rfl
      | some e =>
        have hne : d ≠ e := fun h => hd' (by rw [hod, h])
        simp only [putA]
        rw [List.set_comm _ _ hne]
    unfold stepA
    rw [hj]
    show (match guardA ops (fr.set d v) o with
      | some true => match evOp C P cfg f o (settle (fr.set d v) (settled o.op)) σ with
        | some (v, fr, σ) => some (putA o.dst v fr, σ)
        | none => none
      | some false => some (putA o.dst (.tup []) (fr.set d v), σ)
      | none => none) = (match guardA ops fr o with
      | some true => match evOp C P cfg f o (settle fr (settled o.op)) σ with
        | some (v, fr, σ) => some (putA o.dst v fr, σ)
        | none => none
      | some false => some (putA o.dst (.tup []) fr, σ)
      | none => none).map fun (r : Fr × St) => (r.1.set d v, r.2)
    rw [guardA_put fun e _ he => by rw [he]; exact hd]
    cases guardA ops fr o with
    | none => rfl
    | some b =>
      cases b with
      | false => simp only [Option.map_some]; rw [put]
      | true =>
        dsimp only
        rw [settle_set fun x hx => hop x (settled_operands hx), evOp_set hop]
        cases evOp C P cfg f o (settle fr (settled o.op)) σ with
        | none => rfl
        | some r => simp only [Option.map_some]; rw [put]

/-- What a step leaves to those that do not look at its slot. -/
theorem stepA_agree {j : Nat} {o : Oper} {T : List Tmp} (hj : ops[j]? = some o) (h : stepA C P cfg f ops j fr σ = some (fr', σ')) (hT : ∀ d, o.dst = some d → d ∉ T) : Agree T fr fr' := by
  have put : ∀ (u : AV) (fr0 : Fr), Calmer fr fr0 → Agree T fr (putA o.dst u fr0) := by
    intro u fr0 hc
    cases hod : o.dst with
    | none => exact ⟨hc.1, fun t _ ht => hc.2 t ht⟩
    | some d =>
      refine ⟨by simp [putA, hc.1], fun t hm ht => ?_⟩
      have hne : t ≠ d := fun e => hT d hod (e ▸ hm)
      simp only [putA]
      rw [getD_set _ _ _ _ hne]
      exact hc.2 t ht
  unfold stepA at h
  rw [hj] at h
  dsimp only at h
  split at h
  · split at h
    · rename_i he
      simp only [Option.some.injEq, Prod.mk.injEq] at h
      obtain ⟨rfl, _⟩ := h
      exact put _ _ ((settle_calmer _ _).trans (evOp_calmer he))
    · cases h
  · simp only [Option.some.injEq, Prod.mk.injEq] at h
    obtain ⟨rfl, _⟩ := h
    exact put _ _ (Calmer.refl _)
  · cases h

theorem AnyJ.first {i : Nat} {oi : Oper} (hi : ops[i]? = some oi) : ∀ (n : Nat) (listed : Array Bool) (fr : Fr) (σ : St), Closed ops listed →
      (∀ j oj, ops[j]? = some oj → j ≠ i → listed.getD j true = false → (∀ e ∈ oj.after, Region.binds .any e = true → e.on ≠ i) → oi.apart ops oj = true) →
      i ∈ Region.ready .any ops listed → (∀ L s, ¬ Dep cfg f ops L i → J L s → readV C P cfg f ops i fr s = some v) → (∀ L s, J (L.setIfInBounds i true) s → J L s) → AnyJ C P cfg f ops J R n (listed.setIfInBounds i true) (putA oi.dst v fr) σ → AnyJ C P cfg f ops J R (n + 1) listed fr σ := by
  intro n
  induction n with
  | zero =>
    intro listed fr σ hcl _ hr hy hJ H
    refine ⟨hJ _ _ H.here, fun h => (by rw [h] at hr; cases hr), fun j hj => ?_⟩
    by_cases hji : j = i
    · subst hji; exact ⟨_, _, readV_step hi (hy _ σ (not_dep hcl hr) H.here), H⟩
    · have := ready_mono hj hji
      rw [H.1] at this
      cases this
  | succ n ih =>
    intro listed fr σ hcl hfree hr hy hJ H
    refine ⟨hJ _ _ H.here, fun h => (by rw [h] at hr; cases hr), fun j hj => ?_⟩
    by_cases hji : j = i
    · subst hji; exact ⟨_, _, readV_step hi (hy _ σ (not_dep hcl hr) H.here), H⟩
    · obtain ⟨fr2, σ2, h1, h2⟩ := H.2.2 j (ready_mono hj hji)
      obtain ⟨hjun, oj, hoj, hall⟩ := mem_ready.1 hj
      have hnot : ∀ e ∈ oj.after, Region.binds .any e = true → e.on ≠ i := fun e he hb heq => by
        have h1 := hall e he hb
        have h0 := (mem_ready.1 hr).1
        rw [heq] at h1
        rcases Nat.lt_or_ge i listed.size with h' | h'
        · simp [h'] at h0 h1; rw [h0] at h1; cases h1
        · simp [Array.getElem?_eq_none h'] at h1
      obtain ⟨a1, a2, a3⟩ := Oper.apart_spec (hfree j oj hoj hji hjun hnot)
      rw [stepA_put hoj a1 fun d hd => a2 d hd] at h1
      obtain ⟨⟨fr3, σ3⟩, h3, h4⟩ := map_some h1
      simp only [Prod.mk.injEq] at h4
      obtain ⟨rfl, rfl⟩ := h4
      have hfree' : ∀ k ok, ops[k]? = some ok → k ≠ i → (listed.setIfInBounds j true).getD k true = false →
          (∀ e ∈ ok.after, Region.binds .any e = true → e.on ≠ i) → oi.apart ops ok = true := fun k ok hk hki hun hno => by
        refine hfree k ok hk hki ?_ hno
        by_cases hjk : j = k
        · subst hjk; exact hjun
        · rw [getD_set_ne true hjk] at hun; exact hun
      refine ⟨fr3, σ3, h3, ih (listed.setIfInBounds j true) fr3 σ3 (hcl.set hj) hfree' (ready_mono hr (Ne.symm hji)) (fun L s hL hs => readV_agree hi (stepA_agree hoj h3 fun d hd => a3 d hd) (hy L s hL hs)) hJ ?_⟩
      rw [Array.setIfInBounds_comm _ _ hji]
      exact h2

theorem readV_nondep {i : Nat} {o : Oper} (hi : ops[i]? = some o) (hr : readerOp cfg f o = true) (hd : depA ops i fr = false) (h : readV C P cfg f ops i fr σ = some v) (s : St) : readV C P cfg f ops i fr s = some v := by
  unfold readV at h ⊢
  rw [hi] at h ⊢
  dsimp only at h ⊢
  split at h
  · split at h
    · rename_i hc
      simp only [hc, if_true]
      rw [← h]
      exact nondep_eq hi hr hd s
    · cases h
  · exact h
  · cases h

/-- What is checked. -/
def Chk (cfg : Cfg) (f : FuncId) (ops : Array Oper) (chk : List (Nat × (St → Bool))) (L : Array Bool) (s : St) : Prop := ∀ c ∈ chk, Dep cfg f ops L c.1 ∨ c.2 s = true

theorem Chk.less {chk : List (Nat × (St → Bool))} {L : Array Bool} {i : Nat} (hr : isReader cfg f ops i = true) {s : St} (h : Chk cfg f ops chk (L.setIfInBounds i true) s) : Chk cfg f ops chk L s := by
  intro c hc
  rcases h c hc with ⟨j, hj, hn, hk⟩ | h
  · rcases getD_set_cases hj with rfl | hj
    · rw [hr] at hn; cases hn
    · exact .inl ⟨j, hj, hn, hk⟩
  · exact .inr h

/-- May the region be run in that order? -/
def PlanP (cfg : Cfg) (f : FuncId) (ops : Array Oper) : List Nat → Array Bool → Prop
  | [], listed => Region.ready .any ops listed = []
  | i :: rest, listed => i ∈ Region.ready .any ops listed ∧
    (∀ oi, ops[i]? = some oi → isReader cfg f ops i = true → ∀ j oj, ops[j]? = some oj → j ≠ i → listed.getD j true = false → (∀ e ∈ oj.after, Region.binds .any e = true → e.on ≠ i) → oi.apart ops oj = true) ∧
    (isReader cfg f ops i = false → ∀ j ∈ Region.ready .any ops listed, j = i) ∧ PlanP cfg f ops rest (listed.setIfInBounds i true)

theorem evPlan_any : ∀ (l : List Nat) (m : Nat) (listed : Array Bool) (fr : Fr) (σ : St) (chk : List (Nat × (St → Bool))), l.length ≤ m → PlanP cfg f ops l listed → Closed ops listed → (∀ c ∈ chk, c.2 σ = true) →
    evPlan C P cfg f ops l fr σ chk = some R → AnyJ C P cfg f ops (Chk cfg f ops chk) R m listed fr σ
  | [], m, listed, fr, σ, chk, _, hp, _, hc, h => by
    simp only [PlanP] at hp
    simp only [evPlan, Option.some.injEq] at h
    cases m with
    | zero => exact ⟨hp, h, fun c hm => .inr (hc c hm)⟩
    | succ m => exact ⟨fun c hm => .inr (hc c hm), fun _ => h, fun i hi => by rw [hp] at hi; cases hi⟩
  | i :: rest, 0, listed, fr, σ, chk, hm, _, _, _, _ => by simp at hm
  | i :: rest, m + 1, listed, fr, σ, chk, hm, hp, hcl, hc, h => by
    have hm' : rest.length ≤ m := by simpa using hm
    obtain ⟨hready, hfr, hmv, hrest⟩ := hp
    simp only [evPlan] at h
    by_cases hr : isReader cfg f ops i = true
    · simp only [hr, if_true] at h
      cases hv : readV C P cfg f ops i fr σ with
      | none => rw [hv] at h; cases h
      | some v =>
        rw [hv] at h
        dsimp only at h
        have ho : ∃ o, ops[i]? = some o ∧ readerOp cfg f o = true := by
          have hr' := hr
          unfold isReader at hr'
          split at hr'
          · rename_i o ho; exact ⟨o, ho, hr'⟩
          · cases hr'
        obtain ⟨o, ho, hro⟩ := ho
        have hdst : dstOf ops i = o.dst := by simp [dstOf, ho]
        rw [hdst] at h
        have hfree := hfr o ho hr
        by_cases hd : depA ops i fr = true
        · simp only [hd, if_true] at h
          have H := evPlan_any rest m _ _ _ _ hm' hrest (hcl.set hready) (fun c hcm => by
            rcases List.mem_cons.1 hcm with rfl | hcm
            · simp only [hv, sameV, beq_refl]
            · exact hc c hcm) h
          refine AnyJ.mono (fun L s _ hs c hcm => hs c (List.mem_cons_of_mem _ hcm)) (AnyJ.first ho m listed fr σ hcl hfree hready (fun L s hL hs => ?_) (fun L s hs => hs.less hr) H)
          rcases hs _ (List.mem_cons_self) with hdep | hsame
          · exact (hL hdep).elim
          · dsimp only at hsame
            unfold sameV at hsame
            split at hsame
            · rename_i u hu; rw [hu, beq_eq hsame]
            · cases hsame
        · have hd' : depA ops i fr = false := by simpa using hd
          simp only [hd', Bool.false_eq_true, if_false] at h
          have H := evPlan_any rest m _ _ _ _ hm' hrest (hcl.set hready) hc h
          exact AnyJ.first ho m listed fr σ hcl hfree hready (fun L s _ _ => readV_nondep ho hro hd' hv s) (fun L s hs => hs.less hr) H
    · simp only [hr, if_false, Bool.false_eq_true] at h
      cases hs : stepA C P cfg f ops i fr σ with
      | none => rw [hs] at h; cases h
      | some r =>
        obtain ⟨fr', σ'⟩ := r
        rw [hs] at h
        dsimp only at h
        split at h
        case isFalse => cases h
        rename_i hck
        have H := evPlan_any rest m _ _ _ _ hm' hrest (hcl.set hready) (fun c hcm => List.all_eq_true.1 hck c hcm) h
        have hlt : i < listed.size := by
          have h0 := (mem_ready.1 hready).1
          rcases Nat.lt_or_ge i listed.size with h' | h'
          · exact h'
          · simp [Array.getElem?_eq_none h'] at h0
        refine ⟨fun c hm => .inr (hc c hm), fun he => ?_, fun j hj => ?_⟩
        · rw [he] at hready; cases hready
        have : j = i := hmv (by simpa using hr) j hj
        subst this
        refine ⟨fr', σ', hs, AnyJ.mono (fun L s hmore hJ c hcm => ?_) H⟩
        by_cases hh : hangsOn ops j c.1 = true
        · exact .inl ⟨j, hmore j (by simp [hlt]), by simpa using hr, hh⟩
        · exact hJ c (List.mem_filter.2 ⟨hcm, by simpa using hh⟩)
end
end Go.AM
/-! Boxes that go with their call or their round; what a function hands back. -/
namespace Go.AM
open Go
set_option linter.unusedVariables false
set_option linter.unusedSimpArgs false

theorem under_mono1 {m n : Nat} (hmn : m ≤ n) : ∀ (a : AV), AV.under m a = true → AV.under n a = true := by
  intro a
  refine AV.under.induct (motive_2 := fun a => AV.under m a = true → AV.under n a = true) (motive_1 := fun l => AV.under.go m l = true → AV.under.go n l = true) ?_ ?_ ?_ ?_ ?_ ?_ ?_ ?_ a
  all_goals (intros; simp_all [AV.under, AV.under.go])
  all_goals omega

theorem under_mono {m n : Nat} (hmn : m ≤ n) {l : List AV} (h : AV.under.go m l = true) : AV.under.go n l = true :=
  under_mem.2 fun a ha => under_mono1 hmn a (under_mem.1 h a ha)

def G.cut (g : G) (n : Nat) : G := { g with sb := g.sb.take n }
def St.cut (σ : St) (n : Nat) : St := { σ with stk := σ.stk.take n }

theorem scalars_under {n : Nat} : ∀ {l : List AV} {vs : List Value}, scalars l = some vs → AV.under.go n l = true
  | [], _, _ => by simp [AV.under.go]
  | a :: l, vs, h => by
    cases a with
    | s x =>
      simp only [scalars] at h
      obtain ⟨r, h1, _⟩ := map_some h
      simp only [AV.under.go, AV.under, scalars_under h1]; rfl
    | _ => simp [scalars] at h

theorem toV_under {n : Nat} {a : AV} {v : Value} (h : a.toV = some v) : AV.under n a = true := by
  cases a with
  | s x => rfl
  | agg cs =>
    simp only [AV.toV] at h
    obtain ⟨r, h1, _⟩ := map_some h
    simp only [AV.under]; exact scalars_under h1
  | _ => simp [AV.toV] at h

section
variable {P : Program} {g g' g0 g1 g2 : G} {w w' w0 : World} {ow ow' ow0 ow1 : Own} {σ σ' : St} {fr fr' : Fr} {tm : Array Value} {a : Act}

theorem PV.cut {o : Nat → Nat → Prop} {n : Nat} {x : AV} {v : Value} (h : PV g w o x v) (hu : AV.under n x = true) : PV (g.cut n) w o x v := by
  have hg : ∀ {y : AV}, AV.under n y = true → V g w y v → V (g.cut n) w y v := fun hy h => VL.cut h (by simp only [AV.under.go, hy]; rfl)
  cases x with
  | list fl sz es =>
    cases fl with
    | own => obtain ⟨h1, a, len, cap, h2, h3⟩ := h; exact ⟨hg rfl h1, a, len, cap, h2, h3⟩
    | uniq =>
      obtain ⟨a, cap, xs, u⟩ := h
      exact ⟨a, cap, xs, { val := u.val, le := u.le, pos := u.pos, spot := u.spot, elems := u.elems, low := u.low, vl := u.vl.cut (under_low n (under_cells u.low)), cell := u.cell, spare := u.spare, off := u.off, lt := u.lt, all := u.all }⟩
    | sh => exact hg hu h
    | full => exact hg hu h
  | _ => exact hg hu h

theorem BoxOK.cut {o : Nat → Nat → Nat → Prop} {n b : Nat} {cs : List AV} {xs : Array Value} {E : TypeId} {fz : Nat × Nat} (h : BoxOK g w o b cs xs E fz) (hu : AV.under.go n cs = true) : BoxOK (g.cut n) w o b cs xs E fz where
  obj := h.obj
  le := h.le
  val i x hi := by
    obtain ⟨v, h1, h2, h3⟩ := h.val i x hi
    exact ⟨v, h1, h2.cut (under_mem.1 hu x (List.mem_of_getElem? hi)), h3⟩
  wr := h.wr

theorem SS.cut (s : SS g w ow σ) (n : Nat) : SS (g.cut n) w ow (σ.cut n) where
  slen := by simp [G.cut, St.cut, s.slen]
  hlen := s.hlen
  nodup := s.nodup.sublist (List.Sublist.append (List.take_sublist _ _) (List.Sublist.refl _))
  lt := s.lt
  stk m cs hm := by
    simp only [St.cut, List.getElem?_take] at hm
    split at hm
    · rename_i hlt
      obtain ⟨h0, b, xs, E, fz, h1, h2⟩ := s.stk m cs hm
      exact ⟨h0, b, xs, E, fz, by simp only [G.cut, List.getElem?_take, hlt, if_true]; exact h1, h2.cut (under_mono (Nat.le_of_lt hlt) h0)⟩
    · cases hm
  heap m cs hm := by
    obtain ⟨h0, b, xs, E, fz, h1, h2⟩ := s.heap m cs hm
    exact ⟨h0, b, xs, E, fz, h1, h2.cut (under_low n h0)⟩
  maps m es c hm := by
    obtain ⟨b, xs, h1, h2⟩ := s.maps m es c hm
    refine ⟨b, xs, h1, h2.obj, h2.size, fun i e hi => ?_, h2.wr⟩
    obtain ⟨x, h3, h4⟩ := h2.val i e hi
    exact ⟨x, h3, VL.cut h4.key (by simp only [AV.under.go, toV_under (n := n) h4.plain]; rfl), VL.cut h4.val (by simp only [AV.under.go, under_low1 n _ h4.low]; rfl), h4.born, h4.low, h4.plain⟩
  loops m l hm := by
    obtain ⟨b, q, h1, h2⟩ := s.loops m l hm
    exact ⟨b, q, h1, { h2 with fr := h2.fr.cut (under_low n h2.low) }⟩
  iters m l hm := by
    obtain ⟨b, q, h1, h2⟩ := s.iters m l hm
    exact ⟨b, q, h1, h2.obj, h2.nil, h2.map, h2.wr⟩
  dead m hm := s.dead m hm

theorem G.cut_isBox {n b : Nat} (h : (g.cut n).isBox b) : g.isBox b := h.imp (fun h => List.mem_of_mem_take h) id

theorem Rel.cut (r : Rel g w ow fr tm σ) (n : Nat) (hu : AV.under.go n fr = true) : Rel (g.cut n) w ow fr tm (σ.cut n) where
  ss := r.ss.cut n
  own := ⟨r.own.wr, fun p b o h hb => r.own.box p b o h (G.cut_isBox hb), r.own.one⟩
  sf := ⟨r.sf.size, fun i x hi => by
    obtain ⟨v, h1, h2⟩ := r.sf.val i x hi
    exact ⟨v, h1, h2.cut (under_mem.1 hu x (List.mem_of_getElem? hi))⟩⟩

theorem take_of_prefix {l l' : List Nat} (h : ∀ (n b : Nat), l[n]? = some b → l'[n]? = some b) : l'.take l.length = l := by
  apply List.ext_getElem?
  intro i
  rw [List.getElem?_take]
  by_cases hi : i < l.length
  · rw [if_pos hi, List.getElem?_eq_getElem hi]
    exact h i _ (List.getElem?_eq_getElem hi)
  · rw [if_neg hi, List.getElem?_eq_none (by omega)]

theorem Way.cut (h : Way g0 w0 ow0 g w ow) {n : Nat} (hn : g0.sb.length = n) : Way g0 w0 ow0 (g.cut n) w ow where
  tr := ⟨h.tr.size, h.tr.obj, h.tr.cell, h.tr.live, h.tr.froz, h.tr.wr, fun m b hm => by
    have : m < n := hn ▸ (List.getElem?_eq_some_iff.1 hm).1
    simp only [G.cut, List.getElem?_take, this, if_true]; exact h.tr.sb m b hm, h.tr.hb, h.tr.env⟩
  may b o hm := h.may b o (hm.imp (fun ⟨h1, h2⟩ => ⟨G.cut_isBox h1, h2⟩) id)
  keep := h.keep
  hbn := h.hbn

theorem Way.sb_cut (h : Way g0 w0 ow0 g w ow) {n : Nat} (hn : g0.sb.length = n) : (g.cut n).sb = g0.sb := by
  subst hn; exact take_of_prefix h.tr.sb

/-- Slots that live no more. -/
theorem keep_length : ∀ (m : List Bool) (fr : Fr), (AM.keep m fr).length = fr.length
  | [], fr => by simp [AM.keep]
  | true :: m, [] => by simp [AM.keep]
  | false :: m, [] => by simp [AM.keep]
  | true :: m, x :: xs => by simp [AM.keep, keep_length m xs]
  | false :: m, x :: xs => by simp [AM.keep, keep_length m xs]

theorem keep_get : ∀ (m : List Bool) (fr : Fr) (i : Nat) (x : AV), (AM.keep m fr)[i]? = some x → ∃ y, fr[i]? = some y ∧ (x = y ∨ x = .undef)
  | [], fr, i, x, h => ⟨x, by simpa [AM.keep] using h, .inl rfl⟩
  | true :: m, [], i, x, h => by simp [AM.keep] at h
  | false :: m, [], i, x, h => by simp [AM.keep] at h
  | true :: m, y :: ys, i, x, h => by
    cases i with
    | zero => simp [AM.keep] at h; exact ⟨y, rfl, .inl h.symm⟩
    | succ i => simp only [AM.keep, List.getElem?_cons_succ] at h ⊢; exact keep_get m ys i x h
  | false :: m, y :: ys, i, x, h => by
    cases i with
    | zero => simp [AM.keep] at h; exact ⟨y, rfl, .inr h.symm⟩
    | succ i => simp only [AM.keep, List.getElem?_cons_succ] at h ⊢; exact keep_get m ys i x h

theorem Rel.keep (r : Rel g w ow fr tm σ) (m : List Bool) : Rel g w ow (AM.keep m fr) tm σ where
  ss := r.ss
  own := r.own
  sf := ⟨by rw [keep_length]; exact r.sf.size, fun i x hi => by
    obtain ⟨y, h1, h2⟩ := keep_get m fr i x hi
    obtain ⟨v, h3, h4⟩ := r.sf.val i y h1
    rcases h2 with rfl | rfl
    · exact ⟨v, h3, h4⟩
    · exact ⟨v, h3, PV.undef v⟩⟩

/-! ### Results -/
def resV (tm : Array Value) : ResultVar → Sem Value
  | .tmp t => pure (tm.getD t undef)
  | .cell x t => do loadVar t (← asAddr (tm.getD x undef))

theorem cell_run (s : SS g w ow σ) {t : TypeId} {p v : AV} {pv : Value} {s' : St} (h : load P false t p σ = some (v, s')) (hp : V g w p pv) :
    ∃ val, (do loadVar t (← asAddr pv) : Sem Value).run P w = .ok val w ∧ V g w v val := by
  obtain ⟨_, val, h1, h2⟩ := loadAt_run s h hp
  refine ⟨val, ?_, h2⟩
  have : ∃ ad, pv = .pointer (some ad) := by
    unfold load at h
    cases p with
    | ptr r off => obtain ⟨b, rfl, _⟩ := hp.ptr_inv; exact ⟨_, rfl⟩
    | rop cs => cases hp with | rop => exact ⟨_, rfl⟩
    | _ =>
      split at h
      · split at h
        · cases h
        · simp [readCells] at h
      · simp [readCells] at h
      · cases h
  obtain ⟨ad, rfl⟩ := this
  exact h1

/-- A result of its own. -/
theorem result_run (r : Rel g w ow fr tm σ) {x : ResultVar} {v : AV} (h : resultA P fr σ x = some v) : ∃ val o, (resV tm x).run P w = .ok val w ∧ PV g w o v val ∧ (o = Nobody ∨ ∃ t, o = ow (.slot t)) := by
  cases x with
  | tmp t =>
    simp only [resultA, Option.some.injEq] at h; subst h
    exact ⟨_, ow (.slot t), rfl, r.sf.getD t, .inr ⟨t, rfl⟩⟩
  | cell x t =>
    simp only [resultA] at h
    obtain ⟨⟨u, s'⟩, h1, h2⟩ := map_some h
    dsimp only at h2; subst h2
    have hp : V g w (AV.look (fr.getD x .undef)) (tm.getD x undef) := (r.sf.getD x).look
    have h1' : load P false t (AV.look (fr.getD x .undef)) σ = some (u, s') := by
      have : ∀ {y : AV}, load P false t y σ = some (u, s') → load P false t y.look σ = some (u, s') := by
        intro y hy
        cases y with
        | list fl sz es =>
          unfold load at hy
          split at hy
          · split at hy
            · cases hy
            · simp [readCells] at hy
          · simp [readCells] at hy
          · cases hy
        | _ => exact hy
      exact this h1
    obtain ⟨val, h3, h4⟩ := cell_run r.ss h1' hp
    exact ⟨val, Nobody, h3, PV.of h4, .inl rfl⟩

theorem results_run (r : Rel g w ow fr tm σ) : ∀ {l : List ResultVar} {vs : List AV}, resultsA P fr σ l = some vs → ∃ vals, (l.mapM (resV tm)).run P w = .ok vals w ∧ VL g w (vs.map AV.look) vals
  | [], vs, h => by
    simp only [resultsA, Option.some.injEq] at h; subst h
    exact ⟨[], rfl, .nil⟩
  | x :: l, vs, h => by
    simp only [resultsA] at h
    split at h
    · rename_i v vs' h1 h2
      injection h with h; subst h
      obtain ⟨val, o, h3, h4, _⟩ := result_run r h1
      obtain ⟨vals, h5, h6⟩ := results_run r h2
      refine ⟨val :: vals, ?_, VL.cons_of h4.look h6⟩
      rw [List.mapM_cons, Sem.run_bind, h3]
      simp only [Result.andThen_ok, Sem.run_bind, h5]
      rfl
    · cases h

theorem results_eq (fn : Func) (tm : Array Value) : results fn tm = (do let vs ← fn.results.toList.mapM (resV tm); pure (if h : vs.toArray.size = 1 then vs.toArray[0] else .tuple vs.toArray)) := by
  have e : results fn tm = (fn.results.mapM (resV tm) >>= fun vs => pure (if h : vs.size = 1 then vs[0] else .tuple vs)) := by
    unfold results
    refine congrArg (fun (f : ResultVar → Sem Value) => Array.mapM f fn.results >>= fun vs => (pure (if h : vs.size = 1 then vs[0] else Value.tuple vs) : Sem Value)) (funext fun x => ?_)
    cases x <;> rfl
  rw [e]
  conv => lhs; rw [← Array.toArray_toList (xs := fn.results), List.mapM_toArray]
  simp

theorem cut_under {n : Nat} {as : List AV} {vs : List Value} (h : VL g w as vs) (hu : AV.under.go n as = true) : VL (g.cut n) w as vs := VL.cut h hu

theorem look_under {n : Nat} {x : AV} (h : AV.under n x = true) : AV.under n x.look = true := by
  cases x with
  | list fl sz es => cases fl <;> rfl
  | _ => exact h

/-- What a function hands back. -/
theorem finish_run {fn : Func} {base : Nat} {v : AV} (r : Rel g w ow fr tm σ) (W : Way g0 w0 ow0 g w ow) (hb : g0.sb.length = base) (h : finish P base fn fr σ = some (v, σ')) :
    ∃ rv g' ow', (results fn tm).run P w = .ok rv w ∧ Ret g0 w0 ow0 v σ' rv g' w ow' := by
  unfold finish at h
  split at h
  · rename_i x hx
    split at h
    case isFalse => cases h
    rename_i hu
    simp only [Option.some.injEq, Prod.mk.injEq] at h
    obtain ⟨rfl, rfl⟩ := h
    -- one result
    have hl : ∃ z, fn.results.toList = [z] ∧ resultA P fr σ z = some x := by
      match hz : fn.results.toList with
      | [] => rw [hz] at hx; simp [resultsA] at hx
      | [z] =>
        rw [hz] at hx
        simp only [resultsA] at hx
        split at hx
        · rename_i v vs h1 h2
          simp only [Option.some.injEq] at h2 hx; subst h2
          simp only [List.cons.injEq, and_true] at hx; subst hx
          exact ⟨z, rfl, h1⟩
        · cases hx
      | z :: z' :: l =>
        rw [hz] at hx
        simp only [resultsA] at hx
        split at hx
        · rename_i h1 h2
          split at h2
          · simp only [Option.some.injEq] at h2 hx; subst h2; simp at hx
          · cases h2
        · cases hx
    obtain ⟨z, hz, hz1⟩ := hl
    obtain ⟨val, o, h1, h2, h3⟩ := result_run r hz1
    have hrun : (results fn tm).run P w = .ok val w := by
      rw [results_eq, hz, List.mapM_cons, List.mapM_nil]
      simp only [Sem.run_bind, h1, Result.andThen_ok]
      rfl
    let ow' : Own := fun p => match p with | .slot 0 => o | .slot _ => Nobody | p => ow p
    have ho : ∀ p b i, ow' p b i → ow p b i ∨ o b i ∧ p = .slot 0 := by
      intro p b i hp
      cases p with
      | slot j =>
        cases j with
        | zero => exact .inr ⟨hp, rfl⟩
        | succ j => exact (show Nobody b i from hp).elim
      | stk m j => exact .inl hp
      | heap m j => exact .inl hp
    have hown : ∀ b i, o b i → ∃ t, ow (.slot t) b i := by
      intro b i hi
      rcases h3 with rfl | ⟨t, rfl⟩
      · exact hi.elim
      · exact ⟨t, hi⟩
    have hmem : ∀ p b i, ow' p b i → ∃ q, ow q b i := fun p b i hp => (ho p b i hp).elim (fun h => ⟨p, h⟩) fun h => let ⟨t, ht⟩ := hown b i h.1; ⟨_, ht⟩
    have hone : ∀ p q b i, ow' p b i → ow' q b i → p = q := by
      intro p q b i hp hq
      cases p with
      | slot j =>
        cases j with
        | succ j => exact (show Nobody b i from hp).elim
        | zero =>
          obtain ⟨t, ht⟩ := hown b i hp
          cases q with
          | slot k =>
            cases k with
            | zero => rfl
            | succ k => exact (show Nobody b i from hq).elim
          | stk m k => exact Pl.noConfusion (r.own.one _ _ _ _ ht (show ow (.stk m k) b i from hq))
          | heap m k => exact Pl.noConfusion (r.own.one _ _ _ _ ht (show ow (.heap m k) b i from hq))
      | stk m j =>
        cases q with
        | slot k =>
          cases k with
          | zero => obtain ⟨t, ht⟩ := hown b i hq; exact Pl.noConfusion (r.own.one _ _ _ _ ht (show ow (.stk m j) b i from hp))
          | succ k => exact (show Nobody b i from hq).elim
        | stk m' k => exact r.own.one _ _ _ _ (show ow (.stk m j) b i from hp) (show ow (.stk m' k) b i from hq)
        | heap m' k => exact r.own.one _ _ _ _ (show ow (.stk m j) b i from hp) (show ow (.heap m' k) b i from hq)
      | heap m j =>
        cases q with
        | slot k =>
          cases k with
          | zero => obtain ⟨t, ht⟩ := hown b i hq; exact Pl.noConfusion (r.own.one _ _ _ _ ht (show ow (.heap m j) b i from hp))
          | succ k => exact (show Nobody b i from hq).elim
        | stk m' k => exact r.own.one _ _ _ _ (show ow (.heap m j) b i from hp) (show ow (.stk m' k) b i from hq)
        | heap m' k => exact r.own.one _ _ _ _ (show ow (.heap m j) b i from hp) (show ow (.heap m' k) b i from hq)
    have r1 : Rel g w ow' [x] #[val] σ := {
      ss := r.ss.own (fun _ _ _ _ h => h) fun _ _ _ _ h => h
      own := ⟨fun p b i hp => let ⟨q, hq⟩ := hmem p b i hp; r.own.wr _ _ _ hq, fun p b i hp => let ⟨q, hq⟩ := hmem p b i hp; r.own.box _ _ _ hq, hone⟩
      sf := ⟨rfl, fun i y hi => by
        cases i with
        | zero => simp at hi; subst hi; exact ⟨val, rfl, h2⟩
        | succ i => simp at hi⟩ }
    refine ⟨val, g.cut base, ow', hrun, r1.cut base (by simp only [AV.under.go, hu]; rfl), ?_, W.sb_cut hb⟩
    have W' : Way g w ow g w ow' := ⟨Tr.refl _ _ _, fun b i hm => .inl (hm.imp id fun ⟨p, hp⟩ => hmem p b i hp), fun _ _ h => .inr h, fun _ h => .inl h⟩
    have W2 : Way g0 w0 ow0 g w ow' := ⟨W.tr, fun b i hm => W.may b i (hm.imp id fun ⟨p, hp⟩ => hmem p b i hp), W.keep, W.hbn⟩
    exact W2.cut hb
  · rename_i vs hne hx
    split at h
    case isFalse => cases h
    rename_i hu
    simp only [Option.some.injEq, Prod.mk.injEq] at h
    obtain ⟨rfl, rfl⟩ := h
    obtain ⟨vals, h1, h2⟩ := results_run r hx
    have hlen : vs.length ≠ 1 := fun e => by
      match vs, e with
      | [y], _ => exact hne y rfl
    have hlv : vals.length = vs.length := by have := h2.length; simpa using this
    have hrun : (results fn tm).run P w = .ok (.tuple vals.toArray) w := by
      rw [results_eq]
      simp only [Sem.run_bind, h1, Result.andThen_ok]
      rw [dif_neg (by simp; omega)]
      rfl
    let ow' : Own := fun p => match p with | .slot _ => Nobody | p => ow p
    have hsub : ∀ p b i, ow' p b i → ow p b i := by
      intro p b i hp
      cases p with
      | slot j => exact (show Nobody b i from hp).elim
      | stk m j => exact hp
      | heap m j => exact hp
    have r1 : Rel g w ow' [.tup (vs.map AV.look)] #[.tuple vals.toArray] σ := {
      ss := r.ss.own (fun _ _ _ _ h => h) fun _ _ _ _ h => h
      own := ⟨fun p b i hp => r.own.wr _ _ _ (hsub _ _ _ hp), fun p b i hp => r.own.box _ _ _ (hsub _ _ _ hp), fun p q b i hp hq => r.own.one _ _ _ _ (hsub _ _ _ hp) (hsub _ _ _ hq)⟩
      sf := ⟨rfl, fun i y hi => by
        cases i with
        | zero => simp at hi; subst hi; exact ⟨_, rfl, PV.of (.tup (by simpa using h2) .nil)⟩
        | succ i => simp at hi⟩ }
    have hu' : AV.under.go base (vs.map AV.look) = true := under_mem.2 fun y hy => by
      obtain ⟨z, hz, rfl⟩ := List.mem_map.1 hy
      exact look_under (under_mem.1 hu z hz)
    refine ⟨.tuple vals.toArray, g.cut base, ow', hrun, r1.cut base (by simp only [AV.under.go, AV.under, hu']; rfl), ?_, W.sb_cut hb⟩
    have W2 : Way g0 w0 ow0 g w ow' := ⟨W.tr, fun b i hm => W.may b i (hm.imp id fun ⟨p, hp⟩ => ⟨p, hsub _ _ _ hp⟩), W.keep, W.hbn⟩
    exact W2.cut hb
  · cases h
end
end Go.AM
/-! Loops over functions in the state; blocks that are nobody's. -/
namespace Go.AM
open Go
set_option linter.unusedVariables false
set_option linter.unusedSimpArgs false

section
variable {P : Program} {g g' g0 g1 g2 : G} {w w' w0 w1 : World} {ow ow' ow0 ow1 : Own} {σ σ' : St} {fr fr' : Fr} {tm : Array Value}

theorem putObj_get {b : Nat} {o : Obj} (h : b < w.heap.size) (b' : Nat) : (w.putObj b o).heap[b']? = if b' = b then some o else w.heap[b']? := by
  by_cases e : b' = b
  · subst e; rw [if_pos rfl, World.putObj_heap_same h]
  · rw [if_neg e, World.putObj_heap_other e]

theorem putObj_size (w : World) (b : Nat) (o : Obj) : (w.putObj b o).heap.size = w.heap.size := by simp [World.putObj]

/-- The objects without cells. -/
def NoCells (o : Obj) : Prop := ∀ c E fz, o ≠ .cells c E fz

theorem putObj_cell {b : Nat} {o o' : Obj} (h : w.heap[b]? = some o) (h1 : NoCells o) (h2 : NoCells o') (a : Addr) : (w.putObj b o').cell? a = w.cell? a := by
  have hb := (Array.getElem?_eq_some_iff.1 h).1
  unfold World.cell?
  rw [putObj_get hb]
  by_cases e : a.block = b
  · rw [if_pos e, e, h]
    cases o <;> cases o' <;> first | rfl | exact (h1 _ _ _ rfl).elim | exact (h2 _ _ _ rfl).elim
  · rw [if_neg e]

theorem putObj_frozen {b : Nat} {o o' : Obj} (h : w.heap[b]? = some o) (h1 : NoCells o) (h2 : NoCells o') (a : Addr) : (w.putObj b o').frozen? a = w.frozen? a := by
  have hb := (Array.getElem?_eq_some_iff.1 h).1
  unfold World.frozen?
  rw [putObj_get hb]
  by_cases e : a.block = b
  · rw [if_pos e, e, h]
    cases o <;> cases o' <;> first | rfl | exact (h1 _ _ _ rfl).elim | exact (h2 _ _ _ rfl).elim
  · rw [if_neg e]

theorem Tr.putObj {b : Nat} {o o' : Obj} (h : w.heap[b]? = some o) (h1 : NoCells o) (h2 : NoCells o') : Tr (fun b' i => b' = b ∧ i = 0) g w g (w.putObj b o') where
  size := by rw [putObj_size]; exact Nat.le_refl _
  obj b' hb' hm := by
    have e : b' ≠ b := fun e => hm 0 ⟨e, rfl⟩
    rw [World.putObj_heap_other e]
  cell b' i _ _ := putObj_cell h h1 h2 _
  live b' i v hv := ⟨v, by rw [putObj_cell h h1 h2]; exact hv⟩
  froz b' i _ := putObj_frozen h h1 h2 _
  wr _ _ h := .inl h
  sb _ _ h := h
  hb _ _ h := h
  env := ⟨rfl, rfl, rfl⟩

/-- Another object at a heap place: no cells before, none behind. -/
theorem Rel.setObj (r : Rel g w ow fr tm σ) {h b : Nat} {o o' : Obj} {ho : HObj} (hl : h < σ.heap.length) (hb : g.hb[h]? = some b) (hw : w.heap[b]? = some o) (h1 : NoCells o) (h2 : NoCells o') (hwr : g.wr b 0)
    (hc : ∀ cs, ho ≠ .cells cs) (hm : ∀ es c, ho ≠ .map es c) (hlp : ∀ l, ho = .loop l → ∃ q, LoopOK g (w.putObj b o') b l q) (hit : ∀ i, ho = .iter i → ∃ m, IterOK g (w.putObj b o') b i m) :
    Rel g (w.putObj b o') ow fr tm { σ with heap := σ.heap.set h ho } ∧ Way g w ow g (w.putObj b o') ow := by
  have hisb : g.isBox b := .inr (List.mem_of_getElem? hb)
  have t : Tr (fun b' i => b' = b ∧ i = 0) g w g (w.putObj b o') := Tr.putObj hw h1 h2
  have hMw : ∀ b' i, (b' = b ∧ i = 0) → b' = b ∧ g.wr b' i := fun b' i ⟨e1, e2⟩ => ⟨e1, by rw [e1, e2]; exact hwr⟩
  obtain ⟨n1, n2, n3⟩ := nodup_ref r.ss.nodup
  refine ⟨⟨?_, r.own, r.sf.later t (fun b' o h => (hMw b' o h).2) (fun i b' x h h' => r.own.box _ _ _ h (h'.1 ▸ hisb)) fun _ _ _ h => h⟩,
    ⟨t.weaken fun b' o h => .inl ⟨(hMw _ _ h).1 ▸ hisb, (hMw _ _ h).2⟩, fun _ _ h => .inl h, fun _ _ h => .inr h, fun _ h => .inl h⟩⟩
  refine r.ss.replace r.own hisb t hMw (fun b' o h => t.lt (r.ss.lt _ _ h)) rfl rfl (fun _ _ _ _ h => h) rfl (by simp) ?_ ?_ ?_ ?_ ?_ (fun _ _ => rfl) ?_ (fun _ _ _ _ _ h => h) (fun _ _ _ _ _ h => h)
  · intro n cs _ hmb; exact (n3 _ _ _ hmb hb).elim
  · intro n cs hn hmb
    obtain rfl := n2 _ _ _ hmb hb
    rw [List.getElem?_set_self hl] at hn
    exact (hc cs (Option.some.inj hn)).elim
  · intro n es c hn hmb
    obtain rfl := n2 _ _ _ hmb hb
    rw [List.getElem?_set_self hl] at hn
    exact (hm es c (Option.some.inj hn)).elim
  · intro n l hn hmb
    obtain rfl := n2 _ _ _ hmb hb
    rw [List.getElem?_set_self hl] at hn
    exact hlp l (Option.some.inj hn)
  · intro n l hn hmb
    obtain rfl := n2 _ _ _ hmb hb
    rw [List.getElem?_set_self hl] at hn
    exact hit l (Option.some.inj hn)
  · intro n hne
    have e : h ≠ n := fun e => hne (e ▸ hb)
    show (σ.heap.set h ho)[n]? = _
    rw [List.getElem?_set_ne e]

theorem noCells_loop (r : Loop) : NoCells (.loop r) := fun _ _ _ h => by cases h
theorem noCells_deferred (d : Option (List Deferred)) : NoCells (.deferred d) := fun _ _ _ h => by cases h

/-- The state of a loop turns. -/
theorem Rel.setLoop (r : Rel g w ow fr tm σ) {h b : Nat} {l l' : LoopA} {q q' : Loop} (hh : σ.heap[h]? = some (.loop l)) (hb : g.hb[h]? = some b) (hq : LoopOK g w b l q)
    (h1 : q'.params.toList = l'.params) (h2 : q'.assign = l'.assign) (h3 : q'.body = l'.body) (h4 : q'.state = loopState l') (h5 : q'.pending = l'.pending.map Ex.toCode) (h6 : l'.fr = l.fr) (h7 : q'.tmps = q.tmps) :
    Rel g (w.putObj b (.loop q')) ow fr tm (AM.setLoop σ h l') ∧ Way g w ow g (w.putObj b (.loop q')) ow := by
  refine r.setObj (ho := .loop l') (List.getElem?_eq_some_iff.1 hh).1 hb hq.obj (noCells_loop _) (noCells_loop _) hq.wr (fun _ h => by cases h) (fun _ _ h => by cases h) (fun l'' e => ⟨q', ?_⟩) (fun _ h => by cases h)
  injection e with e; subst e
  have hbl := (Array.getElem?_eq_some_iff.1 hq.obj).1
  have t : Tr (fun b' i => b' = b ∧ i = 0) g w g (w.putObj b (.loop q')) := Tr.putObj hq.obj (noCells_loop _) (noCells_loop _)
  exact { obj := World.putObj_heap_same hbl, params := h1, assign := h2, body := h3, state := h4, pending := h5, fr := by rw [h6, h7]; exact hq.fr.later (t.later fun b' i ⟨e1, e2⟩ => by rw [e1, e2]; exact hq.wr), low := by rw [h6]; exact hq.low, wr := hq.wr }

/-- A loop is over. -/
theorem Rel.killLoop (r : Rel g w ow fr tm σ) {h b : Nat} {l : LoopA} {q q' : Loop} (hh : σ.heap[h]? = some (.loop l)) (hb : g.hb[h]? = some b) (hq : LoopOK g w b l q) :
    Rel g (w.putObj b (.loop q')) ow fr tm { σ with heap := σ.heap.set h .dead } ∧ Way g w ow g (w.putObj b (.loop q')) ow :=
  r.setObj (ho := .dead) (List.getElem?_eq_some_iff.1 hh).1 hb hq.obj (noCells_loop _) (noCells_loop _) hq.wr (fun _ h => by cases h) (fun _ _ h => by cases h) (fun _ h => by cases h) (fun _ h => by cases h)

/-- A block that is nobody's is new. -/
theorem Rel.other_new (r : Rel g w ow fr tm σ) (o : Obj) : Rel g (w.alloc o) ow fr tm σ ∧ Way g w ow g (w.alloc o) ow := by
  have t : Tr Nought g w ⟨g.sb, g.hb, fun b i => g.wr b i ∨ b = w.heap.size ∧ False⟩ (w.alloc o) := Tr.new (ob := o) rfl (X := fun _ => False) (fun _ _ h => h) (fun _ _ h => h)
  have t' : Tr Nought g w g (w.alloc o) := ⟨t.size, t.obj, t.cell, t.live, t.froz, fun _ _ h => .inl h, t.sb, t.hb, t.env⟩
  exact ⟨⟨r.ss.still t' (fun b i h => t'.lt (r.ss.lt _ _ h)) rfl rfl (fun _ _ _ h => h) (fun _ _ _ _ h => h) (fun _ _ _ _ h => h), r.own, r.sf.later t' (fun _ _ h => h.elim) (fun _ _ _ _ h => h) fun _ _ _ h => h⟩,
    ⟨t'.weaken fun _ _ h => h.elim, fun _ _ h => .inl h, fun _ _ h => .inr h, fun _ h => .inl h⟩⟩

/-- A loop is new. -/
theorem Rel.newLoop (r : Rel g w ow fr tm σ) {l : LoopA} {q : Loop} (h1 : q.params.toList = l.params) (h2 : q.assign = l.assign) (h3 : q.body = l.body) (h4 : q.state = loopState l) (h5 : q.pending = l.pending.map Ex.toCode)
    (h6 : VL g w l.fr q.tmps.toList) (h7 : AV.under.go 0 l.fr = true) :
    ∃ g', Rel g' (w.alloc (.loop q)) ow fr tm { σ with heap := σ.heap ++ [.loop l] } ∧ Way g w ow g' (w.alloc (.loop q)) ow ∧ g'.hb[σ.heap.length]? = some w.heap.size ∧ g'.sb = g.sb ∧ (∀ b o, g'.wr b o → g.wr b o ∨ b = w.heap.size) := by
  have hnew : (w.alloc (.loop q)).heap[w.heap.size]? = some (.loop q) := by
    show (w.heap.push _)[w.heap.size]? = _
    simp
  have t : Tr Nought g w ⟨g.sb, g.hb ++ [w.heap.size], fun b o => g.wr b o ∨ b = w.heap.size ∧ o = 0⟩ (w.alloc (.loop q)) := Tr.new (ob := .loop q) rfl (X := fun o => o = 0) (fun _ _ h => h) (fun n b hn => by rw [List.getElem?_append_left (List.getElem?_eq_some_iff.1 hn).1]; exact hn)
  have hlt : ∀ {b : Nat}, g.isBox b → b ≠ w.heap.size := fun hb e => by have := G.isBox_lt r.ss hb; omega
  have hib : ∀ b, (⟨g.sb, g.hb ++ [w.heap.size], fun b o => g.wr b o ∨ b = w.heap.size ∧ o = 0⟩ : G).isBox b → g.isBox b ∨ b = w.heap.size := fun b hb => by
    rcases hb with hb | hb
    · exact .inl (.inl hb)
    · rcases List.mem_append.1 hb with hb | hb
      · exact .inl (.inr hb)
      · exact .inr (by simpa using hb)
  have hown : ∀ p b o, ow p b o → b < w.heap.size := fun p b o h => r.ss.lt _ _ (r.own.wr _ _ _ h)
  have at_new : ∀ {n : Nat} {x : HObj}, (σ.heap ++ [HObj.loop l])[n]? = some x → σ.heap[n]? = some x ∧ n < σ.heap.length ∨ n = σ.heap.length ∧ x = .loop l := by
    intro n x hn
    by_cases e : n < σ.heap.length
    · rw [List.getElem?_append_left e] at hn; exact .inl ⟨hn, e⟩
    · have e' : n = σ.heap.length := by
        have := (List.getElem?_eq_some_iff.1 hn).1
        simp at this; omega
      subst e'
      rw [List.getElem?_append_right (Nat.le_refl _)] at hn
      simp at hn
      exact .inr ⟨rfl, hn.symm⟩
  have s' : SS ⟨g.sb, g.hb ++ [w.heap.size], fun b o => g.wr b o ∨ b = w.heap.size ∧ o = 0⟩ (w.alloc (.loop q)) ow { σ with heap := σ.heap ++ [.loop l] } := {
    slen := r.ss.slen
    hlen := by simp [r.ss.hlen]
    nodup := by
      show (g.sb ++ (g.hb ++ [w.heap.size])).Nodup
      rw [← List.append_assoc]
      refine List.nodup_append.2 ⟨r.ss.nodup, by simp, fun a ha b hb => ?_⟩
      rw [List.mem_singleton.1 hb]
      exact hlt ((List.mem_append.1 ha).imp id id)
    lt := fun b o h => by
      rcases h with h | h
      · exact t.lt (r.ss.lt _ _ h)
      · rw [h.1]; show w.heap.size < (w.heap.push _).size; simp
    stk := fun n c hn => by
      obtain ⟨h0, b, xs, E, fz, k1, k2⟩ := r.ss.stk n c hn
      exact ⟨h0, b, xs, E, fz, k1, k2.still t (fun i b x h => h) fun o h => .inl h⟩
    heap := fun n c hn => by
      rcases at_new hn with ⟨hn, _⟩ | ⟨_, e⟩
      · obtain ⟨h0, b, xs, E, fz, k1, k2⟩ := r.ss.heap n c hn
        exact ⟨h0, b, xs, E, fz, t.hb _ _ k1, k2.still t (fun i b x h => h) fun o h => .inl h⟩
      · cases e
    maps := fun n es c hn => by
      rcases at_new hn with ⟨hn, _⟩ | ⟨_, e⟩
      · obtain ⟨b, xs, k1, k2⟩ := r.ss.maps n es c hn
        exact ⟨b, xs, t.hb _ _ k1, k2.still t fun o h => .inl h⟩
      · cases e
    loops := fun n l' hn => by
      rcases at_new hn with ⟨hn, _⟩ | ⟨rfl, e⟩
      · obtain ⟨b, k, k1, k2⟩ := r.ss.loops n l' hn
        exact ⟨b, k, t.hb _ _ k1, k2.still t fun o h => .inl h⟩
      · injection e with e; subst e
        exact ⟨w.heap.size, q, by simp [← r.ss.hlen], { obj := hnew, params := h1, assign := h2, body := h3, state := h4, pending := h5, fr := h6.later (t.later fun _ _ h => h.elim), low := h7, wr := .inr ⟨rfl, rfl⟩ }⟩
    iters := fun n l' hn => by
      rcases at_new hn with ⟨hn, _⟩ | ⟨rfl, e⟩
      · obtain ⟨b, k, k1, k2⟩ := r.ss.iters n l' hn
        exact ⟨b, k, t.hb _ _ k1, k2.still t fun o h => .inl h⟩
      · cases e
    dead := fun n hn => by
      rcases at_new hn with ⟨hn, _⟩ | ⟨_, e⟩
      · obtain ⟨b, k1, k2⟩ := r.ss.dead n hn
        exact ⟨b, t.hb _ _ k1, t.lt k2⟩
      · cases e }
  have o' : OW ⟨g.sb, g.hb ++ [w.heap.size], fun b o => g.wr b o ∨ b = w.heap.size ∧ o = 0⟩ ow := ⟨fun p b o h => .inl (r.own.wr _ _ _ h), fun p b o h hb => (hib b hb).elim (r.own.box _ _ _ h) fun e => by have := hown _ _ _ h; omega, r.own.one⟩
  refine ⟨_, ⟨s', o', r.sf.later t (fun _ _ h => h.elim) (fun _ _ _ _ h => h) fun _ _ _ h => h⟩, ⟨t.weaken fun _ _ h => h.elim, fun b o hm => ?_, fun _ _ h => .inr (.inl h), fun b hb => (List.mem_append.1 hb).imp id fun h => Nat.le_of_eq ((List.mem_singleton.1 h).symm)⟩, by simp [← r.ss.hlen], rfl, fun b o h => h.imp id fun h => h.1⟩
  rcases hm with ⟨hb, hw⟩ | hm
  · rcases hib b hb with hb | hb
    · rcases hw with hw | hw
      · exact .inl (.inl ⟨hb, hw⟩)
      · exact .inr (Nat.le_of_eq hw.1.symm)
    · exact .inr (Nat.le_of_eq hb.symm)
  · exact .inl (.inr hm)

/-- A block that is nobody's, and without cells, turns. -/
theorem Rel.other_put (r : Rel g w ow fr tm σ) {b : Nat} {d d' : Option (List Deferred)} (h : w.heap[b]? = some (.deferred d)) : Rel g (w.putObj b (.deferred d')) ow fr tm σ := by
  have hbl := (Array.getElem?_eq_some_iff.1 h).1
  have t : Tr (fun b' i => b' = b ∧ i = 0) g w g (w.putObj b (.deferred d')) := Tr.putObj h (noCells_deferred _) (noCells_deferred _)
  have hcell : ∀ a, (w.putObj b (.deferred d')).cell? a = w.cell? a := putObj_cell h (noCells_deferred _) (noCells_deferred _)
  have hfroz : ∀ a, (w.putObj b (.deferred d')).frozen? a = w.frozen? a := putObj_frozen h (noCells_deferred _) (noCells_deferred _)
  have L : Later g w g (w.putObj b (.deferred d')) := ⟨fun _ _ h => h, fun _ _ h => h, fun b' i v hv hw => ⟨by rw [hcell]; exact hv, hw⟩⟩
  have hsp : ∀ {o : Nat → Nat → Prop} {a : Addr} {lo hi : Nat}, Spare w o a lo hi → Spare (w.putObj b (.deferred d')) o a lo hi := fun hs => hs.later t
  have hpv : ∀ {o : Nat → Nat → Prop} {x : AV} {v : Value}, PV g w o x v → PV g (w.putObj b (.deferred d')) o x v := by
    intro o x v hx
    cases x with
    | list fl sz es =>
      cases fl with
      | own => obtain ⟨k1, a, len, cap, k2, k30, k3⟩ := hx; exact ⟨VL.later L k1, a, len, cap, k2, k30, hsp k3⟩
      | uniq =>
        obtain ⟨a, cap, xs, u⟩ := hx
        exact ⟨a, cap, xs, { u with vl := u.vl.later L, cell := fun i v hi => by rw [hcell]; exact u.cell i v hi, spare := hsp u.spare, lt := t.lt u.lt }⟩
      | sh => exact VL.later L hx
      | full => exact VL.later L hx
    | _ => exact VL.later L hx
  have hobj : ∀ {b' : Nat} {o : Obj}, w.heap[b']? = some o → (∀ d, o ≠ .deferred d) → (w.putObj b (.deferred d')).heap[b']? = some o := by
    intro b' o ho hne
    have e : b' ≠ b := fun e => by subst e; rw [h] at ho; exact hne _ (Option.some.inj ho).symm
    rw [World.putObj_heap_other e]; exact ho
  have hbox : ∀ {o : Nat → Nat → Nat → Prop} {b' : Nat} {cs : List AV} {xs : Array Value} {E : TypeId} {fz : Nat × Nat}, BoxOK g w o b' cs xs E fz → BoxOK g (w.putObj b (.deferred d')) o b' cs xs E fz := fun k =>
    { obj := hobj k.obj (fun _ h => by cases h), le := k.le, val := fun i a hi => let ⟨v, k1, k2, k3⟩ := k.val i a hi; ⟨v, k1, hpv k2, k3⟩, wr := k.wr }
  exact {
    ss := {
      slen := r.ss.slen, hlen := r.ss.hlen, nodup := r.ss.nodup
      lt := fun b' i hw => t.lt (r.ss.lt _ _ hw)
      stk := fun n cs hn => let ⟨h0, b', xs, E, fz, k1, k2⟩ := r.ss.stk n cs hn; ⟨h0, b', xs, E, fz, k1, hbox k2⟩
      heap := fun n cs hn => let ⟨h0, b', xs, E, fz, k1, k2⟩ := r.ss.heap n cs hn; ⟨h0, b', xs, E, fz, k1, hbox k2⟩
      maps := fun n es c hn => let ⟨b', xs, k1, k2⟩ := r.ss.maps n es c hn; ⟨b', xs, k1, { obj := hobj k2.obj (fun _ h => by cases h), size := k2.size, val := fun i e hi => let ⟨x, k3, k4⟩ := k2.val i e hi; ⟨x, k3, k4.later L⟩, wr := k2.wr }⟩
      loops := fun n l hn => let ⟨b', q, k1, k2⟩ := r.ss.loops n l hn; ⟨b', q, k1, { k2 with obj := hobj k2.obj (fun _ h => by cases h), fr := k2.fr.later L }⟩
      iters := fun n l hn => let ⟨b', q, k1, k2⟩ := r.ss.iters n l hn; ⟨b', q, k1, { k2 with obj := hobj k2.obj (fun _ h => by cases h) }⟩
      dead := fun n hn => let ⟨b', k1, k2⟩ := r.ss.dead n hn; ⟨b', k1, t.lt k2⟩ }
    own := r.own
    sf := ⟨r.sf.size, fun i x hi => let ⟨v, k1, k2⟩ := r.sf.val i x hi; ⟨v, k1, hpv k2⟩⟩ }

theorem Way.other_put (W : Way g0 w0 ow0 g w ow) {b : Nat} {d d' : Option (List Deferred)} (h : w.heap[b]? = some (.deferred d)) (hb : w0.heap.size ≤ b) : Way g0 w0 ow0 g (w.putObj b (.deferred d')) ow where
  tr := {
    size := by rw [putObj_size]; exact W.tr.size
    obj := fun b' hb' hm => by rw [World.putObj_heap_other (by omega)]; exact W.tr.obj b' hb' hm
    cell := fun b' i hb' hm => by rw [putObj_cell h (noCells_deferred _) (noCells_deferred _)]; exact W.tr.cell b' i hb' hm
    live := fun b' i v hv => by rw [putObj_cell h (noCells_deferred _) (noCells_deferred _)]; exact W.tr.live b' i v hv
    froz := fun b' i hb' => by rw [putObj_frozen h (noCells_deferred _) (noCells_deferred _)]; exact W.tr.froz b' i hb'
    wr := W.tr.wr, sb := W.tr.sb, hb := W.tr.hb
    env := ⟨W.tr.env.1, W.tr.env.2.1, W.tr.env.2.2⟩ }
  may := W.may
  keep := W.keep
  hbn := W.hbn
end
end Go.AM
