import Derived.Test.YthbiajoionockaaAm16
import Derived.Laws.IdiomStrings
/-! Conversions; rows that were lists, and back. -/
namespace Go.AM
open Go
set_option linter.unusedVariables false
set_option linter.unusedSimpArgs false

section
variable {P : Program} {g g' : G} {w w' : World} {ow ow' ow1 : Own} {σ σ' : St} {fr fr' : Fr} {tm : Array Value} {a : Act} {dst : Option Tmp}

theorem bytesIn_V : ∀ {cs : List AV} {vs : List Value} {l : List UInt8}, VL g w cs vs → bytesIn cs = some l → ∃ ns : List Int, vs = ns.map (Value.int .u8) ∧ l = ns.map fun n => UInt8.ofNat n.toNat
  | [], vs, l, h, hb => by simp [bytesIn] at hb; subst hb; rw [h.nil_left]; exact ⟨[], rfl, rfl⟩
  | c :: cs, vs, l, h, hb => by
    obtain ⟨v, vs', rfl, h1, h2⟩ := h.cons_left
    unfold bytesIn at hb
    split at hb
    · rename_i heq; cases heq
    · rename_i n r heq
      injection heq with e1 e2; subst e1; subst e2
      cases hr : bytesIn cs with
      | none => simp [hr] at hb
      | some l' =>
        simp [hr] at hb; subst hb
        obtain ⟨ns, k1, k2⟩ := bytesIn_V h2 hr
        exact ⟨n :: ns, by rw [h1.sc_inv, k1]; rfl, by rw [k2]; rfl⟩
    · cases hb

theorem foldl_push : ∀ (ns : List Int) (r : ByteArray), ns.foldl (fun r n => r.push (UInt8.ofNat n.toNat)) r = ⟨r.data ++ (ns.map fun n => UInt8.ofNat n.toNat).toArray⟩
  | [], r => by simp
  | n :: ns, r => by
    rw [List.foldl_cons, foldl_push ns]
    simp [ByteArray.push]

theorem bytesIn_cells {items : List AV} {l : List UInt8} (h : bytesIn items = some l) : items.flatMap AV.cells = items := by
  induction items generalizing l with
  | nil => rfl
  | cons c cs ih =>
    unfold bytesIn at h
    split at h
    · rename_i heq; cases heq
    · rename_i n r heq
      injection heq with e1 e2; subst e1; subst e2
      cases hr : bytesIn cs with
      | none => simp [hr] at h
      | some l' => rw [List.flatMap_cons, ih hr]; rfl
    · cases h

theorem convert_out (r : Rel g w ow fr tm σ) {s d : TypeId} {z0 v : AV} {xv : Value} (h : convert P s d z0 σ = some v) (hx : V g w z0 xv) :
    ∃ val w', (Go.convert s d xv).run P w = .ok val w' ∧ ∃ g' ow', Out g w ow dst v fr σ tm g' w' ow' val := by
  unfold AM.convert at h
  split at h
  · rename_i ds k k' n hs hd
    injection h with h; subst h
    obtain rfl := hx.sc_inv
    refine ⟨.int k (k.wrap n), w, ?_, g, Out.pure r (.sc (.int k _) .nil)⟩
    simp [Go.convert, run_underlying hs, run_underlying hd, Sc.toV, Conv.intToInt]
  · rename_i ds l hs hd
    injection h with h; subst h
    obtain rfl := hx.sc_inv
    refine ⟨_, w, ?_, g, Out.pure r (.sc (.str l) .nil)⟩
    simp [Go.convert, run_underlying hs, run_underlying hd, Sc.toV]
  · rename_i e l hs hd
    split at h
    case h_2 => cases h
    rename_i he
    split at h
    case isFalse => cases h
    rename_i hc
    injection h with h; subst h
    obtain rfl := hx.sc_inv
    obtain ⟨hc1, hc2, hc3⟩ := hc
    have hsz : (ByteArray.mk l.toArray).size = l.length := by simp [ByteArray.size]
    have hrun := run_bytes_of_string (P := P) w s d e ⟨l.toArray⟩ hs hd he
    rw [hsz] at hrun
    have hge := grownCap_ge w l.length 0 e
    generalize grownCap w l.length 0 e = cap at hrun hge
    have hrow : (bytesRow ⟨l.toArray⟩ cap).size = cap := by simp [bytesRow]; omega
    rw [hrow] at hrun
    refine ⟨_, _, hrun, ?_⟩
    have hw : (w.drew.alloc (.cells (bytesRow ⟨l.toArray⟩ cap) e (cap, cap + 1))).heap = w.heap.push (.cells ((l.map fun (b : UInt8) => Value.int .u8 b.toNat) ++ List.replicate (cap - l.length) (Value.int .u8 0)).toArray e (cap, cap + 1)) := by
      show w.heap.push _ = _
      congr 2
      apply Array.ext'
      simp [bytesRow, hsz]
    obtain ⟨wr', ro, k1, k2, k3, k4, k5, k7, k6⟩ := r.fresh (sz := 1) (cap := cap) (es := l.map fun b => AV.s (.int .u8 b.toNat)) (xs := l.map fun b => Value.int .u8 b.toNat) (rest := List.replicate (cap - l.length) (Value.int .u8 0)) (E := e) (fz := (cap, cap + 1)) Nat.one_pos
      (fun x hx => by obtain ⟨b, _, rfl⟩ := List.mem_map.1 hx; exact ⟨rfl, fun c hc => by simp [AV.cells] at hc; subst hc; rfl⟩)
      (under_mem.2 fun x hx => by obtain ⟨b, _, rfl⟩ := List.mem_map.1 hx; rfl) (str_V l) (by simpa using hge) (by simp; omega) (by intro o ho; omega) hw
    rw [List.length_map] at k6
    exact Out.new k1 k2 k3 k4 k5 k7 k6
  · rename_i z1 _ _ _ e hs hd hne
    split at h
    case h_2 => cases h
    rename_i he
    split at h
    case isFalse => cases h
    rename_i hc
    simp only [Bool.and_eq_true, beq_iff_eq] at hc
    obtain ⟨hc1, hc2⟩ := hc
    cases hit : elems P e z1 σ with
    | none => simp [hit] at h
    | some items =>
      simp only [hit, Option.bind_some] at h
      cases hb : bytesIn items with
      | none => simp [hb] at h
      | some l =>
        simp only [hb, Option.map_some, Option.some.injEq] at h
        subst h
        obtain ⟨news, hsrc, hnv, hel, hlen, hpre⟩ := elems_run r.ss (t := s) hit (by simp [srcOK, hs, hc1]) hx (by omega)
        rw [bytesIn_cells hb] at hnv
        obtain ⟨ns, k1, k2⟩ := bytesIn_V hnv hb
        subst k1; subst k2
        refine ⟨_, w, ?_, g, Out.pure r (.sc (.str _) .nil)⟩
        have hn : ns.length = items.length := by have := hnv.length; simpa using this
        have hfull := hpre items.length (Nat.le_refl _)
        rw [hc2, Nat.mul_one, List.take_of_length_le (by simp [hn])] at hfull
        -- what kind of slice
        have hk : xv = .slice none 0 0 ∨ ∃ ad n c, xv = .slice (some ad) n c ∧ n = items.length := by
          cases z1 with
          | s y =>
            cases y <;> simp [AV.isSlice] at hc1
            exact .inl hx.sc_inv
          | list fl sz es =>
            obtain ⟨ad, cap, rfl, _⟩ := hx.list_inv
            refine .inr ⟨_, _, _, rfl, ?_⟩
            simp only [Builtin.lenOf] at hlen
            exact Sem.pure.inj hlen
          | row rf off len cap =>
            obtain ⟨b, c, rfl, _⟩ := hx.row_inv
            refine .inr ⟨_, _, _, rfl, ?_⟩
            simp only [Builtin.lenOf] at hlen
            exact Sem.pure.inj hlen
          | _ => simp [AV.isSlice] at hc1
        rcases hk with rfl | ⟨ad, n, c, rfl, rfl⟩
        · have hn0 : items.length = 0 := (Sem.pure.inj (show Sem.pure 0 = Sem.pure items.length from hlen)).symm
          have hns : ns = [] := List.length_eq_zero_iff.1 (by omega)
          subst hns
          simp [Go.convert, run_underlying hs, run_underlying hd, run_underlying he, Conv.bytesToString, Sc.toV]
          rfl
        · have hload : (loadCells ad items.length).run P w = .ok (ns.map (Value.int .u8)).toArray w := by simpa [Builtin.firstCells] using hfull
          have := run_bytesToString (P := P) w ad items.length c ns hload
          simp [Go.convert, run_underlying hs, run_underlying hd, run_underlying he, this, Sc.toV]
          rw [foldl_push]
          simp
  · cases h
end
end Go.AM
