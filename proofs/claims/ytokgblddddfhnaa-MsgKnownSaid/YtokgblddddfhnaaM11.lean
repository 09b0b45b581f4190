import Derived.Test.YtokgblddddfhnaaM10
set_option linter.unusedSimpArgs false
set_option linter.unusedVariables false
namespace Go.AM
open Go
set_option maxRecDepth 20000
def cmpK (a b : Key) : Int := Lib.compareBytes a.b b.b
def withinK (k a b : Key) : Bool := decide (0 ≤ cmpK k a) && (decide (b = key0) || decide (cmpK k b < 0))
end Go.AM
namespace Go.AM
open Go
set_option maxRecDepth 20000
def cntK (k : Key) : List Key → Nat
  | [] => 0
  | p :: l => (if cmpK p k ≤ 0 then 1 else 0) + cntK k l
end Go.AM
namespace Go.AM
open Go
set_option maxRecDepth 20000
end Go.AM
namespace Go.AM
open Go
set_option maxRecDepth 20000
end Go.AM
namespace Go.AM
open Go
set_option maxRecDepth 20000
def aboveK (l : List Key) (a : Key) (i : Nat) : Bool := match l[i]? with
  | some p => decide (0 < cmpK p a)
  | none => true
def belowK (l : List Key) (b : Key) (i : Nat) : Bool := decide (i = 0) || decide (b = key0) || (match l[i - 1]? with
  | some p => decide (cmpK p b < 0)
  | none => true)
def covUp (l : List Key) (a b : Key) (n : Nat) : List Nat := (List.range n).filter fun i => aboveK l a i && belowK l b i
def coverK (l : List Key) (a b : Key) : List Nat := if b ≠ key0 ∧ cmpK b a ≤ 0 then [] else covUp l a b (l.length + 1)
end Go.AM
namespace Go.AM
open Go
set_option maxRecDepth 20000
def Steps (c : List Nat) : Prop := ∀ i, 0 < i → (h : i < c.length) → c[i] = c[i - 1] + 1
structure WholeP (pts : List Key) (a b fr to : Key) : Prop where
  good : ∀ k, goodR k = true → goodK k = true
  lt : cntK a pts ≤ pts.length
  mono : cmpK a b ≤ 0 → cntK a pts ≤ cntK b pts
  cons : Steps (coverK pts fr to)
  small : ∀ x ∈ coverK pts fr to, x ≤ pts.length
  mem : withinK a fr to = true → cntK a pts ∈ coverK pts fr to
end Go.AM
namespace Go.AM
open Go
end Go.AM
namespace Go.AM
open Go
set_option maxRecDepth 20000
def GoodWS (C : CallW) (f : FuncId) : Prop := ∀ (l : List Wr) S H (K : AV → St → Prop), l.length ≤ 9223372036854775807 → (∀ G, K (.bool (sgood [] l)) ⟨S, H ++ G⟩) → C (.fn f) [lstW l] ⟨S, H⟩ K
set_option maxHeartbeats 8000000 in
theorem store_Good_spec {C : CallW} (hC : LeC C C) (P : Program) {c : Nat → FuncId} (h0 : BoolK goodK C (c 0)) : ∀ (l : List Wr) S H (K : AV → St → Prop), l.length ≤ 9223372036854775807 → (∀ G, K (.bool (sgood [] l)) ⟨S, H ++ G⟩) → runL C P (C_store_Good c) [lstW l] ⟨S, H⟩ K := by
  intro l S H K hl hK
  simp only [lstW, C_store_Good, A_, simprocAttr, ne_eq, (U_store_Good _).1]
  refine loop_rule hC (α := Nat) (fun a => l.length - a) (fun a => [.undef, .undef, .undef, .map H.length, .undef, .undef, .undef, .list .sh 18 (l.map wA), .s (.int .i64 l.length), .s (.int .i64 a), .undef, .undef, .undef, .undef, .undef, .undef, .undef, .undef, .undef, .undef, .undef, .undef, .undef, .undef, .undef, .undef, .undef, .undef, .undef, .undef, .undef, .undef, .undef, .undef, .undef, .undef, .undef, .undef, .undef, .undef, .undef, .undef]) (fun _ => S) (fun a => H ++ [.map (seenE ((l.take a).map Wr.key)) a]) (fun a => a ≤ l.length ∧ sgood [] l = sgood ((l.take a).map Wr.key) (l.drop a)) 0 ⟨by simp, by simp⟩ rfl (by simp) rfl (fun a _ => by simp [AV.under, AV.under.go]) ?_
  rintro i ⟨hi, hinv⟩ ih
  by_cases h16 : i < l.length
  · have hlt : ((i : Int) < (l.length : Int)) := by omega
    have hw : IntKind.i64.wrap ((i : Int) + 1) = (i : Int) + 1 := wrap_i64 (by omega) (by omega)
    have htk : (l.take (i + 1)).map Wr.key = (l.take i).map Wr.key ++ [(l[i]).key] := by rw [List.take_succ_eq_append_getElem h16, List.map_append]; rfl
    rw [List.drop_eq_getElem_cons h16, sgood, ← htk] at hinv
    simp only [A_, simprocAttr, ne_eq, (U_store_Good _).1, hlt, h16]
    refine h0 _ _ _ _ ?_
    cases e1 : goodK (l[i]).key with
    | false =>
      rw [if_pos e1] at hinv
      rw [hinv] at hK
      simp only [A_, simprocAttr, ne_eq, (U_store_Good _).1]
      exact hK _
    | true =>
      rw [if_neg (by simp [e1])] at hinv
      simp only [A_, simprocAttr, ne_eq, (U_store_Good _).1, look_seen]
      by_cases e2 : (l[i]).key ∈ (l.take i).map Wr.key
      · rw [if_pos e2] at hinv
        rw [hinv] at hK
        simp only [A_, simprocAttr, ne_eq, (U_store_Good _).1, e2]
        exact hK _
      · rw [if_neg e2] at hinv
        have hup := upd_seen (S := S ++ [wc l[i]]) (H := H) (n := i) e2 (by simp; omega)
        rw [← htk] at hup
        by_cases e3 : 200 < (l[i]).val.length
        · have e3' : ((200 : Int) < ((l[i]).val.length : Int)) := by omega
          rw [if_pos e3] at hinv
          rw [hinv] at hK
          simp only [A_, simprocAttr, ne_eq, (U_store_Good _).1, e2, e3']
          exact hK _
        · have e3' : ¬ ((200 : Int) < ((l[i]).val.length : Int)) := by omega
          rw [if_neg e3] at hinv
          cases e4 : (l[i]).gone with
          | false =>
            rw [if_neg (by simp [e4])] at hinv
            simp only [A_, simprocAttr, ne_eq, (U_store_Good _).1, e2, e3', e4, hup, hw]
            exact ih (i + 1) _ _ _ (by omega) ⟨by omega, hinv⟩ rfl (by simp) rfl
          | true =>
            by_cases e5 : (l[i]).val = []
            · rw [if_neg (by simp [e5])] at hinv
              have e5' := eq_true e5
              simp only [A_, simprocAttr, ne_eq, (U_store_Good _).1, e2, e3', e4, e5', hup, hw]
              exact ih (i + 1) _ _ _ (by omega) ⟨by omega, hinv⟩ rfl (by simp) rfl
            · rw [if_pos ⟨e4, e5⟩] at hinv
              rw [hinv] at hK
              simp only [A_, simprocAttr, ne_eq, (U_store_Good _).1, e2, e3', e4, e5]
              exact hK _
  · have hlt : ¬ ((i : Int) < (l.length : Int)) := by omega
    rw [List.drop_of_length_le (by omega)] at hinv
    rw [hinv] at hK
    simp only [A_, simprocAttr, ne_eq, (U_store_Good _).1, hlt]
    exact hK _
end Go.AM
namespace Go.AM
open Go
set_option maxRecDepth 20000
end Go.AM
namespace Go.AM
open Go
set_option maxRecDepth 20000
def putW (w : Wr) : List UInt8 := w.key.b ++ ((if w.gone then 1 else 0) :: (putN w.val.length ++ w.val))
def putWs (l : List Wr) : List UInt8 := putN l.length ++ l.flatMap putW
theorem flatW_take {l : List Wr} {i : Nat} (h : i < l.length) : (l.take (i + 1)).flatMap putW = (l.take i).flatMap putW ++ putW l[i] := by
  rw [List.take_succ_eq_append_getElem h, List.flatMap_append]; simp
theorem putN_flag (g : Bool) : putN (if g then 1 else 0) = [if g then 1 else 0] := by cases g <;> exact putN_lt (by decide)
theorem group_any {e : ET} (he : e.ag = false) (hc : e.c = 1) : ∀ (n : Nat) (cs : List AV), cs.length = n → groupL e n cs = cs
  | 0, cs, h => by cases cs <;> simp_all [groupL]
  | n + 1, [], h => by simp at h
  | n + 1, c :: cs, h => by
    simp only [groupL, packL, hc, he, List.take_succ_cons, List.take_zero, List.drop_succ_cons, List.drop_zero, List.getD_cons_zero]
    rw [group_any he hc n cs (by simpa using h)]
theorem elems_key {σ : St} {r : Ref} {k : Key} {rest : List AV} (h : boxOf σ r = some (bs k.b ++ rest)) : elemsL eB (.row r 0 16 16) σ = some (bs k.b) := by
  unfold elemsL
  have hl : 0 + 16 * 1 ≤ (bs k.b ++ rest).length := by simp [kc_length]
  have e : (false || (1 : Nat) == 1) = true := rfl
  simp only [eB, e, if_true, readCells, h, Option.bind_some, Nat.mul_one] at hl ⊢
  rw [if_pos ⟨hl, .inl (by omega)⟩]
  have : (((bs k.b ++ rest).drop 0).take 16).map AV.look = bs k.b := by rw [List.drop_zero, take_kc, map_look_bs]
  simp only [Option.map_some, Nat.zero_add, Nat.mul_one, this]
  rw [group_any rfl rfl 16 _ (kc_length k)]
theorem app_bu2 {b d : List UInt8} {x : AV} {σ : St} (hs : srcL false x = true) (he : elemsL eB x σ = some (bs d)) (hb : b.length + d.length ≤ 1000000000000) : appendL eB false (.list .uniq 1 (bs b)) x σ = some (.list .uniq 1 (bs (b ++ d)), σ) := by
  have h := app_bu (b := b) (d := d) (fl2 := .sh) (σ := σ) hb
  have he2 : elemsL eB (.list .sh 1 (bs d)) σ = some (bs d) := by simp [elemsL]
  rw [← h]
  unfold appendL
  have hs2 : srcL false (.list .sh 1 (bs d)) = true := rfl
  rw [hs, hs2, he, he2]
theorem storeL_last {S : List (List AV)} {H G : List HObj} {n : Nat} {old vs : List AV} (h : old.length = n) (hv : vs.length = n) (hn : 2 ≤ n) (hu : AV.under.go 0 vs = true) : storeL n (.ptr (.heap (H.length + G.length)) 0) (.agg vs) ⟨S, H ++ (G ++ [.cells old])⟩ = some ⟨S, H ++ (G ++ [.cells vs])⟩ := by
  have := storeL_heap (S := S) (H := H) (l := G ++ [.cells old]) (j := G.length) (n := n) (vs := vs) (by simp) (by simp [List.getD, hcells, h]) hv hn hu
  rw [this]
  simp
def PutWS (C : CallW) (f : FuncId) : Prop := ∀ (a : AV) (b : List UInt8) (l : List Wr) S H (K : AV → St → Prop), BA a b → b.length ≤ 1000000 → l.length ≤ 1000 → (∀ w ∈ l, w.val.length ≤ 100000) → (∀ G, K (.list .uniq 1 (bs (b ++ putWs l))) ⟨S, H ++ G⟩) → C (.fn f) [a, lstW l] ⟨S, H⟩ K
theorem flat_len {l : List Wr} (hv : ∀ w ∈ l, w.val.length ≤ 100000) : (l.flatMap putW).length ≤ 100027 * l.length := by
  induction l with
  | nil => simp
  | cons w l ih =>
    have h1 := ih (fun x hx => hv x (List.mem_cons_of_mem _ hx))
    have h2 := hv w (List.mem_cons_self ..)
    have h3 := putN_len10 (v := w.val.length) (by omega)
    rw [List.flatMap_cons, List.length_append, List.length_cons]
    have : (putW w).length ≤ 100027 := by
      unfold putW
      rw [List.length_append, w.key.h, List.length_cons, List.length_append]; omega
    omega
set_option maxHeartbeats 16000000 in
theorem rec_PutWrites_spec {C : CallW} (hC : LeC C C) (P : Program) {c : Nat → FuncId} (h0 : NumS C (c 0)) : ∀ (b : List UInt8) (l : List Wr) S H (K : AV → St → Prop), b.length ≤ 1000000 → l.length ≤ 1000 → (∀ w ∈ l, w.val.length ≤ 100000) → (∀ G, K (.list .uniq 1 (bs (b ++ putWs l))) ⟨S, H ++ G⟩) → runL C P (C_rec_PutWrites c) [.list .sh 1 (bs b), lstW l] ⟨S, H⟩ K := by
  intro b l S H K hb hl hv hK
  simp only [lstW, C_rec_PutWrites, A_, simprocAttr, ne_eq, (U_rec_PutWrites _).1]
  refine h0 _ b l.length _ _ _ .l (by omega) (by omega) ?_
  have hp := putN_len10 (v := l.length) (by omega)
  simp only [A_, simprocAttr, ne_eq, (U_rec_PutWrites _).1]
  refine loop_rule hC (α := Nat × List HObj) (fun a => l.length - a.1) (fun a => [.list .uniq 1 (bs (b ++ (putN l.length ++ (l.take a.1).flatMap putW))), .undef, .undef, .undef, .undef, .undef, .undef, .undef, .undef, .undef, .undef, .list .sh 18 (l.map wA), .s (.int .i64 l.length), .s (.int .i64 a.1), .undef, .undef, .undef, .undef, .undef, .undef, .undef, .undef, .undef, .undef, .undef, .undef, .undef, .undef, .undef, .undef, .undef, .undef, .undef, .undef, .undef, .undef, .undef]) (fun _ => S) (fun a => H ++ a.2) (fun a => a.1 ≤ l.length) (0, []) (by simp) (by simp only [List.take_zero, List.flatMap_nil, List.append_nil]; rfl) (by simp) (by simp) (fun a _ => by simp [AV.under, AV.under.go]) ?_
  rintro ⟨i, G⟩ hi ih
  dsimp only at hi ih ⊢
  by_cases h16 : i < l.length
  · have hlt : ((i : Int) < (l.length : Int)) := by omega
    have hw : IntKind.i64.wrap ((i : Int) + 1) = (i : Int) + 1 := wrap_i64 (by omega) (by omega)
    have hcl : (b ++ (putN l.length ++ (l.take i).flatMap putW)).length ≤ 200000000 := by
      have := flat_len (l := l.take i) (fun w hw => hv w (List.mem_of_mem_take hw))
      rw [List.length_take] at this
      simp only [List.length_append]
      have : 100027 * min i l.length ≤ 100027 * 1000 := Nat.mul_le_mul_left _ (by omega)
      omega
    have hvi := hv l[i] (List.getElem_mem h16)
    have hlen1 : (b ++ (putN l.length ++ (l.take (i + 1)).flatMap putW)) = (b ++ (putN l.length ++ (l.take i).flatMap putW)) ++ ((l[i]).key.b ++ ((if (l[i]).gone then 1 else 0) :: (putN (l[i]).val.length ++ (l[i]).val))) := by
      rw [flatW_take h16, putW]; simp only [List.append_assoc]
    generalize hcur : b ++ (putN l.length ++ (l.take i).flatMap putW) = cur at hcl hlen1 ⊢
    have hb1 : boxOf ⟨S, H ++ (G ++ [HObj.cells (wc l[i])])⟩ (.heap (H.length + G.length)) = some (wc l[i]) := by
      rw [boxOf_heap, app_get]; simp [cellsOf?]
    have hk := (l[i]).key.h
    have happ := app_bu2 (b := cur) (d := (l[i]).key.b) (x := .row (.heap (H.length + G.length)) 0 16 16) (σ := ⟨S, H ++ (G ++ [HObj.cells (wc l[i])])⟩) rfl (elems_key (rest := [.s (.str (l[i]).val), .s (.bool (l[i]).gone)]) (by rw [hb1]; rfl)) (by omega)
    simp only [eB] at happ
    have hbx : (H ++ (G ++ [HObj.cells (wc l[i])]))[H.length + G.length]? = some (.cells (wc l[i])) := by rw [app_get]; simp
    have hst := storeL_last (S := S) (H := H) (G := G) (n := 18) (old := bs key0.b ++ [.s (.str []), .s (.bool false)]) (vs := wc l[i]) rfl (wc_length _) (by omega) wc_under
    have hflag : ∀ (g : Bool), putN (if g = true then 1 else 0) = [if g = true then 1 else 0] := putN_flag
    cases hg : (l[i]).gone with
    | true =>
      rw [hg] at hlen1
      simp only [A_, simprocAttr, ne_eq, (U_rec_PutWrites _).1, hlt, h16, hst, happ, hg]
      refine h0 _ (cur ++ (l[i]).key.b) 1 _ _ _ .l (by simp; omega) (by omega) ?_
      have hf1 : putN 1 = [1] := putN_flag true
      have hp2 := putN_len10 (v := (l[i]).val.length) (by omega)
      rw [hf1]
      simp only [A_, simprocAttr, ne_eq, (U_rec_PutWrites _).1]
      refine h0 _ _ (l[i]).val.length _ _ _ .l (by simp; omega) (by omega) ?_
      have ha2 := app_bstr (b := cur ++ (l[i]).key.b ++ [1] ++ putN (l[i]).val.length) (d := (l[i]).val) (σ := ⟨S, H ++ (G ++ [HObj.cells (wc l[i])])⟩) (by simp; omega)
      simp only [eB, List.append_assoc, List.cons_append, List.nil_append] at ha2
      have hn2 : cur ++ ((l[i]).key.b ++ 1 :: (putN (l[i]).val.length ++ (l[i]).val)) = b ++ (putN l.length ++ (l.take (i + 1)).flatMap putW) := by
        rw [hlen1]; simp
      rw [hn2] at ha2
      simp only [A_, simprocAttr, ne_eq, (U_rec_PutWrites _).1, ha2, hw]
      exact ih (i + 1, G ++ [HObj.cells (wc l[i])]) _ _ _ (by dsimp only; omega) (by dsimp only; omega) rfl (by simp) (by simp)
    | false =>
      rw [hg] at hlen1
      simp only [A_, simprocAttr, ne_eq, (U_rec_PutWrites _).1, hlt, h16, hst, happ, hg]
      refine h0 _ (cur ++ (l[i]).key.b) 0 _ _ _ .l (by simp; omega) (by omega) ?_
      have hf1 : putN 0 = [0] := putN_flag false
      have hp2 := putN_len10 (v := (l[i]).val.length) (by omega)
      rw [hf1]
      simp only [A_, simprocAttr, ne_eq, (U_rec_PutWrites _).1]
      refine h0 _ _ (l[i]).val.length _ _ _ .l (by simp; omega) (by omega) ?_
      have ha2 := app_bstr (b := cur ++ (l[i]).key.b ++ [0] ++ putN (l[i]).val.length) (d := (l[i]).val) (σ := ⟨S, H ++ (G ++ [HObj.cells (wc l[i])])⟩) (by simp; omega)
      simp only [eB, List.append_assoc, List.cons_append, List.nil_append] at ha2
      have hn2 : cur ++ ((l[i]).key.b ++ 0 :: (putN (l[i]).val.length ++ (l[i]).val)) = b ++ (putN l.length ++ (l.take (i + 1)).flatMap putW) := by
        rw [hlen1]; simp
      rw [hn2] at ha2
      simp only [A_, simprocAttr, ne_eq, (U_rec_PutWrites _).1, ha2, hw]
      exact ih (i + 1, G ++ [HObj.cells (wc l[i])]) _ _ _ (by dsimp only; omega) (by dsimp only; omega) rfl (by simp) (by simp)
  · have hlt : ¬ ((i : Int) < (l.length : Int)) := by omega
    have : i = l.length := by omega
    subst this
    rw [List.take_length]
    unfold putWs at hK
    simp only [A_, simprocAttr, ne_eq, (U_rec_PutWrites _).1, hlt]
    exact hK _
end Go.AM
namespace Go.AM
open Go
set_option maxRecDepth 20000
def TxtS (C : CallW) (f : FuncId) : Prop := ∀ (a : AV) (b s : List UInt8) S H (K : AV → St → Prop), BA a b → b.length ≤ 1000000000 → s.length ≤ 1000000000 → K (.list .uniq 1 (bs (b ++ (putN s.length ++ s)))) ⟨S, H⟩ → C (.fn f) [a, .s (.str s)] ⟨S, H⟩ K
end Go.AM
namespace Go.AM
open Go
set_option maxRecDepth 20000
def wrR (r : Rd) : Wr × Rd :=
  (⟨(keyR r).1, (textR (mostR 200 (mostR 1 (keyR r).2).2).1 (mostR 200 (mostR 1 (keyR r).2).2).2).1, decide ((mostR 1 (keyR r).2).1 = 1)⟩, (textR (mostR 200 (mostR 1 (keyR r).2).2).1 (mostR 200 (mostR 1 (keyR r).2).2).2).2)
def wrsR : Nat → Rd → List Wr × Rd
  | 0, r => ([], r)
  | n + 1, r => ((wrR r).1 :: (wrsR n (wrR r).2).1, (wrsR n (wrR r).2).2)
def writesR (r : Rd) : List Wr × Rd :=
  ((wrsR (mostR 16 r).1 (mostR 16 r).2).1, if sgood [] (wrsR (mostR 16 r).1 (mostR 16 r).2).1 = true then (wrsR (mostR 16 r).1 (mostR 16 r).2).2 else none)
theorem wrR_ok {r : Rd} (h : rok r) : rok (wrR r).2 := textR_ok (mostR_ok (mostR_ok (keyR_ok h)))
theorem wrsR_ok : ∀ (n : Nat) {r : Rd}, rok r → rok (wrsR n r).2
  | 0, r, h => h
  | n + 1, r, h => wrsR_ok n (wrR_ok h)
theorem wrsR_len : ∀ (n : Nat) (r : Rd), (wrsR n r).1.length = n
  | 0, r => rfl
  | n + 1, r => by rw [wrsR, List.length_cons, wrsR_len n]
theorem writesR_ok {r : Rd} (h : rok r) : rok (writesR r).2 := by
  unfold writesR
  dsimp only
  split
  · exact wrsR_ok _ (mostR_ok h)
  · exact rok_none
theorem set_kc17 {k : Key} {a b x : AV} : (bs k.b ++ [a, b]).set 17 x = bs k.b ++ [a, x] := by
  rw [List.set_append_right _ _ (by rw [kc_length]; omega), kc_length]; rfl
theorem set_kc16 {k : Key} {a b x : AV} : (bs k.b ++ [a, b]).set 16 x = bs k.b ++ [x, b] := by
  rw [List.set_append_right _ _ (by rw [kc_length]; omega), kc_length]; rfl
def WritesS (C : CallW) (f : FuncId) : Prop := ∀ (j : Nat) (r : Rd) S H (K : AV → St → Prop), S[j]? = some (rdc r) → rok r → (∀ G, K (lstW (writesR r).1) ⟨S.set j (rdc (writesR r).2), H ++ G⟩) → C (.fn f) [.ptr (.stk j) 0] ⟨S, H⟩ K
set_option maxHeartbeats 16000000 in
theorem rec_Writes_spec {C : CallW} (hC : LeC C C) (hW : WkC C) (P : Program) {c : Nat → FuncId} (h0 : ∀ m : Nat, m < 9223372036854775808 → RdS C (c 0) [.s (.int .i64 m)] fun r => (.s (.int .i64 ((mostR m r).1 : Nat)), (mostR m r).2)) (h1 : RdS C (c 1) [] fun r => (.agg (bs (keyR r).1.b), (keyR r).2)) (h2 : ∀ n : Nat, RdS C (c 2) [.s (.int .i64 n)] fun r => (.s (.str (textR n r).1), (textR n r).2)) (h3 : GoodWS C (c 3)) (h4 : RdS C (c 4) [] fun _ => (.tup [], none)) :
    ∀ (j : Nat) (r : Rd) S H (K : AV → St → Prop), S[j]? = some (rdc r) → rok r → (∀ G, K (lstW (writesR r).1) ⟨S.set j (rdc (writesR r).2), H ++ G⟩) → runL C P (C_rec_Reader_Writes c) [.ptr (.stk j) 0] ⟨S, H⟩ (fun v s => ∃ b, (b = v ∨ WkL [v.sh] [b]) ∧ K b s) := by
  intro j r S H K hj hr hK
  have hjl := stkj_lt hj
  simp only [C_rec_Reader_Writes, A_, simprocAttr, ne_eq, (U_rec_Reader_Writes _).1]
  refine h0 16 (by omega) j r _ _ _ hj hr ?_
  simp only [A_, simprocAttr, ne_eq, (U_rec_Reader_Writes _).1]
  generalize hn : (mostR 16 r).1 = n
  have hn16 : n ≤ 16 := by rw [← hn]; exact mostR_le 16 r
  have hr1 : rok (mostR 16 r).2 := mostR_ok hr
  generalize hrr : (mostR 16 r).2 = r1 at hr1
  unfold writesR at hK
  rw [hn, hrr] at hK
  refine loop_rule hC (α := Nat × List Wr × Rd) (fun a => n - a.1) (fun a => [.ptr (.stk j) 0, .undef, .undef, slG 18 (a.2.1.map wA), .undef, .undef, .s (.int .i64 n), .s (.int .i64 a.1), .undef, .undef, .undef, .undef, .undef, .undef, .undef, .undef, .undef, .undef, .undef, .undef, .undef, .undef, .undef, .undef, .undef, .undef, .undef, .undef, .undef, .undef, .undef, .undef]) (fun a => S.set j (rdc a.2.2)) (fun a => H) (fun a => a.1 ≤ n ∧ rok a.2.2 ∧ a.2.1.length = a.1 ∧ wrsR n r1 = (a.2.1 ++ (wrsR (n - a.1) a.2.2).1, (wrsR (n - a.1) a.2.2).2)) (0, [], r1) ⟨by simp, hr1, rfl, by simp⟩ rfl (by simp [take_set]) rfl (fun a _ => by simp [AV.under, AV.under.go, slG_under]; omega) ?_
  rintro ⟨i, acc, q⟩ ⟨hi, hq, hal, hinv⟩ ih
  dsimp only at hi hq hal hinv ih ⊢
  have hj1 : (S.set j (rdc q))[j]? = some (rdc q) := stkj_set hj
  by_cases h16 : i < n
  · have hlt : ((i : Int) < (n : Int)) := by omega
    have hw : IntKind.i64.wrap ((i : Int) + 1) = (i : Int) + 1 := wrap_i64 (by omega) (by omega)
    simp only [A_, simprocAttr, ne_eq, (U_rec_Reader_Writes _).1, hlt]
    refine h1 j q _ _ _ hj1 hq ?_
    rw [List.set_set]
    obtain ⟨S1, hS1, hl1⟩ := set_len (S := S) (j := j) (x := rdc (keyR q).2)
    have hq1 : rok (keyR q).2 := keyR_ok hq
    have hj2 : S1[j]? = some (rdc (keyR q).2) := by rw [← hS1]; exact stkj_set hj
    simp only [hS1, hl1, A_, simprocAttr, ne_eq, (U_rec_Reader_Writes _).1, fillL]
    refine h0 1 (by omega) j _ _ _ _ (stkj_app hj2) hq1 ?_
    rw [setj_app (stkj_lt hj2)]
    obtain ⟨S2, hS2, hl2⟩ := set_len (S := S1) (j := j) (x := rdc (mostR 1 (keyR q).2).2)
    have hq2 : rok (mostR 1 (keyR q).2).2 := mostR_ok hq1
    have hj3 : S2[j]? = some (rdc (mostR 1 (keyR q).2).2) := by rw [← hS2]; exact stkj_set hj2
    simp only [hS2, hl2, A_, simprocAttr, ne_eq, (U_rec_Reader_Writes _).1, set_kc17]
    refine h0 200 (by omega) j _ _ _ _ (stkj_app hj3) hq2 ?_
    rw [setj_app (stkj_lt hj3)]
    obtain ⟨S3, hS3, hl3⟩ := set_len (S := S2) (j := j) (x := rdc (mostR 200 (mostR 1 (keyR q).2).2).2)
    have hq3 : rok (mostR 200 (mostR 1 (keyR q).2).2).2 := mostR_ok hq2
    have hj4 : S3[j]? = some (rdc (mostR 200 (mostR 1 (keyR q).2).2).2) := by rw [← hS3]; exact stkj_set hj3
    simp only [hS3, hl3, A_, simprocAttr, ne_eq, (U_rec_Reader_Writes _).1]
    refine h2 _ j _ _ _ _ (stkj_app hj4) hq3 ?_
    rw [setj_app (stkj_lt hj4)]
    obtain ⟨S4, hS4, hl4⟩ := set_len (S := S3) (j := j) (x := rdc (textR (mostR 200 (mostR 1 (keyR q).2).2).1 (mostR 200 (mostR 1 (keyR q).2).2).2).2)
    have hS4' : S4 = S.set j (rdc (wrR q).2) := by rw [← hS4, ← hS3, ← hS2, ← hS1, List.set_set, List.set_set, List.set_set]; rfl
    have hde : decide ((((mostR 1 (keyR q).2).1 : Nat) : Int) = 1) = decide ((mostR 1 (keyR q).2).1 = 1) := by
      by_cases h : (mostR 1 (keyR q).2).1 = 1 <;> simp [h]; omega
    have happ : appendL ⟨18, true, 40, (.agg (zk ++ [(.s (.str [])), (.s (.bool false))]))⟩ false (slG 18 (acc.map wA)) (.list .full 18 [.agg (bs (keyR q).1.b ++ [.s (.str (textR (mostR 200 (mostR 1 (keyR q).2).2).1 (mostR 200 (mostR 1 (keyR q).2).2).2).1), .s (.bool (decide ((mostR 1 (keyR q).2).1 = 1)))])]) ⟨S4 ++ [bs (keyR q).1.b ++ [.s (.str (textR (mostR 200 (mostR 1 (keyR q).2).2).1 (mostR 200 (mostR 1 (keyR q).2).2).2).1), .s (.bool (decide ((mostR 1 (keyR q).2).1 = 1)))]], H⟩ = some (slG 18 ((acc ++ [(wrR q).1]).map wA), ⟨S4 ++ [bs (keyR q).1.b ++ [.s (.str (textR (mostR 200 (mostR 1 (keyR q).2).2).1 (mostR 200 (mostR 1 (keyR q).2).2).2).1), .s (.bool (decide ((mostR 1 (keyR q).2).1 = 1)))]], H⟩) := by
      have := app_slG (e := ⟨18, true, 40, (.agg (zk ++ [(.s (.str [])), (.s (.bool false))]))⟩) (es := acc.map wA) (a := wA (wrR q).1) (σ := ⟨S4 ++ [wc (wrR q).1], H⟩) wA_under (by rw [List.length_map]; dsimp only; omega)
      rw [List.map_append]
      exact this
    simp only [zk_eq] at happ
    simp only [hS4, hl4, A_, simprocAttr, ne_eq, (U_rec_Reader_Writes _).1, set_kc16, hde, happ, hw]
    rw [hl4.symm.trans (hl3.symm.trans (hl2.symm.trans hl1.symm))]
    refine ih (i + 1, acc ++ [(wrR q).1], (wrR q).2) _ _ _ (by dsimp only; omega) ⟨by dsimp only; omega, wrR_ok hq, by simp [hal], ?_⟩ rfl ?_ rfl
    · dsimp only
      rw [hinv, show n - i = (n - (i + 1)) + 1 by omega, wrsR]
      simp
    · rw [hl1.trans (hl2.trans (hl3.trans hl4)), app_take]; exact hS4'
  · have hlt : ¬ ((i : Int) < (n : Int)) := by omega
    have hin : n - i = 0 := by omega
    rw [hin, wrsR, List.append_nil] at hinv
    rw [hinv] at hK
    dsimp only at hK
    have fin1 : ∀ (v : AV) G, (lstW acc = v ∨ WkL [v.sh] [lstW acc]) → (∃ b, (b = v ∨ WkL [v.sh] [b]) ∧ K b ⟨S.set j (rdc (if sgood [] acc = true then q else none)), H ++ G⟩) := fun v G h => ⟨lstW acc, h, hK G⟩
    cases acc with
    | nil =>
      simp only [A_, simprocAttr, ne_eq, (U_rec_Reader_Writes _).1, hlt]
      refine hW _ _ [lstW []] _ _ (.nilS (by omega) .nil) ?_
      refine h3 [] _ _ _ (by simp) fun G => ?_
      have hg : sgood [] [] = true := rfl
      rw [hg, if_pos rfl] at fin1
      simp only [A_, simprocAttr, ne_eq, (U_rec_Reader_Writes _).1, hg, take_set]
      exact fin1 _ G (.inr (.nilS (by omega) .nil))
    | cons w acc =>
      have hsl : slG 18 ((w :: acc).map wA) = .list .uniq 18 ((w :: acc).map wA) := by unfold slG; rw [if_neg (by simp)]
      have hal2 : (w :: acc).length ≤ 16 := by omega
      generalize hacc : w :: acc = l at *
      have h3' := h3 l
      unfold lstW at h3'
      simp only [A_, simprocAttr, ne_eq, (U_rec_Reader_Writes _).1, hlt, hsl]
      refine h3' _ _ _ (by omega) fun G => ?_
      cases hg : sgood [] l with
      | true =>
        rw [hg, if_pos rfl] at fin1
        simp only [A_, simprocAttr, ne_eq, (U_rec_Reader_Writes _).1, take_set]
        exact fin1 _ G (.inr (show WkL [.list .sh 18 _] _ from .same .nil))
      | false =>
        rw [hg, if_neg (by simp)] at fin1
        simp only [A_, simprocAttr, ne_eq, (U_rec_Reader_Writes _).1]
        refine h4 j q _ _ _ hj1 hq ?_
        rw [List.set_set]
        simp only [A_, simprocAttr, ne_eq, (U_rec_Reader_Writes _).1, take_set]
        exact fin1 _ G (.inr (show WkL [.list .sh 18 _] _ from .same .nil))
end Go.AM
namespace Go.AM
open Go
set_option maxRecDepth 20000
def restLe (a b : Rd) : Prop := ∀ q, b = some q → ∃ p, a = some p ∧ q.length ≤ p.length
theorem restLe.refl (a : Rd) : restLe a a := fun q h => ⟨q, h, Nat.le_refl _⟩
theorem restLe.trans {a b c : Rd} (h : restLe a b) (h2 : restLe b c) : restLe a c := fun q hq => by
  obtain ⟨p, hp, hl⟩ := h2 q hq
  obtain ⟨p2, hp2, hl2⟩ := h p hp
  exact ⟨p2, hp2, by omega⟩
end Go.AM
namespace Go.AM
open Go
set_option maxRecDepth 20000
end Go.AM
namespace Go.AM
open Go
set_option maxRecDepth 20000
end Go.AM
namespace Go.AM
open Go
structure Rec where
  kind : Int
  id : Int
  snap : Stp
  stamp : Stp
  writes : List Wr
  yes : Bool
  parts : List Int
  deriving DecidableEq
def okR (r : Rec) : Prop := r.writes.length ≤ 9223372036854775807 ∧ r.parts.length ≤ 9223372036854775807
end Go.AM
namespace Go.AM
open Go
set_option maxRecDepth 20000
def EqWS (C : CallW) (f : FuncId) : Prop := ∀ (a b : List Wr) S H (K : AV → St → Prop), a.length ≤ 9223372036854775807 → b.length ≤ 9223372036854775807 → K (.bool (decide (a = b))) ⟨S, H⟩ → C (.fn f) [lstW a, lstW b] ⟨S, H⟩ K
theorem Equal_Write_spec {C : CallW} (hC : LeC C C) (P : Program) : ∀ (a b : List Wr) S H (K : AV → St → Prop), a.length ≤ 9223372036854775807 → b.length ≤ 9223372036854775807 → K (.bool (decide (a = b))) ⟨S, H⟩ → runL C P C_slices_Equal_Write [lstW a, lstW b] ⟨S, H⟩ K := by
  intro a b S H K ha hb hK
  by_cases hl : a.length = b.length
  case neg =>
    have hl' : ¬ ((a.length : Int) = (b.length : Int)) := by omega
    rw [decide_eq_false (fun e => hl (by rw [e]))] at hK
    simp only [lstW, C_slices_Equal_Write, A_, simprocAttr, ne_eq, U_slices_Equal_Write.1, hl']
    exact hK
  have hl' := eq_true (show ((a.length : Int) = (b.length : Int)) by omega)
  simp only [lstW, C_slices_Equal_Write, A_, simprocAttr, ne_eq, U_slices_Equal_Write.1, hl']
  refine loop_rule hC (α := Nat) (fun i => a.length - i) (fun i => [.list .sh 18 (a.map wA), .list .sh 18 (b.map wA), .undef, .undef, .undef, .undef, .undef, .undef, .undef, .undef, .undef, .undef, .s (.int .i64 a.length), .s (.int .i64 i), .undef, .undef, .undef, .undef, .undef, .undef, .undef, .undef, .undef, .undef, .undef, .undef]) (fun _ => S) (fun _ => H) (fun i => i ≤ a.length ∧ decide (a = b) = decide (a.drop i = b.drop i)) 0 ⟨by simp, by simp⟩ rfl (by simp) rfl (fun a _ => by simp [AV.under, AV.under.go]) ?_
  rintro i ⟨hi, hinv⟩ ih
  by_cases h16 : i < a.length
  · have hlt : ((i : Int) < (a.length : Int)) := by omega
    have h16' : i < b.length := by omega
    have hw : IntKind.i64.wrap ((i : Int) + 1) = (i : Int) + 1 := wrap_i64 (by omega) (by omega)
    rw [List.drop_eq_getElem_cons h16, List.drop_eq_getElem_cons h16'] at hinv
    by_cases he : a[i] = b[i]
    · have he' := eq_true he
      rw [he] at hinv
      simp only [List.cons.injEq, true_and] at hinv
      simp only [A_, simprocAttr, ne_eq, U_slices_Equal_Write.1, hlt, h16, h16', he', hw]
      exact ih (i + 1) _ _ _ (by omega) ⟨by omega, hinv⟩ rfl (by simp) rfl
    · simp only [List.cons.injEq, he, false_and, decide_false] at hinv
      rw [hinv] at hK
      simp only [A_, simprocAttr, ne_eq, U_slices_Equal_Write.1, hlt, h16, h16', he]
      exact hK
  · have hlt : ¬ ((i : Int) < (a.length : Int)) := by omega
    rw [List.drop_of_length_le (by omega), List.drop_of_length_le (by omega), decide_eq_true rfl] at hinv
    rw [hinv] at hK
    simp only [A_, simprocAttr, ne_eq, U_slices_Equal_Write.1, hlt]
    exact hK
end Go.AM
namespace Go.AM
open Go
set_option maxRecDepth 20000
end Go.AM
namespace Go.AM
open Go
set_option maxRecDepth 20000
end Go.AM
namespace Go.AM
open Go
set_option maxRecDepth 20000
end Go.AM
namespace Go.AM
open Go
set_option maxRecDepth 20000
structure Ent where
  id : Int
  snap : Stp
  stamp : Stp
  writes : List Wr
def enc (e : Ent) : List AV := [.s (.int .i64 e.id), .s (.int .i64 e.snap.t), u8 e.snap.n, .s (.int .i64 e.stamp.t), u8 e.stamp.n, .list .sh 18 (e.writes.map wA)]
end Go.AM
namespace Go.AM
open Go
set_option maxRecDepth 20000
theorem storeP_stk {S : List (List AV)} {l : List (List AV)} {H : List HObj} {j n off : Nat} {vs : List AV} (hj : j < l.length) (h : off + n ≤ (l.getD j []).length) (hv : vs.length = n) (hn : 2 ≤ n) (hu : AV.under.go (S.length + j) vs = true) : storeL n (.ptr (.stk (S.length + j)) off) (.agg vs) ⟨S ++ l, H⟩ = some ⟨S ++ l.set j ((l.getD j []).take off ++ vs ++ (l.getD j []).drop (off + n)), H⟩ := by
  have e : l[j]? = some (l.getD j []) := by simp [List.getD, hj]
  have hs : splice (l.getD j []) off vs = (l.getD j []).take off ++ vs ++ (l.getD j []).drop (off + n) := by
    unfold splice
    split
    · simp at hv; omega
    · rw [hv]
  simp only [storeL, AV.cells, AV.fit, hv, writeCells, boxOf_stk, app_get, e, Option.bind_some, hs, setBox_stk, app_set, mayHold, hu, h, decide_true, Bool.and_self, if_true, true_and]
  rw [if_pos (by simp; omega)]
def WkK (K : AV → St → Prop) : AV → St → Prop := fun v s => ∃ b, (b = v ∨ WkL [v.sh] [b]) ∧ K b s
end Go.AM
namespace Go.AM
open Go
set_option maxRecDepth 20000
end Go.AM
namespace Go.AM
open Go
set_option maxRecDepth 20000
structure okB (r : Rec) : Prop where
  ws : r.writes.length ≤ 20
  vs : ∀ w ∈ r.writes, w.val.length ≤ 250
  ps : r.parts.length ≤ 12
  lo : -9223372036854775808 ≤ r.id
  hi : r.id ≤ 9223372036854775807
theorem okB.ok {r : Rec} (h : okB r) : okR r := ⟨by have := h.ws; omega, by have := h.ps; omega⟩
theorem pack_len (s : Stp) : (putN (packN s)).length ≤ 10 := putN_len10 (by have := packN_lt s; omega)
theorem wk_uniq {K : AV → St → Prop} {b : List UInt8} {s : St} {fl : Fl} (h : K (.list .sh 1 (bs b)) s) : WkK K (.list fl 1 (bs b)) s := by
  cases fl
  · exact ⟨_, .inl rfl, h⟩
  · exact ⟨_, .inr (show WkL [.list .sh 1 _] _ from .same .nil), h⟩
  · exact ⟨_, .inr (show WkL [.list .sh 1 _] _ from .same .nil), h⟩
  · exact ⟨_, .inr (show WkL [.list .full 1 _] _ from .full .nil), h⟩
end Go.AM
namespace Go.AM
open Go
set_option maxRecDepth 20000
end Go.AM
namespace Go.AM
open Go
set_option maxRecDepth 20000
end Go.AM
namespace Go.AM
open Go
set_option maxRecDepth 20000
end Go.AM
namespace Go.AM
open Go
end Go.AM
namespace Go.AM
open Go
set_option maxRecDepth 20000
theorem sgood_len {r : Rd} : (writesR r).1.length ≤ 16 := by unfold writesR; dsimp only; rw [wrsR_len]; exact mostR_le 16 r
end Go.AM
namespace Go.AM
open Go
set_option maxRecDepth 20000
end Go.AM
namespace Go.AM
open Go
def Loc {α : Type} (f : Rd → α × Rd) : Prop := ∀ r q, (f r).2 = some q → ∃ b, r = some b ∧ ∀ c, f (some (b ++ c)) = ((f r).1, some (q ++ c))
theorem Loc.dead {α : Type} {f : Rd → α × Rd} (h : Loc f) : (f none).2 = none := by
  cases hq : (f none).2 with
  | none => rfl
  | some q => obtain ⟨b, hb, _⟩ := h none q hq; cases hb
theorem Loc.bind {α β : Type} {f : Rd → α × Rd} {g : α → Rd → β × Rd} (hf : Loc f) (hg : ∀ a, Loc (g a)) : Loc fun r => g (f r).1 (f r).2 := by
  intro r q h
  obtain ⟨b1, hb1, hc1⟩ := hg _ _ q h
  obtain ⟨b, hb, hc⟩ := hf r b1 hb1
  refine ⟨b, hb, fun c => ?_⟩
  dsimp only
  rw [hc c, hc1 c]
theorem Loc.map {α β : Type} {f : Rd → α × Rd} (hf : Loc f) (g : α → β) : Loc fun r => (g (f r).1, (f r).2) := by
  intro r q h
  obtain ⟨b, hb, hc⟩ := hf r q h
  exact ⟨b, hb, fun c => by dsimp only; rw [hc c]⟩
end Go.AM
namespace Go.AM
open Go
theorem getG_put : ∀ (m v i acc : Nat) (c : List UInt8), v ≤ m → i ≤ 9 → v < 2 ^ (64 - 7 * i) → (0 < i → 0 < v) → getG i acc (putN v ++ c) = some (acc + v * 2 ^ (7 * i), i + (putN v).length)
  | m, v, i, acc, c, hm, hi, hv, hp => by
    by_cases h : v < 128
    · rw [putN_lt h, List.cons_append, List.nil_append, getG_cons]
      have ht : (UInt8.ofNat v).toNat = v := by simp; omega
      rw [ht, if_neg, if_pos h, if_neg]
      · rw [Nat.mod_eq_of_lt h]; rfl
      · rintro ⟨h1, h2⟩
        have := congrArg UInt8.toNat h1
        rw [ht] at this
        have := hp h2
        simp at *; omega
      · rintro ⟨rfl, h2⟩; simp at hv; omega
    · have hi8 : i ≤ 8 := by
        rcases Nat.lt_or_ge i 9 with h1 | h1
        · omega
        · have : i = 9 := by omega
          subst this; simp at hv; omega
      rw [putN_ge h, List.cons_append, getG_cons]
      have ht : (UInt8.ofNat (v % 128 + 128)).toNat = v % 128 + 128 := by simp; omega
      rw [ht, if_neg (by omega), if_neg (by omega), if_neg (by omega)]
      have hpw : 2 ^ (64 - 7 * i) = 128 * 2 ^ (64 - 7 * (i + 1)) := by
        rw [show 64 - 7 * i = 7 + (64 - 7 * (i + 1)) by omega, Nat.pow_add]
      have hq : v / 128 < 2 ^ (64 - 7 * (i + 1)) := by
        rw [hpw] at hv
        exact Nat.div_lt_of_lt_mul hv
      cases m with
      | zero => omega
      | succ m =>
        rw [getG_put m (v / 128) (i + 1) _ c (by omega) (by omega) hq (by omega)]
        have e : 2 ^ (7 * (i + 1)) = 128 * 2 ^ (7 * i) := by rw [show 7 * (i + 1) = 7 + 7 * i by omega, Nat.pow_add]
        rw [e, show (v % 128 + 128) % 128 = v % 128 by omega, List.length_cons]
        have : v = v % 128 + 128 * (v / 128) := (Nat.mod_add_div v 128).symm
        congr 2
        · generalize 2 ^ (7 * i) = p
          rw [Nat.add_assoc]
          congr 1
          conv => rhs; rw [this]
          rw [Nat.add_mul, Nat.mul_comm 128 (v / 128), Nat.mul_assoc]
        · omega
theorem getN_put {v : Nat} (h : v < 18446744073709551616) (c : List UInt8) : getN (putN v ++ c) = (v, (putN v).length) := by
  unfold getN
  rw [getG_put v v 0 0 c (Nat.le_refl _) (by omega) (by simpa using h) (by omega)]
  simp
theorem putN_pos (v : Nat) : (putN v).length ≠ 0 := by
  by_cases h : v < 128
  · rw [putN_lt h]; simp
  · rw [putN_ge h]; simp
theorem numR_put {v : Nat} (h : v < 18446744073709551616) (c : List UInt8) : numR (some (putN v ++ c)) = (v, some c) := by
  rw [numR_some, getN_put h]
  dsimp only
  rw [if_neg (putN_pos v)]
  simp
theorem mostR_put {v m : Nat} (h : v ≤ m) (hm : m < 18446744073709551616) (c : List UInt8) : mostR m (some (putN v ++ c)) = (v, some c) := by
  unfold mostR
  rw [numR_put (by omega)]
  dsimp only
  rw [if_neg (by omega)]
theorem textR_put {n : Nat} {t : List UInt8} (h : t.length = n) (c : List UInt8) : textR n (some (t ++ c)) = (t, some c) := by
  subst h
  rw [textR_some, if_neg (by simp)]
  simp
theorem padK_key (k : Key) : padK k.b = k := by
  apply Key.ext'
  show padB k.b = k.b
  unfold padB
  rw [k.h]
  simp [List.take_of_length_le (Nat.le_of_eq k.h)]
theorem keyR_put (k : Key) (c : List UInt8) : keyR (some (k.b ++ c)) = (k, some c) := by
  unfold keyR
  rw [textR_put k.h, padK_key]
theorem stampR_put {s : Stp} (h : goodS s = true) (c : List UInt8) : stampR (some (putN (packN s) ++ c)) = (s, some c) := by
  have h1 := packN_lt s
  unfold stampR
  rw [numR_put (by omega)]
  dsimp only
  rw [unpack_pack h, if_pos rfl]
theorem putW_eq (w : Wr) (c : List UInt8) : putW w ++ c = w.key.b ++ (putN (if w.gone = true then 1 else 0) ++ (putN w.val.length ++ (w.val ++ c))) := by
  unfold putW
  have : putN (if w.gone = true then 1 else 0) = [if w.gone = true then 1 else 0] := by
    cases w.gone <;> · rw [putN_lt (by simp)]; rfl
  rw [this]
  simp [List.append_assoc]
theorem wrR_put {w : Wr} (h : w.val.length ≤ 200) (c : List UInt8) : wrR (some (putW w ++ c)) = (w, some c) := by
  rw [putW_eq]
  unfold wrR
  rw [keyR_put]
  dsimp only
  rw [mostR_put (by split <;> omega) (by omega)]
  dsimp only
  rw [mostR_put h (by omega)]
  dsimp only
  rw [textR_put rfl]
  cases w with
  | mk k v g => cases g <;> rfl
theorem wrsR_put : ∀ (l : List Wr) (c : List UInt8), (∀ w ∈ l, w.val.length ≤ 200) → wrsR l.length (some (l.flatMap putW ++ c)) = (l, some c)
  | [], c, _ => rfl
  | w :: l, c, h => by
    rw [List.length_cons, wrsR, List.flatMap_cons, List.append_assoc, wrR_put (h w (List.mem_cons_self ..))]
    dsimp only
    rw [wrsR_put l c fun x hx => h x (List.mem_cons_of_mem _ hx)]
theorem sgood_vals : ∀ (l : List Wr) (seen : List Key), sgood seen l = true → ∀ w ∈ l, w.val.length ≤ 200
  | [], _, _, w, hw => by cases hw
  | x :: l, seen, h, w, hw => by
    rw [sgood] at h
    split at h
    · cases h
    split at h
    · cases h
    split at h
    · cases h
    split at h
    · cases h
    rcases List.mem_cons.1 hw with rfl | hw
    · omega
    · exact sgood_vals l _ h w hw
theorem writesR_put {l : List Wr} (h : sgood [] l = true) (hl : l.length ≤ 16) (c : List UInt8) : writesR (some (putWs l ++ c)) = (l, some c) := by
  unfold writesR putWs
  rw [List.append_assoc, mostR_put hl (by omega)]
  dsimp only
  rw [wrsR_put l c (sgood_vals l [] h)]
  dsimp only
  rw [if_pos h]
end Go.AM
namespace Go.AM
open Go
set_option maxRecDepth 20000
end Go.AM
namespace Go.AM
open Go
set_option maxRecDepth 20000
structure inR (r : Rec) : Prop where
  ok : okR r
  lo : -9223372036854775808 ≤ r.id
  hi : r.id ≤ 9223372036854775807
end Go.AM
namespace Go.AM
open Go
set_option maxRecDepth 20000
theorem putWs_le {l : List Wr} (h1 : l.length ≤ 20) (h2 : ∀ w ∈ l, w.val.length ≤ 250) : (putWs l).length ≤ 10000 := by
  have h3 := putN_len10 (v := l.length) (by omega)
  have : ∀ l : List Wr, (∀ w ∈ l, w.val.length ≤ 250) → (l.flatMap putW).length ≤ 280 * l.length := by
    intro l
    induction l with
    | nil => intro _; simp
    | cons w l ih =>
      intro h
      have h1 := ih fun x hx => h x (List.mem_cons_of_mem _ hx)
      have h2 := h w (List.mem_cons_self ..)
      have h3 := putN_len10 (v := w.val.length) (by omega)
      have hk := w.key.h
      have h4 : (putW w).length = 17 + (putN w.val.length).length + w.val.length := by
        unfold putW
        simp only [List.length_append, List.length_cons, hk]
        omega
      rw [List.flatMap_cons, List.length_append, List.length_cons]
      omega
  have := this l h2
  unfold putWs
  rw [List.length_append]
  omega
end Go.AM
namespace Go.AM
open Go
set_option maxRecDepth 20000
def y6a1 (c : Nat → FuncId) : LCode := (.tree (.rd (zs 61 (.shift 0 (.t 7))) 1 true (.rd (zs 62 (.slc (.arr 16 1) (.t 61) none none none)) 2 true (.rd (zs 64 (.shift 16 (.t 7))) 4 true (.rd (zs 65 (.load1 false (.t 64))) 5 true (.mv (zs 60 (.mv true (.t 3))) [] (.mv (zs 63 (.app ⟨1, false, 1, (.s (.int .u8 0))⟩ false (.t 60) (.t 62))) [0, 1, 2] (.mv (zs 66 (.call (.f (c 6)) [(.t 63), (.t 65)])) [0, 1, 2, 3, 4, 5] (.mv (zs 3 (.mv true (.t 66))) [0, 1, 2, 3, 4, 5, 6] .done .stop) .stop) .stop) .stop))))))
def y6a2 (c : Nat → FuncId) : LCode := (.seq (.block 1 (.seq (.sq [(zs 58 (.ixa (.sl 17) (.t 54) (.t 56))), (zs 59 (.loadA 17 (.t 58))), (zs 7 (.alloc true (zk ++ [(.s (.str []))]))), (zn (.store 17 (.t 7) (.t 59)))]) (y6a1 c))) (.sq [(zs 67 (.bin .add .sc (.t 56) (zi 1))), (zs 56 (.mv false (.t 67)))]))
def y6a3 (c : Nat → FuncId) : LCode := (.block 0 (.loop (zm false [1, 1, 1, 1, 50, 3, 29]) (.seq (.sq [(zs 57 (.bin .lss .sc (.t 56) (.t 55)))]) (.seq (.cond (.t 57) .skip (.exit 0)) (y6a2 c)))))
def y6a4 (c : Nat → FuncId) : LCode := (.sq [(zs 70 (.mv false (.t 8))), (zs 71 (.bin .or .sc (.t 70) (.c (.int .u8 1)))), (zs 8 (.mv true (.t 71)))])
def y6a5 (c : Nat → FuncId) : LCode := (.sq [(zs 74 (.mv false (.t 8))), (zs 75 (.bin .or .sc (.t 74) (.c (.int .u8 2)))), (zs 8 (.mv true (.t 75)))])
def y6a6 (c : Nat → FuncId) : LCode := (.seq (.tree (.rd (zs 77 (.shift 41 (.t 1))) 1 true (.rd (zs 78 (.load1 false (.t 77))) 2 true (.rd (zs 80 (.mv false (.t 8))) 4 true (.rd (zs 81 (.bsl ⟨1, false, 1, (.s (.int .u8 0))⟩ 1 [(0, (.t 80))])) 5 true (.rd (zs 83 (.shift 44 (.t 1))) 7 true (.rd (zs 84 (.load1 false (.t 83))) 8 true (.mv (zs 76 (.mv true (.t 3))) [] (.mv (zs 79 (.call (.f (c 6)) [(.t 76), (.t 78)])) [0, 1, 2] (.mv (zs 82 (.app ⟨1, false, 1, (.s (.int .u8 0))⟩ false (.t 79) (.t 81))) [0, 1, 2, 3, 4, 5] (.mv (zs 85 (.call (.f (c 1)) [(.t 82), (.t 84)])) [0, 1, 2, 3, 4, 5, 6, 7, 8] (.mv (zs 2 (.mv true (.t 85))) [0, 1, 2, 3, 4, 5, 6, 7, 8, 9] .done .stop) .stop) .stop) .stop) .stop)))))))) .ret)
def y6a7 (c : Nat → FuncId) : LCode := (.seq (.seq (.sq [(zs 72 (.shift 43 (.t 1))), (zs 73 (.load1 false (.t 72)))]) (.cond (.t 73) (y6a5 c) .skip)) (y6a6 c))
def y6a8 (c : Nat → FuncId) : LCode := (.seq (.seq (.sq [(zs 68 (.shift 42 (.t 1))), (zs 69 (.load1 false (.t 68)))]) (.cond (.t 69) (y6a4 c) .skip)) (y6a7 c))
def y6a9 (c : Nat → FuncId) : LCode := (.seq (.seq (.sq [(zs 53 (.shift 40 (.t 1))), (zs 54 (.load1 false (.t 53))), (zs 55 (.len .sl (.t 54))), (zs 56 (.mv false (zi 0)))]) (y6a3 c)) (.seq (.sq [(zs 8 (.mv true (.c (.int .u8 0))))]) (y6a8 c)))
def y6a10 (c : Nat → FuncId) : LCode := (.seq (.tree (.rd (zs 46 (.shift 39 (.t 1))) 1 true (.rd (zs 47 (.load1 false (.t 46))) 2 true (.rd (zs 49 (.shift 40 (.t 1))) 4 true (.rd (zs 50 (.load1 false (.t 49))) 5 true (.rd (zs 51 (.len .sl (.t 50))) 6 true (.mv (zs 45 (.mv true (.t 3))) [] (.mv (zs 48 (.call (.f (c 5)) [(.t 45), (.t 47)])) [0, 1, 2] (.mv (zs 52 (.call (.f (c 1)) [(.t 48), (.t 51)])) [0, 1, 2, 3, 4, 5, 6] (.mv (zs 3 (.mv true (.t 52))) [0, 1, 2, 3, 4, 5, 6, 7] .done .stop) .stop) .stop) .stop))))))) (y6a9 c))
def y6a11 (c : Nat → FuncId) : LCode := (.seq (.tree (.rd (zs 39 (.shift 7 (.t 1))) 1 true (.rd (zs 40 (.slc (.arr 16 1) (.t 39) none none none)) 2 true (.rd (zs 42 (.shift 23 (.t 1))) 4 true (.rd (zs 43 (.slc (.arr 16 1) (.t 42) none none none)) 5 true (.mv (zs 38 (.mv true (.t 3))) [] (.mv (zs 41 (.app ⟨1, false, 1, (.s (.int .u8 0))⟩ false (.t 38) (.t 40))) [0, 1, 2] (.mv (zs 44 (.app ⟨1, false, 1, (.s (.int .u8 0))⟩ false (.t 41) (.t 43))) [0, 1, 2, 3, 4, 5] (.mv (zs 3 (.mv true (.t 44))) [0, 1, 2, 3, 4, 5, 6] .done .stop) .stop) .stop) .stop)))))) (y6a10 c))
def y6a12 (c : Nat → FuncId) : LCode := (.seq (.tree (.rd (zs 28 (.shift 3 (.t 1))) 1 true (.rd (zs 29 (.load1 false (.t 28))) 2 true (.rd (zs 30 (.conv (.int .u64) (.t 29))) 3 true (.rd (zs 32 (.shift 4 (.t 1))) 5 true (.rd (zs 33 (.load1 false (.t 32))) 6 true (.rd (zs 36 (.mv false (.t 4))) 9 true (.mv (zs 27 (.mv true (.t 3))) [] (.mv (zs 31 (.call (.f (c 3)) [(.t 27), (.t 30)])) [0, 1, 2, 3] (.mv (zs 34 (.call (.f (c 4)) [(.t 33)])) [0, 1, 2, 3, 4, 5, 6] (.mv (zs 35 (.call (.f (c 3)) [(.t 31), (.t 34)])) [0, 1, 2, 3, 4, 5, 6, 7] (.mv (zs 37 (.call (.f (c 3)) [(.t 35), (.t 36)])) [0, 1, 2, 3, 4, 5, 6, 7, 8, 9] (.mv (zs 3 (.mv true (.t 37))) [0, 1, 2, 3, 4, 5, 6, 7, 8, 9, 10] .done .stop) .stop) .stop) .stop) .stop) .stop)))))))) (y6a11 c))
def y6a13 (c : Nat → FuncId) : LCode := (.seq (.sq [(zs 22 (.shift 5 (.t 1))), (zs 23 (.loadA 2 (.t 22))), (zs 24 (.call (.f (c 2)) [(.t 23)])), (zs 21 (.mv false (.t 24))), (zs 25 (.ext (.t 21) 0)), (zs 26 (.ext (.t 21) 1)), (zs 4 (.mv true (.t 25))), (zs 5 (.mv true (.t 26)))]) (y6a12 c))
def y6a14 (c : Nat → FuncId) : LCode := (.seq (.tree (.rd (zs 12 (.shift 0 (.t 1))) 0 false (.rd (zs 13 (.load1 false (.t 12))) 1 false (.rd (zs 15 (.shift 1 (.t 1))) 3 true (.rd (zs 16 (.load1 false (.t 15))) 4 true (.rd (zs 18 (.shift 2 (.t 1))) 6 true (.rd (zs 19 (.load1 false (.t 18))) 7 true (.mv (zs 14 (.call (.f (c 1)) [(.c .nilS), (.t 13)])) [0, 1] (.mv (zs 17 (.call (.f (c 1)) [(.t 14), (.t 16)])) [0, 1, 2, 3, 4] (.mv (zs 20 (.call (.f (c 1)) [(.t 17), (.t 19)])) [0, 1, 2, 3, 4, 5, 6, 7] (.mv (zs 3 (.mv true (.t 20))) [0, 1, 2, 3, 4, 5, 6, 7, 8] .done .stop) .stop) .stop) .stop)))))))) (y6a13 c))
def y6a15 (c : Nat → FuncId) : LCode := (.seq (.seq (.sq [(zs 9 (.loadA 45 (.t 1))), (zs 10 (.call (.f (c 0)) [(.t 9)])), (zs 11 (.un .not (.t 10)))]) (.cond (.t 11) (.seq (.sq [(zs 2 (.mv true (.c .nilS)))]) .ret) .skip)) (y6a14 c))
def U_msg_Put (c : Nat → FuncId) := PLift.up (zc (zc (zc (@unfC _ _ (y6a1.eq_1 c)) (zc (@unfC _ _ (y6a2.eq_1 c)) (@unfC _ _ (y6a3.eq_1 c)))) (zc (zc (@unfC _ _ (y6a4.eq_1 c)) (@unfC _ _ (y6a5.eq_1 c))) (zc (@unfC _ _ (y6a6.eq_1 c)) (@unfC _ _ (y6a7.eq_1 c))))) (zc (zc (zc (@unfC _ _ (y6a8.eq_1 c)) (@unfC _ _ (y6a9.eq_1 c))) (zc (@unfC _ _ (y6a10.eq_1 c)) (@unfC _ _ (y6a11.eq_1 c)))) (zc (zc (@unfC _ _ (y6a12.eq_1 c)) (@unfC _ _ (y6a13.eq_1 c))) (zc (@unfC _ _ (y6a14.eq_1 c)) (@unfC _ _ (y6a15.eq_1 c))))))
def C_msg_Put (c : Nat → FuncId) : LFn := ⟨86, [.t 2], (.seq (.sq [(zs 1 (.box false true (.t 0))), (zs 2 (.mv true (.c .nilS)))]) (y6a15 c))⟩
def y6b1 (c : Nat → FuncId) : LCode := (.seq (.sq [(zs 48 (.shift 39 (.t 1))), (zs 49 (.load1 false (.t 48))), (zs 50 (.len .sl (.t 49))), (zs 51 (.bin .leq .sc (.t 50) (zi 16))), (zs 52 (.mv false (.t 51))), (zt 53 52 (.shift 39 (.t 1))), (zt 54 52 (.load1 false (.t 53))), (zt 55 52 (.call (.f (c 2)) [(.t 54)])), (zs 56 (.pick (.t 52) (.t 55) zF)), (zs 57 (.mv false (.t 56))), (zt 58 57 (.shift 40 (.t 1))), (zt 59 57 (.load1 false (.t 58))), (zt 60 57 (.call (.f (c 3)) [(.t 59)])), (zs 61 (.pick (.t 57) (.t 60) zF)), (zs 2 (.mv true (.t 61)))]) .ret)
def y6b2 (c : Nat → FuncId) : LCode := (.seq (.seq (.sq [(zs 34 (.shift 41 (.t 1))), (zs 35 (.load1 false (.t 34))), (zs 36 (.len .str (.t 35))), (zs 37 (.bin .gtr .sc (.t 36) (zi 200))), (zs 38 (.mv false (.t 37))), (zf 39 38 (.shift 44 (.t 1))), (zf 40 38 (.load1 false (.t 39))), (zf 41 38 (.bin .lss .sc (.t 40) (zi 0))), (zs 42 (.pick (.t 38) zT (.t 41))), (zs 43 (.mv false (.t 42))), (zf 44 43 (.shift 44 (.t 1))), (zf 45 43 (.load1 false (.t 44))), (zf 46 43 (.bin .gtr .sc (.t 45) (zi 12))), (zs 47 (.pick (.t 43) zT (.t 46)))]) (.cond (.t 47) (.seq (.sq [(zs 2 (.mv true zF))]) .ret) .skip)) (y6b1 c))
def y6b3 (c : Nat → FuncId) : LCode := (.seq (.seq (.sq [(zs 3 (.shift 0 (.t 1))), (zs 4 (.load1 false (.t 3))), (zs 5 (.bin .lss .sc (.t 4) (zi 1))), (zs 6 (.mv false (.t 5))), (zf 7 6 (.shift 0 (.t 1))), (zf 8 6 (.load1 false (.t 7))), (zf 9 6 (.bin .gtr .sc (.t 8) (zi 11))), (zs 10 (.pick (.t 6) zT (.t 9))), (zs 11 (.mv false (.t 10))), (zf 12 11 (.shift 1 (.t 1))), (zf 13 11 (.load1 false (.t 12))), (zf 14 11 (.call (.f (c 0)) [(.t 13)])), (zf 15 11 (.un .not (.t 14))), (zs 16 (.pick (.t 11) zT (.t 15))), (zs 17 (.mv false (.t 16))), (zf 18 17 (.shift 2 (.t 1))), (zf 19 17 (.load1 false (.t 18))), (zf 20 17 (.call (.f (c 0)) [(.t 19)])), (zf 21 17 (.un .not (.t 20))), (zs 22 (.pick (.t 17) zT (.t 21))), (zs 23 (.mv false (.t 22))), (zf 24 23 (.shift 3 (.t 1))), (zf 25 23 (.load1 false (.t 24))), (zf 26 23 (.bin .lss .sc (.t 25) (zi 0))), (zs 27 (.pick (.t 23) zT (.t 26))), (zs 28 (.mv false (.t 27))), (zf 29 28 (.shift 5 (.t 1))), (zf 30 28 (.loadA 2 (.t 29))), (zf 31 28 (.call (.f (c 1)) [(.t 30)])), (zf 32 28 (.un .not (.t 31))), (zs 33 (.pick (.t 28) zT (.t 32)))]) (.cond (.t 33) (.seq (.sq [(zs 2 (.mv true zF))]) .ret) .skip)) (y6b2 c))
def U_msg_Good (c : Nat → FuncId) := PLift.up (zc (@unfC _ _ (y6b1.eq_1 c)) (zc (@unfC _ _ (y6b2.eq_1 c)) (@unfC _ _ (y6b3.eq_1 c))))
def C_msg_Good (c : Nat → FuncId) : LFn := ⟨62, [.t 2], (.seq (.sq [(zs 1 (.box false false (.t 0))), (zs 2 (.mv true zF))]) (y6b3 c))⟩
def y6c1 : LCode := (.seq (.sq [(zs 3 (.mv false (.t 0))), (zs 4 (.bin .geq .sc (.t 3) (zi 0))), (zs 5 (.mv false (.t 4))), (zt 6 5 (.mv false (.t 0))), (zt 7 5 (.bin .leq .sc (.t 6) (zi 255))), (zs 8 (.pick (.t 5) (.t 7) zF)), (zs 2 (.mv true (.t 8)))]) .ret)
def U_msg_node := PLift.up (@unfC _ _ (y6c1.eq_1))
def C_msg_node : LFn := ⟨9, [.t 2], (.seq (.sq [(zs 2 (.mv true zF))]) y6c1)⟩
def y6d1 (c : Nat → FuncId) : LCode := (.seq (.tree (.rd (zs 12 (.shift 0 (.t 4))) 0 false (.rd (zs 13 (.loadA 16 (.t 12))) 1 false (.mv (zs 14 (.call (.f (c 0)) [(.t 13)])) [0, 1] (.rd (zs 15 (.un .not (.t 14))) 3 false (.rd (zs 16 (.mv false (.t 15))) 4 false (.rd (zf 17 16 (.shift 16 (.t 4))) 5 false (.rd (zf 18 16 (.load1 false (.t 17))) 6 false (.rd (zf 19 16 (.len .str (.t 18))) 7 false (.rd (zf 20 16 (.bin .gtr .sc (.t 19) (zi 200))) 8 false (.rd (zs 21 (.pick (.t 16) zT (.t 20))) 9 false (.rd (zs 22 (.mv false (.t 21))) 10 false (.rd (zf 23 22 (.mv false (.t 3))) 11 false (.rd (zf 24 22 (.bin .gtr .sc (.t 23) (zi 0))) 12 false (.rd (zf 25 22 (.mv false (.t 24))) 13 false (.rd (zt 26 25 (.mv false (.t 0))) 14 false (.rd (zt 27 25 (.mv false (.t 3))) 15 false (.rd (zt 28 25 (.bin .sub .sc (.t 27) (zi 1))) 16 false (.rd (zt 29 25 (.ixa (.sl 17) (.t 26) (.t 28))) 17 false (.rd (zt 30 25 (.shift 0 (.t 29))) 18 false (.rd (zt 31 25 (.loadA 16 (.t 30))) 19 false (.rd (zt 32 25 (.shift 0 (.t 4))) 20 false (.rd (zt 33 25 (.loadA 16 (.t 32))) 21 false (.mv (zt 34 25 (.call (.f (c 1)) [(.t 31), (.t 33)])) [0, 1, 2, 3, 4, 5, 6, 7, 8, 9, 10, 11, 12, 13, 14, 15, 16, 17, 18, 19, 20, 21] (.rd (zt 35 25 (.bin .geq .sc (.t 34) (zi 0))) 23 false (.rd (zf 36 22 (.pick (.t 25) (.t 35) zF)) 24 false (.rd (zs 37 (.pick (.t 22) zT (.t 36))) 25 false .done))) .stop)))))))))))))))))))) .stop)))) (.cond (.t 37) (.seq (.sq [(zs 2 (.mv true zF))]) .ret) .skip))
def y6d2 (c : Nat → FuncId) : LCode := (.seq (.block 1 (.seq (.sq [(zs 9 (.mv false (.t 7))), (zs 10 (.ixa (.sl 17) (.t 5) (.t 7))), (zs 11 (.loadA 17 (.t 10))), (zs 4 (.alloc false (zk ++ [(.s (.str []))]))), (zs 3 (.mv true (.t 9))), (zn (.store 17 (.t 4) (.t 11)))]) (y6d1 c))) (.sq [(zs 38 (.bin .add .sc (.t 7) (zi 1))), (zs 7 (.mv false (.t 38)))]))
def y6d3 (c : Nat → FuncId) : LCode := (.block 0 (.loop (zm false [0, 1, 4, 3, 34]) (.seq (.sq [(zs 8 (.bin .lss .sc (.t 7) (.t 6)))]) (.seq (.cond (.t 8) .skip (.exit 0)) (y6d2 c)))))
def y6d4 (c : Nat → FuncId) : LCode := (.seq (.sq [(zs 39 (.mv false (.t 0))), (zs 40 (.len .sl (.t 39))), (zs 41 (.bin .leq .sc (.t 40) (zi 200))), (zs 2 (.mv true (.t 41)))]) .ret)
def y6d5 (c : Nat → FuncId) : LCode := (.seq (.seq (.sq [(zs 5 (.mv false (.t 0))), (zs 6 (.len .sl (.t 5))), (zs 7 (.mv false (zi 0)))]) (y6d3 c)) (y6d4 c))
def U_msg_goodItems (c : Nat → FuncId) := PLift.up (zc (zc (@unfC _ _ (y6d1.eq_1 c)) (@unfC _ _ (y6d2.eq_1 c))) (zc (@unfC _ _ (y6d3.eq_1 c)) (zc (@unfC _ _ (y6d4.eq_1 c)) (@unfC _ _ (y6d5.eq_1 c)))))
def C_msg_goodItems (c : Nat → FuncId) : LFn := ⟨42, [.t 2], (.seq (.sq [(zs 2 (.mv true zF))]) (y6d5 c))⟩
def y6e1 (c : Nat → FuncId) : LCode := (.seq (.sq [(zs 5 (.mv true (.t 0))), (zs 6 (.mv false (.t 1))), (zs 7 (.conv (.int .u64) (.t 6))), (zs 8 (.call (.f (c 0)) [(.t 5), (.t 7)])), (zs 4 (.mv true (.t 8)))]) .ret)
def U_msg_num (c : Nat → FuncId) := PLift.up (@unfC _ _ (y6e1.eq_1 c))
def C_msg_num (c : Nat → FuncId) : LFn := ⟨9, [.t 4], (.seq (.sq [(zs 4 (.mv true (.c .nilS)))]) (y6e1 c))⟩
def y6f1 (c : Nat → FuncId) : LCode := (.seq (.sq [(zs 5 (.mv true (.t 0))), (zs 6 (.mv false (.t 1))), (zs 7 (.len .str (.t 6))), (zs 8 (.call (.f (c 0)) [(.t 5), (.t 7)])), (zs 9 (.mv false (.t 1))), (zs 10 (.app ⟨1, false, 1, (.s (.int .u8 0))⟩ true (.t 8) (.t 9))), (zs 4 (.mv true (.t 10)))]) .ret)
def U_msg_text (c : Nat → FuncId) := PLift.up (@unfC _ _ (y6f1.eq_1 c))
def C_msg_text (c : Nat → FuncId) : LFn := ⟨11, [.t 4], (.seq (.sq [(zs 4 (.mv true (.c .nilS)))]) (y6f1 c))⟩
def y6g1 (c : Nat → FuncId) : LCode := (.sq [(zs 52 (.shift 40 (.t 5))), (zs 53 (.load1 true (.t 52))), (zs 54 (.loadA 17 (.t 6))), (zs 55 (.bsl ⟨17, true, 32, (.agg (zk ++ [(.s (.str []))]))⟩ 1 [(0, (.t 54))])), (zs 56 (.app ⟨17, true, 32, (.agg (zk ++ [(.s (.str []))]))⟩ false (.t 53) (.t 55))), (zs 57 (.shift 40 (.t 5))), (zn (.store 1 (.t 57) (.t 56)))])
def y6g2 (c : Nat → FuncId) : LCode := (.seq (.sq [(zs 47 (.mv false (.t 4))), (zs 48 (.mv false (.t 4))), (zs 49 (.call (.f (c 0)) [(.t 48), (zi 200)])), (zs 50 (.call (.f (c 6)) [(.t 47), (.t 49)])), (zs 51 (.shift 16 (.t 6))), (zn (.store 1 (.t 51) (.t 50)))]) (y6g1 c))
def y6g3 (c : Nat → FuncId) : LCode := (.seq (.block 1 (.seq (.sq [(zs 44 (.mv false (.t 4))), (zs 45 (.call (.f (c 4)) [(.t 44)])), (zs 46 (.build (zk ++ [(.s (.str []))]) [(0, 16, (.t 45))])), (zs 6 (.alloc false (zk ++ [(.s (.str []))]))), (zn (.store 17 (.t 6) (.t 46)))]) (y6g2 c))) (.sq [(zs 58 (.bin .add .sc (.t 42) (zi 1))), (zs 42 (.mv false (.t 58)))]))
def y6g4 (c : Nat → FuncId) : LCode := (.block 0 (.loop (zm false [2, 1, 1, 2, 35, 2, 53]) (.seq (.sq [(zs 43 (.bin .lss .sc (.t 42) (.t 41)))]) (.seq (.cond (.t 43) .skip (.exit 0)) (y6g3 c)))))
def y6g5 (c : Nat → FuncId) : LCode := (.seq (.sq [(zs 94 (.build ([(.s (.int .i64 0)), (.s (.int .i64 0)), (.s (.int .i64 0)), (.s (.int .i64 0)), (.s (.int .i64 0)), (.s (.int .i64 0))] ++ zk ++ zk ++ [(.s (.int .u8 0)), (.s .nilS), (.s .nilS), (.s (.str [])), (.s (.bool false)), (.s (.bool false)), (.s (.int .i64 0))]) [])), (zn (.store 45 (.t 2) (.t 94))), (zs 3 (.mv true (zi 3)))]) .ret)
def y6g6 (c : Nat → FuncId) : LCode := (.seq (.sq [(zs 95 (.loadA 45 (.t 5))), (zn (.store 45 (.t 2) (.t 95))), (zs 3 (.mv true (zi 0)))]) .ret)
def y6g7 (c : Nat → FuncId) : LCode := (.seq (.seq (.sq [(zs 77 (.mv false (.t 4))), (zs 78 (.nilc (.t 77))), (zs 79 (.shift 1 (.t 78))), (zs 80 (.load1 false (.t 79))), (zs 81 (.mv false (.t 80))), (zf 82 81 (.mv false (.t 4))), (zf 83 81 (.nilc (.t 82))), (zf 84 81 (.shift 0 (.t 83))), (zf 85 81 (.load1 false (.t 84))), (zf 86 81 (.len .sl (.t 85))), (zf 87 81 (.bin .gtr .sc (.t 86) (zi 0))), (zs 88 (.pick (.t 81) zT (.t 87))), (zs 89 (.mv false (.t 88))), (zf 90 89 (.loadA 45 (.t 5))), (zf 91 89 (.call (.f (c 7)) [(.t 90)])), (zf 92 89 (.un .not (.t 91))), (zs 93 (.pick (.t 89) zT (.t 92)))]) (.cond (.t 93) (y6g5 c) .skip)) (y6g6 c))
def y6g8 (c : Nat → FuncId) : LCode := (.seq (.sq [(zs 74 (.mv false (.t 4))), (zs 75 (.call (.f (c 0)) [(.t 74), (zi 12)])), (zs 76 (.shift 44 (.t 5))), (zn (.store 1 (.t 76) (.t 75)))]) (y6g7 c))
def y6g9 (c : Nat → FuncId) : LCode := (.seq (.sq [(zs 66 (.mv false (.t 7))), (zs 67 (.bin .and .sc (.t 66) (zi 1))), (zs 68 (.bin .neq .sc (.t 67) (zi 0))), (zs 69 (.mv false (.t 7))), (zs 70 (.bin .and .sc (.t 69) (zi 2))), (zs 71 (.bin .neq .sc (.t 70) (zi 0))), (zs 72 (.shift 42 (.t 5))), (zn (.store 1 (.t 72) (.t 68))), (zs 73 (.shift 43 (.t 5))), (zn (.store 1 (.t 73) (.t 71)))]) (y6g8 c))
def y6g10 (c : Nat → FuncId) : LCode := (.seq (.sq [(zs 64 (.mv false (.t 4))), (zs 65 (.call (.f (c 0)) [(.t 64), (zi 3)])), (zs 7 (.mv true (.t 65)))]) (y6g9 c))
def y6g11 (c : Nat → FuncId) : LCode := (.seq (.sq [(zs 59 (.mv false (.t 4))), (zs 60 (.mv false (.t 4))), (zs 61 (.call (.f (c 0)) [(.t 60), (zi 200)])), (zs 62 (.call (.f (c 6)) [(.t 59), (.t 61)])), (zs 63 (.shift 41 (.t 5))), (zn (.store 1 (.t 63) (.t 62)))]) (y6g10 c))
def y6g12 (c : Nat → FuncId) : LCode := (.seq (.seq (.sq [(zs 40 (.mv false (.t 4))), (zs 41 (.call (.f (c 0)) [(.t 40), (zi 200)])), (zs 42 (.mv false (zi 0)))]) (y6g4 c)) (y6g11 c))
def y6g13 (c : Nat → FuncId) : LCode := (.seq (.sq [(zs 37 (.mv false (.t 4))), (zs 38 (.call (.f (c 5)) [(.t 37)])), (zs 39 (.shift 39 (.t 5))), (zn (.store 1 (.t 39) (.t 38)))]) (y6g12 c))
def y6g14 (c : Nat → FuncId) : LCode := (.seq (.sq [(zs 34 (.mv false (.t 4))), (zs 35 (.call (.f (c 4)) [(.t 34)])), (zs 36 (.shift 23 (.t 5))), (zn (.store 16 (.t 36) (.t 35)))]) (y6g13 c))
def y6g15 (c : Nat → FuncId) : LCode := (.seq (.sq [(zs 31 (.mv false (.t 4))), (zs 32 (.call (.f (c 4)) [(.t 31)])), (zs 33 (.shift 7 (.t 5))), (zn (.store 16 (.t 33) (.t 32)))]) (y6g14 c))
def y6g16 (c : Nat → FuncId) : LCode := (.seq (.sq [(zs 28 (.mv false (.t 4))), (zs 29 (.call (.f (c 3)) [(.t 28)])), (zs 30 (.shift 5 (.t 5))), (zn (.store 2 (.t 30) (.t 29)))]) (y6g15 c))
def y6g17 (c : Nat → FuncId) : LCode := (.seq (.sq [(zs 24 (.mv false (.t 4))), (zs 25 (.call (.f (c 1)) [(.t 24)])), (zs 26 (.call (.f (c 2)) [(.t 25)])), (zs 27 (.shift 4 (.t 5))), (zn (.store 1 (.t 27) (.t 26)))]) (y6g16 c))
def y6g18 (c : Nat → FuncId) : LCode := (.seq (.sq [(zs 20 (.mv false (.t 4))), (zs 21 (.call (.f (c 1)) [(.t 20)])), (zs 22 (.conv (.int .i64) (.t 21))), (zs 23 (.shift 3 (.t 5))), (zn (.store 1 (.t 23) (.t 22)))]) (y6g17 c))
def y6g19 (c : Nat → FuncId) : LCode := (.seq (.sq [(zs 17 (.mv false (.t 4))), (zs 18 (.call (.f (c 0)) [(.t 17), (zi 255)])), (zs 19 (.shift 2 (.t 5))), (zn (.store 1 (.t 19) (.t 18)))]) (y6g18 c))
def y6g20 (c : Nat → FuncId) : LCode := (.seq (.sq [(zs 14 (.mv false (.t 4))), (zs 15 (.call (.f (c 0)) [(.t 14), (zi 255)])), (zs 16 (.shift 1 (.t 5))), (zn (.store 1 (.t 16) (.t 15)))]) (y6g19 c))
def y6g21 (c : Nat → FuncId) : LCode := (.seq (.sq [(zs 11 (.mv false (.t 4))), (zs 12 (.call (.f (c 0)) [(.t 11), (zi 11)])), (zs 13 (.shift 0 (.t 5))), (zn (.store 1 (.t 13) (.t 12)))]) (y6g20 c))
def y6g22 (c : Nat → FuncId) : LCode := (.seq (.sq [(zs 5 (.alloc false ([(.s (.int .i64 0)), (.s (.int .i64 0)), (.s (.int .i64 0)), (.s (.int .i64 0)), (.s (.int .i64 0)), (.s (.int .i64 0))] ++ zk ++ zk ++ [(.s (.int .u8 0)), (.s .nilS), (.s .nilS), (.s (.str [])), (.s (.bool false)), (.s (.bool false)), (.s (.int .i64 0))])))]) (y6g21 c))
def y6g23 (c : Nat → FuncId) : LCode := (.seq (.sq [(zs 8 (.mv false (.t 0))), (zs 9 (.build [(.s .nilS), (.s (.bool false))] [(0, 1, (.t 8))])), (zs 10 (.box false false (.t 9))), (zs 4 (.mv true (.t 10)))]) (y6g22 c))
def U_msg_Get (c : Nat → FuncId) := PLift.up (zc (zc (zc (zc (@unfC _ _ (y6g1.eq_1 c)) (@unfC _ _ (y6g2.eq_1 c))) (zc (@unfC _ _ (y6g3.eq_1 c)) (zc (@unfC _ _ (y6g4.eq_1 c)) (@unfC _ _ (y6g5.eq_1 c))))) (zc (zc (@unfC _ _ (y6g6.eq_1 c)) (zc (@unfC _ _ (y6g7.eq_1 c)) (@unfC _ _ (y6g8.eq_1 c)))) (zc (@unfC _ _ (y6g9.eq_1 c)) (zc (@unfC _ _ (y6g10.eq_1 c)) (@unfC _ _ (y6g11.eq_1 c)))))) (zc (zc (zc (@unfC _ _ (y6g12.eq_1 c)) (zc (@unfC _ _ (y6g13.eq_1 c)) (@unfC _ _ (y6g14.eq_1 c)))) (zc (@unfC _ _ (y6g15.eq_1 c)) (zc (@unfC _ _ (y6g16.eq_1 c)) (@unfC _ _ (y6g17.eq_1 c))))) (zc (zc (@unfC _ _ (y6g18.eq_1 c)) (zc (@unfC _ _ (y6g19.eq_1 c)) (@unfC _ _ (y6g20.eq_1 c)))) (zc (@unfC _ _ (y6g21.eq_1 c)) (zc (@unfC _ _ (y6g22.eq_1 c)) (@unfC _ _ (y6g23.eq_1 c)))))))
def C_msg_Get (c : Nat → FuncId) : LFn := ⟨96, [.many 2 45, .t 3], (.seq (.sq [(zs 2 (.alloc false ([(.s (.int .i64 0)), (.s (.int .i64 0)), (.s (.int .i64 0)), (.s (.int .i64 0)), (.s (.int .i64 0)), (.s (.int .i64 0))] ++ zk ++ zk ++ [(.s (.int .u8 0)), (.s .nilS), (.s .nilS), (.s (.str [])), (.s (.bool false)), (.s (.bool false)), (.s (.int .i64 0))]))), (zs 3 (.mv true (zi 0)))]) (y6g23 c))⟩
def y6h1 (c : Nat → FuncId) : LCode := (.seq (.tree (.rd (zs 17 (.mv false (.t 5))) 0 false (.rd (zs 18 (.mv false (.t 17))) 1 false (.rd (zt 19 18 (.mv false (.t 6))) 2 false (.rd (zs 20 (.pick (.t 18) (.t 19) zF)) 3 false (.rd (zs 21 (.mv false (.t 20))) 4 false (.rd (zt 22 21 (.loadA 45 (.t 2))) 5 false (.rd (zt 24 21 (.loadA 45 (.t 3))) 7 true (.mv (zt 23 21 (.call (.f (c 2)) [(.t 22)])) [0, 1, 2, 3, 4, 5] (.mv (zt 25 21 (.call (.f (c 2)) [(.t 24)])) [0, 1, 2, 3, 4, 5, 6, 7] (.rd (zt 26 21 (.bin .eql (.leaf ([.int .i64, .int .i64, .int .i64, .int .i64, .int .i64, .int .i64] ++ lk ++ lk ++ [.int .u8, .str, .bool, .bool, .int .i64])) (.t 23) (.t 25))) 9 false (.rd (zs 27 (.pick (.t 21) (.t 26) zF)) 10 false (.mv (zs 4 (.mv true (.t 27))) [0, 1, 2, 3, 4, 5, 6, 7, 8, 9, 10] .done .stop))) .stop) .stop))))))))) .ret)
def y6h2 (c : Nat → FuncId) : LCode := (.seq (.tree (.rd (zs 7 (.shift 39 (.t 2))) 0 false (.rd (zs 8 (.load1 false (.t 7))) 1 false (.rd (zs 9 (.shift 39 (.t 3))) 2 false (.rd (zs 10 (.load1 false (.t 9))) 3 false (.rd (zs 12 (.shift 40 (.t 2))) 5 true (.rd (zs 13 (.load1 false (.t 12))) 6 true (.rd (zs 14 (.shift 40 (.t 3))) 7 true (.rd (zs 15 (.load1 false (.t 14))) 8 true (.mv (zs 11 (.call (.f (c 0)) [(.t 8), (.t 10)])) [0, 1, 2, 3] (.mv (zs 16 (.call (.f (c 1)) [(.t 13), (.t 15)])) [0, 1, 2, 3, 4, 5, 6, 7, 8] (.mv (zs 5 (.mv true (.t 11))) [0, 1, 2, 3, 4, 5, 6, 7, 8, 9] (.mv (zs 6 (.mv true (.t 16))) [0, 1, 2, 3, 4, 5, 6, 7, 8, 9, 10] .done .stop) .stop) .stop) .stop)))))))))) (y6h1 c))
def U_msg_Same (c : Nat → FuncId) := PLift.up (zc (@unfC _ _ (y6h1.eq_1 c)) (@unfC _ _ (y6h2.eq_1 c)))
def C_msg_Same (c : Nat → FuncId) : LFn := ⟨28, [.t 4], (.seq (.sq [(zs 2 (.box false false (.t 0))), (zs 3 (.box false false (.t 1))), (zs 4 (.mv true zF))]) (y6h2 c))⟩
def y6i1 : LCode := (.seq (.tree (.rd (zs 16 (.mv false (.t 0))) 0 false (.rd (zs 17 (.mv false (.t 5))) 1 false (.rd (zs 18 (.ixa (.sl 17) (.t 16) (.t 17))) 2 false (.rd (zs 19 (.loadA 17 (.t 18))) 3 false (.rd (zs 20 (.mv false (.t 1))) 4 false (.rd (zs 21 (.mv false (.t 5))) 5 false (.rd (zs 22 (.ixa (.sl 17) (.t 20) (.t 21))) 6 false (.rd (zs 23 (.loadA 17 (.t 22))) 7 false (.rd (zs 24 (.bin .neq (.leaf (lk ++ [.str])) (.t 19) (.t 23))) 8 false .done)))))))))) (.cond (.t 24) (.seq (.sq [(zs 4 (.mv true zF))]) .ret) .skip))
def y6i2 : LCode := (.seq (.block 1 (.seq (.sq [(zs 15 (.mv false (.t 13))), (zs 5 (.mv true (.t 15)))]) y6i1)) (.sq [(zs 25 (.bin .add .sc (.t 13) (zi 1))), (zs 13 (.mv false (.t 25)))]))
def y6i3 : LCode := (.seq (.sq [(zs 14 (.bin .lss .sc (.t 13) (.t 12)))]) (.seq (.cond (.t 14) .skip (.exit 0)) y6i2))
def y6i4 : LCode := (.block 0 (.loop (zm false [0, 2, 10, 2, 12]) y6i3))
def y6i5 : LCode := (.seq (.seq (.sq [(zs 11 (.mv false (.t 0))), (zs 12 (.len .sl (.t 11))), (zs 13 (.mv false (zi 0)))]) y6i4) (.seq (.sq [(zs 4 (.mv true zT))]) .ret))
def y6i6 : LCode := (.seq (.seq (.sq [(zs 6 (.mv false (.t 0))), (zs 7 (.len .sl (.t 6))), (zs 8 (.mv false (.t 1))), (zs 9 (.len .sl (.t 8))), (zs 10 (.bin .neq .sc (.t 7) (.t 9)))]) (.cond (.t 10) (.seq (.sq [(zs 4 (.mv true zF))]) .ret) .skip)) y6i5)
def U_slices_Equal_Item := PLift.up (zc (zc (@unfC _ _ (y6i1.eq_1)) (zc (@unfC _ _ (y6i2.eq_1)) (@unfC _ _ (y6i3.eq_1)))) (zc (@unfC _ _ (y6i4.eq_1)) (zc (@unfC _ _ (y6i5.eq_1)) (@unfC _ _ (y6i6.eq_1)))))
def C_slices_Equal_Item : LFn := ⟨26, [.t 4], (.seq (.sq [(zs 4 (.mv true zF))]) y6i6)⟩
def y6j1 : LCode := (.seq (.sq [(zs 3 (.shift 0 (.t 1))), (zs 4 (.load1 false (.t 3))), (zs 5 (.shift 1 (.t 1))), (zs 6 (.load1 false (.t 5))), (zs 7 (.shift 2 (.t 1))), (zs 8 (.load1 false (.t 7))), (zs 9 (.shift 3 (.t 1))), (zs 10 (.load1 false (.t 9))), (zs 11 (.shift 4 (.t 1))), (zs 12 (.load1 false (.t 11))), (zs 13 (.shift 5 (.t 1))), (zs 14 (.loadA 2 (.t 13))), (zs 15 (.shift 7 (.t 1))), (zs 16 (.loadA 16 (.t 15))), (zs 17 (.shift 23 (.t 1))), (zs 18 (.loadA 16 (.t 17))), (zs 19 (.shift 41 (.t 1))), (zs 20 (.load1 false (.t 19))), (zs 21 (.shift 42 (.t 1))), (zs 22 (.load1 false (.t 21))), (zs 23 (.shift 43 (.t 1))), (zs 24 (.load1 false (.t 23))), (zs 25 (.shift 44 (.t 1))), (zs 26 (.load1 false (.t 25))), (zs 27 (.build ([(.s (.int .i64 0)), (.s (.int .i64 0)), (.s (.int .i64 0)), (.s (.int .i64 0)), (.s (.int .i64 0)), (.s (.int .i64 0))] ++ zk ++ zk ++ [(.s (.int .u8 0)), (.s (.str [])), (.s (.bool false)), (.s (.bool false)), (.s (.int .i64 0))]) [(0, 1, (.t 4)), (1, 1, (.t 6)), (2, 1, (.t 8)), (3, 1, (.t 10)), (4, 1, (.t 12)), (5, 2, (.t 14)), (7, 16, (.t 16)), (23, 16, (.t 18)), (39, 1, (.t 20)), (40, 1, (.t 22)), (41, 1, (.t 24)), (42, 1, (.t 26))])), (zn (.store 43 (.t 2) (.t 27)))]) .ret)
def U_msg_plain := PLift.up (@unfC _ _ (y6j1.eq_1))
def C_msg_plain : LFn := ⟨28, [.many 2 43], (.seq (.sq [(zs 1 (.box false false (.t 0))), (zs 2 (.alloc false ([(.s (.int .i64 0)), (.s (.int .i64 0)), (.s (.int .i64 0)), (.s (.int .i64 0)), (.s (.int .i64 0)), (.s (.int .i64 0))] ++ zk ++ zk ++ [(.s (.int .u8 0)), (.s (.str [])), (.s (.bool false)), (.s (.bool false)), (.s (.int .i64 0))])))]) y6j1)⟩
def y6r1 (c : Nat → FuncId) : LCode := (.seq (.sq [(zs 15 (.mv false (.t 3))), (zs 16 (.bin .eql .sc (.t 15) (zi 0))), (zs 17 (.mv false (.t 16))), (zt 18 17 (.loadA 45 (.t 2))), (zt 19 17 (.loadA 45 (.t 1))), (zt 20 17 (.call (.f (c 2)) [(.t 18), (.t 19)])), (zs 21 (.pick (.t 17) (.t 20) zF)), (zs 22 (.mv false (.t 21))), (zt 23 22 (.loadA 45 (.t 1))), (zt 24 22 (.call (.f (c 3)) [(.t 23)])), (zs 25 (.pick (.t 22) (.t 24) zF)), (zs 26 (.mv false (.t 25))), (zt 27 26 (.loadA 45 (.t 1))), (zt 28 26 (.call (.f (c 0)) [(.t 27)])), (zt 29 26 (.len .sl (.t 28))), (zt 30 26 (.bin .gtr .sc (.t 29) (zi 50))), (zs 31 (.pick (.t 26) (.t 30) zF)), (zs 0 (.mv true (.t 31)))]) .ret)
def y6r2 (c : Nat → FuncId) : LCode := (.seq (.sq [(zs 10 (.loadA 45 (.t 1))), (zs 11 (.call (.f (c 0)) [(.t 10)])), (zs 12 (.call (.f (c 1)) [(.t 11)])), (zs 9 (.mv false (.t 12))), (zs 13 (.ext (.t 9) 0)), (zs 14 (.ext (.t 9) 1)), (zs 2 (.alloc false ([(.s (.int .i64 0)), (.s (.int .i64 0)), (.s (.int .i64 0)), (.s (.int .i64 0)), (.s (.int .i64 0)), (.s (.int .i64 0))] ++ zk ++ zk ++ [(.s (.int .u8 0)), (.s .nilS), (.s .nilS), (.s (.str [])), (.s (.bool false)), (.s (.bool false)), (.s (.int .i64 0))]))), (zn (.store 45 (.t 2) (.t 13))), (zs 3 (.mv true (.t 14)))]) (y6r1 c))
def y6r3 (c : Nat → FuncId) : LCode := (.seq (.sq [(zs 4 (.build [(.s (.int .i64 0)), (.s (.int .u8 0))] [(0, 1, (zi 3))])), (zs 5 (.build zk [(0, 1, (.c (.int .u8 97)))])), (zs 6 (.build (zk ++ [(.s (.str [])), (.s (.bool false))]) [(0, 16, (.t 5)), (16, 1, (.c (.str [120])))])), (zs 7 (.bsl ⟨18, true, 40, (.agg (zk ++ [(.s (.str [])), (.s (.bool false))]))⟩ 1 [(0, (.t 6))])), (zs 8 (.build ([(.s (.int .i64 0)), (.s (.int .i64 0)), (.s (.int .i64 0)), (.s (.int .i64 0)), (.s (.int .i64 0)), (.s (.int .i64 0))] ++ zk ++ zk ++ [(.s (.int .u8 0)), (.s .nilS), (.s .nilS), (.s (.str [])), (.s (.bool false)), (.s (.bool false)), (.s (.int .i64 0))]) [(0, 1, (zi 5)), (1, 1, (zi 255)), (2, 1, (zi 1)), (3, 1, (zi 7)), (5, 2, (.t 4)), (39, 1, (.t 7)), (43, 1, zT)])), (zs 1 (.alloc false ([(.s (.int .i64 0)), (.s (.int .i64 0)), (.s (.int .i64 0)), (.s (.int .i64 0)), (.s (.int .i64 0)), (.s (.int .i64 0))] ++ zk ++ zk ++ [(.s (.int .u8 0)), (.s .nilS), (.s .nilS), (.s (.str [])), (.s (.bool false)), (.s (.bool false)), (.s (.int .i64 0))]))), (zn (.store 45 (.t 1) (.t 8)))]) (y6r2 c))
def U_hourglasslaw19_awake (c : Nat → FuncId) := PLift.up (zc (@unfC _ _ (y6r1.eq_1 c)) (zc (@unfC _ _ (y6r2.eq_1 c)) (@unfC _ _ (y6r3.eq_1 c))))
def C_hourglasslaw19_awake (c : Nat → FuncId) : LFn := ⟨32, [.t 0], (.seq (.sq [(zs 0 (.mv true zF))]) (y6r3 c))⟩
end Go.AM
namespace Go.AM
open Go
structure It where
  key : Key
  val : List UInt8
  deriving DecidableEq
def itc (x : It) : List AV := bs x.key.b ++ [.s (.str x.val)]
def itA (x : It) : AV := .agg (itc x)
theorem itc_length (x : It) : (itc x).length = 17 := by simp [itc, kc_length]
theorem itA_under {n : Nat} {x : It} : AV.under n (itA x) = true := by simp [itA, itc, AV.under, under_app', under_bs, AV.under.go]
theorem itc_under {n : Nat} {x : It} : AV.under.go n (itc x) = true := by simp [itc, AV.under, under_app', under_bs, AV.under.go]
theorem itA_low {n : Nat} : ∀ {l : List It}, AV.under.go n (l.map itA) = true
  | [] => rfl
  | k :: l => by simp only [List.map_cons, AV.under.go, itA_under, itA_low (l := l), Bool.and_self]
theorem look_itc (x : It) : (itc x).map AV.look = itc x := by simp [itc, map_look_bs]; rfl
theorem ixl_it {l : List It} {i c : Nat} {k : IntKind} (h : i < l.length) (hc : c ≠ 0) : indexAddrL (.sl c) (.list .sh c (l.map itA)) (.s (.int k (i : Int))) = some (.rop (itc l[i])) := ixl_map h hc
theorem beq_itc (a b : It) : AV.beq.go (itc a) (itc b) = decide (a = b) := by
  rw [itc, itc, beq_app_k, beq_kk]
  cases a; cases b
  simp [AV.beq.go, AV.beq, It.mk.injEq, Bool.decide_and, Bool.and_assoc]
theorem fits_itc (w : It) : fitsL (lk ++ [.str]) (itc w) = true := by rw [itc, fits_kr]; rfl
theorem take_itc (w : It) : (itc w).take 17 = itc w := List.take_of_length_le (Nat.le_of_eq (itc_length w))
theorem take_itk (w : It) : (itc w).take 16 = bs w.key.b := take_kc _ _
theorem drop_itc (w : It) : (itc w).drop 16 = [.s (.str w.val)] := drop_kc _ _
theorem get_itc16 (x : It) : (itc x)[16]? = some (.s (.str x.val)) := by rw [itc, get_kc16]; rfl
theorem IT_ : type_of% @get_itc16 ∧ type_of% @itc_length ∧ type_of% @itc_under ∧ type_of% @itA_low ∧ type_of% @look_itc ∧ type_of% @beq_itc ∧ type_of% @fits_itc ∧ type_of% @ixl_it ∧ type_of% @take_itc ∧ type_of% @take_itk ∧ type_of% @drop_itc := ⟨@get_itc16, @itc_length, @itc_under, @itA_low, @look_itc, @beq_itc, @fits_itc, @ixl_it, @take_itc, @take_itk, @drop_itc⟩
def lstIt (l : List It) : AV := .list .sh 17 (l.map itA)
structure Msg where
  kind : Int
  frm : Int
  tto : Int
  id : Int
  num : Int
  stp : Stp
  key : Key
  unt : Key
  writes : List Wr
  items : List It
  val : List UInt8
  found : Bool
  yes : Bool
  err : Int
  deriving DecidableEq
def msc (m : Msg) : List AV := [.s (.int .i64 m.kind), .s (.int .i64 m.frm), .s (.int .i64 m.tto), .s (.int .i64 m.id), .s (.int .i64 m.num), .s (.int .i64 m.stp.t), u8 m.stp.n] ++ (bs m.key.b ++ (bs m.unt.b ++ [.list .sh 18 (m.writes.map wA), .list .sh 17 (m.items.map itA), .s (.str m.val), .s (.bool m.found), .s (.bool m.yes), .s (.int .i64 m.err)]))
theorem get_kcG {k : Key} {r : List AV} {n : Nat} (h : 16 ≤ n) : (bs k.b ++ r)[n]? = r[n - 16]? := by rw [List.getElem?_append_right (by rw [kc_length]; exact h), kc_length]
theorem set_kcG {k : Key} {r : List AV} {n : Nat} {x : AV} (h : 16 ≤ n) : (bs k.b ++ r).set n x = bs k.b ++ r.set (n - 16) x := by rw [List.set_append_right _ _ (by rw [kc_length]; exact h), kc_length]
theorem drop_kcG {k : Key} {r : List AV} {n : Nat} (h : 16 ≤ n) : (bs k.b ++ r).drop n = r.drop (n - 16) := by rw [List.drop_append, kc_length, List.drop_of_length_le (by rw [kc_length]; exact h), List.nil_append]
theorem take_kcG {k : Key} {r : List AV} {n : Nat} (h : 16 ≤ n) : (bs k.b ++ r).take n = bs k.b ++ r.take (n - 16) := by rw [List.take_append, kc_length, List.take_of_length_le (by rw [kc_length]; exact h)]
theorem KG_ : type_of% @get_kcG ∧ type_of% @set_kcG ∧ type_of% @drop_kcG ∧ type_of% @take_kcG := ⟨@get_kcG, @set_kcG, @drop_kcG, @take_kcG⟩
def okM (m : Msg) : Prop := m.writes.length ≤ 9223372036854775807 ∧ m.items.length ≤ 9223372036854775807 ∧ m.val.length ≤ 9223372036854775807 ∧ (∀ x ∈ m.items, x.val.length ≤ 9223372036854775807)
def gits : Option Key → List It → Bool
  | _, [] => true
  | p, x :: l => if goodK x.key = false then false else if 200 < x.val.length then false else if (match p with | some k => decide (0 ≤ cmpK k x.key) | none => false) = true then false else gits (some x.key) l
theorem gits_cons {p : Option Key} {x : It} {l : List It} : gits p (x :: l) = if goodK x.key = false then false else if 200 < x.val.length then false else if (match p with | some k => decide (0 ≤ cmpK k x.key) | none => false) = true then false else gits (some x.key) l := rfl
theorem gits_nil {p : Option Key} : gits p [] = true := by cases p <;> rfl
def goodIts (l : List It) : Bool := gits none l && decide (l.length ≤ 200)
def nodeB (n : Int) : Bool := decide (0 ≤ n) && decide (n ≤ 255)
def goodM (m : Msg) : Bool := if m.kind < 1 then false else if 11 < m.kind then false else if nodeB m.frm = false then false else if nodeB m.tto = false then false else if m.id < 0 then false else if goodS m.stp = false then false
  else if 200 < m.val.length then false else if m.err < 0 then false else if 12 < m.err then false else decide (m.writes.length ≤ 16) && sgood [] m.writes && goodIts m.items
end Go.AM
namespace Go.AM
open Go
set_option maxRecDepth 20000
def EqItS (C : CallW) (f : FuncId) : Prop := ∀ (a b : List It) S H (K : AV → St → Prop), a.length ≤ 9223372036854775807 → b.length ≤ 9223372036854775807 → K (.bool (decide (a = b))) ⟨S, H⟩ → C (.fn f) [lstIt a, lstIt b] ⟨S, H⟩ K
theorem Equal_Item_spec {C : CallW} (hC : LeC C C) (P : Program) : ∀ (a b : List It) S H (K : AV → St → Prop), a.length ≤ 9223372036854775807 → b.length ≤ 9223372036854775807 → K (.bool (decide (a = b))) ⟨S, H⟩ → runL C P C_slices_Equal_Item [lstIt a, lstIt b] ⟨S, H⟩ K := by
  intro a b S H K ha hb hK
  by_cases hl : a.length = b.length
  case neg =>
    have hl' : ¬ ((a.length : Int) = (b.length : Int)) := by omega
    rw [decide_eq_false (fun e => hl (by rw [e]))] at hK
    simp only [lstIt, C_slices_Equal_Item, A_, simprocAttr, ne_eq, U_slices_Equal_Item.1, hl']
    exact hK
  have hl' := eq_true (show ((a.length : Int) = (b.length : Int)) by omega)
  simp only [lstIt, C_slices_Equal_Item, A_, simprocAttr, ne_eq, U_slices_Equal_Item.1, hl']
  refine loop_rule hC (α := Nat) (fun i => a.length - i) (fun i => [.list .sh 17 (a.map itA), .list .sh 17 (b.map itA), .undef, .undef, .undef, .undef, .undef, .undef, .undef, .undef, .undef, .undef, .s (.int .i64 a.length), .s (.int .i64 i), .undef, .undef, .undef, .undef, .undef, .undef, .undef, .undef, .undef, .undef, .undef, .undef]) (fun _ => S) (fun _ => H) (fun i => i ≤ a.length ∧ decide (a = b) = decide (a.drop i = b.drop i)) 0 ⟨by simp, by simp⟩ rfl (by simp) rfl (fun a _ => by simp [AV.under, AV.under.go]) ?_
  rintro i ⟨hi, hinv⟩ ih
  by_cases h16 : i < a.length
  · have hlt : ((i : Int) < (a.length : Int)) := by omega
    have h16' : i < b.length := by omega
    have hw : IntKind.i64.wrap ((i : Int) + 1) = (i : Int) + 1 := wrap_i64 (by omega) (by omega)
    rw [List.drop_eq_getElem_cons h16, List.drop_eq_getElem_cons h16'] at hinv
    by_cases he : a[i] = b[i]
    · have he' := eq_true he
      rw [he] at hinv
      simp only [List.cons.injEq, true_and] at hinv
      simp only [A_, simprocAttr, ne_eq, U_slices_Equal_Item.1, IT_, hlt, h16, h16', he', hw]
      exact ih (i + 1) _ _ _ (by omega) ⟨by omega, hinv⟩ rfl (by simp) rfl
    · simp only [List.cons.injEq, he, false_and, decide_false] at hinv
      rw [hinv] at hK
      simp only [A_, simprocAttr, ne_eq, U_slices_Equal_Item.1, IT_, hlt, h16, h16', he]
      exact hK
  · have hlt : ¬ ((i : Int) < (a.length : Int)) := by omega
    rw [List.drop_of_length_le (by omega), List.drop_of_length_le (by omega), decide_eq_true rfl] at hinv
    rw [hinv] at hK
    simp only [A_, simprocAttr, ne_eq, U_slices_Equal_Item.1, hlt]
    exact hK
theorem msg_node_spec {C : CallW} (P : Program) : ∀ (n : Int) S H (K : AV → St → Prop), K (.bool (nodeB n)) ⟨S, H⟩ → runL C P C_msg_node [.s (.int .i64 n)] ⟨S, H⟩ K := by
  intro n S H K hK
  unfold nodeB at hK
  by_cases h1 : 0 ≤ n
  · rw [decide_eq_true h1, Bool.true_and] at hK
    simp only [C_msg_node, A_, simprocAttr, ne_eq, U_msg_node.1, h1]
    exact hK
  · rw [decide_eq_false h1, Bool.false_and] at hK
    simp only [C_msg_node, A_, simprocAttr, ne_eq, U_msg_node.1, h1]
    exact hK
theorem msg_num_spec {C : CallW} (P : Program) {c : Nat → FuncId} (h0 : PutS C (c 0)) : ∀ (b : List UInt8) (v : Nat) S H (K : AV → St → Prop), b.length ≤ 1000000000 → v < 9223372036854775808 → K (.list .uniq 1 (bs (b ++ putN v))) ⟨S, H⟩ → runL C P (C_msg_num c) [.list .sh 1 (bs b), .s (.int .i64 v)] ⟨S, H⟩ K := by
  intro b v S H K hb hv hK
  have hw := wrap_u64n (n := v) (by omega)
  simp only [C_msg_num, A_, simprocAttr, ne_eq, (U_msg_num _).1, convL, hw]
  refine h0 _ b v _ _ _ .l hb (by omega) ?_
  simp only [A_, simprocAttr, ne_eq, (U_msg_num _).1]
  exact hK
theorem msg_text_spec {C : CallW} (P : Program) {c : Nat → FuncId} (h0 : NumS C (c 0)) : ∀ (b s : List UInt8) S H (K : AV → St → Prop), b.length ≤ 1000000000 → s.length ≤ 1000000000 → K (.list .uniq 1 (bs (b ++ (putN s.length ++ s)))) ⟨S, H⟩ → runL C P (C_msg_text c) [.list .sh 1 (bs b), .s (.str s)] ⟨S, H⟩ K := by
  intro b s S H K hb hs hK
  simp only [C_msg_text, A_, simprocAttr, ne_eq, (U_msg_text _).1]
  refine h0 _ b s.length _ _ _ .l hb (by omega) ?_
  have hl := putN_len10 (v := s.length) (by omega)
  have hap : ∀ σ, appendL ⟨1, false, 1, (.s (.int .u8 0))⟩ true (.list .uniq 1 (bs (b ++ putN s.length))) (.s (.str s)) σ = some (.list .uniq 1 (bs ((b ++ putN s.length) ++ s)), σ) := fun σ => app_bstr (by simp; omega)
  simp only [A_, simprocAttr, ne_eq, (U_msg_text _).1, hap]
  exact hK
end Go.AM
namespace Go.AM
open Go
set_option maxRecDepth 20000
def prevIt (l : List It) (i : Nat) : Option Key := if h : 0 < i ∧ i ≤ l.length then some (l[i - 1]'(by omega)).key else none
theorem prevIt_0 {l : List It} : prevIt l 0 = none := by unfold prevIt; rw [dif_neg (by omega)]
theorem prevIt_s {l : List It} {i : Nat} (h : i < l.length) : prevIt l (i + 1) = some (l[i]).key := by unfold prevIt; rw [dif_pos ⟨by omega, by omega⟩]; simp
theorem prevIt_p {l : List It} {i : Nat} (h : 0 < i) (h2 : i ≤ l.length) : prevIt l i = some (l[i - 1]'(by omega)).key := by unfold prevIt; rw [dif_pos ⟨h, h2⟩]
def GoodItsS (C : CallW) (f : FuncId) : Prop := ∀ (l : List It) S H (K : AV → St → Prop), l.length ≤ 9223372036854775807 → K (.bool (goodIts l)) ⟨S, H⟩ → C (.fn f) [lstIt l] ⟨S, H⟩ K
set_option maxHeartbeats 8000000 in
theorem msg_goodItems_spec {C : CallW} (hC : LeC C C) (P : Program) {c : Nat → FuncId} (h0 : BoolK goodK C (c 0)) (h1 : KCmp C (c 1)) : ∀ (l : List It) S H (K : AV → St → Prop), l.length ≤ 9223372036854775807 → K (.bool (goodIts l)) ⟨S, H⟩ → runL C P (C_msg_goodItems c) [lstIt l] ⟨S, H⟩ K := by
  intro l S H K hl hK
  unfold goodIts at hK
  simp only [lstIt, C_msg_goodItems, A_, simprocAttr, ne_eq, (U_msg_goodItems _).1, IT_]
  refine loop_rule hC (α := Nat) (fun a => l.length - a) (fun a => [.list .sh 17 (l.map itA), .undef, .undef, .undef, .undef, .list .sh 17 (l.map itA), .s (.int .i64 l.length), .s (.int .i64 a), .undef, .undef, .undef, .undef, .undef, .undef, .undef, .undef, .undef, .undef, .undef, .undef, .undef, .undef, .undef, .undef, .undef, .undef, .undef, .undef, .undef, .undef, .undef, .undef, .undef, .undef, .undef, .undef, .undef, .undef, .undef, .undef, .undef, .undef]) (fun _ => S) (fun _ => H) (fun i => i ≤ l.length ∧ gits none l = gits (prevIt l i) (l.drop i)) 0 ⟨by simp, by rw [prevIt_0]; rfl⟩ rfl (by simp) rfl (fun a _ => by simp [AV.under, AV.under.go]) ?_
  rintro i ⟨hi, hinv⟩ ih
  by_cases h16 : i < l.length
  · have hlt : ((i : Int) < (l.length : Int)) := by omega
    have hw : IntKind.i64.wrap ((i : Int) + 1) = (i : Int) + 1 := wrap_i64 (by omega) (by omega)
    rw [List.drop_eq_getElem_cons h16, gits_cons] at hinv
    simp only [A_, simprocAttr, ne_eq, (U_msg_goodItems _).1, IT_, hlt, h16]
    refine h0 _ _ _ _ ?_
    cases hg : goodK (l[i]).key with
    | false =>
      rw [if_pos hg] at hinv
      rw [hinv, Bool.false_and] at hK
      simp only [A_, simprocAttr, ne_eq, (U_msg_goodItems _).1, IT_]
      exact hK
    | true =>
    rw [if_neg (by rw [hg]; simp)] at hinv
    by_cases e3 : 200 < (l[i]).val.length
    · have e3' : ((200 : Int) < ((l[i]).val.length : Int)) := by omega
      rw [if_pos e3] at hinv
      rw [hinv, Bool.false_and] at hK
      simp only [A_, simprocAttr, ne_eq, (U_msg_goodItems _).1, IT_, e3']
      exact hK
    have e3' : ¬ ((200 : Int) < ((l[i]).val.length : Int)) := by omega
    rw [if_neg e3] at hinv
    by_cases hi0 : 0 < i
    · have hi0' : ((0 : Int) < (i : Int)) := by omega
      have hw1 : IntKind.i64.wrap ((i : Int) - 1) = ((i - 1 : Nat) : Int) := by rw [wrap_i64 (by omega) (by omega)]; omega
      have h17 : i - 1 < l.length := by omega
      rw [prevIt_p hi0 (by omega)] at hinv
      dsimp only at hinv
      simp only [A_, simprocAttr, ne_eq, (U_msg_goodItems _).1, IT_, e3', hi0', hw1, h17]
      refine h1 _ _ _ _ _ ?_
      by_cases e4 : 0 ≤ Lib.compareBytes (l[i - 1]).key.b (l[i]).key.b
      · rw [if_pos (show decide (0 ≤ cmpK (l[i - 1]).key (l[i]).key) = true from decide_eq_true e4)] at hinv
        rw [hinv, Bool.false_and] at hK
        simp only [A_, simprocAttr, ne_eq, (U_msg_goodItems _).1, IT_, e4]
        exact hK
      · rw [if_neg (show ¬ decide (0 ≤ cmpK (l[i - 1]).key (l[i]).key) = true from by rw [decide_eq_true_iff]; exact e4)] at hinv
        simp only [A_, simprocAttr, ne_eq, (U_msg_goodItems _).1, IT_, e4, hw]
        exact ih (i + 1) _ _ _ (by omega) ⟨by omega, by rw [prevIt_s h16]; exact hinv⟩ rfl (by simp) rfl
    · have hi0' : ¬ ((0 : Int) < (i : Int)) := by omega
      have : prevIt l i = none := by rw [show i = 0 by omega, prevIt_0]
      rw [this, if_neg (by simp)] at hinv
      simp only [A_, simprocAttr, ne_eq, (U_msg_goodItems _).1, IT_, e3', hi0', hw]
      exact ih (i + 1) _ _ _ (by omega) ⟨by omega, by rw [prevIt_s h16]; exact hinv⟩ rfl (by simp) rfl
  · have hlt : ¬ ((i : Int) < (l.length : Int)) := by omega
    rw [List.drop_of_length_le (by omega), gits_nil] at hinv
    rw [hinv, Bool.true_and] at hK
    by_cases e : l.length ≤ 200
    · have e' : ((l.length : Int) ≤ 200) := by omega
      rw [decide_eq_true e] at hK
      simp only [A_, simprocAttr, ne_eq, (U_msg_goodItems _).1, IT_, hlt, e']
      exact hK
    · have e' : ¬ ((l.length : Int) ≤ 200) := by omega
      rw [decide_eq_false e] at hK
      simp only [A_, simprocAttr, ne_eq, (U_msg_goodItems _).1, IT_, hlt, e']
      exact hK
def GoodMS (C : CallW) (f : FuncId) : Prop := ∀ (m : Msg) S H (K : AV → St → Prop), okM m → (∀ G, K (.bool (goodM m)) ⟨S, H ++ G⟩) → C (.fn f) [.agg (msc m)] ⟨S, H⟩ K
set_option maxHeartbeats 16000000 in
theorem msg_Good_spec {C : CallW} (P : Program) {c : Nat → FuncId} (h0 : ∀ n : Int, FnS C (c 0) [.s (.int .i64 n)] (.bool (nodeB n))) (h1 : ∀ s : Stp, FnS C (c 1) [.agg (stc s)] (.bool (goodS s))) (h2 : GoodWS C (c 2)) (h3 : GoodItsS C (c 3)) : ∀ (m : Msg) S H (K : AV → St → Prop), okM m → (∀ G, K (.bool (goodM m)) ⟨S, H ++ G⟩) → runL C P (C_msg_Good c) [.agg (msc m)] ⟨S, H⟩ K := by
  intro m S H K hm hK
  unfold goodM at hK
  have hK0 := hK []
  rw [List.append_nil] at hK0
  have h1' := h1 m.stp
  have h2' := h2 m.writes
  have h3' := h3 m.items
  unfold stc at h1'
  unfold lstW at h2'
  unfold lstIt at h3'
  by_cases a1 : m.kind < 1
  · rw [if_pos a1] at hK0
    simp only [msc, C_msg_Good, A_, simprocAttr, ne_eq, (U_msg_Good _).1, KG_, a1]
    exact hK0
  by_cases a2 : 11 < m.kind
  · rw [if_neg a1, if_pos a2] at hK0
    simp only [msc, C_msg_Good, A_, simprocAttr, ne_eq, (U_msg_Good _).1, KG_, a1, a2]
    exact hK0
  rw [if_neg a1, if_neg a2] at hK0
  simp only [if_neg a1, if_neg a2] at hK
  simp only [msc, C_msg_Good, A_, simprocAttr, ne_eq, (U_msg_Good _).1, KG_, a1, a2]
  refine h0 _ _ _ _ ?_
  cases a3 : nodeB m.frm with
  | false =>
    rw [if_pos a3] at hK0
    simp only [A_, simprocAttr, ne_eq, (U_msg_Good _).1, KG_]
    exact hK0
  | true =>
  rw [if_neg (by rw [a3]; simp)] at hK0
  rw [a3] at hK
  simp only [A_, simprocAttr, ne_eq, (U_msg_Good _).1, KG_]
  refine h0 _ _ _ _ ?_
  cases a4 : nodeB m.tto with
  | false =>
    rw [if_pos a4] at hK0
    simp only [A_, simprocAttr, ne_eq, (U_msg_Good _).1, KG_]
    exact hK0
  | true =>
  rw [if_neg (by rw [a4]; simp)] at hK0
  rw [a4] at hK
  by_cases a5 : m.id < 0
  · rw [if_pos a5] at hK0
    simp only [A_, simprocAttr, ne_eq, (U_msg_Good _).1, KG_, a5]
    exact hK0
  rw [if_neg a5] at hK0
  simp only [if_neg a5] at hK
  simp only [A_, simprocAttr, ne_eq, (U_msg_Good _).1, KG_, a5]
  refine h1' _ _ _ ?_
  cases a6 : goodS m.stp with
  | false =>
    rw [if_pos a6] at hK0
    simp only [A_, simprocAttr, ne_eq, (U_msg_Good _).1, KG_]
    exact hK0
  | true =>
  rw [if_neg (by rw [a6]; simp)] at hK0
  rw [a6] at hK
  by_cases a7 : 200 < m.val.length
  · have a7' : ((200 : Int) < (m.val.length : Int)) := by omega
    rw [if_pos a7] at hK0
    simp only [A_, simprocAttr, ne_eq, (U_msg_Good _).1, KG_, a7']
    exact hK0
  have a7' : ¬ ((200 : Int) < (m.val.length : Int)) := by omega
  rw [if_neg a7] at hK0
  by_cases a8 : m.err < 0
  · rw [if_pos a8] at hK0
    simp only [A_, simprocAttr, ne_eq, (U_msg_Good _).1, KG_, a7', a8]
    exact hK0
  rw [if_neg a8] at hK0
  by_cases a9 : 12 < m.err
  · rw [if_pos a9] at hK0
    simp only [A_, simprocAttr, ne_eq, (U_msg_Good _).1, KG_, a7', a8, a9]
    exact hK0
  rw [if_neg a9] at hK0
  simp only [if_neg a7, if_neg a8, if_neg a9, Bool.true_eq_false, if_false] at hK
  by_cases b1 : m.writes.length ≤ 16
  case neg =>
    have b1' : ¬ ((m.writes.length : Int) ≤ 16) := by omega
    rw [decide_eq_false b1, Bool.false_and, Bool.false_and] at hK0
    simp only [A_, simprocAttr, ne_eq, (U_msg_Good _).1, KG_, a7', a8, a9, b1']
    exact hK0
  have b1' : ((m.writes.length : Int) ≤ 16) := by omega
  rw [decide_eq_true b1] at hK
  simp only [Bool.true_and] at hK
  simp only [A_, simprocAttr, ne_eq, (U_msg_Good _).1, KG_, a7', a8, a9, b1']
  refine h2' _ _ _ hm.1 fun G => ?_
  have hKG := hK G
  cases b2 : sgood [] m.writes with
  | false =>
    rw [b2, Bool.false_and] at hKG
    simp only [A_, simprocAttr, ne_eq, (U_msg_Good _).1, KG_]
    exact hKG
  | true =>
  rw [b2, Bool.true_and] at hKG
  simp only [A_, simprocAttr, ne_eq, (U_msg_Good _).1, KG_]
  refine h3' _ _ _ hm.2.1 ?_
  simp only [A_, simprocAttr, ne_eq, (U_msg_Good _).1, KG_]
  exact hKG
end Go.AM
namespace Go.AM
open Go
set_option maxRecDepth 20000
def brc (m : Msg) : List AV := [.s (.int .i64 m.kind), .s (.int .i64 m.frm), .s (.int .i64 m.tto), .s (.int .i64 m.id), .s (.int .i64 m.num), .s (.int .i64 m.stp.t), u8 m.stp.n] ++ (bs m.key.b ++ (bs m.unt.b ++ [.s (.str m.val), .s (.bool m.found), .s (.bool m.yes), .s (.int .i64 m.err)]))
theorem brc_length (m : Msg) : (brc m).length = 43 := by simp [brc, kc_length]
theorem brc_under {n : Nat} {m : Msg} : AV.under.go n (brc m) = true := by simp [brc, under_app', under_bs, AV.under, AV.under.go, under_u8]
theorem brc_look (m : Msg) : (brc m).map AV.look = brc m := by simp [brc, map_look_bs, look_u8]; exact ⟨rfl, rfl, rfl, rfl, rfl, rfl, rfl, rfl, rfl, rfl⟩
theorem brc_take (m : Msg) : (brc m).take 43 = brc m := List.take_of_length_le (Nat.le_of_eq (brc_length m))
def bareEq (a b : Msg) : Bool := decide (a.kind = b.kind ∧ a.frm = b.frm ∧ a.tto = b.tto ∧ a.id = b.id ∧ a.num = b.num ∧ a.stp = b.stp ∧ a.key = b.key ∧ a.unt = b.unt ∧ a.val = b.val ∧ a.found = b.found ∧ a.yes = b.yes ∧ a.err = b.err)
theorem brc_beq (a b : Msg) : AV.beq.go (brc a) (brc b) = bareEq a b := by
  have e1 := beq_app_k a.unt b.unt
  have e2 := beq_app_k a.key b.key
  simp only [brc, List.cons_append, List.nil_append, AV.beq.go, AV.beq, e1, e2, beq_kk, u8_inj, Bool.and_true, Sc.int.injEq, Sc.str.injEq, Sc.bool.injEq, true_and]
  unfold bareEq
  have : ∀ x y : Stp, (x = y) = (x.t = y.t ∧ x.n = y.n) := fun x y => by cases x; cases y; simp [Stp.mk.injEq]
  simp only [this, Bool.decide_and, Bool.and_assoc]
abbrev brL : List LK := ([.int .i64, .int .i64, .int .i64, .int .i64, .int .i64, .int .i64] ++ lk ++ lk ++ [.int .u8, .str, .bool, .bool, .int .i64])
theorem brL_eq : brL = [.int .i64, .int .i64, .int .i64, .int .i64, .int .i64, .int .i64, .int .u8] ++ (lk ++ (lk ++ [.str, .bool, .bool, .int .i64])) := rfl
theorem brc_fits (m : Msg) : fitsL brL (brc m) = true := by
  rw [brL_eq]
  simp only [brc, List.cons_append, List.nil_append, fitsL, fits_kr, LK.fits, Bool.and_true, decide_true, Bool.true_and, u8]
theorem brc_bin {a b : Msg} : binL .eql (.leaf brL) (.agg (brc a)) (.agg (brc b)) = some (.s (.bool (bareEq a b))) := by
  simp only [binL, brc_fits, and_self, if_true, cellsEq, brc_beq]
abbrev brZ : List AV := ([(.s (.int .i64 0)), (.s (.int .i64 0)), (.s (.int .i64 0)), (.s (.int .i64 0)), (.s (.int .i64 0)), (.s (.int .i64 0))] ++ bs key0.b ++ bs key0.b ++ [(.s (.int .u8 0)), (.s (.str [])), (.s (.bool false)), (.s (.bool false)), (.s (.int .i64 0))])
theorem brZ_length : brZ.length = 43 := rfl
theorem brc_fill (m : Msg) : fillL brZ [(0, 1, .s (.int .i64 m.kind)), (1, 1, .s (.int .i64 m.frm)), (2, 1, .s (.int .i64 m.tto)), (3, 1, .s (.int .i64 m.id)), (4, 1, .s (.int .i64 m.num)), (5, 2, .agg [.s (.int .i64 m.stp.t), u8 m.stp.n]), (7, 16, .agg (bs m.key.b)), (23, 16, .agg (bs m.unt.b)), (39, 1, .s (.str m.val)), (40, 1, .s (.bool m.found)), (41, 1, .s (.bool m.yes)), (42, 1, .s (.int .i64 m.err))] = some (brc m) := by
  have hz : brZ = [(.s (.int .i64 0)), (.s (.int .i64 0)), (.s (.int .i64 0)), (.s (.int .i64 0)), (.s (.int .i64 0)), (.s (.int .i64 0)), (.s (.int .u8 0))] ++ (bs key0.b ++ (bs key0.b ++ [(.s (.str [])), (.s (.bool false)), (.s (.bool false)), (.s (.int .i64 0))])) := rfl
  rw [hz]
  have hf : ∀ x : UInt8, (u8 x).fit = true := fun _ => rfl
  simp [fillL, AV.cells, AV.fit, kc_length, take_kcG, drop_kcG, brc]
def PlainS (C : CallW) (f : FuncId) : Prop := ∀ (m : Msg), FnS C f [.agg (msc m)] (.agg (brc m))
set_option maxHeartbeats 16000000 in
theorem msg_plain_spec {C : CallW} (P : Program) : ∀ (m : Msg) S H (K : AV → St → Prop), K (.agg (brc m)) ⟨S, H⟩ → runL C P C_msg_plain [.agg (msc m)] ⟨S, H⟩ K := by
  intro m S H K hK
  have hfill := brc_fill m
  have hl := brc_length m
  have hzl := brZ_length
  simp only [List.cons_append, List.nil_append, List.append_assoc, brZ] at hfill hzl
  simp only [msc, C_msg_plain, A_, simprocAttr, ne_eq, U_msg_plain.1, KG_, hfill, List.append_assoc, hl, hzl, brc_under, brc_take, brc_look]
  exact hK
def SameMS (C : CallW) (f : FuncId) : Prop := ∀ (a b : Msg) S H (K : AV → St → Prop), okM a → okM b → K (.bool (decide (a = b))) ⟨S, H⟩ → C (.fn f) [.agg (msc a), .agg (msc b)] ⟨S, H⟩ K
theorem same_eq (a b : Msg) : (decide (a.writes = b.writes) && (decide (a.items = b.items) && bareEq a b)) = decide (a = b) := by
  unfold bareEq
  cases a; cases b
  simp only [Msg.mk.injEq, ← Bool.decide_and]
  apply decide_eq_decide.2
  constructor
  · rintro ⟨h1, h2, h3, h4, h5, h6, h7, h8, h9, h10, h11, h12, h13, h14⟩
    exact ⟨h3, h4, h5, h6, h7, h8, h9, h10, h1, h2, h11, h12, h13, h14⟩
  · rintro ⟨h3, h4, h5, h6, h7, h8, h9, h10, h1, h2, h11, h12, h13, h14⟩
    exact ⟨h1, h2, h3, h4, h5, h6, h7, h8, h9, h10, h11, h12, h13, h14⟩
set_option maxHeartbeats 16000000 in
theorem msg_Same_spec {C : CallW} (P : Program) {c : Nat → FuncId} (h0 : EqWS C (c 0)) (h1 : EqItS C (c 1)) (h2 : PlainS C (c 2)) : ∀ (a b : Msg) S H (K : AV → St → Prop), okM a → okM b → K (.bool (decide (a = b))) ⟨S, H⟩ → runL C P (C_msg_Same c) [.agg (msc a), .agg (msc b)] ⟨S, H⟩ K := by
  intro a b S H K ha hb hK
  rw [← same_eq] at hK
  have h0' := h0 a.writes b.writes
  have h1' := h1 a.items b.items
  have h2a := h2 a
  have h2b := h2 b
  have hbin := @brc_bin a b
  simp only [brL, List.cons_append, List.nil_append, List.append_assoc] at hbin
  unfold lstW at h0'
  unfold lstIt at h1'
  unfold msc at h2a h2b
  simp only [List.cons_append, List.nil_append] at h2a h2b
  simp only [msc, C_msg_Same, A_, simprocAttr, ne_eq, (U_msg_Same _).1, KG_]
  refine h0' _ _ _ ha.1 hb.1 ?_
  simp only [A_, simprocAttr, ne_eq, (U_msg_Same _).1, KG_]
  refine h1' _ _ _ ha.2.1 hb.2.1 ?_
  cases e1 : decide (a.writes = b.writes) with
  | false =>
    rw [e1, Bool.false_and] at hK
    simp only [A_, simprocAttr, ne_eq, (U_msg_Same _).1, KG_]
    exact hK
  | true =>
  rw [e1, Bool.true_and] at hK
  cases e2 : decide (a.items = b.items) with
  | false =>
    rw [e2, Bool.false_and] at hK
    simp only [A_, simprocAttr, ne_eq, (U_msg_Same _).1, KG_]
    exact hK
  | true =>
  rw [e2, Bool.true_and] at hK
  simp only [A_, simprocAttr, ne_eq, (U_msg_Same _).1, KG_]
  refine h2a _ _ _ ?_
  simp only [A_, simprocAttr, ne_eq, (U_msg_Same _).1, KG_]
  refine h2b _ _ _ ?_
  simp only [A_, simprocAttr, ne_eq, (U_msg_Same _).1, KG_, List.append_assoc, hbin]
  exact hK
end Go.AM
namespace Go.AM
open Go
set_option maxRecDepth 20000
structure okMB (m : Msg) : Prop where
  ws : m.writes.length ≤ 20
  vs : ∀ w ∈ m.writes, w.val.length ≤ 250
  is : m.items.length ≤ 20
  iv : ∀ w ∈ m.items, w.val.length ≤ 250
  vl : m.val.length ≤ 250
  il : -9223372036854775808 ≤ m.id
  ih : m.id ≤ 9223372036854775807
  nl : -9223372036854775808 ≤ m.num
  nh : m.num ≤ 9223372036854775807
theorem okMB.ok {m : Msg} (h : okMB m) : okM m := ⟨by have := h.ws; omega, by have := h.is; omega, by have := h.vl; omega, fun x hx => by have := h.iv x hx; omega⟩
def flB (f y : Bool) : UInt8 := match f, y with
  | false, false => 0
  | true, false => 1
  | false, true => 2
  | true, true => 3
def putIt (x : It) : List UInt8 := x.key.b ++ (putN x.val.length ++ x.val)
def hd2 (m : Msg) : List UInt8 := putN m.kind.toNat ++ (putN m.frm.toNat ++ (putN m.tto.toNat ++ (putN m.id.toNat ++ (putN (zig m.num) ++ putN (packN m.stp)))))
def tlB (m : Msg) : List UInt8 := putN m.val.length ++ (m.val ++ (flB m.found m.yes :: putN m.err.toNat))
def putM (m : Msg) : List UInt8 := if goodM m = false then [] else hd2 m ++ (m.key.b ++ (m.unt.b ++ (putWs m.writes ++ (putN m.items.length ++ (m.items.flatMap putIt ++ tlB m)))))
structure goodMp (m : Msg) : Prop where
  k1 : 1 ≤ m.kind
  k2 : m.kind ≤ 11
  f1 : 0 ≤ m.frm
  f2 : m.frm ≤ 255
  t1 : 0 ≤ m.tto
  t2 : m.tto ≤ 255
  i1 : 0 ≤ m.id
  s1 : goodS m.stp = true
  v1 : m.val.length ≤ 200
  e1 : 0 ≤ m.err
  e2 : m.err ≤ 12
  w1 : m.writes.length ≤ 16
  w2 : sgood [] m.writes = true
  g1 : gits none m.items = true
  g2 : m.items.length ≤ 200
theorem goodM_p {m : Msg} (h : goodM m = true) : goodMp m := by
  unfold goodM at h
  split at h
  · cases h
  split at h
  · cases h
  split at h
  · cases h
  split at h
  · cases h
  split at h
  · cases h
  split at h
  · cases h
  split at h
  · cases h
  split at h
  · cases h
  split at h
  · cases h
  rename_i a1 a2 a3 a4 a5 a6 a7 a8 a9
  unfold goodIts at h
  simp only [Bool.and_eq_true, decide_eq_true_eq] at h
  unfold nodeB at a3 a4
  simp at a3 a4
  exact ⟨by omega, by omega, by omega, by omega, by omega, by omega, by omega, by simpa using a6, by omega, by omega, by omega, h.1.1, h.1.2, h.2.1, h.2.2⟩
theorem putIt_len {x : It} (h : x.val.length ≤ 250) : (putIt x).length ≤ 280 := by
  have := putN_len10 (v := x.val.length) (by omega)
  unfold putIt
  simp [x.key.h]; omega
theorem putIts_len : ∀ (l : List It), (∀ w ∈ l, w.val.length ≤ 250) → (l.flatMap putIt).length ≤ 280 * l.length
  | [], _ => by simp
  | x :: l, h => by
    have h1 := putIts_len l fun y hy => h y (List.mem_cons_of_mem _ hy)
    have h2 := putIt_len (h x (List.mem_cons_self ..))
    rw [List.flatMap_cons, List.length_append, List.length_cons]
    omega
theorem flatIt_take {l : List It} {i : Nat} (h : i < l.length) : (l.take (i + 1)).flatMap putIt = (l.take i).flatMap putIt ++ putIt l[i] := by
  rw [List.take_succ_eq_append_getElem h, List.flatMap_append]; simp
theorem itc_last {S : List (List AV)} {H G : List HObj} {x : It} : storeL 17 (.ptr (.heap (H.length + G.length)) 0) (.agg (itc x)) ⟨S, H ++ (G ++ [.cells (bs key0.b ++ [.s (.str [])])])⟩ = some ⟨S, H ++ (G ++ [.cells (itc x)])⟩ := storeL_last (by simp [kc_length]) (itc_length x) (by omega) itc_under
theorem elems_keyM {σ : St} {r : Ref} {k : Key} {off : Nat} {pre rest : List AV} (h : boxOf σ r = some (pre ++ (bs k.b ++ rest))) (ho : pre.length = off) : elemsL eB (.row r off 16 16) σ = some (bs k.b) := by
  unfold elemsL
  have hl : off + 16 * 1 ≤ (pre ++ (bs k.b ++ rest)).length := by simp [kc_length]; omega
  have e : (false || (1 : Nat) == 1) = true := rfl
  simp only [eB, e, if_true, readCells, h, Option.bind_some, Nat.mul_one] at hl ⊢
  rw [if_pos ⟨hl, .inl (by omega)⟩]
  have : (((pre ++ (bs k.b ++ rest)).drop off).take 16).map AV.look = bs k.b := by rw [← ho, List.drop_left, take_kc, map_look_bs]
  simp only [Option.map_some, this]
  rw [group_any rfl rfl 16 _ (kc_length k)]
def NumKS (C : CallW) (f : FuncId) : Prop := ∀ (a : AV) (b : List UInt8) (v : Int) S H (K : AV → St → Prop), BA a b → b.length ≤ 1000000000 → 0 ≤ v → v < 9223372036854775808 → K (.list .uniq 1 (bs (b ++ putN v.toNat))) ⟨S, H⟩ → C (.fn f) [a, .s (.int .i64 v)] ⟨S, H⟩ K
theorem numK {C : CallW} {f : FuncId} (h : NumS C f) : NumKS C f := fun a b v S H K ha hb h0 h1 hK => by
  have := h a b v.toNat S H K ha hb (by omega) hK
  rwa [show ((v.toNat : Nat) : Int) = v by omega] at this
def PutMS (C : CallW) (f : FuncId) : Prop := ∀ (m : Msg) S H (K : AV → St → Prop), okMB m → (∀ G, K (.list .sh 1 (bs (putM m))) ⟨S, H ++ G⟩) → C (.fn f) [.agg (msc m)] ⟨S, H⟩ K
set_option maxHeartbeats 40000000 in
theorem msg_Put_spec {C : CallW} (hC : LeC C C) (P : Program) {c : Nat → FuncId} (h0 : GoodMS C (c 0)) (h1' : NumS C (c 1)) (h2 : ∀ s : Stp, FnS C (c 2) [.agg (stc s)] (.tup [.s (.int .u64 (packN s : Nat)), .s (.int .i64 (if goodS s = true then 0 else 1))])) (h3 : PutS C (c 3)) (h4 : ∀ v : Int, -9223372036854775808 ≤ v → v ≤ 9223372036854775807 → FnS C (c 4) [.s (.int .i64 v)] (.s (.int .u64 (zig v : Nat)))) (h5 : PutWS C (c 5)) (h6 : TxtS C (c 6)) :
    ∀ (m : Msg) S H (K : AV → St → Prop), okMB m → (∀ G, K (.list .sh 1 (bs (putM m))) ⟨S, H ++ G⟩) → runL C P (C_msg_Put c) [.agg (msc m)] ⟨S, H⟩ (WkK K) := by
  intro m S H K hm hK
  have h1 := numK h1'
  have h0' := h0 m
  have h2' := h2 m.stp
  have h4' := h4 m.num hm.nl hm.nh
  have h5' := fun a b => h5 a b m.writes
  unfold stc at h2'
  unfold lstW at h5'
  unfold msc at h0'
  simp only [List.cons_append, List.nil_append] at h0'
  simp only [msc, C_msg_Put, A_, simprocAttr, ne_eq, (U_msg_Put _).1, KG_]
  refine h0' _ _ _ hm.ok fun G => ?_
  unfold putM at hK
  cases hg : goodM m with
  | false =>
    have := hK ([.cells (msc m)] ++ G)
    rw [if_pos hg] at this
    simp only [A_, simprocAttr, ne_eq, (U_msg_Put _).1]
    exact ⟨.list .sh 1 (bs []), .inr (.nilS (by omega) .nil), by simpa [msc] using this⟩
  | true =>
  rw [if_neg (by rw [hg]; simp)] at hK
  have hp := goodM_p hg
  have p1 := putN_len10 (v := m.kind.toNat) (by have := hp.k2; omega)
  have p2 := putN_len10 (v := m.frm.toNat) (by have := hp.f2; omega)
  have p3 := putN_len10 (v := m.tto.toNat) (by have := hp.t2; omega)
  have p4 := putN_len10 (v := m.id.toNat) (by have := hm.ih; omega)
  have p5 := putN_len10 (v := zig m.num) (zig_lt hm.nl hm.nh)
  have p6 := pack_len m.stp
  simp only [A_, simprocAttr, ne_eq, (U_msg_Put _).1, KG_]
  refine h1 _ [] m.kind _ _ _ .n (by simp) (by have := hp.k1; omega) (by have := hp.k2; omega) ?_
  simp only [A_, simprocAttr, ne_eq, (U_msg_Put _).1, KG_]
  refine h1 _ _ m.frm _ _ _ .l (by first | omega | (simp only [List.length_append, List.length_nil]; omega)) hp.f1 (by have := hp.f2; omega) ?_
  simp only [A_, simprocAttr, ne_eq, (U_msg_Put _).1, KG_]
  refine h1 _ _ m.tto _ _ _ .l (by first | omega | (simp only [List.length_append, List.length_nil]; omega)) hp.t1 (by have := hp.t2; omega) ?_
  simp only [A_, simprocAttr, ne_eq, (U_msg_Put _).1, KG_]
  refine h2' _ _ _ ?_
  have hid : IntKind.u64.wrap m.id = ((m.id.toNat : Nat) : Int) := by rw [show m.id = ((m.id.toNat : Nat) : Int) by have := hp.i1; omega, wrap_u64n (by have := hm.ih; omega)]; simp
  simp only [A_, simprocAttr, ne_eq, (U_msg_Put _).1, KG_, convL, hid]
  refine h3 _ _ m.id.toNat _ _ _ .l (by first | omega | (simp only [List.length_append, List.length_nil]; omega)) (by have := hm.ih; omega) ?_
  simp only [A_, simprocAttr, ne_eq, (U_msg_Put _).1, KG_]
  refine h4' _ _ _ ?_
  simp only [A_, simprocAttr, ne_eq, (U_msg_Put _).1, KG_]
  refine h3 _ _ (zig m.num) _ _ _ .l (by first | omega | (simp only [List.length_append, List.length_nil]; omega)) (zig_lt hm.nl hm.nh) ?_
  simp only [A_, simprocAttr, ne_eq, (U_msg_Put _).1, KG_]
  refine h3 _ _ (packN m.stp) _ _ _ .l (by first | omega | (simp only [List.length_append, List.length_nil]; omega)) (by have := packN_lt m.stp; omega) ?_
  have hhd : putN m.kind.toNat ++ (putN m.frm.toNat ++ (putN m.tto.toNat ++ (putN m.id.toNat ++ putN (zig m.num)))) ++ putN (packN m.stp) = hd2 m := by simp only [hd2, List.append_assoc]
  rw [hhd]
  have hhl : (hd2 m).length ≤ 60 := by unfold hd2; simp only [List.length_append]; omega
  generalize hd2 m = b0 at hhl hK ⊢
  have hk := m.key.h
  have hu := m.unt.h
  have hsl7 : ∀ off, sliceL (.arr 16 1) (.ptr (.heap H.length) off) none none none = some (.row (.heap H.length) off 16 16) := fun off => by simp [sliceL, bound]
  have hcells : ∀ (X : List HObj), boxOf ⟨S, H ++ (HObj.cells (AV.s (.int .i64 m.kind) :: AV.s (.int .i64 m.frm) :: AV.s (.int .i64 m.tto) :: AV.s (.int .i64 m.id) :: AV.s (.int .i64 m.num) :: AV.s (.int .i64 m.stp.t) :: u8 m.stp.n :: (bs m.key.b ++ (bs m.unt.b ++ [.list .sh 18 (m.writes.map wA), .list .sh 17 (m.items.map itA), .s (.str m.val), .s (.bool m.found), .s (.bool m.yes), .s (.int .i64 m.err)]))) :: X)⟩ (.heap H.length) = some (msc m) := fun X => by rw [boxOf_heap, app_get0]; rfl
  have happ1 : ∀ (X : List HObj), appendL ⟨1, false, 1, (.s (.int .u8 0))⟩ false (.list .uniq 1 (bs b0)) (.row (.heap H.length) 7 16 16) ⟨S, H ++ (HObj.cells (AV.s (.int .i64 m.kind) :: AV.s (.int .i64 m.frm) :: AV.s (.int .i64 m.tto) :: AV.s (.int .i64 m.id) :: AV.s (.int .i64 m.num) :: AV.s (.int .i64 m.stp.t) :: u8 m.stp.n :: (bs m.key.b ++ (bs m.unt.b ++ [.list .sh 18 (m.writes.map wA), .list .sh 17 (m.items.map itA), .s (.str m.val), .s (.bool m.found), .s (.bool m.yes), .s (.int .i64 m.err)]))) :: X)⟩ = some (.list .uniq 1 (bs (b0 ++ m.key.b)), _) := fun X => app_bu2 (b := b0) (d := m.key.b) rfl (elems_keyM (pre := [.s (.int .i64 m.kind), .s (.int .i64 m.frm), .s (.int .i64 m.tto), .s (.int .i64 m.id), .s (.int .i64 m.num), .s (.int .i64 m.stp.t), u8 m.stp.n]) (hcells X) rfl) (by omega)
  have happ2 : ∀ (X : List HObj), appendL ⟨1, false, 1, (.s (.int .u8 0))⟩ false (.list .uniq 1 (bs (b0 ++ m.key.b))) (.row (.heap H.length) 23 16 16) ⟨S, H ++ (HObj.cells (AV.s (.int .i64 m.kind) :: AV.s (.int .i64 m.frm) :: AV.s (.int .i64 m.tto) :: AV.s (.int .i64 m.id) :: AV.s (.int .i64 m.num) :: AV.s (.int .i64 m.stp.t) :: u8 m.stp.n :: (bs m.key.b ++ (bs m.unt.b ++ [.list .sh 18 (m.writes.map wA), .list .sh 17 (m.items.map itA), .s (.str m.val), .s (.bool m.found), .s (.bool m.yes), .s (.int .i64 m.err)]))) :: X)⟩ = some (.list .uniq 1 (bs (b0 ++ m.key.b ++ m.unt.b)), _) := fun X => app_bu2 (b := b0 ++ m.key.b) (d := m.unt.b) rfl (elems_keyM (pre := [.s (.int .i64 m.kind), .s (.int .i64 m.frm), .s (.int .i64 m.tto), .s (.int .i64 m.id), .s (.int .i64 m.num), .s (.int .i64 m.stp.t), u8 m.stp.n] ++ bs m.key.b) (by rw [hcells X]; unfold msc; rw [← List.append_assoc]) (by simp [kc_length])) (by rw [List.length_append]; omega)
  simp only [A_, simprocAttr, ne_eq, (U_msg_Put _).1, KG_, hsl7, happ1, happ2]
  have hwv : ∀ w ∈ m.writes, w.val.length ≤ 100000 := fun w hw => by have := hm.vs w hw; omega
  refine h5' _ (b0 ++ m.key.b ++ m.unt.b) _ _ _ (by simp only [List.append_assoc]; exact .l) (by simp only [List.length_append]; omega) (by have := hm.ws; omega) hwv fun G2 => ?_
  have hlist : b0 ++ m.key.b ++ m.unt.b ++ putWs m.writes = b0 ++ (m.key.b ++ (m.unt.b ++ putWs m.writes)) := by simp only [List.append_assoc]
  rw [hlist]
  have hwl := putWs_le hm.ws hm.vs
  have pil := putN_len10 (v := m.items.length) (by have := hm.is; omega)
  have hil := hm.is
  have hl1 : (b0 ++ (m.key.b ++ (m.unt.b ++ putWs m.writes))).length ≤ 20000 := by simp only [List.length_append]; omega
  have hK2 : ∀ X, K (.list .sh 1 (bs ((b0 ++ (m.key.b ++ (m.unt.b ++ putWs m.writes))) ++ (putN m.items.length ++ (m.items.flatMap putIt ++ tlB m))))) ⟨S, H ++ X⟩ := fun X => by
    have := hK X
    simpa only [List.append_assoc] using this
  clear happ1 happ2 hlist
  generalize b0 ++ (m.key.b ++ (m.unt.b ++ putWs m.writes)) = b1 at hl1 hK2 ⊢
  simp only [A_, simprocAttr, ne_eq, (U_msg_Put _).1, KG_]
  refine h1 _ b1 ((m.items.length : Nat) : Int) _ _ _ .l (by omega) (by omega) (by omega) ?_
  rw [Int.toNat_natCast]
  simp only [A_, simprocAttr, ne_eq, (U_msg_Put _).1, KG_]
  have hX0 : ∀ (G' Y : List HObj), ((HObj.cells (AV.s (.int .i64 m.kind) :: AV.s (.int .i64 m.frm) :: AV.s (.int .i64 m.tto) :: AV.s (.int .i64 m.id) :: AV.s (.int .i64 m.num) :: AV.s (.int .i64 m.stp.t) :: u8 m.stp.n :: (bs m.key.b ++ (bs m.unt.b ++ [.list .sh 18 (m.writes.map wA), .list .sh 17 (m.items.map itA), .s (.str m.val), .s (.bool m.found), .s (.bool m.yes), .s (.int .i64 m.err)]))) :: G') ++ Y)[0]? = some (HObj.cells (AV.s (.int .i64 m.kind) :: AV.s (.int .i64 m.frm) :: AV.s (.int .i64 m.tto) :: AV.s (.int .i64 m.id) :: AV.s (.int .i64 m.num) :: AV.s (.int .i64 m.stp.t) :: u8 m.stp.n :: (bs m.key.b ++ (bs m.unt.b ++ [.list .sh 18 (m.writes.map wA), .list .sh 17 (m.items.map itA), .s (.str m.val), .s (.bool m.found), .s (.bool m.yes), .s (.int .i64 m.err)])))) := fun _ _ => rfl
  generalize hXe : (HObj.cells (AV.s (.int .i64 m.kind) :: AV.s (.int .i64 m.frm) :: AV.s (.int .i64 m.tto) :: AV.s (.int .i64 m.id) :: AV.s (.int .i64 m.num) :: AV.s (.int .i64 m.stp.t) :: u8 m.stp.n :: (bs m.key.b ++ (bs m.unt.b ++ [.list .sh 18 (m.writes.map wA), .list .sh 17 (m.items.map itA), .s (.str m.val), .s (.bool m.found), .s (.bool m.yes), .s (.int .i64 m.err)]))) :: (G ++ G2)) = X
  have hX := hX0 (G ++ G2)
  rw [hXe] at hX
  clear hX0 hXe hcells
  refine loop_rule hC (α := Nat × List HObj) (fun a => m.items.length - a.1) (fun a => [.undef, .ptr (.heap H.length) 0, .undef, .list .uniq 1 (bs (b1 ++ (putN m.items.length ++ (m.items.take a.1).flatMap putIt))), .undef, .undef, .undef, .undef, .undef, .undef, .undef, .undef, .undef, .undef, .undef, .undef, .undef, .undef, .undef, .undef, .undef, .undef, .undef, .undef, .undef, .undef, .undef, .undef, .undef, .undef, .undef, .undef, .undef, .undef, .undef, .undef, .undef, .undef, .undef, .undef, .undef, .undef, .undef, .undef, .undef, .undef, .undef, .undef, .undef, .undef, .undef, .undef, .undef, .undef, .list .sh 17 (m.items.map itA), .s (.int .i64 m.items.length), .s (.int .i64 a.1), .undef, .undef, .undef, .undef, .undef, .undef, .undef, .undef, .undef, .undef, .undef, .undef, .undef, .undef, .undef, .undef, .undef, .undef, .undef, .undef, .undef, .undef, .undef, .undef, .undef, .undef, .undef, .undef, .undef]) (fun _ => S) (fun a => H ++ (X ++ a.2)) (fun a => a.1 ≤ m.items.length) (0, []) (by simp) (by simp [keep, zm]) (by simp) (by simp) (fun a _ => by simp [AV.under, AV.under.go]) ?_
  rintro ⟨i, Y⟩ hi ih
  dsimp only at hi ih ⊢
  have hcl : (b1 ++ (putN m.items.length ++ (m.items.take i).flatMap putIt)).length ≤ 40000 := by
    have := putIts_len (m.items.take i) (fun w hw => hm.iv w (List.mem_of_mem_take hw))
    rw [List.length_take] at this
    have h3 : 280 * min i m.items.length ≤ 280 * 20 := Nat.mul_le_mul_left _ (by omega)
    simp only [List.length_append]
    omega
  by_cases h16 : i < m.items.length
  · have hlt : ((i : Int) < (m.items.length : Int)) := by omega
    have hw : IntKind.i64.wrap ((i : Int) + 1) = (i : Int) + 1 := wrap_i64 (by omega) (by omega)
    have hvi := hm.iv m.items[i] (List.getElem_mem h16)
    have hki := (m.items[i]).key.h
    have hnext : b1 ++ (putN m.items.length ++ (m.items.take (i + 1)).flatMap putIt) = (b1 ++ (putN m.items.length ++ (m.items.take i).flatMap putIt)) ++ ((m.items[i]).key.b ++ (putN (m.items[i]).val.length ++ (m.items[i]).val)) := by
      rw [flatIt_take h16, putIt]; simp only [List.append_assoc]
    have ih2 := ih (i + 1, Y ++ [.cells (itc m.items[i])])
    dsimp only at ih2
    rw [hnext] at ih2
    generalize b1 ++ (putN m.items.length ++ (m.items.take i).flatMap putIt) = cur at hcl ih2 ⊢
    have hst := itc_last (S := S) (H := H) (G := X ++ Y) (x := m.items[i])
    simp only [List.length_append, List.append_assoc] at hst
    have hb1 : boxOf ⟨S, H ++ (X ++ (Y ++ [HObj.cells (itc m.items[i])]))⟩ (.heap (H.length + (X.length + Y.length))) = some (itc m.items[i]) := by
      rw [boxOf_heap, app_get, app_get, List.getElem?_append_right (Nat.le_refl _)]; simp [cellsOf?]
    have hbx : (H ++ (X ++ (Y ++ [HObj.cells (itc m.items[i])])))[H.length + (X.length + Y.length)]? = some (.cells (itc m.items[i])) := by
      rw [app_get, app_get, List.getElem?_append_right (Nat.le_refl _)]; simp
    have hslx : sliceL (.arr 16 1) (.ptr (.heap (H.length + (X.length + Y.length))) 0) none none none = some (.row (.heap (H.length + (X.length + Y.length))) 0 16 16) := by simp [sliceL, bound]
    have happ := app_bu2 (b := cur) (d := (m.items[i]).key.b) (x := .row (.heap (H.length + (X.length + Y.length))) 0 16 16) (σ := ⟨S, H ++ (X ++ (Y ++ [HObj.cells (itc m.items[i])]))⟩) rfl (elems_key (rest := [.s (.str (m.items[i]).val)]) (by rw [hb1]; rfl)) (by omega)
    simp only [eB] at happ
    simp only [A_, simprocAttr, ne_eq, (U_msg_Put _).1, IT_, hlt, h16, hst, happ, hslx, hbx]
    refine h6 _ (cur ++ (m.items[i]).key.b) (m.items[i]).val _ _ _ .l (by simp only [List.length_append]; omega) (by omega) ?_
    simp only [A_, simprocAttr, ne_eq, (U_msg_Put _).1, hw]
    exact ih2 _ _ _ (by omega) (by omega) rfl (by simp) (by simp)
  · have hlt : ¬ ((i : Int) < (m.items.length : Int)) := by omega
    have hti : m.items.take i = m.items := List.take_of_length_le (by omega)
    rw [hti] at hcl ⊢
    generalize hcur : b1 ++ (putN m.items.length ++ m.items.flatMap putIt) = cur at hcl ⊢
    have or01 : IntKind.u8.wrap (((BitVec.ofInt IntKind.u8.bits 0 ||| BitVec.ofInt IntKind.u8.bits 1).toNat : Nat) : Int) = 1 := by decide
    have or02 : IntKind.u8.wrap (((BitVec.ofInt IntKind.u8.bits 0 ||| BitVec.ofInt IntKind.u8.bits 2).toNat : Nat) : Int) = 2 := by decide
    have or12 : IntKind.u8.wrap (((BitVec.ofInt IntKind.u8.bits 1 ||| BitVec.ofInt IntKind.u8.bits 2).toNat : Nat) : Int) = 3 := by decide
    have hvl := hm.vl
    have pvl := putN_len10 (v := m.val.length) (by omega)
    cases hf : m.found <;> cases hy : m.yes
    · have hap : ∀ σ, appendL ⟨1, false, 1, (.s (.int .u8 0))⟩ false (.list .uniq 1 (bs (cur ++ (putN m.val.length ++ m.val)))) (.list .full 1 [.s (.int .u8 0)]) σ = some (.list .uniq 1 (bs (cur ++ (putN m.val.length ++ m.val) ++ [0])), σ) := fun σ => app_b1 (c := 0) (.inl rfl) (by simp only [List.length_append]; omega)
      simp only [A_, simprocAttr, ne_eq, (U_msg_Put _).1, KG_, hlt, hX, hf, hy, or01, or02, or12]
      refine h6 _ cur m.val _ _ _ .l (by omega) (by omega) ?_
      simp only [A_, simprocAttr, ne_eq, (U_msg_Put _).1, KG_, hX, hap]
      refine h1 _ _ m.err _ _ _ .l (by simp only [List.length_append, List.length_cons, List.length_nil]; omega) hp.e1 (by have := hp.e2; omega) ?_
      simp only [A_, simprocAttr, ne_eq, (U_msg_Put _).1, KG_]
      refine wk_uniq ?_
      have := hK2 (X ++ Y)
      rw [tlB, hf, hy] at this
      rw [← hcur]
      simpa only [flB, List.append_assoc, List.cons_append, List.nil_append] using this
    · have hap : ∀ σ, appendL ⟨1, false, 1, (.s (.int .u8 0))⟩ false (.list .uniq 1 (bs (cur ++ (putN m.val.length ++ m.val)))) (.list .full 1 [.s (.int .u8 2)]) σ = some (.list .uniq 1 (bs (cur ++ (putN m.val.length ++ m.val) ++ [2])), σ) := fun σ => app_b1 (c := 2) (.inl rfl) (by simp only [List.length_append]; omega)
      simp only [A_, simprocAttr, ne_eq, (U_msg_Put _).1, KG_, hlt, hX, hf, hy, or01, or02, or12]
      refine h6 _ cur m.val _ _ _ .l (by omega) (by omega) ?_
      simp only [A_, simprocAttr, ne_eq, (U_msg_Put _).1, KG_, hX, hap]
      refine h1 _ _ m.err _ _ _ .l (by simp only [List.length_append, List.length_cons, List.length_nil]; omega) hp.e1 (by have := hp.e2; omega) ?_
      simp only [A_, simprocAttr, ne_eq, (U_msg_Put _).1, KG_]
      refine wk_uniq ?_
      have := hK2 (X ++ Y)
      rw [tlB, hf, hy] at this
      rw [← hcur]
      simpa only [flB, List.append_assoc, List.cons_append, List.nil_append] using this
    · have hap : ∀ σ, appendL ⟨1, false, 1, (.s (.int .u8 0))⟩ false (.list .uniq 1 (bs (cur ++ (putN m.val.length ++ m.val)))) (.list .full 1 [.s (.int .u8 1)]) σ = some (.list .uniq 1 (bs (cur ++ (putN m.val.length ++ m.val) ++ [1])), σ) := fun σ => app_b1 (c := 1) (.inl rfl) (by simp only [List.length_append]; omega)
      simp only [A_, simprocAttr, ne_eq, (U_msg_Put _).1, KG_, hlt, hX, hf, hy, or01, or02, or12]
      refine h6 _ cur m.val _ _ _ .l (by omega) (by omega) ?_
      simp only [A_, simprocAttr, ne_eq, (U_msg_Put _).1, KG_, hX, hap]
      refine h1 _ _ m.err _ _ _ .l (by simp only [List.length_append, List.length_cons, List.length_nil]; omega) hp.e1 (by have := hp.e2; omega) ?_
      simp only [A_, simprocAttr, ne_eq, (U_msg_Put _).1, KG_]
      refine wk_uniq ?_
      have := hK2 (X ++ Y)
      rw [tlB, hf, hy] at this
      rw [← hcur]
      simpa only [flB, List.append_assoc, List.cons_append, List.nil_append] using this
    · have hap : ∀ σ, appendL ⟨1, false, 1, (.s (.int .u8 0))⟩ false (.list .uniq 1 (bs (cur ++ (putN m.val.length ++ m.val)))) (.list .full 1 [.s (.int .u8 3)]) σ = some (.list .uniq 1 (bs (cur ++ (putN m.val.length ++ m.val) ++ [3])), σ) := fun σ => app_b1 (c := 3) (.inl rfl) (by simp only [List.length_append]; omega)
      simp only [A_, simprocAttr, ne_eq, (U_msg_Put _).1, KG_, hlt, hX, hf, hy, or01, or02, or12]
      refine h6 _ cur m.val _ _ _ .l (by omega) (by omega) ?_
      simp only [A_, simprocAttr, ne_eq, (U_msg_Put _).1, KG_, hX, hap]
      refine h1 _ _ m.err _ _ _ .l (by simp only [List.length_append, List.length_cons, List.length_nil]; omega) hp.e1 (by have := hp.e2; omega) ?_
      simp only [A_, simprocAttr, ne_eq, (U_msg_Put _).1, KG_]
      refine wk_uniq ?_
      have := hK2 (X ++ Y)
      rw [tlB, hf, hy] at this
      rw [← hcur]
      simpa only [flB, List.append_assoc, List.cons_append, List.nil_append] using this
end Go.AM
namespace Go.AM
open Go
def bnd {α β : Type} (f : Rd → α × Rd) (g : α → Rd → β × Rd) : Rd → β × Rd := fun r => g (f r).1 (f r).2
def ret {α : Type} (a : α) : Rd → α × Rd := fun r => (a, r)
theorem bnd_eq {α β : Type} {f : Rd → α × Rd} {g : α → Rd → β × Rd} {r : Rd} {a : α} {q : Rd} (h : f r = (a, q)) : bnd f g r = g a q := by unfold bnd; rw [h]
def itR : Rd → It × Rd := bnd keyR fun k => bnd (bnd (mostR 200) textR) fun v => ret ⟨k, v⟩
def itsR : Nat → Rd → List It × Rd
  | 0, r => ([], r)
  | n + 1, r => ((itR r).1 :: (itsR n (itR r).2).1, (itsR n (itR r).2).2)
def tailR (f : List It → List UInt8 → Nat → Nat → Msg) : Rd → Msg × Rd :=
  bnd (mostR 200) fun n => bnd (itsR n) fun is => bnd (bnd (mostR 200) textR) fun v => bnd (mostR 3) fun fl => bnd (mostR 12) fun er => ret (f is v fl er)
def mkM (k fr to : Nat) (id num : Int) (st : Stp) (ke un : Key) (ws : List Wr) (is : List It) (v : List UInt8) (fl er : Nat) : Msg := ⟨k, fr, to, id, num, st, ke, un, ws, is, v, decide (fl % 2 = 1), decide (fl / 2 % 2 = 1), er⟩
def readM : Rd → Msg × Rd :=
  bnd (mostR 11) fun k => bnd (mostR 255) fun fr => bnd (mostR 255) fun to => bnd numR fun id => bnd numR fun nm => bnd stampR fun st => bnd keyR fun ke => bnd keyR fun un => bnd writesR fun ws =>
    tailR (mkM k fr to (IntKind.i64.wrap id) (zag nm) st ke un ws)
def zMsg : Msg := ⟨0, 0, 0, 0, 0, ⟨0, 0⟩, key0, key0, [], [], [], false, false, 0⟩
def getM (b : List UInt8) : Msg × Int := if (readM (some b)).2 = some [] ∧ goodM (readM (some b)).1 = true then ((readM (some b)).1, 0) else (zMsg, 3)
end Go.AM
namespace Go.AM
open Go
set_option maxRecDepth 20000
def tupM (x : Msg × Int) : AV := .tup [.agg (msc x.1), .s (.int .i64 x.2)]
def GetMS (C : CallW) (f : FuncId) : Prop := ∀ (a : AV) (b : List UInt8) S H (K : AV → St → Prop), BA a b → b.length ≤ 9223372036854775807 → (∀ G, K (tupM (getM b)) ⟨S, H ++ G⟩) → C (.fn f) [a] ⟨S, H⟩ K
theorem msc_cell {m : Msg} : ∀ c ∈ msc m, c.isCell = true := by
  intro c hc
  simp only [msc, List.cons_append, List.nil_append, List.mem_cons, List.mem_append, List.not_mem_nil, or_false] at hc
  rcases hc with rfl | rfl | rfl | rfl | rfl | rfl | rfl | h | h | rfl | rfl | rfl | rfl | rfl | rfl
  case inr.inr.inr.inr.inr.inr.inr.inl => exact u8_isCell c h
  case inr.inr.inr.inr.inr.inr.inr.inr.inl => exact u8_isCell c h
  all_goals rfl
def mbx (m : Msg) (x z : AV) : List AV := AV.s (.int .i64 m.kind) :: AV.s (.int .i64 m.frm) :: AV.s (.int .i64 m.tto) :: AV.s (.int .i64 m.id) :: AV.s (.int .i64 m.num) :: AV.s (.int .i64 m.stp.t) :: u8 m.stp.n :: (bs m.key.b ++ (bs m.unt.b ++ [x, z, .s (.str m.val), .s (.bool m.found), .s (.bool m.yes), .s (.int .i64 m.err)]))
theorem WkL.pre : ∀ (l : List AV) {a b : List AV}, WkL a b → WkL (l ++ a) (l ++ b)
  | [], _, _, h => h
  | _ :: l, _, _, h => .same (WkL.pre l h)
theorem mbx_wk0 (m : Msg) (x z : AV) (hx : x = .list .sh 18 (m.writes.map wA) ∨ x = .s .nilS ∧ m.writes = []) (hz : z = .list .sh 17 (m.items.map itA) ∨ z = .s .nilS ∧ m.items = []) : WkL (mbx m x z) (msc m) := by
  refine .same (.same (.same (.same (.same (.same (.same ?_))))))
  refine WkL.pre _ (WkL.pre _ ?_)
  rcases hx with rfl | ⟨rfl, h1⟩ <;> rcases hz with rfl | ⟨rfl, h2⟩
  · exact WkL.refl _
  · rw [h2]; exact .same (.nilS (by omega) (WkL.refl _))
  · rw [h1]; exact .nilS (by omega) (WkL.refl _)
  · rw [h1, h2]; exact .nilS (by omega) (.nilS (by omega) (WkL.refl _))
theorem mbx_wkF (m : Msg) (x z : AV) (hx : x = .list .sh 18 (m.writes.map wA) ∨ x = .s .nilS ∧ m.writes = []) (hz : z = .list .sh 17 (m.items.map itA) ∨ z = .s .nilS ∧ m.items = []) : WkF [.agg (mbx m x z)] [.agg (msc m)] := .wk (show WkL [(AV.agg (mbx m x z)).sh] [.agg (msc m)] from WkL.agg (mbx_wk0 m x z hx hz) msc_cell .nil) .nil
theorem mbx_wkT (m : Msg) (x z e : AV) (hx : x = .list .sh 18 (m.writes.map wA) ∨ x = .s .nilS ∧ m.writes = []) (hz : z = .list .sh 17 (m.items.map itA) ∨ z = .s .nilS ∧ m.items = []) : WkL [(AV.tup [.agg (mbx m x z), e]).sh] [.tup [.agg (msc m), e]] := by
  have hsh : ∀ l, (AV.tup l).sh = .tup l := fun _ => rfl
  rw [hsh]
  exact .tup (.agg (mbx_wk0 m x z hx hz) msc_cell (.same .nil)) .nil
theorem zmsg_wkT (e : AV) : WkL [(AV.tup [.agg (mbx zMsg (.s .nilS) (.s .nilS)), e]).sh] [.tup [.agg (msc zMsg), e]] := mbx_wkT zMsg _ _ e (.inr ⟨rfl, rfl⟩) (.inr ⟨rfl, rfl⟩)
theorem zm_eq : (AV.s (.int .i64 0)) :: (AV.s (.int .i64 0)) :: (AV.s (.int .i64 0)) :: (AV.s (.int .i64 0)) :: (AV.s (.int .i64 0)) :: (AV.s (.int .i64 0)) :: (bs key0.b ++ (bs key0.b ++ [(.s (.int .u8 0)), (.s .nilS), (.s .nilS), (.s (.str [])), (.s (.bool false)), (.s (.bool false)), (.s (.int .i64 0))])) = (AV.s (.int .i64 0)) :: (AV.s (.int .i64 0)) :: (AV.s (.int .i64 0)) :: (AV.s (.int .i64 0)) :: (AV.s (.int .i64 0)) :: (AV.s (.int .i64 0)) :: u8 0 :: (bs key0.b ++ (bs key0.b ++ [(.s .nilS), (.s .nilS), (.s (.str [])), (.s (.bool false)), (.s (.bool false)), (.s (.int .i64 0))])) := rfl
theorem app_nilT {e : ET} {k : Key} {v : List UInt8} {σ : St} (h1 : e.c = 17) (h2 : e.bytes = 32) : appendL e false (.s .nilS) (.list .full 17 [.agg (bs k.b ++ [.s (.str v)])]) σ = some (.list .uniq 17 [itA ⟨k, v⟩], σ) := by
  have h := elems_list (e := e) (fl := .full) (es := [itA ⟨k, v⟩]) (σ := σ)
  rw [h1] at h
  have hu : AV.under 0 (itA ⟨k, v⟩) = true := itA_under
  show appendL e false (.s .nilS) (.list .full 17 [itA ⟨k, v⟩]) σ = _
  simp [appendL, srcL, AV.isSlice, h, AV.under.go, hu, appItems, h1, h2]
theorem app_ownT {e : ET} {k : Key} {v : List UInt8} {l : List It} {σ : St} (h1 : e.c = 17) (h2 : e.bytes = 32) (hl : l.length ≤ 1000000) : appendL e false (.list .own 17 (l.map itA)) (.list .full 17 [.agg (bs k.b ++ [.s (.str v)])]) σ = some (.list .own 17 ((l ++ [(⟨k, v⟩ : It)]).map itA), σ) := by
  have h := elems_list (e := e) (fl := .full) (es := [itA ⟨k, v⟩]) (σ := σ)
  rw [h1] at h
  have hu : AV.under 0 (itA ⟨k, v⟩) = true := itA_under
  have hb : 2 * ((l.map itA).length + 1) * 32 ≤ 2 ^ 48 := by simp; omega
  show appendL e false (.list .own 17 (l.map itA)) (.list .full 17 [itA ⟨k, v⟩]) σ = _
  simp [appendL, srcL, AV.isSlice, h, AV.under.go, hu, appItems, h1, h2]
  simpa using hb
theorem itsR_vals : ∀ (n : Nat) (r : Rd) (x : It), x ∈ (itsR n r).1 → x.val.length ≤ 200
  | 0, r, x, h => by cases h
  | n + 1, r, x, h => by
    rw [itsR] at h
    rcases List.mem_cons.1 h with rfl | h
    · have := textR_len (mostR 200 (keyR r).2).1 (mostR 200 (keyR r).2).2
      have h2 := mostR_le 200 (keyR r).2
      show (textR (mostR 200 (keyR r).2).1 (mostR 200 (keyR r).2).2).1.length ≤ 200
      omega
    · exact itsR_vals n _ x h
def slT (l : List It) : AV := if l = [] then .s .nilS else .list .own 17 (l.map itA)
theorem and1 : ∀ n : Nat, n ≤ 3 → (IntKind.i64.wrap (((BitVec.ofInt IntKind.i64.bits (n : Int) &&& BitVec.ofInt IntKind.i64.bits 1).toNat : Nat) : Int) = 0) = ¬ (n % 2 = 1) := by decide
theorem and2 : ∀ n : Nat, n ≤ 3 → (IntKind.i64.wrap (((BitVec.ofInt IntKind.i64.bits (n : Int) &&& BitVec.ofInt IntKind.i64.bits 2).toNat : Nat) : Int) = 0) = ¬ (n / 2 % 2 = 1) := by decide
set_option maxHeartbeats 40000000 in
theorem msg_Get_spec {C : CallW} (hC : LeC C C) (hW : WkC C) (P : Program) {c : Nat → FuncId} (h0 : ∀ m : Nat, m < 9223372036854775808 → RdS C (c 0) [.s (.int .i64 m)] fun r => (.s (.int .i64 ((mostR m r).1 : Nat)), (mostR m r).2)) (h1 : RdS C (c 1) [] fun r => (.s (.int .u64 ((numR r).1 : Nat)), (numR r).2)) (h2 : ∀ n : Nat, n < 18446744073709551616 → FnS C (c 2) [.s (.int .u64 n)] (.s (.int .i64 (zag n)))) (h3 : RdS C (c 3) [] fun r => (.agg (stc (stampR r).1), (stampR r).2)) (h4 : RdS C (c 4) [] fun r => (.agg (bs (keyR r).1.b), (keyR r).2)) (h5 : WritesS C (c 5)) (h6 : ∀ n : Nat, RdS C (c 6) [.s (.int .i64 n)] fun r => (.s (.str (textR n r).1), (textR n r).2)) (h7 : GoodMS C (c 7)) : ∀ (b : List UInt8) S H (K : AV → St → Prop), b.length ≤ 9223372036854775807 → (∀ G, K (tupM (getM b)) ⟨S, H ++ G⟩) → runL C P (C_msg_Get c) [.list .sh 1 (bs b)] ⟨S, H⟩ (WkK K) := by
  intro b S H K hb hK
  simp only [C_msg_Get, A_, simprocAttr, ne_eq, (U_msg_Get _).1, fillL, zm_eq]
  have hr0 : rok (some b) := rok_some hb
  have hrd : readM (some b) = readM (some b) := rfl
  conv at hrd => rhs; unfold readM
  refine h0 11 (by omega) (S.length + 1) (some b) _ _ _ (by rw [app_get]; rfl) hr0 ?_
  obtain ⟨v1, r1, e1⟩ : ∃ k r, mostR 11 (some b) = (k, r) := ⟨_, _, rfl⟩
  have hr1 : rok r1 := by have := mostR_ok (r := (some b)) (m := 11) hr0; rw [e1] at this; exact this
  rw [bnd_eq e1] at hrd
  simp only [e1, A_, simprocAttr, ne_eq, (U_msg_Get _).1, KG_, fillL, storeP_stk, List.append_assoc]
  refine h0 255 (by omega) (S.length + 1) r1 _ _ _ (by rw [app_get]; rfl) hr1 ?_
  obtain ⟨v2, r2, e2⟩ : ∃ k r, mostR 255 r1 = (k, r) := ⟨_, _, rfl⟩
  have hr2 : rok r2 := by have := mostR_ok (r := r1) (m := 255) hr1; rw [e2] at this; exact this
  rw [bnd_eq e2] at hrd
  simp only [e2, A_, simprocAttr, ne_eq, (U_msg_Get _).1, KG_, fillL, storeP_stk, List.append_assoc]
  refine h0 255 (by omega) (S.length + 1) r2 _ _ _ (by rw [app_get]; rfl) hr2 ?_
  obtain ⟨v3, r3, e3⟩ : ∃ k r, mostR 255 r2 = (k, r) := ⟨_, _, rfl⟩
  have hr3 : rok r3 := by have := mostR_ok (r := r2) (m := 255) hr2; rw [e3] at this; exact this
  rw [bnd_eq e3] at hrd
  simp only [e3, A_, simprocAttr, ne_eq, (U_msg_Get _).1, KG_, fillL, storeP_stk, List.append_assoc]
  refine h1 (S.length + 1) r3 _ _ _ (by rw [app_get]; rfl) hr3 ?_
  obtain ⟨v4, r4, e4⟩ : ∃ k r, numR r3 = (k, r) := ⟨_, _, rfl⟩
  have hr4 : rok r4 := by have := numR_ok (r := r3) hr3; rw [e4] at this; exact this
  rw [bnd_eq e4] at hrd
  simp only [e4, convL, A_, simprocAttr, ne_eq, (U_msg_Get _).1, KG_, fillL, storeP_stk, List.append_assoc]
  refine h1 (S.length + 1) r4 _ _ _ (by rw [app_get]; rfl) hr4 ?_
  obtain ⟨v5, r5, e5⟩ : ∃ k r, numR r4 = (k, r) := ⟨_, _, rfl⟩
  have hr5 : rok r5 := by have := numR_ok (r := r4) hr4; rw [e5] at this; exact this
  rw [bnd_eq e5] at hrd
  have hn5 : v5 < 18446744073709551616 := by have := numR_lt r4; rw [e5] at this; exact this
  simp only [e5, A_, simprocAttr, ne_eq, (U_msg_Get _).1, KG_, fillL, storeP_stk, List.append_assoc]
  refine h2 v5 hn5 _ _ _ ?_
  simp only [A_, simprocAttr, ne_eq, (U_msg_Get _).1, KG_, fillL, storeP_stk, List.append_assoc]
  refine h3 (S.length + 1) r5 _ _ _ (by rw [app_get]; rfl) hr5 ?_
  obtain ⟨v6, r6, e6⟩ : ∃ k r, stampR r5 = (k, r) := ⟨_, _, rfl⟩
  have hr6 : rok r6 := by have := stampR_ok (r := r5) hr5; rw [e6] at this; exact this
  rw [bnd_eq e6] at hrd
  simp only [e6, stc, A_, simprocAttr, ne_eq, (U_msg_Get _).1, KG_, fillL, storeP_stk, List.append_assoc]
  refine h4 (S.length + 1) r6 _ _ _ (by rw [app_get]; rfl) hr6 ?_
  obtain ⟨v7, r7, e7⟩ : ∃ k r, keyR r6 = (k, r) := ⟨_, _, rfl⟩
  have hr7 : rok r7 := by have := keyR_ok (r := r6) hr6; rw [e7] at this; exact this
  rw [bnd_eq e7] at hrd
  simp only [e7, A_, simprocAttr, ne_eq, (U_msg_Get _).1, KG_, fillL, storeP_stk, List.append_assoc]
  refine h4 (S.length + 1) r7 _ _ _ (by rw [app_get]; rfl) hr7 ?_
  obtain ⟨v8, r8, e8⟩ : ∃ k r, keyR r7 = (k, r) := ⟨_, _, rfl⟩
  have hr8 : rok r8 := by have := keyR_ok (r := r7) hr7; rw [e8] at this; exact this
  rw [bnd_eq e8] at hrd
  simp only [e8, A_, simprocAttr, ne_eq, (U_msg_Get _).1, KG_, fillL, storeP_stk, List.append_assoc]
  refine h5 (S.length + 1) r8 _ _ _ (by rw [app_get]; rfl) hr8 fun G => ?_
  obtain ⟨ws, r9, e9⟩ : ∃ k r, writesR r8 = (k, r) := ⟨_, _, rfl⟩
  have hr9 : rok r9 := by have := writesR_ok hr8; rw [e9] at this; exact this
  have hwl : ws.length ≤ 16 := by have := sgood_len (r := r8); rw [e9] at this; exact this
  rw [bnd_eq e9] at hrd
  simp only [e9, lstW, A_, simprocAttr, ne_eq, (U_msg_Get _).1, KG_, fillL, storeP_stk, List.append_assoc]
  unfold tailR at hrd
  refine h0 200 (by omega) (S.length + 1) r9 _ _ _ (by rw [app_get]; rfl) hr9 ?_
  obtain ⟨n, r10, e10⟩ : ∃ k r, mostR 200 r9 = (k, r) := ⟨_, _, rfl⟩
  have hr10 : rok r10 := by have := mostR_ok (m := 200) (r := r9) hr9; rw [e10] at this; exact this
  have hn : n ≤ 200 := by have := mostR_le 200 r9; rw [e10] at this; exact this
  rw [bnd_eq e10] at hrd
  simp only [e10, A_, simprocAttr, ne_eq, (U_msg_Get _).1, KG_, fillL, storeP_stk, List.append_assoc]
  refine loop_rule hC (α := Nat × List It × Rd) (fun a => n - a.1) (fun a => [.undef, .undef, .ptr (.stk S.length) 0, .undef, .ptr (.stk (S.length + 1)) 0, .ptr (.stk (S.length + 2)) 0, .undef, .undef, .undef, .undef, .undef, .undef, .undef, .undef, .undef, .undef, .undef, .undef, .undef, .undef, .undef, .undef, .undef, .undef, .undef, .undef, .undef, .undef, .undef, .undef, .undef, .undef, .undef, .undef, .undef, .undef, .undef, .undef, .undef, .undef, .undef, .s (.int .i64 n), .s (.int .i64 a.1), .undef, .undef, .undef, .undef, .undef, .undef, .undef, .undef, .undef, .undef, .undef, .undef, .undef, .undef, .undef, .undef, .undef, .undef, .undef, .undef, .undef, .undef, .undef, .undef, .undef, .undef, .undef, .undef, .undef, .undef, .undef, .undef, .undef, .undef, .undef, .undef, .undef, .undef, .undef, .undef, .undef, .undef, .undef, .undef, .undef, .undef, .undef, .undef, .undef, .undef, .undef, .undef, .undef]) (fun a => S ++ [mbx zMsg (.s .nilS) (.s .nilS), rdc a.2.2, mbx (mkM v1 v2 v3 (IntKind.i64.wrap v4) (zag v5) v6 v7 v8 ws [] [] 0 0) (.list .sh 18 (ws.map wA)) (slT a.2.1)]) (fun a => H ++ G) (fun a => a.1 ≤ n ∧ rok a.2.2 ∧ a.2.1.length = a.1 ∧ itsR n r10 = (a.2.1 ++ (itsR (n - a.1) a.2.2).1, (itsR (n - a.1) a.2.2).2)) (0, [], r10) ⟨by simp, hr10, rfl, by simp⟩ (by simp [keep, zm]) (by rw [app_take_add]; rfl) rfl (fun a _ => by simp [AV.under, AV.under.go]) ?_
  rintro ⟨i, acc, q⟩ ⟨hi, hq, hal, hinv⟩ ih
  dsimp only at hi hq hal hinv ih ⊢
  by_cases h16 : i < n
  · have hlt : ((i : Int) < (n : Int)) := by omega
    have hw : IntKind.i64.wrap ((i : Int) + 1) = (i : Int) + 1 := wrap_i64 (by omega) (by omega)
    obtain ⟨k, q1, f1⟩ : ∃ k r, keyR q = (k, r) := ⟨_, _, rfl⟩
    have hq1 : rok q1 := by have := keyR_ok (r := q) hq; rw [f1] at this; exact this
    obtain ⟨m, q2, f2⟩ : ∃ k r, mostR 200 q1 = (k, r) := ⟨_, _, rfl⟩
    have hq2 : rok q2 := by have := mostR_ok (m := 200) (r := q1) hq1; rw [f2] at this; exact this
    obtain ⟨v, q3, f3⟩ : ∃ k r, textR m q2 = (k, r) := ⟨_, _, rfl⟩
    have hq3 : rok q3 := by have := textR_ok (n := m) (r := q2) hq2; rw [f3] at this; exact this
    have hit : itR q = (⟨k, v⟩, q3) := by
      unfold itR
      rw [bnd_eq f1, bnd_eq (g := fun v => ret (⟨k, v⟩ : It)) (show bnd (mostR 200) textR q1 = (v, q3) by rw [bnd_eq f2, f3])]; rfl
    have ih2 := ih (i + 1, acc ++ [⟨k, v⟩], q3)
    have hinv2 : itsR n r10 = ((acc ++ [(⟨k, v⟩ : It)]) ++ (itsR (n - (i + 1)) q3).1, (itsR (n - (i + 1)) q3).2) := by
      rw [hinv, show n - i = (n - (i + 1)) + 1 by omega, itsR, hit]
      simp
    have hl8 : acc.length ≤ 1000000 := by omega
    by_cases hacc : acc = []
    · subst hacc
      rw [show slT ([] ++ [(⟨k, v⟩ : It)]) = .list .own 17 [itA ⟨k, v⟩] from rfl] at ih2
      simp only [mbx, A_, simprocAttr, ne_eq, (U_msg_Get _).1, KG_, fillL, storeP_stk, List.append_assoc, hlt, show slT [] = .s .nilS from rfl]
      refine h4 (S.length + 1) q _ _ _ (by rw [app_get]; rfl) hq ?_
      simp only [f1, A_, simprocAttr, ne_eq, (U_msg_Get _).1, KG_, fillL, storeP_stk, List.append_assoc, hlt]
      refine h0 200 (by omega) (S.length + 1) q1 _ _ _ (by rw [app_get]; rfl) hq1 ?_
      simp only [f2, A_, simprocAttr, ne_eq, (U_msg_Get _).1, KG_, fillL, storeP_stk, List.append_assoc]
      refine h6 m (S.length + 1) q2 _ _ _ (by rw [app_get]; rfl) hq2 ?_
      simp only [f3, A_, simprocAttr, ne_eq, (U_msg_Get _).1, KG_, fillL, storeP_stk, List.append_assoc, app_nilT, hl8, hw]
      exact ih2 _ _ _ (by dsimp only; omega) ⟨by dsimp only; omega, hq3, by simp [hal], hinv2⟩ (by simp [keep, zm]) (by rw [app_take_add]; rfl) rfl
    · rw [show slT (acc ++ [(⟨k, v⟩ : It)]) = .list .own 17 ((acc ++ [(⟨k, v⟩ : It)]).map itA) from if_neg (by simp)] at ih2
      simp only [mbx, A_, simprocAttr, ne_eq, (U_msg_Get _).1, KG_, fillL, storeP_stk, List.append_assoc, hlt, show slT acc = .list .own 17 (acc.map itA) from if_neg hacc]
      refine h4 (S.length + 1) q _ _ _ (by rw [app_get]; rfl) hq ?_
      simp only [f1, A_, simprocAttr, ne_eq, (U_msg_Get _).1, KG_, fillL, storeP_stk, List.append_assoc, hlt]
      refine h0 200 (by omega) (S.length + 1) q1 _ _ _ (by rw [app_get]; rfl) hq1 ?_
      simp only [f2, A_, simprocAttr, ne_eq, (U_msg_Get _).1, KG_, fillL, storeP_stk, List.append_assoc]
      refine h6 m (S.length + 1) q2 _ _ _ (by rw [app_get]; rfl) hq2 ?_
      simp only [f3, A_, simprocAttr, ne_eq, (U_msg_Get _).1, KG_, fillL, storeP_stk, List.append_assoc, app_ownT, hl8, hw]
      exact ih2 _ _ _ (by dsimp only; omega) ⟨by dsimp only; omega, hq3, by simp [hal], hinv2⟩ (by simp [keep, zm]) (by rw [app_take_add]; rfl) rfl
  · have hlt : ¬ ((i : Int) < (n : Int)) := by omega
    have hal2 : acc.length ≤ 200 := by omega
    rw [show n - i = 0 by omega] at hinv
    simp only [itsR, List.append_nil] at hinv
    rw [bnd_eq hinv] at hrd
    have hivl : ∀ x ∈ acc, x.val.length ≤ 200 := fun x hx => itsR_vals n r10 x (by rw [hinv]; exact hx)
    clear hinv ih
    obtain ⟨m, q2, f2⟩ : ∃ k r, mostR 200 q = (k, r) := ⟨_, _, rfl⟩
    have hq2 : rok q2 := by have := mostR_ok (m := 200) (r := q) hq; rw [f2] at this; exact this
    have hm200 : m ≤ 200 := by have := mostR_le 200 q; rw [f2] at this; exact this
    obtain ⟨v, q3, f3⟩ : ∃ k r, textR m q2 = (k, r) := ⟨_, _, rfl⟩
    have hq3 : rok q3 := by have := textR_ok (n := m) (r := q2) hq2; rw [f3] at this; exact this
    have hv200 : v.length ≤ 200 := by have := textR_len m q2; rw [f3] at this; dsimp only at this; omega
    obtain ⟨fl, q4, f4⟩ : ∃ k r, mostR 3 q3 = (k, r) := ⟨_, _, rfl⟩
    have hq4 : rok q4 := by have := mostR_ok (m := 3) (r := q3) hq3; rw [f4] at this; exact this
    have hfl : fl ≤ 3 := by have := mostR_le 3 q3; rw [f4] at this; exact this
    obtain ⟨er, q5, f5⟩ : ∃ k r, mostR 12 q4 = (k, r) := ⟨_, _, rfl⟩
    rw [bnd_eq (show bnd (mostR 200) textR q = (v, q3) by rw [bnd_eq f2, f3]), bnd_eq f4, bnd_eq f5, ret] at hrd
    have hn1 := and1 fl hfl
    have hn2 := and2 fl hfl
    have hbad : ¬ (q5 = some [] ∧ goodM (mkM v1 v2 v3 (IntKind.i64.wrap v4) (zag v5) v6 v7 v8 ws acc v fl er) = true) → getM b = (zMsg, 3) := fun hn => by unfold getM; rw [hrd, if_neg hn]
    have hgood : q5 = some [] → goodM (mkM v1 v2 v3 (IntKind.i64.wrap v4) (zag v5) v6 v7 v8 ws acc v fl er) = true → getM b = (mkM v1 v2 v3 (IntKind.i64.wrap v4) (zag v5) v6 v7 v8 ws acc v fl er, 0) := fun h1 h2 => by unfold getM; rw [hrd, if_pos ⟨h1, h2⟩]
    have hok : okM (mkM v1 v2 v3 (IntKind.i64.wrap v4) (zag v5) v6 v7 v8 ws acc v fl er) := ⟨by simp only [mkM]; omega, by simp only [mkM]; omega, by simp only [mkM]; omega, fun x hx => by have := hivl x hx; omega⟩
    clear hrd
    by_cases hacc : acc = []
    · rw [show slT acc = .s .nilS from if_pos hacc]
      simp only [mbx, A_, simprocAttr, ne_eq, (U_msg_Get _).1, KG_, fillL, storeP_stk, List.append_assoc, hlt]
      refine h0 200 (by omega) (S.length + 1) q _ _ _ (by rw [app_get]; rfl) hq ?_
      simp only [f2, A_, simprocAttr, ne_eq, (U_msg_Get _).1, KG_, fillL, storeP_stk, List.append_assoc]
      refine h6 m (S.length + 1) q2 _ _ _ (by rw [app_get]; rfl) hq2 ?_
      simp only [f3, A_, simprocAttr, ne_eq, (U_msg_Get _).1, KG_, fillL, storeP_stk, List.append_assoc]
      refine h0 3 (by omega) (S.length + 1) q3 _ _ _ (by rw [app_get]; rfl) hq3 ?_
      simp only [f4, A_, simprocAttr, ne_eq, (U_msg_Get _).1, KG_, fillL, storeP_stk, List.append_assoc, hn1, hn2, decide_not, Bool.not_not]
      refine h0 12 (by omega) (S.length + 1) q4 _ _ _ (by rw [app_get]; rfl) hq4 ?_
      simp only [f5, A_, simprocAttr, ne_eq, (U_msg_Get _).1, KG_, fillL, storeP_stk, List.append_assoc]
      cases q5 with
      | none =>
        have hKf := hK G
        rw [hbad (by rintro ⟨h, _⟩; cases h)] at hKf
        simp only [A_, simprocAttr, ne_eq, (U_msg_Get _).1, KG_, fillL, storeP_stk, List.append_assoc, rdc]
        exact ⟨_, .inr (zmsg_wkT _), by simpa [tupM] using hKf⟩
      | some l =>
      cases l with
      | cons y l =>
        have hKf := hK G
        rw [hbad (by rintro ⟨h, _⟩; cases h)] at hKf
        have hpos : ((0 : Int) < (((bs (y :: l)).length : Nat) : Int)) := by rw [bs_length]; simp <;> omega
        simp only [A_, simprocAttr, ne_eq, (U_msg_Get _).1, KG_, fillL, storeP_stk, List.append_assoc, rdc, hpos]
        exact ⟨_, .inr (zmsg_wkT _), by simpa [tupM] using hKf⟩
      | nil =>
        have hpos : ¬ ((0 : Int) < (((bs []).length : Nat) : Int)) := by rw [bs_length]; simp
        simp only [A_, simprocAttr, ne_eq, (U_msg_Get _).1, KG_, fillL, storeP_stk, List.append_assoc, rdc, hpos]
        refine hW _ _ [.agg (msc (mkM v1 v2 v3 (IntKind.i64.wrap v4) (zag v5) v6 v7 v8 ws acc v fl er))] _ _ (mbx_wkF (mkM v1 v2 v3 (IntKind.i64.wrap v4) (zag v5) v6 v7 v8 ws acc v fl er) _ _ (.inl rfl) (.inr ⟨rfl, hacc⟩)) ?_
        refine h7 _ _ _ _ hok fun G2 => ?_
        cases hg : goodM (mkM v1 v2 v3 (IntKind.i64.wrap v4) (zag v5) v6 v7 v8 ws acc v fl er) with
        | false =>
          have hKf := hK (G ++ G2)
          rw [hbad (by rintro ⟨_, h⟩; rw [hg] at h; cases h)] at hKf
          simp only [A_, simprocAttr, ne_eq, (U_msg_Get _).1, KG_, fillL, storeP_stk, List.append_assoc]
          exact ⟨_, .inr (zmsg_wkT _), by simpa [tupM] using hKf⟩
        | true =>
          have hKf := hK (G ++ G2)
          rw [hgood rfl hg] at hKf
          simp only [A_, simprocAttr, ne_eq, (U_msg_Get _).1, KG_, fillL, storeP_stk, List.append_assoc]
          exact ⟨_, .inr (mbx_wkT (mkM v1 v2 v3 (IntKind.i64.wrap v4) (zag v5) v6 v7 v8 ws acc v fl er) _ _ _ (.inl rfl) (.inr ⟨rfl, hacc⟩)), by simpa [tupM] using hKf⟩
    · rw [show slT acc = .list .own 17 (acc.map itA) from if_neg hacc]
      simp only [mbx, A_, simprocAttr, ne_eq, (U_msg_Get _).1, KG_, fillL, storeP_stk, List.append_assoc, hlt]
      refine h0 200 (by omega) (S.length + 1) q _ _ _ (by rw [app_get]; rfl) hq ?_
      simp only [f2, A_, simprocAttr, ne_eq, (U_msg_Get _).1, KG_, fillL, storeP_stk, List.append_assoc]
      refine h6 m (S.length + 1) q2 _ _ _ (by rw [app_get]; rfl) hq2 ?_
      simp only [f3, A_, simprocAttr, ne_eq, (U_msg_Get _).1, KG_, fillL, storeP_stk, List.append_assoc]
      refine h0 3 (by omega) (S.length + 1) q3 _ _ _ (by rw [app_get]; rfl) hq3 ?_
      simp only [f4, A_, simprocAttr, ne_eq, (U_msg_Get _).1, KG_, fillL, storeP_stk, List.append_assoc, hn1, hn2, decide_not, Bool.not_not]
      refine h0 12 (by omega) (S.length + 1) q4 _ _ _ (by rw [app_get]; rfl) hq4 ?_
      simp only [f5, A_, simprocAttr, ne_eq, (U_msg_Get _).1, KG_, fillL, storeP_stk, List.append_assoc]
      cases q5 with
      | none =>
        have hKf := hK G
        rw [hbad (by rintro ⟨h, _⟩; cases h)] at hKf
        simp only [A_, simprocAttr, ne_eq, (U_msg_Get _).1, KG_, fillL, storeP_stk, List.append_assoc, rdc]
        exact ⟨_, .inr (zmsg_wkT _), by simpa [tupM] using hKf⟩
      | some l =>
      cases l with
      | cons y l =>
        have hKf := hK G
        rw [hbad (by rintro ⟨h, _⟩; cases h)] at hKf
        have hpos : ((0 : Int) < (((bs (y :: l)).length : Nat) : Int)) := by rw [bs_length]; simp <;> omega
        simp only [A_, simprocAttr, ne_eq, (U_msg_Get _).1, KG_, fillL, storeP_stk, List.append_assoc, rdc, hpos]
        exact ⟨_, .inr (zmsg_wkT _), by simpa [tupM] using hKf⟩
      | nil =>
        have hpos : ¬ ((0 : Int) < (((bs []).length : Nat) : Int)) := by rw [bs_length]; simp
        simp only [A_, simprocAttr, ne_eq, (U_msg_Get _).1, KG_, fillL, storeP_stk, List.append_assoc, rdc, hpos]
        refine hW _ _ [.agg (msc (mkM v1 v2 v3 (IntKind.i64.wrap v4) (zag v5) v6 v7 v8 ws acc v fl er))] _ _ (mbx_wkF (mkM v1 v2 v3 (IntKind.i64.wrap v4) (zag v5) v6 v7 v8 ws acc v fl er) _ _ (.inl rfl) (.inl rfl)) ?_
        refine h7 _ _ _ _ hok fun G2 => ?_
        cases hg : goodM (mkM v1 v2 v3 (IntKind.i64.wrap v4) (zag v5) v6 v7 v8 ws acc v fl er) with
        | false =>
          have hKf := hK (G ++ G2)
          rw [hbad (by rintro ⟨_, h⟩; rw [hg] at h; cases h)] at hKf
          simp only [A_, simprocAttr, ne_eq, (U_msg_Get _).1, KG_, fillL, storeP_stk, List.append_assoc]
          exact ⟨_, .inr (zmsg_wkT _), by simpa [tupM] using hKf⟩
        | true =>
          have hKf := hK (G ++ G2)
          rw [hgood rfl hg] at hKf
          simp only [A_, simprocAttr, ne_eq, (U_msg_Get _).1, KG_, fillL, storeP_stk, List.append_assoc]
          exact ⟨_, .inr (mbx_wkT (mkM v1 v2 v3 (IntKind.i64.wrap v4) (zag v5) v6 v7 v8 ws acc v fl er) _ _ _ (.inl rfl) (.inl rfl)), by simpa [tupM] using hKf⟩
end Go.AM
namespace Go.AM
open Go
set_option maxRecDepth 20000
end Go.AM
namespace Go.AM
open Go
set_option maxRecDepth 20000
end Go.AM
namespace Go.AM
open Go
set_option maxRecDepth 20000
end Go.AM
namespace Go.AM
open Go
theorem gits_long : ∀ (l : List It) (p : Option Key) (x : It), x ∈ l → 200 < x.val.length → gits p l = false
  | [], p, x, h, _ => by cases h
  | y :: l, p, x, h, hx => by
    rw [gits_cons]
    split
    · rfl
    split
    · rfl
    have hl : gits (some y.key) l = false := by
      rcases List.mem_cons.1 h with rfl | h
      · omega
      · exact gits_long l _ x h hx
    rw [hl, ite_self]
theorem itR_put {x : It} (h : x.val.length ≤ 200) (c : List UInt8) : itR (some (putIt x ++ c)) = (x, some c) := by
  unfold itR putIt bnd
  rw [List.append_assoc, List.append_assoc, keyR_put]
  dsimp only
  rw [mostR_put h (by omega)]
  dsimp only
  rw [textR_put rfl]
  rfl
theorem itsR_put : ∀ (l : List It) (c : List UInt8), (∀ w ∈ l, w.val.length ≤ 200) → itsR l.length (some (l.flatMap putIt ++ c)) = (l, some c)
  | [], c, _ => rfl
  | w :: l, c, h => by
    rw [List.length_cons, itsR, List.flatMap_cons, List.append_assoc, itR_put (h w (List.mem_cons_self ..))]
    dsimp only
    rw [itsR_put l c fun x hx => h x (List.mem_cons_of_mem _ hx)]
theorem gits_vals {l : List It} {p : Option Key} (h : gits p l = true) : ∀ w ∈ l, w.val.length ≤ 200 := by
  intro w hw
  rcases Nat.lt_or_ge 200 w.val.length with h1 | h1
  · rw [gits_long l p w hw h1] at h; cases h
  · exact h1
theorem fl_put (f y : Bool) (c : List UInt8) : mostR 3 (some (flB f y :: c)) = ((flB f y).toNat, some c) := by
  have : flB f y :: c = putN (flB f y).toNat ++ c := by cases f <;> cases y <;> · rw [putN_lt (by decide)]; rfl
  rw [this, mostR_put (by cases f <;> cases y <;> decide) (by omega)]
theorem readM_put {m : Msg} (h : goodM m = true) (ho : okMB m) : readM (some (putM m)) = (m, some []) := by
  have hp := goodM_p h
  have hz := zig_lt ho.nl ho.nh
  have hih := ho.ih
  unfold putM
  rw [if_neg (by rw [h]; simp)]
  unfold hd2 tlB readM tailR bnd
  simp only [List.append_assoc]
  rw [mostR_put (v := m.kind.toNat) (by have := hp.k2; omega) (by omega)]
  dsimp only
  rw [mostR_put (v := m.frm.toNat) (by have := hp.f2; omega) (by omega)]
  dsimp only
  rw [mostR_put (v := m.tto.toNat) (by have := hp.t2; omega) (by omega)]
  dsimp only
  rw [numR_put (v := m.id.toNat) (by omega)]
  dsimp only
  rw [numR_put hz]
  dsimp only
  rw [stampR_put hp.s1]
  dsimp only
  rw [keyR_put]
  dsimp only
  rw [keyR_put]
  dsimp only
  rw [writesR_put hp.w2 hp.w1]
  dsimp only
  rw [mostR_put (v := m.items.length) hp.g2 (by omega)]
  dsimp only
  rw [itsR_put m.items _ (gits_vals hp.g1)]
  dsimp only
  rw [mostR_put (v := m.val.length) hp.v1 (by omega)]
  dsimp only
  rw [textR_put rfl]
  dsimp only
  rw [fl_put]
  dsimp only
  rw [← List.append_nil (putN m.err.toNat), mostR_put (v := m.err.toNat) (by have := hp.e2; omega) (by omega)]
  have hw : IntKind.i64.wrap ((m.id.toNat : Nat) : Int) = m.id := by rw [wrap_i64 (by omega) (by omega)]; have := hp.i1; omega
  have a1 := hp.k1
  have a2 := hp.f1
  have a3 := hp.t1
  have a4 := hp.e1
  show (mkM m.kind.toNat m.frm.toNat m.tto.toNat (IntKind.i64.wrap ((m.id.toNat : Nat) : Int)) (zag (zig m.num)) m.stp m.key m.unt m.writes m.items m.val (flB m.found m.yes).toNat m.err.toNat, some []) = _
  rw [hw, zag_zig]
  obtain ⟨kind, frm, tto, id, num, stp, key, unt, writes, items, val, found, yes, err⟩ := m
  unfold mkM
  dsimp only at *
  rw [show ((kind.toNat : Nat) : Int) = kind by omega, show ((frm.toNat : Nat) : Int) = frm by omega, show ((tto.toNat : Nat) : Int) = tto by omega, show ((err.toNat : Nat) : Int) = err by omega]
  have e1 : decide ((flB found yes).toNat % 2 = 1) = found := by cases found <;> cases yes <;> decide
  have e2 : decide ((flB found yes).toNat / 2 % 2 = 1) = yes := by cases found <;> cases yes <;> decide
  rw [e1, e2]
theorem getM_put {m : Msg} (h : goodM m = true) (ho : okMB m) : getM (putM m) = (m, 0) := by
  unfold getM
  rw [readM_put h ho, if_pos ⟨rfl, h⟩]
end Go.AM
namespace Go.AM
open Go
set_option maxRecDepth 20000
structure inM (m : Msg) : Prop where
  ok : okM m
  il : -9223372036854775808 ≤ m.id
  ih : m.id ≤ 9223372036854775807
  nl : -9223372036854775808 ≤ m.num
  nh : m.num ≤ 9223372036854775807
def key97 : Key := ⟨97 :: List.replicate 15 0, rfl⟩
def awM : Msg := ⟨5, 255, 1, 7, 0, ⟨3, 0⟩, key0, key0, [⟨key97, [120], false⟩], [], [], false, true, 0⟩
end Go.AM
namespace Go.AM
open Go
set_option maxRecDepth 20000
theorem aw_goodM : goodM awM = true := by decide
theorem aw_okM : okMB awM := by
  refine ⟨by simp [awM], ?_, by simp [awM], by simp [awM], by simp [awM], by simp [awM], by simp [awM], by simp [awM], by simp [awM]⟩
  intro w hw
  simp only [awM, List.mem_singleton] at hw
  subst hw
  decide
theorem aw_lenM : 50 < (putM awM).length := by
  have hk := key97.h
  have h0 := key0.h
  have h1 : 18 ≤ (putWs awM.writes).length := by
    unfold putWs
    rw [List.length_append, show awM.writes.flatMap putW = putW ⟨key97, [120], false⟩ from List.append_nil _]
    unfold putW
    simp only [List.length_append, List.length_cons, List.length_nil, hk]
    omega
  unfold putM
  rw [if_neg (by rw [aw_goodM]; simp)]
  have h2 : 1 ≤ (tlB awM).length := by unfold tlB; simp only [List.length_append, List.length_cons]; omega
  have e1 : awM.key.b.length = 16 := h0
  have e2 : awM.unt.b.length = 16 := h0
  simp only [List.length_append, e1, e2]
  omega
theorem putM_le {m : Msg} (hm : okMB m) : (putM m).length ≤ 1000000 := by
  unfold putM
  split
  · simp
  rename_i hg
  have hg : goodM m = true := by simpa using hg
  have hp := goodM_p hg
  have p1 := putN_len10 (v := m.kind.toNat) (by have := hp.k2; omega)
  have p2 := putN_len10 (v := m.frm.toNat) (by have := hp.f2; omega)
  have p3 := putN_len10 (v := m.tto.toNat) (by have := hp.t2; omega)
  have p4 := putN_len10 (v := m.id.toNat) (by have := hm.ih; omega)
  have p5 := putN_len10 (v := zig m.num) (zig_lt hm.nl hm.nh)
  have p6 := pack_len m.stp
  have p7 := putWs_le hm.ws hm.vs
  have p8 := putIts_len m.items hm.iv
  have p9 := putN_len10 (v := m.items.length) (by have := hm.is; omega)
  have p10 := putN_len10 (v := m.val.length) (by have := hm.vl; omega)
  have p11 := putN_len10 (v := m.err.toNat) (by have := hp.e2; omega)
  have hk := m.key.h
  have hu := m.unt.h
  have h1 := hm.vl
  have h2 := hm.is
  unfold hd2 tlB
  simp only [List.length_append, List.length_cons, hk, hu]
  omega
theorem k97_eq : AV.s (.int .u8 97) :: List.drop 1 (bs key0.b) = bs key97.b := rfl
theorem aw_getM : getM (putM awM) = (awM, 0) := getM_put aw_goodM aw_okM
def AwakeMS (C : CallW) (f : FuncId) : Prop := ∀ S H (K : AV → St → Prop), (∀ G, K (.bool true) ⟨S, H ++ G⟩) → C (.fn f) [] ⟨S, H⟩ K
theorem aw_msc : msc awM = AV.s (.int .i64 5) :: AV.s (.int .i64 255) :: AV.s (.int .i64 1) :: AV.s (.int .i64 7) :: AV.s (.int .i64 0) :: AV.s (.int .i64 3) :: AV.s (.int .u8 0) :: (bs key0.b ++ (bs key0.b ++ [AV.list .sh 18 [wA ⟨key97, [120], false⟩], .list .sh 17 [], .s (.str []), .s (.bool false), .s (.bool true), .s (.int .i64 0)])) := rfl
theorem awX : WkL [(AV.agg (AV.s (.int .i64 5) :: AV.s (.int .i64 255) :: AV.s (.int .i64 1) :: AV.s (.int .i64 7) :: AV.s (.int .i64 0) :: AV.s (.int .i64 3) :: AV.s (.int .u8 0) :: (bs key0.b ++ (bs key0.b ++ [AV.list .full 18 [.agg (bs key97.b ++ [.s (.str [120]), .s (.bool false)])], .s .nilS, .s (.str []), .s (.bool false), .s (.bool true), .s (.int .i64 0)])))).sh] [.agg (msc awM)] := WkL.agg (.same (.same (.same (.same (.same (.same (.same (WkL.pre (bs key0.b) (WkL.pre (bs key0.b) (.full (.nilS (by omega) (WkL.refl _)))))))))))) msc_cell .nil
theorem awF : WkF [.agg (AV.s (.int .i64 5) :: AV.s (.int .i64 255) :: AV.s (.int .i64 1) :: AV.s (.int .i64 7) :: AV.s (.int .i64 0) :: AV.s (.int .i64 3) :: AV.s (.int .u8 0) :: (bs key0.b ++ (bs key0.b ++ [AV.list .full 18 [.agg (bs key97.b ++ [.s (.str [120]), .s (.bool false)])], .s .nilS, .s (.str []), .s (.bool false), .s (.bool true), .s (.int .i64 0)])))] [.agg (msc awM)] := .wk awX .nil
set_option maxHeartbeats 16000000 in
theorem law19_awake_spec {C : CallW} (hW : WkC C) (P : Program) {c : Nat → FuncId} (h0 : PutMS C (c 0)) (h1 : GetMS C (c 1)) (h2 : SameMS C (c 2)) (h3 : GoodMS C (c 3)) : ∀ S H (K : AV → St → Prop), (∀ G, K (.bool true) ⟨S, H ++ G⟩) → runL C P (C_hourglasslaw19_awake c) [] ⟨S, H⟩ K := by
  intro S H K hK
  simp only [C_hourglasslaw19_awake, A_, simprocAttr, ne_eq, (U_hourglasslaw19_awake _).1, KG_, fillL, List.append_assoc, zm_eq, k97_eq]
  refine hW _ _ _ _ _ awF ?_
  refine h0 _ _ _ _ aw_okM fun G => ?_
  have hlen := aw_lenM
  have hle : (putM awM).length ≤ 9223372036854775807 := Nat.le_trans (putM_le aw_okM) (by omega)
  have hbl := bs_length (putM awM)
  simp only [A_, simprocAttr, ne_eq, (U_hourglasslaw19_awake _).1, KG_, fillL, List.append_assoc]
  refine h1 _ (putM awM) _ _ _ .l hle fun G2 => ?_
  rw [aw_getM]
  simp only [tupM, aw_msc, A_, simprocAttr, ne_eq, (U_hourglasslaw19_awake _).1, KG_, fillL, List.append_assoc]
  refine hW _ _ [.agg (msc awM), .agg (msc awM)] _ _ (.same (.wk awX .nil)) ?_
  refine h2 awM awM _ _ _ aw_okM.ok aw_okM.ok ?_
  rw [decide_eq_true rfl]
  simp only [A_, simprocAttr, ne_eq, (U_hourglasslaw19_awake _).1, KG_, fillL, List.append_assoc]
  refine hW _ _ _ _ _ awF ?_
  refine h3 _ _ _ _ aw_okM.ok fun G3 => ?_
  rw [aw_goodM]
  simp only [A_, simprocAttr, ne_eq, (U_hourglasslaw19_awake _).1, KG_, fillL, List.append_assoc]
  refine hW _ _ _ _ _ awF ?_
  refine h0 _ _ _ _ aw_okM fun G4 => ?_
  have h50 : ((50 : Int) < ((putM awM).length : Int)) := by omega
  simp only [A_, simprocAttr, ne_eq, (U_hourglasslaw19_awake _).1, KG_, fillL, List.append_assoc, hbl, h50]
  simpa using hK (G ++ (G2 ++ (G3 ++ G4)))
end Go.AM
namespace Go.AM
open Go
set_option maxRecDepth 20000
end Go.AM
namespace Go.AM
open Go
set_option maxRecDepth 20000
end Go.AM
namespace Go.AM
open Go
def permLT (z : List AV) (leaf : LT) : Nat → List Nat → LT
  | 0, _ => leaf
  | n + 1, l => l.foldr (fun d acc => .mv (zs d (.alloc false z)) [] (permLT z leaf n (l.erase d)) acc) .stop
def ptrsAt (p : Nat → Nat) (l : List Nat) (fr : Fr) : Fr := l.foldl (fun f d => f.set d (.ptr (.stk (p d)) 0)) fr
theorem ptrsAt_get (p : Nat → Nat) : ∀ (l : List Nat) (fr : Fr) (i : Nat), l.Nodup → (ptrsAt p l fr)[i]? = if i ∈ l then (if i < fr.length then some (.ptr (.stk (p i)) 0) else none) else fr[i]?
  | [], fr, i, _ => by simp [ptrsAt]
  | d :: l, fr, i, h => by
    have hd : d ∉ l := (List.nodup_cons.1 h).1
    show (ptrsAt p l (fr.set d _))[i]? = _
    rw [ptrsAt_get p l _ i (List.nodup_cons.1 h).2, List.length_set]
    by_cases hi : i ∈ l
    · rw [if_pos hi, if_pos (List.mem_cons_of_mem _ hi)]
    · rw [if_neg hi]
      by_cases e : i = d
      · subst e
        rw [if_pos (List.mem_cons_self ..), List.getElem?_set_self']
        by_cases hl : i < fr.length
        · rw [if_pos hl]; simp [hl]
        · rw [if_neg hl]; simp [hl]
      · rw [if_neg (by simp [e, hi]), List.getElem?_set_ne (fun h => e h.symm)]
theorem alloc_rule {C : CallW} {P : Program} {rd : Bool} {leaf : LT} {chk : List LChk} {is : List Item} {K : KC} {S : List (List AV)} {H : List HObj} {z : List AV} (hz : ∀ n, underL n z = true) : ∀ (n : Nat) (l : List Nat) (fr : Fr) (L : List (List AV)), l.length = n → l.Nodup → (∀ T, okAll [] ⟨S ++ (L ++ T), H⟩ chk) →
    (∀ q : Nat → Nat, (∀ d ∈ l, L.length ≤ q d ∧ q d < L.length + n) → (∀ d ∈ l, ∀ e ∈ l, d ≠ e → q d ≠ q e) → runT C P rd leaf chk is (ptrsAt (fun d => S.length + q d) l fr) ⟨S ++ (L ++ List.replicate n z), H⟩ K) → runT C P rd (permLT z leaf n l) chk is fr ⟨S ++ L, H⟩ K
  | 0, l, fr, L, hl, hn, hc, ct => by
    have : l = [] := List.length_eq_zero_iff.1 hl
    subst this
    have := ct (fun _ => 0) (by simp) (by simp)
    simpa [permLT, ptrsAt] using this
  | n + 1, l, fr, L, hl, hn, hc, ct => by
    show runT C P rd (l.foldr (fun d acc => .mv (zs d (.alloc false z)) [] (permLT z leaf n (l.erase d)) acc) .stop) chk is fr ⟨S ++ L, H⟩ K
    have main : ∀ m : List Nat, (∀ d ∈ m, d ∈ l) → runT C P rd (m.foldr (fun d acc => .mv (zs d (.alloc false z)) [] (permLT z leaf n (l.erase d)) acc) .stop) chk is fr ⟨S ++ L, H⟩ K := by
      intro m
      induction m with
      | nil => intro _; exact trivial
      | cons d m ih =>
        intro hm
        have hd : d ∈ l := hm d (List.mem_cons_self ..)
        rw [List.foldr_cons, runT_mv]
        refine ⟨?_, ih fun e he => hm e (List.mem_cons_of_mem _ he)⟩
        rw [show guardL fr none = some true from rfl, mvG_true, t_alloc]
        have ev : evL (.alloc false z) (settleL fr (settledL (.alloc false z))) ⟨S ++ L, H⟩ = some (.ptr (.stk (S.length + L.length)) 0, fr, ⟨S ++ (L ++ [z]), H⟩) := by
          show (newBox false z ⟨S ++ L, H⟩).map _ = _
          rw [newBox_stk (hz _)]
          simp [settledL, settleL]
        rw [ev, thnT_some, mvK_eq]
        have hf : (chk.filter fun c => !List.contains [] c.i) = chk := by simp
        refine ⟨okAll_eq (hc [z]), ?_⟩
        rw [hf]
        refine alloc_rule hz n (l.erase d) _ (L ++ [z]) (by rw [List.length_erase_of_mem hd]; omega) (hn.erase d) (fun T => by have := hc ([z] ++ T); simpa using this) ?_
        intro q hq hi
        have := ct (fun e => if e = d then L.length else q e) ?_ ?_
        · have e1 : ptrsAt (fun e => S.length + (if e = d then L.length else q e)) l fr = ptrsAt (fun e => S.length + q e) (l.erase d) (putA (some d) (.ptr (.stk (S.length + L.length)) 0) fr) := by
            refine List.ext_getElem? fun i => ?_
            rw [ptrsAt_get _ _ _ _ hn, ptrsAt_get _ _ _ _ (hn.erase d)]
            by_cases e : i = d
            · subst e
              have hne : i ∉ l.erase i := fun h => ((hn.mem_erase_iff).1 h).1 rfl
              rw [if_pos hd, if_neg hne, if_pos rfl]
              show _ = (fr.set i _)[i]?
              rw [List.getElem?_set_self']
              by_cases hl : i < fr.length
              · rw [if_pos hl]; simp [hl]
              · rw [if_neg hl]; simp [hl]
            · by_cases hil : i ∈ l
              · rw [if_pos hil, if_pos ((hn.mem_erase_iff).2 ⟨e, hil⟩), if_neg e]
                show _ = if i < (fr.set d _).length then _ else _
                rw [List.length_set]
              · rw [if_neg hil, if_neg (fun h => hil ((hn.mem_erase_iff).1 h).2)]
                show fr[i]? = (fr.set d _)[i]?
                rw [List.getElem?_set_ne (fun h => e h.symm)]
          rw [← e1]
          have e2 : L ++ [z] ++ List.replicate n z = L ++ List.replicate (n + 1) z := by rw [List.append_assoc]; rfl
          rw [e2]
          exact this
        · intro e he
          by_cases h : e = d
          · simp [h]
          · have := hq e ((hn.mem_erase_iff).2 ⟨h, he⟩)
            rw [if_neg h]
            simp at this
            omega
        · intro e he f hf2 hne
          by_cases h : e = d
          · subst h
            have := hq f ((hn.mem_erase_iff).2 ⟨fun h => hne h.symm, hf2⟩)
            rw [if_pos rfl, if_neg (fun h => hne h.symm)]
            simp at this
            omega
          · by_cases h2 : f = d
            · subst h2
              have := hq e ((hn.mem_erase_iff).2 ⟨h, he⟩)
              rw [if_pos rfl, if_neg h]
              simp at this
              omega
            · rw [if_neg h, if_neg h2]
              exact hi e ((hn.mem_erase_iff).2 ⟨h, he⟩) f ((hn.mem_erase_iff).2 ⟨h2, hf2⟩) hne
    exact main l fun _ h => h
theorem alloc_rule' {C : CallW} {P : Program} {rd : Bool} {leaf : LT} {chk : List LChk} {is : List Item} {K : KC} {S : List (List AV)} {H : List HObj} {z : List AV} (hz : ∀ n, underL n z = true) (n : Nat) (l : List Nat) (fr : Fr) (L : List (List AV)) (hl : l.length = n) (hn : l.Nodup) (hc : ∀ T, okAll [] ⟨S ++ (L ++ T), H⟩ chk)
    (ct : ∀ (q : Nat → Nat) (L' : List (List AV)), (∀ d ∈ l, L.length ≤ q d ∧ q d < L.length + n) → (∀ d ∈ l, ∀ e ∈ l, d ≠ e → q d ≠ q e) → L'.length = L.length + n → (∀ i, i < L.length → L'.getD i [] = L.getD i []) → (∀ d ∈ l, L'.getD (q d) [] = z) → runT C P rd leaf chk is (ptrsAt (fun d => S.length + q d) l fr) ⟨S ++ L', H⟩ K) : runT C P rd (permLT z leaf n l) chk is fr ⟨S ++ L, H⟩ K := by
  refine alloc_rule hz n l fr L hl hn hc fun q hq hi => ct q _ hq hi (by simp) (fun i h => ?_) fun d hd => ?_
  · simp only [List.getD, List.getElem?_append_left h]
  · have := hq d hd
    have e : q d - L.length < n := by omega
    simp only [List.getD, List.getElem?_append_right this.1, List.getElem?_replicate, e, if_true, Option.getD_some]
end Go.AM
namespace Go.AM
open Go
set_option maxRecDepth 20000
def y8a1 (c : Nat → FuncId) : LCode := (.seq (.sq [(zs 32 (.loadA 45 (.t 1))), (zs 33 (.call (.f (c 2)) [(.t 32)])), (zs 34 (.mv false (.t 33))), (zt 35 34 (.loadA 45 (.t 2))), (zt 36 34 (.call (.f (c 2)) [(.t 35)])), (zt 37 34 (.un .not (.t 36))), (zs 38 (.pick (.t 34) (.t 37) zF)), (zs 39 (.mv false (.t 38))), (zt 40 39 (.loadA 45 (.t 3))), (zt 41 39 (.call (.f (c 2)) [(.t 40)])), (zt 42 39 (.un .not (.t 41))), (zs 43 (.pick (.t 39) (.t 42) zF)), (zs 44 (.mv false (.t 43))), (zt 45 44 (.loadA 45 (.t 4))), (zt 46 44 (.call (.f (c 2)) [(.t 45)])), (zt 47 44 (.un .not (.t 46))), (zs 48 (.pick (.t 44) (.t 47) zF)), (zs 49 (.mv false (.t 48))), (zt 50 49 (.loadA 45 (.t 5))), (zt 51 49 (.call (.f (c 2)) [(.t 50)])), (zt 52 49 (.un .not (.t 51))), (zs 53 (.pick (.t 49) (.t 52) zF)), (zs 54 (.mv false (.t 53))), (zt 55 54 (.loadA 45 (.t 6))), (zt 56 54 (.call (.f (c 2)) [(.t 55)])), (zt 57 54 (.un .not (.t 56))), (zs 58 (.pick (.t 54) (.t 57) zF)), (zs 59 (.mv false (.t 58))), (zt 60 59 (.build ([(.s (.int .i64 0)), (.s (.int .i64 0)), (.s (.int .i64 0)), (.s (.int .i64 0)), (.s (.int .i64 0)), (.s (.int .i64 0))] ++ zk ++ zk ++ [(.s (.int .u8 0)), (.s .nilS), (.s .nilS), (.s (.str [])), (.s (.bool false)), (.s (.bool false)), (.s (.int .i64 0))]) [])), (zt 61 59 (.call (.f (c 2)) [(.t 60)])), (zt 62 59 (.un .not (.t 61))), (zs 63 (.pick (.t 59) (.t 62) zF)), (zs 64 (.mv false (.t 63))), (zt 65 64 (.mv false (.t 8))), (zt 66 64 (.bin .eql .sc (.t 65) (zi 3))), (zs 67 (.pick (.t 64) (.t 66) zF)), (zs 68 (.mv false (.t 67))), (zt 69 68 (.loadA 45 (.t 2))), (zt 70 68 (.call (.f (c 3)) [(.t 69)])), (zt 71 68 (.len .sl (.t 70))), (zt 72 68 (.bin .eql .sc (.t 71) (zi 0))), (zs 73 (.pick (.t 68) (.t 72) zF)), (zs 0 (.mv true (.t 73)))]) .ret)
def y8a2 (c : Nat → FuncId) : LCode := (.seq (.sq [(zs 29 (.call (.f (c 1)) [(.c .nilS)])), (zs 28 (.mv false (.t 29))), (zs 30 (.ext (.t 28) 0)), (zs 31 (.ext (.t 28) 1)), (zs 7 (.alloc false ([(.s (.int .i64 0)), (.s (.int .i64 0)), (.s (.int .i64 0)), (.s (.int .i64 0)), (.s (.int .i64 0)), (.s (.int .i64 0))] ++ zk ++ zk ++ [(.s (.int .u8 0)), (.s .nilS), (.s .nilS), (.s (.str [])), (.s (.bool false)), (.s (.bool false)), (.s (.int .i64 0))]))), (zn (.store 45 (.t 7) (.t 30))), (zs 8 (.mv true (.t 31)))]) (y8a1 c))
def y8a3 (c : Nat → FuncId) : LCode := (.seq (.sq [(zs 26 (.shift 5 (.t 6))), (zs 27 (.shift 0 (.t 26))), (zn (.store 1 (.t 27) (.c (.int .i64 (-1)))))]) (y8a2 c))
def y8a4 (c : Nat → FuncId) : LCode := (.seq (.sq [(zs 20 (.build zk [(0, 1, (.c (.int .u8 98)))])), (zs 21 (.build (zk ++ [(.s (.str []))]) [(0, 16, (.t 20))])), (zs 22 (.build zk [(0, 1, (.c (.int .u8 97)))])), (zs 23 (.build (zk ++ [(.s (.str []))]) [(0, 16, (.t 22))])), (zs 24 (.bsl ⟨17, true, 32, (.agg (zk ++ [(.s (.str []))]))⟩ 2 [(0, (.t 21)), (1, (.t 23))])), (zs 25 (.shift 40 (.t 5))), (zn (.store 1 (.t 25) (.t 24)))]) (y8a3 c))
def y8a5 (c : Nat → FuncId) : LCode := (.seq (.sq [(zs 19 (.shift 44 (.t 4))), (zn (.store 1 (.t 19) (zi 13)))]) (y8a4 c))
def y8a6 (c : Nat → FuncId) : LCode := (.seq (.sq [(zs 18 (.shift 1 (.t 3))), (zn (.store 1 (.t 18) (zi 256)))]) (y8a5 c))
def y8a7 (c : Nat → FuncId) : LCode := (.seq (.sq [(zs 17 (.shift 0 (.t 2))), (zn (.store 1 (.t 17) (zi 12)))]) (y8a6 c))
def hourglasslaw19_MsgKnown_leaf : LT := (.mv (zn (.store 45 (.t 2) (.t 12))) [0, 5, 6, 7, 8, 9] (.mv (zn (.store 45 (.t 3) (.t 13))) [0, 1, 5, 6, 7, 8, 9, 10] (.mv (zn (.store 45 (.t 4) (.t 14))) [0, 1, 2, 5, 6, 7, 8, 9, 10, 11] (.mv (zn (.store 45 (.t 5) (.t 15))) [0, 1, 2, 3, 5, 6, 7, 8, 9, 10, 11, 12] (.mv (zn (.store 45 (.t 6) (.t 16))) [0, 1, 2, 3, 4, 5, 6, 7, 8, 9, 10, 11, 12, 13] .done .stop) .stop) .stop) .stop) .stop)
def y8a8 (c : Nat → FuncId) : LCode := (.seq (.tree (.rd (zs 12 (.loadA 45 (.t 1))) 0 true (.rd (zs 13 (.loadA 45 (.t 1))) 1 true (.rd (zs 14 (.loadA 45 (.t 1))) 2 true (.rd (zs 15 (.loadA 45 (.t 1))) 3 true (.rd (zs 16 (.loadA 45 (.t 1))) 4 true (permLT ([(.s (.int .i64 0)), (.s (.int .i64 0)), (.s (.int .i64 0)), (.s (.int .i64 0)), (.s (.int .i64 0)), (.s (.int .i64 0))] ++ zk ++ zk ++ [(.s (.int .u8 0)), (.s .nilS), (.s .nilS), (.s (.str [])), (.s (.bool false)), (.s (.bool false)), (.s (.int .i64 0))]) hourglasslaw19_MsgKnown_leaf 5 [2, 3, 4, 5, 6]))))))) (y8a7 c))
def y8a9 (c : Nat → FuncId) : LCode := (.seq (.sq [(zs 11 (.build ([(.s (.int .i64 0)), (.s (.int .i64 0)), (.s (.int .i64 0)), (.s (.int .i64 0)), (.s (.int .i64 0)), (.s (.int .i64 0))] ++ zk ++ zk ++ [(.s (.int .u8 0)), (.s .nilS), (.s .nilS), (.s (.str [])), (.s (.bool false)), (.s (.bool false)), (.s (.int .i64 0))]) [(0, 1, (zi 1))])), (zs 1 (.alloc false ([(.s (.int .i64 0)), (.s (.int .i64 0)), (.s (.int .i64 0)), (.s (.int .i64 0)), (.s (.int .i64 0)), (.s (.int .i64 0))] ++ zk ++ zk ++ [(.s (.int .u8 0)), (.s .nilS), (.s .nilS), (.s (.str [])), (.s (.bool false)), (.s (.bool false)), (.s (.int .i64 0))]))), (zn (.store 45 (.t 1) (.t 11)))]) (y8a8 c))
def y8a10 (c : Nat → FuncId) : LCode := (.seq (.seq (.sq [(zs 9 (.call (.f (c 0)) [])), (zs 10 (.un .not (.t 9)))]) (.cond (.t 10) (.seq (.sq [(zs 0 (.mv true zF))]) .ret) .skip)) (y8a9 c))
def U_hourglasslaw19_MsgKnown (c : Nat → FuncId) := PLift.up (zc (zc (zc (@unfC _ _ (y8a1.eq_1 c)) (@unfC _ _ (y8a2.eq_1 c))) (zc (@unfC _ _ (y8a3.eq_1 c)) (zc (@unfC _ _ (y8a4.eq_1 c)) (@unfC _ _ (y8a5.eq_1 c))))) (zc (zc (@unfC _ _ (y8a6.eq_1 c)) (@unfC _ _ (y8a7.eq_1 c))) (zc (@unfC _ _ (y8a8.eq_1 c)) (zc (@unfC _ _ (y8a9.eq_1 c)) (@unfC _ _ (y8a10.eq_1 c))))))
def C_hourglasslaw19_MsgKnown (c : Nat → FuncId) : LFn := ⟨74, [.t 0], (.seq (.sq [(zs 0 (.mv true zF))]) (y8a10 c))⟩
end Go.AM
namespace Go.AM
open Go
set_option maxRecDepth 20000
theorem gds {L : List (List AV)} {j : Nat} {X : List AV} (h : j < L.length) : (L.set j X).getD j [] = X := by simp [List.getD, h]
theorem gdn {L : List (List AV)} {i j : Nat} {X : List AV} (h : ¬ j = i) : (L.set j X).getD i [] = L.getD i [] := by simp [List.getD, List.getElem?_set_ne h]
theorem gda {L : List (List AV)} {i : Nat} {X : List AV} (h : i < L.length) : (L ++ [X]).getD i [] = L.getD i [] := by simp only [List.getD, List.getElem?_append_left h]
theorem gdl {L : List (List AV)} {n : Nat} {X : List AV} (h : L.length = n) : (L ++ [X]).getD n [] = X := by subst h; simp [List.getD]
theorem okz {m : Msg} (h1 : m.writes.length ≤ 100) (h2 : m.items.length ≤ 100) (h3 : m.val.length ≤ 100) (h4 : ∀ x ∈ m.items, x.val = []) : okM m := ⟨by omega, by omega, by omega, fun x hx => by rw [h4 x hx]; simp⟩
def mk1 : Msg := { zMsg with kind := 1 }
def mk2 : Msg := { zMsg with kind := 12 }
def mk3 : Msg := { mk1 with frm := 256 }
def mk4 : Msg := { mk1 with err := 13 }
def key98 : Key := ⟨98 :: List.replicate 15 0, rfl⟩
def mk5 : Msg := { mk1 with items := [⟨key98, []⟩, ⟨key97, []⟩] }
def mk6 : Msg := { mk1 with stp := ⟨-1, 0⟩ }
theorem k98_eq : AV.s (.int .u8 98) :: List.drop 1 (bs key0.b) = bs key98.b := rfl
theorem gk1 : goodM mk1 = true := by decide
theorem gk2 : goodM mk2 = false := by decide
theorem gk3 : goodM mk3 = false := by decide
theorem gk4 : goodM mk4 = false := by decide
theorem gk5 : goodM mk5 = false := by decide
theorem gk6 : goodM mk6 = false := by decide
theorem gk7 : goodM zMsg = false := by decide
theorem getM_nil : getM [] = (zMsg, 3) := by
  unfold getM
  rw [if_neg]
  rintro ⟨h, _⟩
  have : (readM (some [])).2 = none := rfl
  rw [this] at h
  cases h
theorem mk5F : WkF [.agg (AV.s (.int .i64 1) :: AV.s (.int .i64 0) :: AV.s (.int .i64 0) :: AV.s (.int .i64 0) :: AV.s (.int .i64 0) :: AV.s (.int .i64 0) :: u8 0 :: (bs key0.b ++ (bs key0.b ++ [.s .nilS, AV.list .full 17 [.agg (bs key98.b ++ [.s (.str [])]), .agg (bs key97.b ++ [.s (.str [])])], .s (.str []), .s (.bool false), .s (.bool false), .s (.int .i64 0)])))] [.agg (msc mk5)] := .wk (WkL.agg (.same (.same (.same (.same (.same (.same (.same (WkL.pre (bs key0.b) (WkL.pre (bs key0.b) (.nilS (by omega) (.full (WkL.refl _)))))))))))) msc_cell .nil) .nil
theorem mk2_ok : okMB mk2 := ⟨by decide, by simp [mk2, zMsg], by decide, by simp [mk2, zMsg], by decide, by decide, by decide, by decide, by decide⟩
theorem mk2_put : putM mk2 = [] := by unfold putM; rw [if_pos gk2]
theorem zunder : ∀ n, underL n (AV.s (.int .i64 0) :: AV.s (.int .i64 0) :: AV.s (.int .i64 0) :: AV.s (.int .i64 0) :: AV.s (.int .i64 0) :: AV.s (.int .i64 0) :: u8 0 :: (bs key0.b ++ (bs key0.b ++ [(.s .nilS), (.s .nilS), (.s (.str [])), (.s (.bool false)), (.s (.bool false)), (.s (.int .i64 0))]))) = true := fun n => rfl
set_option maxHeartbeats 40000000 in
theorem law19_MsgKnown_spec {C : CallW} (hW : WkC C) (P : Program) {c : Nat → FuncId} (h0 : AwakeMS C (c 0)) (h1 : GetMS C (c 1)) (h2 : GoodMS C (c 2)) (h3 : PutMS C (c 3)) : ∀ S H (K : AV → St → Prop), (∀ G, K (.bool true) ⟨S, H ++ G⟩) → runL C P (C_hourglasslaw19_MsgKnown c) [] ⟨S, H⟩ K := by
  intro S H K hK
  simp only [C_hourglasslaw19_MsgKnown, A_, simprocAttr, ne_eq, (U_hourglasslaw19_MsgKnown _).1, KG_, fillL, List.append_assoc, zm_eq]
  refine h0 _ _ _ fun G => ?_
  simp only [A_, simprocAttr, ne_eq, (U_hourglasslaw19_MsgKnown _).1, KG_, fillL, List.append_assoc, zm_eq]
  refine alloc_rule' zunder 5 [2, 3, 4, 5, 6] _ _ rfl (by decide) ?_ ?_
  · intro T
    simp only [A_, simprocAttr, ne_eq, (U_hourglasslaw19_MsgKnown _).1, KG_, fillL, List.append_assoc, zm_eq]
  · intro q L hq hi hL hA hz
    have b2 := hq 2 (by decide)
    have b3 := hq 3 (by decide)
    have b4 := hq 4 (by decide)
    have b5 := hq 5 (by decide)
    have b6 := hq 6 (by decide)
    have d23 : ¬ q 2 = q 3 := hi 2 (by decide) 3 (by decide) (by decide)
    have d24 : ¬ q 2 = q 4 := hi 2 (by decide) 4 (by decide) (by decide)
    have d25 : ¬ q 2 = q 5 := hi 2 (by decide) 5 (by decide) (by decide)
    have d26 : ¬ q 2 = q 6 := hi 2 (by decide) 6 (by decide) (by decide)
    have d34 : ¬ q 3 = q 4 := hi 3 (by decide) 4 (by decide) (by decide)
    have d35 : ¬ q 3 = q 5 := hi 3 (by decide) 5 (by decide) (by decide)
    have d36 : ¬ q 3 = q 6 := hi 3 (by decide) 6 (by decide) (by decide)
    have d45 : ¬ q 4 = q 5 := hi 4 (by decide) 5 (by decide) (by decide)
    have d46 : ¬ q 4 = q 6 := hi 4 (by decide) 6 (by decide) (by decide)
    have d56 : ¬ q 5 = q 6 := hi 5 (by decide) 6 (by decide) (by decide)
    have z2 := hz 2 (by decide)
    have z3 := hz 3 (by decide)
    have z4 := hz 4 (by decide)
    have z5 := hz 5 (by decide)
    have z6 := hz 6 (by decide)
    have hA0 := hA 0 (by simp)
    clear hq hi hz hA
    simp only [List.length_cons, List.length_nil, List.getD_cons_zero, Nat.zero_add, Nat.reduceAdd] at b2 b3 b4 b5 b6 hL hA0
    simp only [ptrsAt, List.foldl_cons, List.foldl_nil, List.set_cons_succ, List.set_cons_zero, hourglasslaw19_MsgKnown_leaf]
    generalize q 2 = j2 at *
    generalize q 3 = j3 at *
    generalize q 4 = j4 at *
    generalize q 5 = j5 at *
    generalize q 6 = j6 at *
    have l2 : (j2 < 6) = True := eq_true b2.2
    have n2 : ¬ j2 = 0 := by omega
    have l3 : (j3 < 6) = True := eq_true b3.2
    have n3 : ¬ j3 = 0 := by omega
    have l4 : (j4 < 6) = True := eq_true b4.2
    have n4 : ¬ j4 = 0 := by omega
    have l5 : (j5 < 6) = True := eq_true b5.2
    have n5 : ¬ j5 = 0 := by omega
    have l6 : (j6 < 6) = True := eq_true b6.2
    have n6 : ¬ j6 = 0 := by omega
    have d32 : ¬ j3 = j2 := fun h => d23 h.symm
    have d42 : ¬ j4 = j2 := fun h => d24 h.symm
    have d52 : ¬ j5 = j2 := fun h => d25 h.symm
    have d62 : ¬ j6 = j2 := fun h => d26 h.symm
    have d43 : ¬ j4 = j3 := fun h => d34 h.symm
    have d53 : ¬ j5 = j3 := fun h => d35 h.symm
    have d63 : ¬ j6 = j3 := fun h => d36 h.symm
    have d54 : ¬ j5 = j4 := fun h => d45 h.symm
    have d64 : ¬ j6 = j4 := fun h => d46 h.symm
    have d65 : ¬ j6 = j5 := fun h => d56 h.symm
    simp only [A_, simprocAttr, ne_eq, (U_hourglasslaw19_MsgKnown _).1, KG_, fillL, List.append_assoc, gds, gdn, zm_eq, k97_eq, k98_eq, hL, hA0, z2, z3, z4, z5, z6, l2, n2, l3, n3, l4, n4, l5, n5, l6, n6, d23, d32, d24, d42, d25, d52, d26, d62, d34, d43, d35, d53, d36, d63, d45, d54, d46, d64, d56, d65]
    have m2 : ¬ 6 = j2 := by omega
    have k2 : (j2 < 6 + 1) = True := eq_true (by omega)
    have m3 : ¬ 6 = j3 := by omega
    have k3 : (j3 < 6 + 1) = True := eq_true (by omega)
    have m4 : ¬ 6 = j4 := by omega
    have k4 : (j4 < 6 + 1) = True := eq_true (by omega)
    have m5 : ¬ 6 = j5 := by omega
    have k5 : (j5 < 6 + 1) = True := eq_true (by omega)
    have m6 : ¬ 6 = j6 := by omega
    have k6 : (j6 < 6 + 1) = True := eq_true (by omega)
    have m0 : ¬ (6 = 0) := by omega
    refine h1 _ [] _ _ _ .n (by simp) fun G2 => ?_
    rw [getM_nil]
    simp only [tupM, msc, zMsg, A_, simprocAttr, ne_eq, (U_hourglasslaw19_MsgKnown _).1, KG_, fillL, List.append_assoc, gds, gdn, gda, gdl, zm_eq, k97_eq, k98_eq, hL, hA0, z2, z3, z4, z5, z6, l2, n2, l3, n3, l4, n4, l5, n5, l6, n6, d23, d32, d24, d42, d25, d52, d26, d62, d34, d43, d35, d53, d36, d63, d45, d54, d46, d64, d56, d65, m2, k2, m3, k3, m4, k4, m5, k5, m6, k6, m0]
    refine hW _ _ [.agg (msc mk1)] _ _ (mbx_wkF mk1 _ _ (.inr ⟨rfl, rfl⟩) (.inr ⟨rfl, rfl⟩)) ?_
    refine h2 _ _ _ _ (okz (by decide) (by decide) (by decide) (by simp [mk1, mk1, zMsg])) fun G3 => ?_
    rw [gk1]
    simp only [A_, simprocAttr, ne_eq, (U_hourglasslaw19_MsgKnown _).1, KG_, fillL, List.append_assoc, gds, gdn, gda, gdl, zm_eq, k97_eq, k98_eq, hL, hA0, z2, z3, z4, z5, z6, l2, n2, l3, n3, l4, n4, l5, n5, l6, n6, d23, d32, d24, d42, d25, d52, d26, d62, d34, d43, d35, d53, d36, d63, d45, d54, d46, d64, d56, d65, m2, k2, m3, k3, m4, k4, m5, k5, m6, k6, m0]
    refine hW _ _ [.agg (msc mk2)] _ _ (mbx_wkF mk2 _ _ (.inr ⟨rfl, rfl⟩) (.inr ⟨rfl, rfl⟩)) ?_
    refine h2 _ _ _ _ (okz (by decide) (by decide) (by decide) (by simp [mk2, mk1, zMsg])) fun G4 => ?_
    rw [gk2]
    simp only [A_, simprocAttr, ne_eq, (U_hourglasslaw19_MsgKnown _).1, KG_, fillL, List.append_assoc, gds, gdn, gda, gdl, zm_eq, k97_eq, k98_eq, hL, hA0, z2, z3, z4, z5, z6, l2, n2, l3, n3, l4, n4, l5, n5, l6, n6, d23, d32, d24, d42, d25, d52, d26, d62, d34, d43, d35, d53, d36, d63, d45, d54, d46, d64, d56, d65, m2, k2, m3, k3, m4, k4, m5, k5, m6, k6, m0]
    refine hW _ _ [.agg (msc mk3)] _ _ (mbx_wkF mk3 _ _ (.inr ⟨rfl, rfl⟩) (.inr ⟨rfl, rfl⟩)) ?_
    refine h2 _ _ _ _ (okz (by decide) (by decide) (by decide) (by simp [mk3, mk1, zMsg])) fun G5 => ?_
    rw [gk3]
    simp only [A_, simprocAttr, ne_eq, (U_hourglasslaw19_MsgKnown _).1, KG_, fillL, List.append_assoc, gds, gdn, gda, gdl, zm_eq, k97_eq, k98_eq, hL, hA0, z2, z3, z4, z5, z6, l2, n2, l3, n3, l4, n4, l5, n5, l6, n6, d23, d32, d24, d42, d25, d52, d26, d62, d34, d43, d35, d53, d36, d63, d45, d54, d46, d64, d56, d65, m2, k2, m3, k3, m4, k4, m5, k5, m6, k6, m0]
    refine hW _ _ [.agg (msc mk4)] _ _ (mbx_wkF mk4 _ _ (.inr ⟨rfl, rfl⟩) (.inr ⟨rfl, rfl⟩)) ?_
    refine h2 _ _ _ _ (okz (by decide) (by decide) (by decide) (by simp [mk4, mk1, zMsg])) fun G6 => ?_
    rw [gk4]
    simp only [A_, simprocAttr, ne_eq, (U_hourglasslaw19_MsgKnown _).1, KG_, fillL, List.append_assoc, gds, gdn, gda, gdl, zm_eq, k97_eq, k98_eq, hL, hA0, z2, z3, z4, z5, z6, l2, n2, l3, n3, l4, n4, l5, n5, l6, n6, d23, d32, d24, d42, d25, d52, d26, d62, d34, d43, d35, d53, d36, d63, d45, d54, d46, d64, d56, d65, m2, k2, m3, k3, m4, k4, m5, k5, m6, k6, m0]
    refine hW _ _ _ _ _ mk5F ?_
    refine h2 _ _ _ _ (okz (by decide) (by decide) (by decide) (by simp [mk5, mk1, zMsg])) fun G7 => ?_
    rw [gk5]
    simp only [A_, simprocAttr, ne_eq, (U_hourglasslaw19_MsgKnown _).1, KG_, fillL, List.append_assoc, gds, gdn, gda, gdl, zm_eq, k97_eq, k98_eq, hL, hA0, z2, z3, z4, z5, z6, l2, n2, l3, n3, l4, n4, l5, n5, l6, n6, d23, d32, d24, d42, d25, d52, d26, d62, d34, d43, d35, d53, d36, d63, d45, d54, d46, d64, d56, d65, m2, k2, m3, k3, m4, k4, m5, k5, m6, k6, m0]
    refine hW _ _ [.agg (msc mk6)] _ _ (mbx_wkF mk6 _ _ (.inr ⟨rfl, rfl⟩) (.inr ⟨rfl, rfl⟩)) ?_
    refine h2 _ _ _ _ (okz (by decide) (by decide) (by decide) (by simp [mk6, mk1, zMsg])) fun G8 => ?_
    rw [gk6]
    simp only [A_, simprocAttr, ne_eq, (U_hourglasslaw19_MsgKnown _).1, KG_, fillL, List.append_assoc, gds, gdn, gda, gdl, zm_eq, k97_eq, k98_eq, hL, hA0, z2, z3, z4, z5, z6, l2, n2, l3, n3, l4, n4, l5, n5, l6, n6, d23, d32, d24, d42, d25, d52, d26, d62, d34, d43, d35, d53, d36, d63, d45, d54, d46, d64, d56, d65, m2, k2, m3, k3, m4, k4, m5, k5, m6, k6, m0]
    refine hW _ _ [.agg (msc zMsg)] _ _ (mbx_wkF zMsg _ _ (.inr ⟨rfl, rfl⟩) (.inr ⟨rfl, rfl⟩)) ?_
    refine h2 _ _ _ _ (okz (by decide) (by decide) (by decide) (by simp [zMsg])) fun G9 => ?_
    rw [gk7]
    simp only [A_, simprocAttr, ne_eq, (U_hourglasslaw19_MsgKnown _).1, KG_, fillL, List.append_assoc, gds, gdn, gda, gdl, zm_eq, k97_eq, k98_eq, hL, hA0, z2, z3, z4, z5, z6, l2, n2, l3, n3, l4, n4, l5, n5, l6, n6, d23, d32, d24, d42, d25, d52, d26, d62, d34, d43, d35, d53, d36, d63, d45, d54, d46, d64, d56, d65, m2, k2, m3, k3, m4, k4, m5, k5, m6, k6, m0]
    refine hW _ _ [.agg (msc mk2)] _ _ (mbx_wkF mk2 _ _ (.inr ⟨rfl, rfl⟩) (.inr ⟨rfl, rfl⟩)) ?_
    refine h3 _ _ _ _ mk2_ok fun G10 => ?_
    rw [mk2_put]
    simp only [A_, simprocAttr, ne_eq, (U_hourglasslaw19_MsgKnown _).1, KG_, fillL, List.append_assoc, gds, gdn, gda, gdl, zm_eq, k97_eq, k98_eq, hL, hA0, z2, z3, z4, z5, z6, l2, n2, l3, n3, l4, n4, l5, n5, l6, n6, d23, d32, d24, d42, d25, d52, d26, d62, d34, d43, d35, d53, d36, d63, d45, d54, d46, d64, d56, d65, m2, k2, m3, k3, m4, k4, m5, k5, m6, k6, m0]
    simpa [show bs ([] : List UInt8) = [] from rfl] using hK (G ++ (G2 ++ (G3 ++ (G4 ++ (G5 ++ (G6 ++ (G7 ++ (G8 ++ (G9 ++ G10)))))))))
end Go.AM
namespace Go.AM
open Go
set_option maxRecDepth 20000
structure VSt where
  best : Wr
  top : Stp
  found : Bool
end Go.AM
namespace Go.AM
open Go
set_option maxRecDepth 20000
end Go.AM
namespace Go.AM
open Go
set_option maxRecDepth 20000
end Go.AM
namespace Go.AM
open Go
end Go.AM
namespace Go.AM
open Go
set_option maxRecDepth 20000
def ofV (id snap t : Int) (s v : List UInt8) : AV := .agg [.s (.int .i64 id), .s (.int .i64 snap), u8 0, .s (.int .i64 t), u8 0, .s (.bool true), .s .nilS, .list .full 18 [.agg (wc ⟨(keyOf s).1, v, false⟩)]]
end Go.AM
namespace Go.AM
open Go
set_option maxRecDepth 20000
end Go.AM
namespace Go.AM
open Go
set_option maxRecDepth 20000
end Go.AM
