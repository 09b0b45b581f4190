import Derived.Test.YthbiajoionockaaM12
import Derived.Test.YthbiajoionockaaM10
import Derived.Test.YthbiajoionockaaM7
import Derived.OpenShut
import Derived.Carry
import Derived.ChangeOld
set_option linter.unusedSimpArgs false
set_option linter.unusedVariables false
namespace Go.AM
open Go
open AV renaming undef → uu
set_option maxRecDepth 20000
def SameS (C : CallW) (f : FuncId) : Prop := ∀ (a b : List Nat) S H (K : AV → St → Prop), a.length ≤ 1000000 → b.length ≤ 1000000 → K (.bool (decide (a = b))) ⟨S, H⟩ → C (.fn f) [lstI a, lstI b] ⟨S, H⟩ K
set_option maxHeartbeats 4000000 in
theorem same_spec {C : CallW} (hC : LeC C C) (P : Program) : ∀ (a b : List Nat) S H (K : AV → St → Prop), a.length ≤ 1000000 → b.length ≤ 1000000 → K (.bool (decide (a = b))) ⟨S, H⟩ → runL C P C_hourglasslaw17_same [lstI a, lstI b] ⟨S, H⟩ K := by
  intro a b S H K ha hb hK
  by_cases hl : a.length = b.length
  case neg =>
    have hl' : ((a.length : Int) = (b.length : Int)) = False := eq_false (by omega)
    rw [decide_eq_false (fun e => hl (by rw [e]))] at hK
    simp only [lstI, C_hourglasslaw17_same, A_, simprocAttr, ne_eq, U_hourglasslaw17_same.1, hl']
    exact hK
  have hl' : ((a.length : Int) = (b.length : Int)) = True := eq_true (by omega)
  simp only [lstI, C_hourglasslaw17_same, A_, simprocAttr, ne_eq, U_hourglasslaw17_same.1, hl']
  refine loop_rule hC (α := Nat) (fun x => a.length - x) (fun x => [.list .sh 1 (a.map fun (n : Nat) => AV.i n), .list .sh 1 (b.map fun (n : Nat) => AV.i n), uu, uu, uu, .s (.int .i64 (x : Nat)), uu, uu, uu, uu, uu, uu, uu, uu, uu, uu, uu, uu, uu, uu, uu, uu, uu, uu, uu, uu]) (fun _ => S) (fun _ => H) (fun i => i ≤ a.length ∧ a.take i = b.take i) 0 ⟨by simp, rfl⟩ (by simp [keep, zm]) (by simp) rfl (fun i hi => by simp [AV.under, AV.under.go]) ?_
  rintro i ⟨hi, hinv⟩ ih
  by_cases h16 : i < a.length
  · have h17 : i < b.length := by omega
    have hlt : ((i : Int) < (a.length : Int)) := by omega
    have hw := wrap_succ (i := i) (by omega)
    have x1 := fun k : IntKind => ixl_i (l := a) (c := 1) (k := k) h16 (by omega)
    have x2 := fun k : IntKind => ixl_i (l := b) (c := 1) (k := k) h17 (by omega)
    simp only [C_hourglasslaw17_same, A_, simprocAttr, ne_eq, U_hourglasslaw17_same.1, hlt, x1, x2]
    by_cases he : a[i] = b[i]
    · have he' : ((a[i] : Int) = (b[i] : Int)) = True := eq_true (by omega)
      simp only [C_hourglasslaw17_same, A_, simprocAttr, ne_eq, U_hourglasslaw17_same.1, he', hw]
      exact ih (i + 1) _ _ _ (by omega) ⟨by omega, by rw [List.take_succ_eq_append_getElem h16, List.take_succ_eq_append_getElem h17, hinv, he]⟩ (by simp [keep, zm]) (by simp) rfl
    · have he' : ((a[i] : Int) = (b[i] : Int)) = False := eq_false (by omega)
      rw [decide_eq_false (fun e => he (by subst e; rfl))] at hK
      simp only [C_hourglasslaw17_same, A_, simprocAttr, ne_eq, U_hourglasslaw17_same.1, he']
      exact hK
  · have hlt : ¬ ((i : Int) < (a.length : Int)) := by omega
    rw [List.take_of_length_le (by omega), List.take_of_length_le (by omega)] at hinv
    rw [decide_eq_true hinv] at hK
    simp only [C_hourglasslaw17_same, A_, simprocAttr, ne_eq, U_hourglasslaw17_same.1, hlt]
    exact hK
def nxtCv (up dn : Bool) (a b : Key) (i : Nat) (cur : List Nat) : List Nat := if up && dn && (decide (b = key0) || decide (0 < cmpK b a)) then cur ++ [i] else cur
def badCv (a b : Key) : Bool := decide (b ≠ key0) && decide (cmpK b a ≤ 0)
def cvr (pts : List Key) (a b : Key) (n : Nat) : List Nat := if badCv a b then [] else covUp pts a b n
theorem cvr_end (pts : List Key) (a b : Key) : cvr pts a b (pts.length + 1) = coverK pts a b := by
  unfold cvr coverK badCv
  by_cases h : b ≠ key0 ∧ cmpK b a ≤ 0
  · rw [if_pos (by simpa using h), if_pos h]
  · rw [if_neg (by simpa using h), if_neg h]
theorem cvr_zero {pts : List Key} {a b : Key} : cvr pts a b 0 = [] := by unfold cvr; split <;> rfl
theorem cvr_succ (pts : List Key) (a b : Key) (n : Nat) : cvr pts a b (n + 1) = nxtCv (aboveK pts a n) (belowK pts b n) a b n (cvr pts a b n) := by
  unfold cvr nxtCv
  rw [cov_succ]
  have e : (decide (b = key0) || decide (0 < cmpK b a)) = !badCv a b := by
    unfold badCv
    by_cases h : b = key0
    · simp [h]
    · by_cases h2 : cmpK b a ≤ 0
      · simp [h, h2]
      · simp [h, h2]; omega
  rw [e]
  cases badCv a b with
  | true => simp
  | false =>
    cases aboveK pts a n && belowK pts b n with
    | true => simp
    | false => simp
theorem cvr_len {pts : List Key} {a b : Key} {n : Nat} : (cvr pts a b n).length ≤ n := by
  unfold cvr
  split
  · exact Nat.zero_le _
  · exact cov_len
set_option maxHeartbeats 8000000 in
theorem y10h2_run {C : CallW} (P : Program) {c : Nat → FuncId} (h0 : KCmp C (c 0)) {h m i : Nat} {up dn : Bool} {a b : Key} {cur : List Nat} {S : List (List AV)} {H : List HObj} {is : List Item} {K : KC} (hm : m = S.length) (hc : cur.length ≤ 1000000) : ∀ (x1 x2 x3 x6 x12 x13 x14 x15 x16 x17 x18 x19 x20 x21 x22 x23 x24 x25 x26 x27 x28 x29 x30 x31 x32 x33 x34 x35 x36 x37 x38 x39 x40 x41 x42 x43 x44 x45 x46 x47 x48 x49 x50 x51 x52 x53 x54 x55 x56 x57 x58 x59 x60 x61 x62 x63 x64 x65 x66 x67 x68 x69 x70 x71 x72 x73 x74 x75 x76 x77 x78 x79 x80 : AV), (∀ z61 z62 z63 z64 z65 z66 z67 z68 z69 z70 z71 z72 z73 z74 z75 z76 z77 z78 z79 : AV, nxt C P false is [.ptr (.heap h) 0, x1, x2, x3, .ptr (.stk m) 0, .ptr (.stk (m + 1)) 0, x6, .ptr (.stk (m + 2)) 0, slI (nxtCv up dn a b i cur), .s (.int .i64 (i : Nat)), .s (.bool up), .s (.bool dn), x12, x13, x14, x15, x16, x17, x18, x19, x20, x21, x22, x23, x24, x25, x26, x27, x28, x29, x30, x31, x32, x33, x34, x35, x36, x37, x38, x39, x40, x41, x42, x43, x44, x45, x46, x47, x48, x49, x50, x51, x52, x53, x54, x55, x56, x57, x58, x59, x60, z61, z62, z63, z64, z65, z66, z67, z68, z69, z70, z71, z72, z73, z74, z75, z76, z77, z78, z79, x80] ⟨S ++ [bs a.b, bs b.b, bs key0.b], H⟩ K) → runC C P false (y10h2 c) is [.ptr (.heap h) 0, x1, x2, x3, .ptr (.stk m) 0, .ptr (.stk (m + 1)) 0, x6, .ptr (.stk (m + 2)) 0, slI cur, .s (.int .i64 (i : Nat)), .s (.bool up), .s (.bool dn), x12, x13, x14, x15, x16, x17, x18, x19, x20, x21, x22, x23, x24, x25, x26, x27, x28, x29, x30, x31, x32, x33, x34, x35, x36, x37, x38, x39, x40, x41, x42, x43, x44, x45, x46, x47, x48, x49, x50, x51, x52, x53, x54, x55, x56, x57, x58, x59, x60, x61, x62, x63, x64, x65, x66, x67, x68, x69, x70, x71, x72, x73, x74, x75, x76, x77, x78, x79, x80] ⟨S ++ [bs a.b, bs b.b, bs key0.b], H⟩ K := by
  intro x1 x2 x3 x6 x12 x13 x14 x15 x16 x17 x18 x19 x20 x21 x22 x23 x24 x25 x26 x27 x28 x29 x30 x31 x32 x33 x34 x35 x36 x37 x38 x39 x40 x41 x42 x43 x44 x45 x46 x47 x48 x49 x50 x51 x52 x53 x54 x55 x56 x57 x58 x59 x60 x61 x62 x63 x64 x65 x66 x67 x68 x69 x70 x71 x72 x73 x74 x75 x76 x77 x78 x79 x80 hX
  subst hm
  unfold nxtCv at hX
  have happ : ∀ (e : ET) (σ : St), e.c = 1 → e.bytes = 8 → appendL e false (slI cur) (.list .full 1 [.i i]) σ = some (slI (cur ++ [i]), σ) := fun e σ h1 h2 => app_slI h1 h2 hc
  cases up with
  | false =>
    simp only [Bool.false_and, Bool.false_eq_true, if_false] at hX
    simp only [unfC (y10h1.eq_1 c), unfC (y10h2.eq_1 c), A_, simprocAttr, ne_eq]
    exact hX _ _ _ _ _ _ _ _ _ _ _ _ _ _ _ _ _ _ _
  | true =>
  cases dn with
  | false =>
    simp only [Bool.and_false, Bool.false_and, Bool.false_eq_true, if_false] at hX
    simp only [unfC (y10h1.eq_1 c), unfC (y10h2.eq_1 c), A_, simprocAttr, ne_eq]
    exact hX _ _ _ _ _ _ _ _ _ _ _ _ _ _ _ _ _ _ _
  | true =>
  by_cases hb : b = key0
  · subst hb
    simp only [decide_true, Bool.true_or, Bool.and_true, if_true] at hX
    simp only [unfC (y10h1.eq_1 c), unfC (y10h2.eq_1 c), A_, simprocAttr, ne_eq, happ]
    exact hX _ _ _ _ _ _ _ _ _ _ _ _ _ _ _ _ _ _ _
  · simp only [unfC (y10h1.eq_1 c), unfC (y10h2.eq_1 c), A_, simprocAttr, ne_eq, hb]
    refine h0 _ _ _ _ _ ?_
    by_cases hx : 0 < Lib.compareBytes b.b a.b
    · rw [if_pos (by simp [cmpK, hx])] at hX
      simp only [unfC (y10h1.eq_1 c), unfC (y10h2.eq_1 c), A_, simprocAttr, ne_eq, hx, happ]
      exact hX _ _ _ _ _ _ _ _ _ _ _ _ _ _ _ _ _ _ _
    · rw [if_neg (by simp [cmpK, hx, hb])] at hX
      simp only [unfC (y10h1.eq_1 c), unfC (y10h2.eq_1 c), A_, simprocAttr, ne_eq, hx]
      exact hX _ _ _ _ _ _ _ _ _ _ _ _ _ _ _ _ _ _ _
def CoverRS (C : CallW) (f : FuncId) : Prop := ∀ (l : List Key) (a b : Key) (h : Nat) S H (K : AV → St → Prop), H[h]? = some (tabQ l) → l.length ≤ 1000 → K (lstI (coverK l a b)) ⟨S, H⟩ → C (.fn f) [.ptr (.heap h) 0, .agg (bs a.b), .agg (bs b.b)] ⟨S, H⟩ K
set_option maxHeartbeats 16000000 in
theorem RouteCover_spec {C : CallW} (hC : LeC C C) (P : Program) {c : Nat → FuncId} (h0 : KCmp C (c 0)) : ∀ (pts : List Key) (a b : Key) (h : Nat) S H (K : AV → St → Prop), H[h]? = some (tabQ pts) → pts.length ≤ 1000 → K (slI (coverK pts a b)) ⟨S, H⟩ → runL C P (C_hourglassref14_Route_Cover c) [.ptr (.heap h) 0, .agg (bs a.b), .agg (bs b.b)] ⟨S, H⟩ K := by
  intro pts a b h S H K hh hl hK
  have hld : ∀ S', load1L false (.ptr (.heap h) 0) ⟨S', H⟩ = some (.list (flq pts) 16 (pts.map kA), ⟨S', H⟩) := fun S' => tabQ_load hh
  simp only [C_hourglassref14_Route_Cover, unfC (y10h3.eq_1 c), unfC (y10h4.eq_1 c), unfC (y10h5.eq_1 c), unfC (y10h6.eq_1 c), unfC (y10h7.eq_1 c), unfC (y10h8.eq_1 c), unfC (y10h9.eq_1 c), A_, simprocAttr, ne_eq]
  refine loop_rule hC (α := Nat) (fun x => pts.length + 1 - x) (fun x => [.ptr (.heap h) 0, uu, uu, uu, .ptr (.stk S.length) 0, .ptr (.stk (S.length + 1)) 0, .undef, .ptr (.stk (S.length + 2)) 0, slI (cvr pts a b x), .s (.int .i64 (x : Nat)), uu, uu, uu, uu, uu, uu, uu, uu, uu, uu, uu, uu, uu, uu, uu, uu, uu, uu, uu, uu, uu, uu, uu, uu, uu, uu, uu, uu, uu, uu, uu, uu, uu, uu, uu, uu, uu, uu, uu, uu, uu, uu, uu, uu, uu, uu, uu, uu, uu, uu, uu, uu, uu, uu, uu, uu, uu, uu, uu, uu, uu, uu, uu, uu, uu, uu, uu, uu, uu, uu, uu]) (fun _ => S ++ [bs a.b, bs b.b, bs key0.b]) (fun _ => H) (fun x => x ≤ pts.length + 1) 0 (by omega) (by simp [keep, zm, cvr_zero]; rfl) (by rw [app_take_add]; rfl) rfl (fun i hi => by simp [AV.under, AV.under.go, under_slI]) ?_
  intro i hi ih
  have hcl := cvr_len (pts := pts) (a := a) (b := b) (n := i)
  have hw := wrap_succ (i := i) (by omega)
  have hs := cvr_succ pts a b i
  have step : ∀ (up dn : Bool), aboveK pts a i = up → belowK pts b i = dn → ∀ fr', keep (zm false [0, 1, 3, 2, 1, 3, 71]) fr' = [.ptr (.heap h) 0, uu, uu, uu, .ptr (.stk S.length) 0, .ptr (.stk (S.length + 1)) 0, .undef, .ptr (.stk (S.length + 2)) 0, slI (nxtCv up dn a b i (cvr pts a b i)), .s (.int .i64 (i + 1 : Nat)), uu, uu, uu, uu, uu, uu, uu, uu, uu, uu, uu, uu, uu, uu, uu, uu, uu, uu, uu, uu, uu, uu, uu, uu, uu, uu, uu, uu, uu, uu, uu, uu, uu, uu, uu, uu, uu, uu, uu, uu, uu, uu, uu, uu, uu, uu, uu, uu, uu, uu, uu, uu, uu, uu, uu, uu, uu, uu, uu, uu, uu, uu, uu, uu, uu, uu, uu, uu, uu, uu, uu] → i ≤ pts.length → runLp C P false (zm false [0, 1, 3, 2, 1, 3, 71]) (y10h6 c) (S.length + 3) [Item.blk 0, Item.c (.seq (.sq [(zs 80 (.mv true (.t 8))), (zs 6 (.mv true (.t 80)))]) .ret)] fr' ⟨S ++ [bs a.b, bs b.b, bs key0.b], H⟩ (fin S.length [LR.t 6] K) := by
    intro up dn hu hd fr' hfr hil
    rw [hu, hd] at hs
    rw [← hs] at hfr
    exact ih (i + 1) _ _ _ (by omega) (by omega) hfr (by rw [app_take_add]; rfl) rfl
  by_cases h16 : i ≤ pts.length
  case neg =>
    have hlt : ¬ ((i : Int) ≤ (pts.length : Int)) := by omega
    have : i = pts.length + 1 := by omega
    subst this
    rw [cvr_end]
    by_cases e : pts = []
    · subst e
      have hld2 : ∀ S', load1L false (.ptr (.heap h) 0) ⟨S', H⟩ = some (.list .full 16 [], ⟨S', H⟩) := hld
      have hlt2 : ((([] : List Key).length + 1 : Nat) : Int) ≤ 0 ↔ False := by simp
      simp only [unfC (y10h3.eq_1 c), unfC (y10h4.eq_1 c), unfC (y10h5.eq_1 c), unfC (y10h6.eq_1 c), unfC (y10h7.eq_1 c), unfC (y10h8.eq_1 c), unfC (y10h9.eq_1 c), A_, simprocAttr, ne_eq, hld2, hlt2]
      exact ⟨under_slI, hK⟩
    · have hld2 := hld
      rw [show flq pts = .sh from if_neg e] at hld2
      simp only [unfC (y10h3.eq_1 c), unfC (y10h4.eq_1 c), unfC (y10h5.eq_1 c), unfC (y10h6.eq_1 c), unfC (y10h7.eq_1 c), unfC (y10h8.eq_1 c), unfC (y10h9.eq_1 c), A_, simprocAttr, ne_eq, hld2, hlt]
      exact ⟨under_slI, hK⟩
  have hlt : ((i : Int) ≤ (pts.length : Int)) := by omega
  have hd0 : belowK pts b 0 = true := by unfold belowK; simp
  by_cases e : pts = []
  · subst e
    have hi0 : i = 0 := by simpa using h16
    subst hi0
    have hld2 : ∀ S', load1L false (.ptr (.heap h) 0) ⟨S', H⟩ = some (.list .full 16 [], ⟨S', H⟩) := hld
    have hu : aboveK [] a 0 = true := rfl
    have hq1 : (((0 : Nat) : Int) ≤ 0) = True := eq_true (by omega)
    have hq2 : (((0 : Nat) : Int) = 0) = True := eq_true rfl
    simp only [unfC (y10h3.eq_1 c), unfC (y10h4.eq_1 c), unfC (y10h5.eq_1 c), unfC (y10h6.eq_1 c), unfC (y10h7.eq_1 c), unfC (y10h8.eq_1 c), unfC (y10h9.eq_1 c), A_, simprocAttr, ne_eq, hld2, hq1, hq2]
    refine y10h2_run (m := S.length) P h0 rfl (by omega) _ _ _ _ _ _ _ _ _ _ _ _ _ _ _ _ _ _ _ _ _ _ _ _ _ _ _ _ _ _ _ _ _ _ _ _ _ _ _ _ _ _ _ _ _ _ _ _ _ _ _ _ _ _ _ _ _ _ _ _ _ _ _ _ _ _ _ _ _ _ _ _ _ ?_
    intro z61 z62 z63 z64 z65 z66 z67 z68 z69 z70 z71 z72 z73 z74 z75 z76 z77 z78 z79
    simp only [unfC (y10h3.eq_1 c), unfC (y10h4.eq_1 c), unfC (y10h5.eq_1 c), unfC (y10h6.eq_1 c), unfC (y10h7.eq_1 c), unfC (y10h8.eq_1 c), unfC (y10h9.eq_1 c), A_, simprocAttr, ne_eq, hw]
    exact step _ _ hu hd0 _ (by simp [keep, zm]) h16
  have hld2 := hld
  rw [show flq pts = .sh from if_neg e] at hld2
  have hpos := List.length_pos_iff.2 e
  by_cases hil : i = pts.length
  · have hil' : ((i : Int) = (pts.length : Int)) = True := eq_true (by omega)
    have hu : aboveK pts a i = true := by unfold aboveK; rw [List.getElem?_eq_none (by omega)]
    have hz' : ((i : Int) = 0) = False := eq_false (by omega)
    have h18 : i - 1 < pts.length := by omega
    have hwp : IntKind.i64.wrap ((i : Int) - 1) = ((i - 1 : Nat) : Int) := by rw [wrap_i64 (by omega) (by omega)]; omega
    by_cases hb : b = key0
    · have hd : belowK pts b i = true := by unfold belowK; simp [hb]
      subst hb
      simp only [unfC (y10h3.eq_1 c), unfC (y10h4.eq_1 c), unfC (y10h5.eq_1 c), unfC (y10h6.eq_1 c), unfC (y10h7.eq_1 c), unfC (y10h8.eq_1 c), unfC (y10h9.eq_1 c), A_, simprocAttr, ne_eq, hld2, hlt, hil', hz', hwp]
      refine y10h2_run (m := S.length) P h0 rfl (by omega) _ _ _ _ _ _ _ _ _ _ _ _ _ _ _ _ _ _ _ _ _ _ _ _ _ _ _ _ _ _ _ _ _ _ _ _ _ _ _ _ _ _ _ _ _ _ _ _ _ _ _ _ _ _ _ _ _ _ _ _ _ _ _ _ _ _ _ _ _ _ _ _ _ ?_
      intro z61 z62 z63 z64 z65 z66 z67 z68 z69 z70 z71 z72 z73 z74 z75 z76 z77 z78 z79
      simp only [unfC (y10h3.eq_1 c), unfC (y10h4.eq_1 c), unfC (y10h5.eq_1 c), unfC (y10h6.eq_1 c), unfC (y10h7.eq_1 c), unfC (y10h8.eq_1 c), unfC (y10h9.eq_1 c), A_, simprocAttr, ne_eq, hw]
      exact step _ _ hu hd _ (by simp [keep, zm]) h16
    · have hd : belowK pts b i = decide (Lib.compareBytes (pts[i - 1]).b b.b < 0) := by
        unfold belowK
        rw [decide_eq_false (by omega), decide_eq_false hb, List.getElem?_eq_getElem h18]
        rfl
      simp only [unfC (y10h3.eq_1 c), unfC (y10h4.eq_1 c), unfC (y10h5.eq_1 c), unfC (y10h6.eq_1 c), unfC (y10h7.eq_1 c), unfC (y10h8.eq_1 c), unfC (y10h9.eq_1 c), A_, simprocAttr, ne_eq, hld2, hlt, hil', hz', hwp, hb, h18]
      refine h0 _ _ _ _ _ ?_
      simp only [unfC (y10h3.eq_1 c), unfC (y10h4.eq_1 c), unfC (y10h5.eq_1 c), unfC (y10h6.eq_1 c), unfC (y10h7.eq_1 c), unfC (y10h8.eq_1 c), unfC (y10h9.eq_1 c), A_, simprocAttr, ne_eq]
      refine y10h2_run (m := S.length) P h0 rfl (by omega) _ _ _ _ _ _ _ _ _ _ _ _ _ _ _ _ _ _ _ _ _ _ _ _ _ _ _ _ _ _ _ _ _ _ _ _ _ _ _ _ _ _ _ _ _ _ _ _ _ _ _ _ _ _ _ _ _ _ _ _ _ _ _ _ _ _ _ _ _ _ _ _ _ ?_
      intro z61 z62 z63 z64 z65 z66 z67 z68 z69 z70 z71 z72 z73 z74 z75 z76 z77 z78 z79
      simp only [unfC (y10h3.eq_1 c), unfC (y10h4.eq_1 c), unfC (y10h5.eq_1 c), unfC (y10h6.eq_1 c), unfC (y10h7.eq_1 c), unfC (y10h8.eq_1 c), unfC (y10h9.eq_1 c), A_, simprocAttr, ne_eq, hw]
      exact step _ _ hu hd _ (by simp [keep, zm]) h16
  · have hil' : ((i : Int) = (pts.length : Int)) = False := eq_false (by omega)
    have h17 : i < pts.length := by omega
    have hu : aboveK pts a i = decide (0 < Lib.compareBytes (pts[i]).b a.b) := by unfold aboveK; rw [List.getElem?_eq_getElem h17]; rfl
    simp only [unfC (y10h3.eq_1 c), unfC (y10h4.eq_1 c), unfC (y10h5.eq_1 c), unfC (y10h6.eq_1 c), unfC (y10h7.eq_1 c), unfC (y10h8.eq_1 c), unfC (y10h9.eq_1 c), A_, simprocAttr, ne_eq, hld2, hlt, hil', h17]
    refine h0 _ _ _ _ _ ?_
    by_cases hz : i = 0
    · have hz' : ((i : Int) = 0) = True := eq_true (by omega)
      have hd : belowK pts b i = true := by rw [hz]; exact hd0
      simp only [unfC (y10h3.eq_1 c), unfC (y10h4.eq_1 c), unfC (y10h5.eq_1 c), unfC (y10h6.eq_1 c), unfC (y10h7.eq_1 c), unfC (y10h8.eq_1 c), unfC (y10h9.eq_1 c), A_, simprocAttr, ne_eq, hz']
      refine y10h2_run (m := S.length) P h0 rfl (by omega) _ _ _ _ _ _ _ _ _ _ _ _ _ _ _ _ _ _ _ _ _ _ _ _ _ _ _ _ _ _ _ _ _ _ _ _ _ _ _ _ _ _ _ _ _ _ _ _ _ _ _ _ _ _ _ _ _ _ _ _ _ _ _ _ _ _ _ _ _ _ _ _ _ ?_
      intro z61 z62 z63 z64 z65 z66 z67 z68 z69 z70 z71 z72 z73 z74 z75 z76 z77 z78 z79
      simp only [unfC (y10h3.eq_1 c), unfC (y10h4.eq_1 c), unfC (y10h5.eq_1 c), unfC (y10h6.eq_1 c), unfC (y10h7.eq_1 c), unfC (y10h8.eq_1 c), unfC (y10h9.eq_1 c), A_, simprocAttr, ne_eq, hw]
      exact step _ _ hu hd _ (by simp [keep, zm]) h16
    · skip
      have hz' : ((i : Int) = 0) = False := eq_false (by omega)
      have h18 : i - 1 < pts.length := by omega
      have hwp : IntKind.i64.wrap ((i : Int) - 1) = ((i - 1 : Nat) : Int) := by rw [wrap_i64 (by omega) (by omega)]; omega
      by_cases hb : b = key0
      · have hd : belowK pts b i = true := by unfold belowK; simp [hb]
        subst hb
        simp only [unfC (y10h3.eq_1 c), unfC (y10h4.eq_1 c), unfC (y10h5.eq_1 c), unfC (y10h6.eq_1 c), unfC (y10h7.eq_1 c), unfC (y10h8.eq_1 c), unfC (y10h9.eq_1 c), A_, simprocAttr, ne_eq, hld2, hz', hwp]
        refine y10h2_run (m := S.length) P h0 rfl (by omega) _ _ _ _ _ _ _ _ _ _ _ _ _ _ _ _ _ _ _ _ _ _ _ _ _ _ _ _ _ _ _ _ _ _ _ _ _ _ _ _ _ _ _ _ _ _ _ _ _ _ _ _ _ _ _ _ _ _ _ _ _ _ _ _ _ _ _ _ _ _ _ _ _ ?_
        intro z61 z62 z63 z64 z65 z66 z67 z68 z69 z70 z71 z72 z73 z74 z75 z76 z77 z78 z79
        simp only [unfC (y10h3.eq_1 c), unfC (y10h4.eq_1 c), unfC (y10h5.eq_1 c), unfC (y10h6.eq_1 c), unfC (y10h7.eq_1 c), unfC (y10h8.eq_1 c), unfC (y10h9.eq_1 c), A_, simprocAttr, ne_eq, hw]
        exact step _ _ hu hd _ (by simp [keep, zm]) h16
      · have hd : belowK pts b i = decide (Lib.compareBytes (pts[i - 1]).b b.b < 0) := by
          unfold belowK
          rw [decide_eq_false (by omega), decide_eq_false hb, List.getElem?_eq_getElem h18]
          rfl
        simp only [unfC (y10h3.eq_1 c), unfC (y10h4.eq_1 c), unfC (y10h5.eq_1 c), unfC (y10h6.eq_1 c), unfC (y10h7.eq_1 c), unfC (y10h8.eq_1 c), unfC (y10h9.eq_1 c), A_, simprocAttr, ne_eq, hld2, hz', hwp, hb, h18]
        refine h0 _ _ _ _ _ ?_
        simp only [unfC (y10h3.eq_1 c), unfC (y10h4.eq_1 c), unfC (y10h5.eq_1 c), unfC (y10h6.eq_1 c), unfC (y10h7.eq_1 c), unfC (y10h8.eq_1 c), unfC (y10h9.eq_1 c), A_, simprocAttr, ne_eq]
        refine y10h2_run (m := S.length) P h0 rfl (by omega) _ _ _ _ _ _ _ _ _ _ _ _ _ _ _ _ _ _ _ _ _ _ _ _ _ _ _ _ _ _ _ _ _ _ _ _ _ _ _ _ _ _ _ _ _ _ _ _ _ _ _ _ _ _ _ _ _ _ _ _ _ _ _ _ _ _ _ _ _ _ _ _ _ ?_
        intro z61 z62 z63 z64 z65 z66 z67 z68 z69 z70 z71 z72 z73 z74 z75 z76 z77 z78 z79
        simp only [unfC (y10h3.eq_1 c), unfC (y10h4.eq_1 c), unfC (y10h5.eq_1 c), unfC (y10h6.eq_1 c), unfC (y10h7.eq_1 c), unfC (y10h8.eq_1 c), unfC (y10h9.eq_1 c), A_, simprocAttr, ne_eq, hw]
        exact step _ _ hu hd _ (by simp [keep, zm]) h16
end Go.AM
namespace Go.AM
open Go
open AV renaming undef → uu
set_option maxRecDepth 20000
theorem comp_fold : ∀ (l acc : List Int), acc.Pairwise (· < ·) → (∀ a ∈ acc, ∀ x ∈ l, a ≤ x) → l.Pairwise (· ≤ ·) → (l.foldl compStep acc).Pairwise (· < ·) ∧ ∀ x, x ∈ l.foldl compStep acc ↔ x ∈ acc ∨ x ∈ l
  | [], acc, h1, _, _ => ⟨h1, fun x => by simp⟩
  | y :: l, acc, h1, h2, h3 => by
    rw [List.foldl_cons]
    rw [List.pairwise_cons] at h3
    by_cases hy : acc.getLast? = some y
    · have hc : compStep acc y = acc := if_pos hy
      rw [hc]
      obtain ⟨q1, q2⟩ := comp_fold l acc h1 (fun a ha x hx => h2 a ha x (List.mem_cons_of_mem _ hx)) h3.2
      refine ⟨q1, fun x => ?_⟩
      rw [q2, List.mem_cons]
      have hm : y ∈ acc := List.mem_of_getLast? hy
      constructor
      · rintro (h | h)
        · exact .inl h
        · exact .inr (.inr h)
      · rintro (h | rfl | h)
        · exact .inl h
        · exact .inl hm
        · exact .inr h
    · have hc : compStep acc y = acc ++ [y] := if_neg hy
      rw [hc]
      have hlt : ∀ a ∈ acc, a < y := by
        intro a ha
        have h4 := h2 a ha y List.mem_cons_self
        rcases Int.lt_or_eq_of_le h4 with h5 | h5
        · exact h5
        · exfalso
          obtain ⟨z, hz⟩ : ∃ z, acc.getLast? = some z := by
            cases hq : acc.getLast? with
            | none => rw [List.getLast?_eq_none_iff] at hq; subst hq; cases ha
            | some z => exact ⟨z, rfl⟩
          have hzm : z ∈ acc := List.mem_of_getLast? hz
          have hzy := h2 z hzm y List.mem_cons_self
          have haz : a ≤ z := by
            obtain ⟨ys, hys⟩ := List.getLast?_eq_some_iff.1 hz
            rw [hys] at ha h1
            rcases List.mem_append.1 ha with h6 | h6
            · have := (List.pairwise_append.1 h1).2.2 a h6 z (by simp); omega
            · have : a = z := by simpa using h6
              omega
          have : z = y := by omega
          exact hy (by rw [hz, this])
      obtain ⟨q1, q2⟩ := comp_fold l (acc ++ [y]) (List.pairwise_append.2 ⟨h1, by simp, fun a ha b hb => by
        have hb2 : b = y := by simpa using hb
        subst hb2
        exact hlt a ha⟩) (fun a ha x hx => by
        rcases List.mem_append.1 ha with h6 | h6
        · exact h2 a h6 x (List.mem_cons_of_mem _ hx)
        · have : a = y := by simpa using h6
          rw [this]; exact h3.1 x hx) h3.2
      refine ⟨q1, fun x => ?_⟩
      rw [q2, List.mem_append, List.mem_singleton, List.mem_cons]
      constructor
      · rintro ((h | h) | h)
        · exact .inl h
        · exact .inr (.inl h)
        · exact .inr (.inr h)
      · rintro (h | h | h)
        · exact .inl (.inl h)
        · exact .inl (.inr h)
        · exact .inr h
theorem inc_eq : ∀ {a b : List Int}, a.Pairwise (· < ·) → b.Pairwise (· < ·) → (∀ x, x ∈ a ↔ x ∈ b) → a = b
  | [], [], _, _, _ => rfl
  | [], y :: b, _, _, h => by have := (h y).2 List.mem_cons_self; cases this
  | x :: a, [], _, _, h => by have := (h x).1 List.mem_cons_self; cases this
  | x :: a, y :: b, h1, h2, h => by
    rw [List.pairwise_cons] at h1 h2
    have e : x = y := by
      rcases List.mem_cons.1 ((h x).1 List.mem_cons_self) with h3 | h3
      · exact h3
      · rcases List.mem_cons.1 ((h y).2 List.mem_cons_self) with h4 | h4
        · exact h4.symm
        · have := h1.1 y h4; have := h2.1 x h3; omega
    subst e
    congr 1
    refine inc_eq h1.2 h2.2 fun z => ?_
    constructor
    · intro hz
      rcases List.mem_cons.1 ((h z).1 (List.mem_cons_of_mem _ hz)) with h3 | h3
      · have := h1.1 z hz; omega
      · exact h3
    · intro hz
      rcases List.mem_cons.1 ((h z).2 (List.mem_cons_of_mem _ hz)) with h3 | h3
      · have := h2.1 z hz; omega
      · exact h3
theorem ofK_le {pts : List Key} {k : Key} {n : Nat} (h : ofK pts k = (n : Int)) : n < pts.length + 1 := by
  unfold ofK at h
  split at h
  · have := cnt_le' k pts; omega
  · omega
theorem parts_sorted {pts : List Key} {l : List Wr} {R : Array Int} (h1 : Sort.PermIn 0 (outI pts l).length (arrI (outI pts l)) R) (h2 : Sort.SortedIn ltI 0 (outI pts l).length R) : compI R.toList = (partsC pts l).map fun (n : Nat) => (n : Int) := by
  have hsz : R.size = (outI pts l).length := h1.1.trans (arrI_size _)
  have hperm : R.toList.Perm ((outI pts l).map fun (n : Nat) => (n : Int)) := by
    have := h1.2.2
    rw [← hsz, Array.extract_size, hsz] at this
    rw [show (outI pts l).length = (arrI (outI pts l)).size from (arrI_size _).symm, Array.extract_size] at this
    simpa [arrI] using this
  have hsort : R.toList.Pairwise (· ≤ ·) := by
    rw [List.pairwise_iff_getElem]
    intro i j hi hj hij
    have hj' : j < R.size := by simpa using hj
    have hi' : i < R.size := by simpa using hi
    have := h2 i j (Nat.zero_le _) hij (by omega)
    rw [get_bang hj', get_bang hi'] at this
    unfold ltI at this
    have := of_decide_eq_false this
    omega
  obtain ⟨q1, q2⟩ := comp_fold R.toList [] .nil (fun a h => by cases h) hsort
  refine inc_eq q1 ?_ fun x => ?_
  · rw [List.pairwise_map]
    have : ((List.range (pts.length + 1)).filter fun j => decide (partW pts l j ≠ [])).Pairwise (· < ·) := List.Pairwise.filter _ List.pairwise_lt_range
    exact this.imp fun h => by omega
  · unfold compI
    rw [q2, hperm.mem_iff]
    simp only [List.not_mem_nil, false_or, List.mem_map]
    constructor
    · rintro ⟨n, hn, rfl⟩
      refine ⟨n, ?_, rfl⟩
      unfold outI at hn
      rw [List.mem_filterMap] at hn
      obtain ⟨w, hw, h3⟩ := hn
      split at h3
      case isFalse => cases h3
      rename_i h4
      have h5 : ofK pts w.key = (n : Int) := by have := Option.some.inj h3; omega
      unfold partsC
      rw [List.mem_filter, List.mem_range]
      refine ⟨ofK_le h5, decide_eq_true fun e => ?_⟩
      have : w ∈ partW pts l n := List.mem_filter.2 ⟨hw, decide_eq_true h5⟩
      rw [e] at this
      cases this
    · rintro ⟨n, hn, rfl⟩
      refine ⟨n, ?_, rfl⟩
      unfold partsC at hn
      rw [List.mem_filter] at hn
      have h3 := of_decide_eq_true hn.2
      obtain ⟨w, hw⟩ := List.exists_mem_of_ne_nil _ h3
      unfold partW at hw
      rw [List.mem_filter] at hw
      have h5 := of_decide_eq_true hw.2
      unfold outI
      rw [List.mem_filterMap]
      exact ⟨w, hw.1, by rw [if_pos (by omega), h5]; rfl⟩
theorem parts_wk {pts : List Key} {l : List Wr} {R : Array Int} (h1 : Sort.PermIn 0 (outI pts l).length (arrI (outI pts l)) R) (h2 : Sort.SortedIn ltI 0 (outI pts l).length R) : WkL [(if outI pts l = [] then .s .nilS else .list .sh 1 ((compI R.toList).map iA) : AV).sh] [lstI (partsC pts l)] := by
  have h3 := parts_sorted h1 h2
  have e : lstI (partsC pts l) = .list .sh 1 ((compI R.toList).map iA) := by
    rw [h3, List.map_map]
    rfl
  rw [e]
  by_cases ho : outI pts l = []
  · rw [if_pos ho]
    have : R.toList = [] := by
      have := h1.1
      rw [ho] at this
      exact List.eq_nil_of_length_eq_zero (by simpa [arrI] using this)
    rw [this]
    exact .nilS (by omega) .nil
  · rw [if_neg ho]
    exact .same .nil
def NewRS (C : CallW) (f : FuncId) : Prop := ∀ (l : List Key) S H (K : AV → St → Prop), l.length ≤ 9223372036854775807 → K (if okPts l && decide (l.length < 8) then .tup [.ptr (.heap H.length) 0, .bool true] else .tup [.nilP, .bool false]) ⟨S, if okPts l && decide (l.length < 8) then H ++ [tabQ l] else H⟩ → C (.fn f) [lstK l] ⟨S, H⟩ K
set_option maxHeartbeats 16000000 in
theorem RouteSays_spec {C : CallW} (hC : LeC C C) (hW : WkC C) (P : Program) {c : Nat → FuncId} (h0 : AwS C (c 0)) (h1 : LongS C (c 1)) (h2 : NewS C (c 2)) (h3 : NewRS C (c 3)) (h4 : SplitS C (c 4)) (h5 : SplitRS C (c 5)) (h6 : TNodesS C (c 6)) (h7 : WritesEqS C (c 7)) (h8 : TOfS C (c 8)) (h9 : OfRS C (c 9)) (h10 : PartsS C (c 10)) (h11 : PartsRS C (c 11)) (h12 : SameS C (c 12)) (h13 : CoverS C (c 13)) (h14 : CoverRS C (c 14)) :
    ∀ (pts : List Key) (k : Key) (l : List Wr) (a0 b : Key) S H (K : AV → St → Prop), pts.length ≤ 9223372036854775807 → l.length ≤ 9223372036854775807 → (∀ H', K (.bool true) ⟨S, H'⟩) → runL C P (C_hourglasslaw17_RouteSays c) [lstK pts, .agg (bs k.b), lstW l, .agg (bs a0.b), .agg (bs b.b)] ⟨S, H⟩ K := by
  intro pts k l a0 b S H K hl hl2 hK
  simp only [lstK, lstW, C_hourglasslaw17_RouteSays, A_, simprocAttr, ne_eq, (U_hourglasslaw17_RouteSays _).1]
  refine h0 _ _ _ fun o => ?_
  by_cases h12' : 12 < pts.length
  · have hlt : (12 : Int) < (pts.length : Int) := by omega
    simp only [C_hourglasslaw17_RouteSays, A_, simprocAttr, ne_eq, (U_hourglasslaw17_RouteSays _).1, hlt]
    exact hK _
  have hlt : ¬ ((12 : Int) < (pts.length : Int)) := by omega
  simp only [C_hourglasslaw17_RouteSays, A_, simprocAttr, ne_eq, (U_hourglasslaw17_RouteSays _).1, hlt]
  refine h1 l _ _ _ hl2 ?_
  cases hlong : longW l with
  | true =>
    simp only [C_hourglasslaw17_RouteSays, A_, simprocAttr, ne_eq, (U_hourglasslaw17_RouteSays _).1]
    exact hK _
  | false =>
  have h20 : l.length ≤ 20 := by
    unfold longW at hlong
    simp only [Bool.or_eq_false_iff, decide_eq_false_iff_not] at hlong
    omega
  simp only [C_hourglasslaw17_RouteSays, A_, simprocAttr, ne_eq, (U_hourglasslaw17_RouteSays _).1]
  refine h2 pts _ _ _ hl ?_
  unfold newA newH
  by_cases hok : okPts pts = true ∧ pts.length < 8
  case neg =>
    have hb : (okPts pts && decide (pts.length < 8)) = false := by
      cases hq : okPts pts with
      | false => rfl
      | true => rw [Bool.true_and]; exact decide_eq_false fun h => hok ⟨hq, h⟩
    rw [hb]
    simp only [C_hourglasslaw17_RouteSays, A_, simprocAttr, ne_eq, (U_hourglasslaw17_RouteSays _).1]
    refine h3 pts _ _ _ hl ?_
    rw [hb]
    have hre : refEq 0 (.s .nilP) (.s .nilP) = some true := rfl
    simp only [C_hourglasslaw17_RouteSays, A_, simprocAttr, ne_eq, (U_hourglasslaw17_RouteSays _).1, hre]
    exact hK _
  obtain ⟨hok, h8'⟩ := hok
  have hb : (okPts pts && decide (pts.length < 8)) = true := by rw [hok]; exact decide_eq_true h8'
  rw [hb]
  simp only [C_hourglasslaw17_RouteSays, A_, simprocAttr, ne_eq, (U_hourglasslaw17_RouteSays _).1]
  refine h3 pts _ _ _ hl ?_
  rw [hb]
  simp only [C_hourglasslaw17_RouteSays, A_, simprocAttr, ne_eq, (U_hourglasslaw17_RouteSays _).1]
  have hh : (H ++ [o, tabA pts, tabQ pts])[H.length + 1]? = some (tabA pts) := by rw [app_get]; rfl
  refine h4 pts l _ _ _ _ hh (by omega) (by omega) ?_
  rw [List.append_assoc, List.cons_append, List.cons_append, List.singleton_append, show (H ++ [o, tabA pts, tabQ pts]).length = H.length + 3 by simp]
  simp only [C_hourglasslaw17_RouteSays, A_, simprocAttr, ne_eq, (U_hourglasslaw17_RouteSays _).1]
  have hh2 : (H ++ [o, tabA pts, tabQ pts, .cells (splitC pts l)])[H.length + 2]? = some (tabQ pts) := by rw [app_get]; rfl
  refine h5 pts l _ _ _ _ hok hh2 (by omega) (by omega) ?_
  rw [List.append_assoc, List.cons_append, List.cons_append, List.cons_append, List.singleton_append, show (H ++ [o, tabA pts, tabQ pts, .cells (splitC pts l)]).length = H.length + 4 by simp]
  have hhA : (H ++ [o, tabA pts, tabQ pts, .cells (splitC pts l), .cells (splitC pts l)])[H.length + 1]? = some (tabA pts) := by rw [app_get]; rfl
  have hhQ : (H ++ [o, tabA pts, tabQ pts, .cells (splitC pts l), .cells (splitC pts l)])[H.length + 2]? = some (tabQ pts) := by rw [app_get]; rfl
  have hwp : IntKind.i64.wrap ((pts.length : Int) + 1) = ((pts.length + 1 : Nat) : Int) := by rw [wrap_i64 (by omega) (by omega)]; rfl
  simp only [C_hourglasslaw17_RouteSays, A_, simprocAttr, ne_eq, (U_hourglasslaw17_RouteSays _).1]
  refine h6 pts _ _ _ _ hhA (by omega) ?_
  simp only [C_hourglasslaw17_RouteSays, A_, simprocAttr, ne_eq, (U_hourglasslaw17_RouteSays _).1, hwp]
  refine loop_rule hC (α := Nat) (fun a => pts.length + 1 - a) (fun x => [uu, uu, .list .sh 18 (l.map wA), uu, uu, uu, .ptr (.stk S.length) 0, .undef, .ptr (.stk (S.length + 1)) 0, .ptr (.stk (S.length + 2)) 0, .undef, .ptr (.heap (H.length + 1)) 0, .undef, .ptr (.heap (H.length + 2)) 0, .undef, .row (.heap (H.length + 3)) 0 (pts.length + 1) (pts.length + 1), .row (.heap (H.length + 4)) 0 (pts.length + 1) (pts.length + 1), .s (.int .i64 (x : Nat)), uu, uu, uu, uu, uu, uu, uu, uu, uu, uu, uu, uu, uu, uu, uu, uu, uu, uu, uu, uu, uu, uu, uu, uu, uu, uu, uu, uu, uu, uu, uu, uu, uu, uu, uu, uu, uu, uu, uu, uu, uu, uu, uu, uu, uu, uu, uu, uu, uu, uu, uu, uu, uu, uu, uu, uu, uu, uu, uu, uu, uu, uu, uu, uu, uu, uu, uu, uu, uu, uu, uu, uu, uu, uu, uu, uu, uu, uu, uu, uu, uu, uu, uu, uu, uu, uu, uu, uu, uu, uu, uu, uu, uu, uu, uu, uu, uu, uu, uu]) (fun a => S ++ [bs k.b, bs a0.b, bs b.b]) (fun a => H ++ [o, tabA pts, tabQ pts, .cells (splitC pts l), .cells (splitC pts l)]) (fun i => i ≤ pts.length + 1) 0 (by omega) (by simp [keep, zm]) (by rw [app_take_add]; rfl) rfl (fun i hi => by simp [AV.under, AV.under.go]) ?_
  intro i hi ih
  by_cases h16 : i < pts.length + 1
  · have hlt : ((i : Int) < ((pts.length + 1 : Nat) : Int)) := by omega
    have hw := wrap_succ (i := i) (by omega)
    have hg := splitC_get (pts := pts) (l := l) h16
    have hpl : (partW pts l i).length ≤ 20 := by
      have h1 := List.length_filter_le (fun w : Wr => decide (ofK pts w.key = (i : Int))) l
      unfold partW; omega
    by_cases hp2 : partW pts l i = []
    · rw [hp2, slO_nil] at hg
      simp only [C_hourglasslaw17_RouteSays, A_, simprocAttr, ne_eq, (U_hourglasslaw17_RouteSays _).1, WR_, K4_, hlt, h16, hg, hw, Nat.mul_one]
      refine hW _ _ [lstW [], lstW []] _ _ (.nilS (by omega) (.nilS (by omega) .nil)) (h7 [] [] _ _ _ (by simp) (by simp) ?_)
      simp only [C_hourglasslaw17_RouteSays, A_, simprocAttr, ne_eq, (U_hourglasslaw17_RouteSays _).1, hw]
      exact ih (i + 1) _ _ _ (by omega) (by omega) (by simp [keep, zm]) (by rw [app_take_add]; rfl) rfl
    · rw [slO_own hp2] at hg
      simp only [C_hourglasslaw17_RouteSays, A_, simprocAttr, ne_eq, (U_hourglasslaw17_RouteSays _).1, WR_, K4_, hlt, h16, hg, hw, Nat.mul_one]
      refine h7 (partW pts l i) (partW pts l i) _ _ _ (by omega) (by omega) ?_
      rw [decide_eq_true rfl]
      simp only [C_hourglasslaw17_RouteSays, A_, simprocAttr, ne_eq, (U_hourglasslaw17_RouteSays _).1, hw]
      exact ih (i + 1) _ _ _ (by omega) (by omega) (by simp [keep, zm]) (by rw [app_take_add]; rfl) rfl
  · have hlt : ¬ ((i : Int) < ((pts.length + 1 : Nat) : Int)) := by omega
    have hcl := coverK_len (l := pts) (a := a0) (b := b) (by omega)
    have hpc : (partsC pts l).length ≤ pts.length + 1 := partsN_len (n := pts.length + 1)
    simp only [C_hourglasslaw17_RouteSays, A_, simprocAttr, ne_eq, (U_hourglasslaw17_RouteSays _).1, hlt]
    refine h8 pts k _ _ _ _ hhA (by omega) ?_
    simp only [C_hourglasslaw17_RouteSays, A_, simprocAttr, ne_eq, (U_hourglasslaw17_RouteSays _).1, CHK_, Nat.reduceBEq, hlt]
    refine h9 pts k _ _ _ _ hok hhQ (by omega) ?_
    simp only [C_hourglasslaw17_RouteSays, A_, simprocAttr, ne_eq, (U_hourglasslaw17_RouteSays _).1, CHK_, Nat.reduceBEq, hlt]
    refine h10 pts l _ _ _ _ hok hhA (by omega) (by omega) ?_
    simp only [C_hourglasslaw17_RouteSays, A_, simprocAttr, ne_eq, (U_hourglasslaw17_RouteSays _).1, CHK_, Nat.reduceBEq, hlt]
    refine h11 pts l _ _ _ _ hok hhQ (by omega) (by omega) fun o2 => ?_
    simp only [C_hourglasslaw17_RouteSays, A_, simprocAttr, ne_eq, (U_hourglasslaw17_RouteSays _).1, CHK_, Nat.reduceBEq, hlt]
    refine h12 _ _ _ _ _ (by omega) (by omega) ?_
    rw [decide_eq_true rfl]
    have hhA2 : (H ++ [o, tabA pts, tabQ pts, .cells (splitC pts l), .cells (splitC pts l), o2])[H.length + 1]? = some (tabA pts) := by rw [app_get]; rfl
    have hhQ2 : (H ++ [o, tabA pts, tabQ pts, .cells (splitC pts l), .cells (splitC pts l), o2])[H.length + 2]? = some (tabQ pts) := by rw [app_get]; rfl
    simp only [C_hourglasslaw17_RouteSays, A_, simprocAttr, ne_eq, (U_hourglasslaw17_RouteSays _).1, CHK_, Nat.reduceBEq, hlt]
    refine h13 pts a0 b _ _ _ _ hhA2 (by omega) ?_
    simp only [C_hourglasslaw17_RouteSays, A_, simprocAttr, ne_eq, (U_hourglasslaw17_RouteSays _).1, CHK_, Nat.reduceBEq, hlt]
    refine h14 pts a0 b _ _ _ _ hhQ2 (by omega) ?_
    simp only [C_hourglasslaw17_RouteSays, A_, simprocAttr, ne_eq, (U_hourglasslaw17_RouteSays _).1, CHK_, Nat.reduceBEq, hlt]
    refine h12 _ _ _ _ _ (by omega) (by omega) ?_
    rw [decide_eq_true rfl]
    simp only [C_hourglasslaw17_RouteSays, A_, simprocAttr, ne_eq, (U_hourglasslaw17_RouteSays _).1, CHK_, Nat.reduceBEq, hlt]
    exact hK _
end Go.AM
namespace Go.AM
open Go
section
variable {H : Type} {enc : TypeId × Value → H} {P : Program} {w : World} {sp : Nat → Bool} {held : Bool}
theorem of_each {α β : Type} {f : β → α} : ∀ (l : List α), (∀ x ∈ l, ∃ b, x = f b) → ∃ bs : List β, l = bs.map f
  | [], _ => ⟨[], rfl⟩
  | x :: l, h => by
    obtain ⟨b, rfl⟩ := h x List.mem_cons_self
    obtain ⟨bs, rfl⟩ := of_each l fun y hy => h y (List.mem_cons_of_mem _ hy)
    exact ⟨b :: bs, rfl⟩
theorem trodAll_stays {W W' : World} (hl : laidOutB P = true) (hb : RowKit.Below W.heap.size W W') : ∀ {ts : List TypeId} {vs : List Value} {ds : List (DataW H)} {ps : List MemPlace}, (∀ t ∈ ts, P.readableRec t = true ∧ t < P.types.size) →
    DataW.TrodAll enc P W 0 (fun _ => true) true ts vs ds ps → DataW.TrodAll enc P W' 0 (fun b => decide (b < W.heap.size)) true ts vs ds ps
  | [], [], [], _, _, h => h
  | t :: ts, v :: vs, d :: ds, ps, ht, ⟨p, q, h1, h2, e⟩ => by
    obtain ⟨n, hn⟩ := h1
    exact ⟨p, q, RowKit.Below.trod hl (ht t List.mem_cons_self).1 (ht t List.mem_cons_self).2 ⟨n, hn⟩ hb (DataW.trod_lt n _ _ _ hn), trodAll_stays hl hb (fun t h => ht t (List.mem_cons_of_mem _ h)) h2, e⟩
  | [], [], _ :: _, _, _, h => h.elim
  | [], _ :: _, _, _, _, h => h.elim
  | _ :: _, [], _, _, _, h => h.elim
  | _ :: _, _ :: _, [], _, _, h => h.elim
end
end Go.AM
namespace Go.AM
open Go
section
variable {H : Type} {enc : TypeId × Value → H} {P : Program} {w : World} {sp : Nat → Bool} {held : Bool}
def contig (P : Program) : List Field → Nat → Nat → Bool
  | [], o, tot => o == tot
  | f :: l, o, tot => f.offset == o && contig P l (o + P.cellsOf f.type) tot
def plainT (P : Program) : Nat → TypeId → Bool
  | 0, _ => false
  | d + 1, t => match P.underlying t with
    | some .bool | some (.int _) | some .string => true
    | some (.slice e) => decide (0 < P.cellsOf e) && (isAgg P e || P.cellsOf e == 1) && plainT P d e
    | some (.struct fs) => contig P fs.toList 0 (P.cellsOf t) && fs.toList.all fun f => plainT P d f.type
    | some (.array m e) => P.cellsOf t == m * P.cellsOf e && plainT P d e
    | _ => false
def shp (P : Program) : Nat → TypeId → List AV → Prop
  | 0, _, _ => False
  | d + 1, t, as => match P.underlying t with
    | some .bool => ∃ b, as = [.s (.bool b)]
    | some (.int k) => ∃ i, as = [.s (.int k i)] ∧ (Lit.int k i).wf = true
    | some .string => ∃ l, as = [.s (.str l)] ∧ l.length ≤ maxLen
    | some (.slice e) => ∃ es : List AV, as = [.list .sh (P.cellsOf e) es] ∧ es.length ≤ maxLen ∧ ∀ x ∈ es, shp P d e x.cells ∧ (isAgg P e = true → x = .agg x.cells) ∧ (isAgg P e = false → x.cells = [x])
    | some (.struct fs) => fs.toList.foldr (fun f (Q : List AV → Prop) as => ∃ a b, as = a ++ b ∧ shp P d f.type a ∧ Q b) (fun as => as = []) as
    | some (.array m e) => ∃ ps : List (List AV), ps.length = m ∧ as = ps.flatten ∧ ∀ p ∈ ps, shp P d e p
    | _ => False
structure Tells (w : World) (as : List AV) (cs : List Value) : Prop where
  vl : VL G.none w as cs
  cell : ∀ c ∈ as, c.isCell = true
  low : AV.under.go 0 as = true
theorem Tells.nil : Tells w [] [] := ⟨.nil, (fun _ h => by cases h), rfl⟩
theorem Tells.app {a b : List AV} {c d : List Value} (h : Tells w a c) (h' : Tells w b d) : Tells w (a ++ b) (c ++ d) :=
  ⟨h.vl.app h'.vl, fun x hx => (List.mem_append.1 hx).elim (h.cell x) (h'.cell x), by rw [under_app', h.low, h'.low]; rfl⟩
theorem Tells.flat : ∀ {ps : List (List AV)} {qs : List (List Value)}, ps.length = qs.length → (∀ (i : Nat) (p : List AV) (q : List Value), ps[i]? = some p → qs[i]? = some q → Tells w p q) → Tells w ps.flatten qs.flatten
  | [], [], _, _ => .nil
  | [], _ :: _, h, _ => by simp at h
  | _ :: _, [], h, _ => by simp at h
  | p :: ps, q :: qs, h, hall => by
    rw [List.flatten_cons, List.flatten_cons]
    exact (hall 0 p q rfl rfl).app (Tells.flat (by simpa using h) fun i a b ha hb => hall (i + 1) a b (by simpa using ha) (by simpa using hb))
theorem Tells.sc (x : Sc) : Tells w [.s x] [x.toV] := ⟨.sc x .nil, fun c hc => by rw [List.mem_singleton.1 hc]; rfl, rfl⟩
theorem lies_flat {b c : Nat} : ∀ (qs : List (List Value)) (off : Nat), (∀ i q, qs[i]? = some q → w.cells? 0 ⟨b, off + i * c, none⟩ c = some q) → ∀ j v, qs.flatten[j]? = some v → w.cell? ⟨b, off + j, none⟩ = some v
  | [], off, _, j, v, h => by simp at h
  | q :: qs, off, hall, j, v, h => by
    have hk := hall 0 q rfl
    rw [Nat.zero_mul, Nat.add_zero] at hk
    have hs := World.cells?_some hk
    rw [List.flatten_cons] at h
    by_cases hj : j < c
    · rw [List.getElem?_append_left (by omega)] at h
      have := hs.2.2 j hj
      rw [Addr.add_lit] at this
      rw [this]; exact h
    · rw [List.getElem?_append_right (by omega), hs.2.1] at h
      have := lies_flat qs (off + c) (fun i q hi => by
        have := hall (i + 1) q (by simpa using hi)
        rw [show off + c + i * c = off + (i + 1) * c by rw [Nat.add_mul]; omega]
        exact this) (j - c) v h
      rwa [show off + c + (j - c) = off + j by omega] at this
theorem choose_list {β : Type} {n : Nat} {p : Nat → β → Prop} (h : ∀ i, i < n → ∃ b, p i b) : ∃ l : List β, l.length = n ∧ ∀ i b, l[i]? = some b → p i b := by
  induction n with
  | zero => exact ⟨[], rfl, fun i b h => by simp at h⟩
  | succ n ih =>
    obtain ⟨l, hl, hall⟩ := ih fun i hi => h i (by omega)
    obtain ⟨b, hb⟩ := h n (by omega)
    refine ⟨l ++ [b], by simp [hl], fun i c hc => ?_⟩
    by_cases hi : i < l.length
    · rw [List.getElem?_append_left hi] at hc; exact hall i c hc
    · rw [List.getElem?_append_right (by omega)] at hc
      have : i = n := by
        have := (List.getElem?_eq_some_iff.1 hc).1
        simp at this; omega
      subst this
      rw [hl, Nat.sub_self] at hc
      injection hc with hc; subst hc; exact hb
def elemA (ag : Bool) (as : List AV) : AV := match ag with
  | true => .agg as
  | false => as.getD 0 .undef
theorem elemA_cells {w : World} {ag : Bool} {as : List AV} {cs : List Value} (h : Tells w as cs) (hl : ag = true ∨ as.length = 1) : (elemA ag as).cells = as := by
  cases ag with
  | true => rfl
  | false =>
    obtain ⟨a, rfl⟩ := List.length_eq_one_iff.1 (hl.resolve_left (by simp))
    have hc := h.cell a (by simp)
    show a.cells = [a]
    cases a <;> simp [AV.isCell] at hc <;> rfl
theorem elemA_low {w : World} {ag : Bool} {as : List AV} {cs : List Value} (h : Tells w as cs) (hl : ag = true ∨ as.length = 1) : AV.under 0 (elemA ag as) = true := by
  cases ag with
  | true => exact h.low
  | false =>
    obtain ⟨a, rfl⟩ := List.length_eq_one_iff.1 (hl.resolve_left (by simp))
    have := h.low
    simpa [elemA, AV.under.go] using this
theorem trod_struct_shp {d m tot : Nat} {cs : List Value} (ih : ∀ t, plainT P d t = true → ∀ N cs x, DataW.trod enc P w 0 sp held N t cs = some x → ∃ as, shp P d t as ∧ Tells w as cs) (htot : cs.length = tot) :
    ∀ (l : List Field) (o : Nat), contig P l o tot = true → (l.all fun f => plainT P d f.type) = true → (∀ f ∈ l, ∃ x, DataW.trod enc P w 0 sp held m f.type ((cs.drop f.offset).take (P.cellsOf f.type)) = some x) →
    ∃ as, l.foldr (fun f (Q : List AV → Prop) as => ∃ a b, as = a ++ b ∧ shp P d f.type a ∧ Q b) (fun as => as = []) as ∧ Tells w as (cs.drop o)
  | [], o, hc, _, _ => by
    have : o = tot := by simpa [contig] using hc
    subst this
    rw [List.drop_of_length_le (by omega)]
    exact ⟨[], rfl, .nil⟩
  | f :: l, o, hc, hp, hall => by
    simp only [contig, Bool.and_eq_true, beq_iff_eq] at hc
    simp only [List.all_cons, Bool.and_eq_true] at hp
    obtain ⟨x, hx⟩ := hall f List.mem_cons_self
    obtain ⟨a, ha, hta⟩ := ih _ hp.1 _ _ _ hx
    obtain ⟨b, hb, htb⟩ := trod_struct_shp ih htot l _ hc.2 hp.2 fun g hg => hall g (List.mem_cons_of_mem _ hg)
    refine ⟨a ++ b, ⟨a, b, rfl, ha, hb⟩, ?_⟩
    rw [hc.1] at hta
    have : cs.drop o = (cs.drop o).take (P.cellsOf f.type) ++ cs.drop (o + P.cellsOf f.type) := by
      rw [← List.drop_drop, List.take_append_drop]
    rw [this]
    exact hta.app htb
theorem flat_parts {c : Nat} : ∀ (m : Nat) (cs : List Value), cs.length = m * c → ((List.range m).map fun i => (cs.drop (i * c)).take c).flatten = cs
  | 0, cs, h => by simp at h; subst h; rfl
  | m + 1, cs, h => by
    rw [List.range_succ_eq_map, List.map_cons, List.map_map, List.flatten_cons, Nat.zero_mul, List.drop_zero]
    have := flat_parts (c := c) m (cs.drop c) (by rw [List.length_drop, h, Nat.add_mul]; omega)
    have e : ((fun i => (cs.drop (i * c)).take c) ∘ Nat.succ) = fun i => ((cs.drop c).drop (i * c)).take c := by
      funext i
      simp only [Function.comp, List.drop_drop, Nat.succ_eq_add_one, Nat.add_mul, Nat.one_mul]
      rw [Nat.add_comm c]
    rw [e, this, List.take_append_drop]
theorem trod_shp : ∀ (d : Nat) (t : TypeId), plainT P d t = true → ∀ (N : Nat) (cs : List Value) (x : DataW H × List MemPlace), DataW.trod enc P w 0 sp held N t cs = some x → ∃ as, shp P d t as ∧ Tells w as cs
  | 0, t, h, _, _, _, _ => by simp [plainT] at h
  | d + 1, t, h, N, cs, x, hx => by
    have ih := trod_shp d
    unfold plainT at h
    unfold shp
    cases hu : P.underlying t with
    | none => rw [hu] at h; cases h
    | some D =>
      rw [hu] at h
      cases D with
      | bool =>
        obtain ⟨b, rfl, _⟩ := DataW.trod_bool hu hx
        exact ⟨_, ⟨b, rfl⟩, .sc (.bool b)⟩
      | int k =>
        obtain ⟨n, rfl, _, hw⟩ := DataW.trod_int hu hx
        exact ⟨_, ⟨n, rfl, hw⟩, .sc (.int k n)⟩
      | string =>
        obtain ⟨s, rfl, _, hl⟩ := DataW.trod_string hu hx
        refine ⟨_, ⟨s.data.toList, rfl, by simpa using hl⟩, ?_⟩
        have := Tells.sc (w := w) (.str s.data.toList)
        simpa [Sc.toV] using this
      | slice e =>
        simp only [Bool.and_eq_true, decide_eq_true_eq, Bool.or_eq_true, beq_iff_eq] at h
        obtain ⟨⟨hpos, hag⟩, hpe⟩ := h
        rcases DataW.trod_slice hu hx with ⟨rfl, _⟩ | ⟨a, len, cap, elems, rest, n, _, rfl, _, _, hle, hcap, hlen, hel, _, _⟩
        · exact ⟨_, ⟨[], rfl, Nat.zero_le _, fun _ h => by cases h⟩, ⟨.lnil hpos .nil, fun c hc => by rw [List.mem_singleton.1 hc]; rfl, rfl⟩⟩
        · have each : ∀ i, i < len → ∃ z : List Value × List AV, w.cells? 0 (a.add (i * P.cellsOf e)) (P.cellsOf e) = some z.1 ∧ shp P d e z.2 ∧ Tells w z.2 z.1 := fun i hi => by
            have h1 := hel i hi
            rw [List.getElem?_eq_getElem (by omega)] at h1
            obtain ⟨q, hq, hq2⟩ := Option.bind_eq_some_iff.1 h1
            obtain ⟨as, h2, h3⟩ := ih e hpe _ _ _ hq2
            exact ⟨(q, as), hq, h2, h3⟩
          obtain ⟨l, hl, hall⟩ := choose_list each
          have hin : ∀ z ∈ l, (∃ i, w.cells? 0 (a.add (i * P.cellsOf e)) (P.cellsOf e) = some z.1) ∧ shp P d e z.2 ∧ Tells w z.2 z.1 := fun z hz => by
            obtain ⟨i, hi⟩ := List.getElem?_of_mem hz
            exact ⟨⟨i, (hall i z hi).1⟩, (hall i z hi).2⟩
          have hone : ∀ z ∈ l, z.2.length = P.cellsOf e := fun z hz => by
            obtain ⟨⟨i, h1⟩, _, h2⟩ := hin z hz
            rw [← h2.vl.length]; exact (World.cells?_some h1).2.1
          have hag' : ∀ z ∈ l, isAgg P e = true ∨ z.2.length = 1 := fun z hz => hag.imp id fun h => by rw [hone z hz, h]
          let es : List AV := l.map fun z => elemA (isAgg P e) z.2
          have hcells : es.flatMap AV.cells = (l.map (·.2)).flatten := by
            have : ∀ (l' : List (List Value × List AV)), (∀ z ∈ l', z ∈ l) → (l'.map fun z => elemA (isAgg P e) z.2).flatMap AV.cells = (l'.map (·.2)).flatten := by
              intro l'
              induction l' with
              | nil => intro _; rfl
              | cons z l' ihl =>
                intro hs
                rw [List.map_cons, List.flatMap_cons, List.map_cons, List.flatten_cons, ihl fun y hy => hs y (List.mem_cons_of_mem _ hy)]
                have hz := hs z List.mem_cons_self
                rw [elemA_cells (hin z hz).2.2 (hag' z hz)]
            exact this l fun _ h => h
          have hspot : es = [] ∨ a.spot = none := by
            by_cases h0 : len = 0
            · left; apply List.length_eq_zero_iff.1; simp [es, hl, h0]
            · right
              obtain ⟨z, hz, _⟩ := each 0 (by omega)
              have h1 := (World.cells?_some hz).2.2 0 hpos
              have h2 : (a.add (0 * P.cellsOf e)).add 0 = a := by simp [Addr.add]
              rw [h2, List.getElem?_eq_getElem (by rw [(World.cells?_some hz).2.1]; exact hpos)] at h1
              unfold World.cell? at h1
              split at h1
              · split at h1
                · cases h1
                · rename_i h3; simpa using h3
              · cases h1
          have htell : Tells w (l.map (·.2)).flatten (l.map (·.1)).flatten := Tells.flat (by simp) fun i p q hp hq => by
            rw [List.getElem?_map] at hp hq
            cases hz : l[i]? with
            | none => rw [hz] at hp; cases hp
            | some z =>
              rw [hz] at hp hq
              injection hp with hp; injection hq with hq; subst hp; subst hq
              exact (hall i z hz).2.2
          refine ⟨_, ⟨es, rfl, by simp [es, hl]; omega, fun y hy => ?_⟩, ⟨?_, fun c hc => by rw [List.mem_singleton.1 hc]; rfl, rfl⟩⟩
          · obtain ⟨z, hz, rfl⟩ := List.mem_map.1 hy
            rw [elemA_cells (hin z hz).2.2 (hag' z hz)]
            refine ⟨(hin z hz).2.1, fun h => by rw [h]; rfl, fun h => ?_⟩
            obtain ⟨a, ha⟩ := List.length_eq_one_iff.1 ((hag' z hz).resolve_left (by rw [h]; simp))
            rw [ha, h]; rfl
          · refine .list (xs := (l.map (·.1)).flatten) (.inl rfl) (by simp [es, hl]) hle hpos hspot (fun y hy => ?_) ?_ (by rw [hcells]; exact htell.vl) (fun i v hv => ⟨?_, fun h => (show False from h)⟩) .nil
            · obtain ⟨z, hz, rfl⟩ := List.mem_map.1 hy
              rw [elemA_cells (hin z hz).2.2 (hag' z hz)]
              exact ⟨hone z hz, (hin z hz).2.2.cell⟩
            · refine under_mem.2 fun y hy => ?_
              obtain ⟨z, hz, rfl⟩ := List.mem_map.1 hy
              exact elemA_low (hin z hz).2.2 (hag' z hz)
            · rcases hspot with h0 | h0
              · have : l = [] := by simpa [es] using h0
                rw [this] at hv; simp at hv
              · obtain ⟨ab, ao, as⟩ := a
                dsimp only at h0; subst h0
                refine lies_flat (c := P.cellsOf e) _ ao (fun j q hq => ?_) i v hv
                rw [List.getElem?_map] at hq
                cases hz : l[j]? with
                | none => rw [hz] at hq; cases hq
                | some z =>
                  rw [hz] at hq
                  injection hq with hq; subst hq
                  have := (hall j z hz).1
                  rwa [Addr.add_lit] at this
      | struct fs =>
        simp only [Bool.and_eq_true] at h
        obtain ⟨xs, n, _, _, hl, hxl, hf⟩ := DataW.trod_struct hu hx
        obtain ⟨as, h1, h2⟩ := trod_struct_shp (m := n) ih hl fs.toList 0 h.1 h.2 fun f hm => by
          obtain ⟨i, hi⟩ := List.getElem?_of_mem hm
          have hi' : fs[i]? = some f := by simpa using hi
          have := hf i f hi'
          have hlt := (Array.getElem?_eq_some_iff.1 hi').1
          rw [List.getElem?_eq_getElem (by omega)] at this
          exact ⟨_, this⟩
        exact ⟨as, h1, by simpa using h2⟩
      | array m e =>
        simp only [Bool.and_eq_true, beq_iff_eq] at h
        obtain ⟨xs, n, _, _, hl, hxl, hf⟩ := DataW.trod_array hu hx
        obtain ⟨ps, hpl, hall⟩ := choose_list (n := m) (p := fun i as => shp P d e as ∧ Tells w as ((cs.drop (i * P.cellsOf e)).take (P.cellsOf e))) fun i hi => by
          have := hf i hi
          rw [List.getElem?_eq_getElem (by omega)] at this
          exact ih e h.2 _ _ _ this
        refine ⟨ps.flatten, ⟨ps, hpl, rfl, fun p hp => ?_⟩, ?_⟩
        · obtain ⟨i, hi⟩ := List.getElem?_of_mem hp
          exact (hall i p hi).1
        · rw [← flat_parts (c := P.cellsOf e) m cs (by rw [hl, h.1])]
          refine Tells.flat (by simp [hpl]) fun i p q hp hq => ?_
          have hlt : i < m := by have := (List.getElem?_eq_some_iff.1 hp).1; omega
          have : q = (cs.drop (i * P.cellsOf e)).take (P.cellsOf e) := by
            rw [List.getElem?_map, List.getElem?_range hlt] at hq
            injection hq with hq; exact hq.symm
          subst this
          exact (hall i p hp).2
      | _ => cases h
def argA (ag : Bool) (as : List AV) : AV := elemA ag as
theorem trod_arg {d : Nat} {t : TypeId} {v : Value} {D : DataW H} {ps : List MemPlace} (hp : plainT P d t = true) (hok : Value.okWide P w .any 0 t v) (h : DataW.Trod enc P w 0 sp held t v D ps) :
    ∃ as, shp P d t as ∧ V G.none w (argA (isAgg P t) as) v := by
  obtain ⟨n, hn⟩ := h
  obtain ⟨as, h1, h2⟩ := trod_shp d t hp n _ _ hn
  refine ⟨as, h1, ?_⟩
  cases hu : P.underlying t with
  | none =>
    cases d with
    | zero => simp [plainT] at hp
    | succ d => rw [plainT, hu] at hp; cases hp
  | some D =>
    have scalar : isAgg P t = false → (∀ xs, v ≠ .agg xs) → V G.none w (argA (isAgg P t) as) v := fun hf hv => by
      rw [hf]
      have e : v.cells.toList = [v] := by
        cases v <;> first | rfl | exact (hv _ rfl).elim
      rw [e] at h2
      obtain ⟨a, as', rfl, h3, h4⟩ : ∃ a as', as = a :: as' ∧ V G.none w a v ∧ VL G.none w as' [] := by
        cases as with
        | nil => have := h2.vl.length; simp at this
        | cons a as' =>
          obtain ⟨v', vs', hh, h3, h4⟩ := h2.vl.cons_left
          injection hh with hh1 hh2; subst hh1; subst hh2
          exact ⟨a, as', rfl, h3, h4⟩
      exact h3
    cases D with
    | struct fs =>
      simp only [Value.okWide, hu] at hok
      obtain ⟨cs, rfl, _, _⟩ := hok
      rw [show isAgg P t = true by simp [isAgg, hu]]
      exact .agg h2.cell (by simpa [Value.cells] using h2.vl) .nil
    | array m e =>
      simp only [Value.okWide, hu] at hok
      obtain ⟨cs, rfl, _, _⟩ := hok
      rw [show isAgg P t = true by simp [isAgg, hu]]
      exact .agg h2.cell (by simpa [Value.cells] using h2.vl) .nil
    | _ =>
      refine scalar (by simp [isAgg, hu]) fun xs hv => ?_
      subst hv
      simp [Value.okWide, Cell.okWide, Cell.ok, hu] at hok
end
end Go.AM
namespace Go.AM
open Go
section
variable {P : Program}
def parts (P : Program) (d : Nat) : List TypeId → List AV → Prop
  | [], as => as = []
  | u :: ts, as => ∃ a b, as = a ++ b ∧ shp P d u a ∧ parts P d ts b
theorem parts_of {d : Nat} : ∀ {fs : List Field} {as : List AV}, fs.foldr (fun f (Q : List AV → Prop) as => ∃ a b, as = a ++ b ∧ shp P d f.type a ∧ Q b) (fun as => as = []) as → parts P d (fs.map (·.type)) as
  | [], _, h => h
  | f :: fs, as, h => by
    obtain ⟨a, b, h1, h2, h3⟩ := h
    exact ⟨a, b, h1, h2, parts_of h3⟩
theorem shp_struct {d : Nat} {t : TypeId} {fs : Array Field} {ts : List TypeId} {as : List AV} (ht : P.underlying t = some (.struct fs)) (hts : fs.toList.map (·.type) = ts) (h : shp P (d + 1) t as) : parts P d ts as := by
  unfold shp at h
  rw [ht] at h
  subst hts
  exact parts_of h
theorem shp_int {d : Nat} {t : TypeId} {k : IntKind} {as : List AV} (ht : P.underlying t = some (.int k)) (h : shp P (d + 1) t as) : ∃ i, as = [.s (.int k i)] ∧ (Lit.int k i).wf = true := by
  unfold shp at h; rw [ht] at h; exact h
theorem shp_bool {d : Nat} {t : TypeId} {as : List AV} (ht : P.underlying t = some .bool) (h : shp P (d + 1) t as) : ∃ b, as = [.s (.bool b)] := by
  unfold shp at h; rw [ht] at h; exact h
theorem shp_str {d : Nat} {t : TypeId} {as : List AV} (ht : P.underlying t = some .string) (h : shp P (d + 1) t as) : ∃ l, as = [.s (.str l)] ∧ l.length ≤ maxLen := by
  unfold shp at h; rw [ht] at h; exact h
theorem shp_u8 {d : Nat} {t : TypeId} {as : List AV} (ht : P.underlying t = some (.int .u8)) (h : shp P (d + 1) t as) : ∃ b : UInt8, as = [u8 b] := by
  obtain ⟨i, rfl, hw⟩ := shp_int ht h
  have := bounds_u8 hw
  refine ⟨UInt8.ofNat i.toNat, ?_⟩
  have : ((UInt8.ofNat i.toNat).toNat : Int) = i := by rw [UInt8.toNat_ofNat']; omega
  show _ = [AV.s (.int .u8 _)]
  rw [this]
theorem shp_key {d : Nat} {t u : TypeId} {as : List AV} (ht : P.underlying t = some (.array 16 u)) (hu : P.underlying u = some (.int .u8)) (h : shp P (d + 2) t as) : ∃ k : Key, as = bs k.b := by
  unfold shp at h; rw [ht] at h
  obtain ⟨ps, hl, rfl, hall⟩ := h
  obtain ⟨l, rfl⟩ := of_each (f := fun b => [u8 b]) ps fun p hp => shp_u8 hu (hall p hp)
  refine ⟨⟨l, by simpa using hl⟩, ?_⟩
  show _ = l.map u8
  clear hl hall
  induction l with
  | nil => rfl
  | cons b l ih => simp only [List.map_cons, List.flatten_cons, ih]; rfl
theorem shp_wr {d : Nat} {t tk u ts tb : TypeId} {fs : Array Field} {as : List AV} (ht : P.underlying t = some (.struct fs)) (hf : fs.toList.map (·.type) = [tk, ts, tb]) (hk : P.underlying tk = some (.array 16 u)) (hu : P.underlying u = some (.int .u8)) (hs : P.underlying ts = some .string) (hb : P.underlying tb = some .bool)
    (h : shp P (d + 3) t as) : ∃ w : Wr, as = wc w := by
  obtain ⟨a, r, rfl, h1, a2, r2, rfl, h2, a3, r3, rfl, h3, rfl⟩ := shp_struct ht hf h
  obtain ⟨k, rfl⟩ := shp_key hk hu h1
  obtain ⟨l, rfl, _⟩ := shp_str hs h2
  obtain ⟨b, rfl⟩ := shp_bool hb h3
  exact ⟨⟨k, l, b⟩, rfl⟩
end
end Go.AM
namespace Go.AM
open Go
section
variable {P : Program}
end
end Go.AM
namespace Go.AM
open Go
variable {P : Program}
theorem wT {α : Type} {p : α → Prop} (h : ∃ x, p x) : ∃ x, p x ∧ True := h.imp fun _ e => ⟨e, trivial⟩
theorem of_eachQ {α : Type} {f : α → AV} {Q : α → Prop} : ∀ (es : List AV), (∀ x ∈ es, ∃ a, x = f a ∧ Q a) → ∃ l : List α, es = l.map f ∧ ∀ a ∈ l, Q a
  | [], _ => ⟨[], rfl, fun a h => by cases h⟩
  | x :: es, h => by
    obtain ⟨a, rfl, hq⟩ := h x (List.mem_cons_self ..)
    obtain ⟨l, rfl, hl⟩ := of_eachQ es fun y hy => h y (List.mem_cons_of_mem _ hy)
    exact ⟨a :: l, rfl, fun b hb => by rcases List.mem_cons.1 hb with rfl | hb; exact hq; exact hl b hb⟩
theorem shp_sliceQ {d : Nat} {t e : TypeId} {c : Nat} {as : List AV} {α : Type} (f : α → AV) (Q : α → Prop) (ht : P.underlying t = some (.slice e)) (hc : P.cellsOf e = c) (he : ∀ x : AV, shp P d e x.cells → (isAgg P e = true → x = .agg x.cells) → (isAgg P e = false → x.cells = [x]) → ∃ a, x = f a ∧ Q a) (h : shp P (d + 1) t as) :
    ∃ l : List α, as = [.list .sh c (l.map f)] ∧ l.length ≤ 9223372036854775807 ∧ ∀ a ∈ l, Q a := by
  subst hc
  unfold shp at h; rw [ht] at h
  obtain ⟨es, rfl, hl, hall⟩ := h
  obtain ⟨l, rfl, hq⟩ := of_eachQ (f := f) es fun x hx => he x (hall x hx).1 (hall x hx).2.1 (hall x hx).2.2
  refine ⟨l, rfl, ?_, hq⟩
  rw [List.length_map] at hl
  unfold maxLen at hl; omega
end Go.AM
