import Derived.Test.YthbiajoionockaaM11
import Derived.Test.YthbiajoionockaaM10
set_option linter.unusedSimpArgs false
set_option linter.unusedVariables false
namespace Go.AM
open Go
open AV renaming undef → uu
set_option maxRecDepth 20000
theorem SrtS.at {C : CallW} {f : FuncId} {X : Array Int → Nat → Nat → Array Int} (h : SrtS C f X) {N : Nat} (n : Nat) (d : Array Int) (a b : Nat) (S : List (List AV)) (H : List HObj) (K : AV → St → Prop) (hS : S[n]? = some (flat iA d)) (hd : d.size = N) (h1 : a ≤ b) (h2 : b ≤ N) (h3 : N ≤ 2305843009213693952) (hK : K (.tup []) ⟨S.set n (flat iA (X d a b)), H⟩) : C (.fn f) [.row (.stk n) 0 N N, .s (.int .i64 a), .s (.int .i64 b)] ⟨S, H⟩ K := by
  subst hd; exact h n d a b S H K hS h1 h2 (by omega) hK
theorem SrtT.at {C : CallW} {f : FuncId} {X : Array Int → Nat → Nat → Array Int} (h : SrtT C f X) {N : Nat} (n : Nat) (d : Array Int) (a b : Nat) (S : List (List AV)) (H : List HObj) (K : AV → St → Prop) (hS : S[n]? = some (flat iA d)) (hd : d.size = N) (h1 : a < b) (h2 : b ≤ N) (h3 : N ≤ 2305843009213693952) (hK : K (.tup []) ⟨S.set n (flat iA (X d a b)), H⟩) : C (.fn f) [.row (.stk n) 0 N N, .s (.int .i64 a), .s (.int .i64 b)] ⟨S, H⟩ K := by
  subst hd; exact h n d a b S H K hS h1 h2 h3 hK
theorem ChpS.at {C : CallW} {f : FuncId} (h : ChpS C f) {N : Nat} (n : Nat) (d : Array Int) (a b : Nat) (S : List (List AV)) (H : List HObj) (K : AV → St → Prop) (hS : S[n]? = some (flat iA d)) (hd : d.size = N) (h1 : a < b) (h2 : b ≤ N) (h3 : N ≤ 2305843009213693952) (hK : K (.tup [.s (.int .i64 (Sort.choosePivot ltI d a b).1), .s (.int .i64 (hI (Sort.choosePivot ltI d a b).2))]) ⟨S, H⟩) : C (.fn f) [.row (.stk n) 0 N N, .s (.int .i64 a), .s (.int .i64 b)] ⟨S, H⟩ K := by
  subst hd; exact h n d a b S H K hS h1 h2 h3 hK
theorem PinS.at {C : CallW} {f : FuncId} (h : PinS C f) {N : Nat} (n : Nat) (d : Array Int) (a b : Nat) (S : List (List AV)) (H : List HObj) (K : AV → St → Prop) (hS : S[n]? = some (flat iA d)) (hd : d.size = N) (h1 : a < b) (h2 : b ≤ N) (h3 : N ≤ 2305843009213693952) (hK : K (.bool (Sort.partialInsertionSort ltI d a b).2) ⟨S.set n (flat iA (Sort.partialInsertionSort ltI d a b).1), H⟩) : C (.fn f) [.row (.stk n) 0 N N, .s (.int .i64 a), .s (.int .i64 b)] ⟨S, H⟩ K := by
  subst hd; exact h n d a b S H K hS h1 h2 h3 hK
theorem PeqS.at {C : CallW} {f : FuncId} (h : PeqS C f) {N : Nat} (n : Nat) (d : Array Int) (a b p : Nat) (S : List (List AV)) (H : List HObj) (K : AV → St → Prop) (hS : S[n]? = some (flat iA d)) (hd : d.size = N) (h0 : a ≤ p) (h1 : p < b) (h2 : b ≤ N) (h3 : N ≤ 2305843009213693952) (hK : K (.s (.int .i64 (Sort.partitionEqual ltI d a b p).1)) ⟨S.set n (flat iA (Sort.partitionEqual ltI d a b p).2), H⟩) : C (.fn f) [.row (.stk n) 0 N N, .s (.int .i64 a), .s (.int .i64 b), .s (.int .i64 p)] ⟨S, H⟩ K := by
  subst hd; exact h n d a b p S H K hS h0 h1 h2 h3 hK
theorem PartS.at {C : CallW} {f : FuncId} (h : PartS C f) {N : Nat} (n : Nat) (d : Array Int) (a b p : Nat) (S : List (List AV)) (H : List HObj) (K : AV → St → Prop) (hS : S[n]? = some (flat iA d)) (hd : d.size = N) (h0 : a ≤ p) (h1 : p < b) (h2 : b ≤ N) (h3 : N ≤ 2305843009213693952) (hK : K (.tup [.s (.int .i64 (Sort.partition ltI d a b p).1), .s (.bool (Sort.partition ltI d a b p).2.1)]) ⟨S.set n (flat iA (Sort.partition ltI d a b p).2.2), H⟩) : C (.fn f) [.row (.stk n) 0 N N, .s (.int .i64 a), .s (.int .i64 b), .s (.int .i64 p)] ⟨S, H⟩ K := by
  subst hd; exact h n d a b p S H K hS h0 h1 h2 h3 hK
def PdqS (C : CallW) (f : FuncId) (m : Nat) : Prop := ∀ (n : Nat) (d : Array Int) (a b lim : Nat) (S : List (List AV)) (H : List HObj) (K : AV → St → Prop), S[n]? = some (flat iA d) → a ≤ b → b ≤ d.size → d.size ≤ 2305843009213693952 → b - a < m → lim ≤ 2305843009213693952 → Sort.Below ltI a b d → (∀ R, Sort.PermIn a b d R → Sort.SortedIn ltI a b R → K (.tup []) ⟨S.set n (flat iA R), H⟩) → C (.fn f) [.row (.stk n) 0 d.size d.size, .s (.int .i64 a), .s (.int .i64 b), .s (.int .i64 lim)] ⟨S, H⟩ K
theorem PdqS.at {C : CallW} {f : FuncId} {m : Nat} (h : PdqS C f m) {N : Nat} (n : Nat) (d : Array Int) (a b lim : Nat) (S : List (List AV)) (H : List HObj) (K : AV → St → Prop) (hS : S[n]? = some (flat iA d)) (hd : d.size = N) (h1 : a ≤ b) (h2 : b ≤ N) (h3 : N ≤ 2305843009213693952) (h4 : b - a < m) (h5 : lim ≤ 2305843009213693952) (hB : Sort.Below ltI a b d) (hK : ∀ R, Sort.PermIn a b d R → Sort.SortedIn ltI a b R → K (.tup []) ⟨S.set n (flat iA R), H⟩) : C (.fn f) [.row (.stk n) 0 N N, .s (.int .i64 a), .s (.int .i64 b), .s (.int .i64 lim)] ⟨S, H⟩ K := by
  subst hd; exact h n d a b lim S H K hS h1 h2 h3 h4 h5 hB hK
set_option maxHeartbeats 16000000 in
theorem y9s19_run {C : CallW} (hC : LeC C C) (P : Program) {c : Nat → FuncId} {m : Nat} (h6 : LessS C (c 6)) (h7 : PeqS C (c 7)) (h8 : PartS C (c 8)) (h9 : PdqS C (c 9) m) {n N a b L lim piv n0 : Nat} {wb wp : Bool} {e : Array Int} {S : List (List AV)} {H : List HObj} {is : List Item} {K : KC} (hS : S[n]? = some (flat iA e)) (hn0 : n0 = S.length) (hes : e.size = N) (hap : a ≤ piv) (hpb : piv < b) (hb : b ≤ N) (hN : N ≤ 2305843009213693952) (hL : L ≤ N) (hlim : lim ≤ 2305843009213693952) (hm : b - a ≤ m) (hB : Sort.Below ltI a b e)
    (hloop : ∀ (a' b' lim' : Nat) (wb' wp' : Bool) (e' : Array Int) (fr' : Fr) (S' : List (List AV)), keep (zm false [0, 4, 4, 2, 124]) fr' = [.row (.stk n) 0 N N, .s (.int .i64 (a' : Nat)), .s (.int .i64 (b' : Nat)), .s (.int .i64 (lim' : Nat)), uu, uu, uu, uu, .s (.bool wb'), .s (.bool wp'), uu, uu, uu, uu, uu, uu, uu, uu, uu, uu, uu, uu, uu, uu, uu, uu, uu, uu, uu, uu, uu, uu, uu, uu, uu, uu, uu, uu, uu, uu, uu, uu, uu, uu, uu, uu, uu, uu, uu, uu, uu, uu, uu, uu, uu, uu, uu, uu, uu, uu, uu, uu, uu, uu, uu, uu, uu, uu, uu, uu, uu, uu, uu, uu, uu, uu, uu, uu, uu, uu, uu, uu, uu, uu, uu, uu, uu, uu, uu, uu, uu, uu, uu, uu, uu, uu, uu, uu, uu, uu, uu, uu, uu, uu, uu, uu, uu, uu, uu, uu, uu, uu, uu, uu, uu, uu, uu, uu, uu, uu, uu, uu, uu, uu, uu, uu, uu, uu, uu, uu, uu, uu, uu, uu] → S'.take n0 = S.set n (flat iA e') → e'.size = N → b' - a' < b - a → a ≤ a' → b' ≤ b → a' ≤ b' → lim' ≤ 2305843009213693952 → Sort.Below ltI a' b' e' → (∀ R, Sort.PermIn a' b' e' R → Sort.SortedIn ltI a' b' R → Sort.PermIn a b e R ∧ Sort.SortedIn ltI a b R) → runLp C P false (zm false [0, 4, 4, 2, 124]) (y9s26 c) n0 is fr' ⟨S', H⟩ K) :
    ∀ (x4 x5 x6 x7 x12 x13 x14 x15 x16 x17 x18 x19 x20 x21 x22 x23 x24 x25 x26 x27 x28 x29 x30 x31 x32 x33 x34 x35 x36 x37 x38 x39 x40 x41 x42 x43 x44 x45 x46 x47 x48 x49 x50 x51 x52 x53 x54 x55 x56 x57 x58 x59 x60 x61 x62 x63 x64 x65 x66 x67 x68 x69 x70 x71 x72 x73 x74 x75 x76 x77 x78 x79 x80 x81 x82 x83 x84 x85 x86 x87 x88 x89 x90 x91 x92 x93 x94 x95 x96 x97 x98 x99 x100 x101 x102 x103 x104 x105 x106 x107 x108 x109 x110 x111 x112 x113 x114 x115 x116 x117 x118 x119 x120 x121 x122 x123 x124 x125 x126 x127 x128 x129 x130 x131 x132 x133 : AV), runC C P false (y9s19 c) (.blk 1 :: .lp (zm false [0, 4, 4, 2, 124]) (y9s26 c) n0 :: is) [.row (.stk n) 0 N N, .s (.int .i64 (a : Nat)), .s (.int .i64 (b : Nat)), .s (.int .i64 (lim : Nat)), x4, x5, x6, x7, .s (.bool wb), .s (.bool wp), .s (.int .i64 (L : Nat)), .s (.int .i64 (piv : Nat)), x12, x13, x14, x15, x16, x17, x18, x19, x20, x21, x22, x23, x24, x25, x26, x27, x28, x29, x30, x31, x32, x33, x34, x35, x36, x37, x38, x39, x40, x41, x42, x43, x44, x45, x46, x47, x48, x49, x50, x51, x52, x53, x54, x55, x56, x57, x58, x59, x60, x61, x62, x63, x64, x65, x66, x67, x68, x69, x70, x71, x72, x73, x74, x75, x76, x77, x78, x79, x80, x81, x82, x83, x84, x85, x86, x87, x88, x89, x90, x91, x92, x93, x94, x95, x96, x97, x98, x99, x100, x101, x102, x103, x104, x105, x106, x107, x108, x109, x110, x111, x112, x113, x114, x115, x116, x117, x118, x119, x120, x121, x122, x123, x124, x125, x126, x127, x128, x129, x130, x131, x132, x133] ⟨S, H⟩ K := by
  intro x4 x5 x6 x7 x12 x13 x14 x15 x16 x17 x18 x19 x20 x21 x22 x23 x24 x25 x26 x27 x28 x29 x30 x31 x32 x33 x34 x35 x36 x37 x38 x39 x40 x41 x42 x43 x44 x45 x46 x47 x48 x49 x50 x51 x52 x53 x54 x55 x56 x57 x58 x59 x60 x61 x62 x63 x64 x65 x66 x67 x68 x69 x70 x71 x72 x73 x74 x75 x76 x77 x78 x79 x80 x81 x82 x83 x84 x85 x86 x87 x88 x89 x90 x91 x92 x93 x94 x95 x96 x97 x98 x99 x100 x101 x102 x103 x104 x105 x106 x107 x108 x109 x110 x111 x112 x113 x114 x115 x116 x117 x118 x119 x120 x121 x122 x123 x124 x125 x126 x127 x128 x129 x130 x131 x132 x133
  have hn := slt hS
  by_cases ha0 : 0 < a
  · have hlt : ((0 : Int) < (a : Int)) = True := eq_true (by omega)
    have hwa : IntKind.i64.wrap ((a : Int) - 1) = ((a - 1 : Nat) : Int) := by rw [wrap_i64 (by omega) (by omega)]; omega
    have xa : ∀ kk : IntKind, indexAddrL (.sl 1) (.row (.stk n) 0 N N) (.s (.int kk ((a - 1 : Nat) : Int))) = some (.ptr (.stk n) (a - 1)) := fun kk => ixi (by omega)
    have xb : ∀ kk : IntKind, indexAddrL (.sl 1) (.row (.stk n) 0 N N) (.s (.int kk (piv : Int))) = some (.ptr (.stk n) piv) := fun kk => ixi (by omega)
    have ra := ird (H := H) hS (i := a - 1) (by omega)
    have rb := ird (H := H) hS (i := piv) (by omega)
    simp only [unfC (y9s8.eq_1 c), unfC (y9s9.eq_1 c), unfC (y9s10.eq_1 c), unfC (y9s11.eq_1 c), unfC (y9s12.eq_1 c), unfC (y9s13.eq_1 c), unfC (y9s14.eq_1 c), unfC (y9s15.eq_1 c), unfC (y9s16.eq_1 c), unfC (y9s17.eq_1 c), unfC (y9s18.eq_1 c), unfC (y9s19.eq_1 c), A_, simprocAttr, ne_eq, hlt, hwa, xa, xb, ra, rb]
    refine h6 _ _ _ _ _ ?_
    cases hlk : ltI e[a - 1]! e[piv]! with
    | false =>
      simp only [unfC (y9s8.eq_1 c), unfC (y9s9.eq_1 c), unfC (y9s10.eq_1 c), unfC (y9s11.eq_1 c), unfC (y9s12.eq_1 c), unfC (y9s13.eq_1 c), unfC (y9s14.eq_1 c), unfC (y9s15.eq_1 c), unfC (y9s16.eq_1 c), unfC (y9s17.eq_1 c), unfC (y9s18.eq_1 c), unfC (y9s19.eq_1 c), A_, simprocAttr, ne_eq]
      refine h7.at n e a b piv _ _ _ hS hes hap hpb hb hN ?_
      obtain ⟨⟨mid, d4⟩, hx⟩ : ∃ r, Sort.partitionEqual ltI e a b piv = r := ⟨_, rfl⟩
      obtain ⟨g1, g2, hs4, hB4, hfin⟩ := Sort.round_eq Sort.swo_ltInt (Sort.partitionEqual_holds _) ha0 hap hpb (by omega) hB hlk hx
      have hx' : Sort.partitionEqual ltI e a b piv = (mid, d4) := hx
      rw [hx']
      simp only [unfC (y9s8.eq_1 c), unfC (y9s9.eq_1 c), unfC (y9s10.eq_1 c), unfC (y9s11.eq_1 c), unfC (y9s12.eq_1 c), unfC (y9s13.eq_1 c), unfC (y9s14.eq_1 c), unfC (y9s15.eq_1 c), unfC (y9s16.eq_1 c), unfC (y9s17.eq_1 c), unfC (y9s18.eq_1 c), unfC (y9s19.eq_1 c), A_, simprocAttr, ne_eq]
      exact hloop mid b lim wb wp d4 _ _ (by simp [keep, zm]) (by rw [List.take_of_length_le]; simp [hn0]) (hs4.trans hes) (by omega) (by omega) (by omega) (by omega) hlim hB4 hfin
    | true =>
      simp only [unfC (y9s8.eq_1 c), unfC (y9s9.eq_1 c), unfC (y9s10.eq_1 c), unfC (y9s11.eq_1 c), unfC (y9s12.eq_1 c), unfC (y9s13.eq_1 c), unfC (y9s14.eq_1 c), unfC (y9s15.eq_1 c), unfC (y9s16.eq_1 c), unfC (y9s17.eq_1 c), unfC (y9s18.eq_1 c), unfC (y9s19.eq_1 c), A_, simprocAttr, ne_eq]
      refine h8.at n e a b piv _ _ _ hS hes hap hpb hb hN ?_
      obtain ⟨⟨mid, ap, d4⟩, hx⟩ : ∃ r, Sort.partition ltI e a b piv = r := ⟨_, rfl⟩
      obtain ⟨g1, g2, hs4, hBa, hBr, hleft, hright⟩ := Sort.round_part Sort.swo_ltInt (Sort.partition_holds _) hap hpb (by omega) hB hx
      have hx' : Sort.partition ltI e a b piv = (mid, ap, d4) := hx
      rw [hx']
      have hsz : d4.size = N := hs4.trans hes
      have hml : IntKind.i64.wrap ((mid : Int) - (a : Int)) = ((mid - a : Nat) : Int) := by rw [wrap_i64 (by omega) (by omega)]; omega
      have hmr : IntKind.i64.wrap ((b : Int) - (mid : Int)) = ((b - mid : Nat) : Int) := by rw [wrap_i64 (by omega) (by omega)]; omega
      have hq : IntKind.i64.wrap ((L : Int).tdiv 8) = ((L / 8 : Nat) : Int) := by rw [show ((L : Int).tdiv 8) = ((L / 8 : Nat) : Int) from rfl, wrap_i64 (by omega) (by omega)]
      have hm1 : IntKind.i64.wrap ((mid : Int) + 1) = ((mid + 1 : Nat) : Int) := by rw [wrap_i64 (by omega) (by omega)]; omega
      by_cases hlr : mid - a < b - mid
      · have hlt2 : (((mid - a : Nat) : Int) < ((b - mid : Nat) : Int)) = True := eq_true (by omega)
        simp only [unfC (y9s8.eq_1 c), unfC (y9s9.eq_1 c), unfC (y9s10.eq_1 c), unfC (y9s11.eq_1 c), unfC (y9s12.eq_1 c), unfC (y9s13.eq_1 c), unfC (y9s14.eq_1 c), unfC (y9s15.eq_1 c), unfC (y9s16.eq_1 c), unfC (y9s17.eq_1 c), unfC (y9s18.eq_1 c), unfC (y9s19.eq_1 c), A_, simprocAttr, ne_eq, hml, hmr, hq, hm1, hlt2]
        refine h9.at n d4 a mid lim _ _ _ (sset hS) hsz g1 (by omega) hN (by omega) hlim hBa fun R hR hsR => ?_
        rw [List.set_set]
        obtain ⟨hBL, hfin⟩ := hleft R hR hsR
        simp only [unfC (y9s8.eq_1 c), unfC (y9s9.eq_1 c), unfC (y9s10.eq_1 c), unfC (y9s11.eq_1 c), unfC (y9s12.eq_1 c), unfC (y9s13.eq_1 c), unfC (y9s14.eq_1 c), unfC (y9s15.eq_1 c), unfC (y9s16.eq_1 c), unfC (y9s17.eq_1 c), unfC (y9s18.eq_1 c), unfC (y9s19.eq_1 c), A_, simprocAttr, ne_eq, hml, hmr, hq, hm1, hlt2]
        exact hloop (mid + 1) b lim (decide (((L / 8 : Nat) : Int) ≤ ((mid - a : Nat) : Int))) ap R _ _ (by simp [keep, zm]) (by rw [List.take_of_length_le]; simp [hn0]) (hR.1.trans hsz) (by omega) (by omega) (by omega) (by omega) hlim hBL hfin
      · have hlt2 : (((mid - a : Nat) : Int) < ((b - mid : Nat) : Int)) = False := eq_false (by omega)
        simp only [unfC (y9s8.eq_1 c), unfC (y9s9.eq_1 c), unfC (y9s10.eq_1 c), unfC (y9s11.eq_1 c), unfC (y9s12.eq_1 c), unfC (y9s13.eq_1 c), unfC (y9s14.eq_1 c), unfC (y9s15.eq_1 c), unfC (y9s16.eq_1 c), unfC (y9s17.eq_1 c), unfC (y9s18.eq_1 c), unfC (y9s19.eq_1 c), A_, simprocAttr, ne_eq, hml, hmr, hq, hm1, hlt2]
        refine h9.at n d4 (mid + 1) b lim _ _ _ (sset hS) hsz (by omega) (by omega) hN (by omega) hlim hBr fun R hR hsR => ?_
        rw [List.set_set]
        obtain ⟨hBL, hfin⟩ := hright R hR hsR
        simp only [unfC (y9s8.eq_1 c), unfC (y9s9.eq_1 c), unfC (y9s10.eq_1 c), unfC (y9s11.eq_1 c), unfC (y9s12.eq_1 c), unfC (y9s13.eq_1 c), unfC (y9s14.eq_1 c), unfC (y9s15.eq_1 c), unfC (y9s16.eq_1 c), unfC (y9s17.eq_1 c), unfC (y9s18.eq_1 c), unfC (y9s19.eq_1 c), A_, simprocAttr, ne_eq, hml, hmr, hq, hm1, hlt2]
        exact hloop a mid lim (decide (((L / 8 : Nat) : Int) ≤ ((b - mid : Nat) : Int))) ap R _ _ (by simp [keep, zm]) (by rw [List.take_of_length_le]; simp [hn0]) (hR.1.trans hsz) (by omega) (by omega) (by omega) (by omega) hlim hBL hfin
  · have hlt : ((0 : Int) < (a : Int)) = False := eq_false (by omega)
    simp only [unfC (y9s8.eq_1 c), unfC (y9s9.eq_1 c), unfC (y9s10.eq_1 c), unfC (y9s11.eq_1 c), unfC (y9s12.eq_1 c), unfC (y9s13.eq_1 c), unfC (y9s14.eq_1 c), unfC (y9s15.eq_1 c), unfC (y9s16.eq_1 c), unfC (y9s17.eq_1 c), unfC (y9s18.eq_1 c), unfC (y9s19.eq_1 c), A_, simprocAttr, ne_eq, hlt]
    refine h8.at n e a b piv _ _ _ hS hes hap hpb hb hN ?_
    obtain ⟨⟨mid, ap, d4⟩, hx⟩ : ∃ r, Sort.partition ltI e a b piv = r := ⟨_, rfl⟩
    obtain ⟨g1, g2, hs4, hBa, hBr, hleft, hright⟩ := Sort.round_part Sort.swo_ltInt (Sort.partition_holds _) hap hpb (by omega) hB hx
    have hx' : Sort.partition ltI e a b piv = (mid, ap, d4) := hx
    rw [hx']
    have hsz : d4.size = N := hs4.trans hes
    have hml : IntKind.i64.wrap ((mid : Int) - (a : Int)) = ((mid - a : Nat) : Int) := by rw [wrap_i64 (by omega) (by omega)]; omega
    have hmr : IntKind.i64.wrap ((b : Int) - (mid : Int)) = ((b - mid : Nat) : Int) := by rw [wrap_i64 (by omega) (by omega)]; omega
    have hq : IntKind.i64.wrap ((L : Int).tdiv 8) = ((L / 8 : Nat) : Int) := by rw [show ((L : Int).tdiv 8) = ((L / 8 : Nat) : Int) from rfl, wrap_i64 (by omega) (by omega)]
    have hm1 : IntKind.i64.wrap ((mid : Int) + 1) = ((mid + 1 : Nat) : Int) := by rw [wrap_i64 (by omega) (by omega)]; omega
    by_cases hlr : mid - a < b - mid
    · have hlt2 : (((mid - a : Nat) : Int) < ((b - mid : Nat) : Int)) = True := eq_true (by omega)
      simp only [unfC (y9s8.eq_1 c), unfC (y9s9.eq_1 c), unfC (y9s10.eq_1 c), unfC (y9s11.eq_1 c), unfC (y9s12.eq_1 c), unfC (y9s13.eq_1 c), unfC (y9s14.eq_1 c), unfC (y9s15.eq_1 c), unfC (y9s16.eq_1 c), unfC (y9s17.eq_1 c), unfC (y9s18.eq_1 c), unfC (y9s19.eq_1 c), A_, simprocAttr, ne_eq, hml, hmr, hq, hm1, hlt2]
      refine h9.at n d4 a mid lim _ _ _ (sset hS) hsz g1 (by omega) hN (by omega) hlim hBa fun R hR hsR => ?_
      rw [List.set_set]
      obtain ⟨hBL, hfin⟩ := hleft R hR hsR
      simp only [unfC (y9s8.eq_1 c), unfC (y9s9.eq_1 c), unfC (y9s10.eq_1 c), unfC (y9s11.eq_1 c), unfC (y9s12.eq_1 c), unfC (y9s13.eq_1 c), unfC (y9s14.eq_1 c), unfC (y9s15.eq_1 c), unfC (y9s16.eq_1 c), unfC (y9s17.eq_1 c), unfC (y9s18.eq_1 c), unfC (y9s19.eq_1 c), A_, simprocAttr, ne_eq, hml, hmr, hq, hm1, hlt2]
      exact hloop (mid + 1) b lim (decide (((L / 8 : Nat) : Int) ≤ ((mid - a : Nat) : Int))) ap R _ _ (by simp [keep, zm]) (by rw [List.take_of_length_le]; simp [hn0]) (hR.1.trans hsz) (by omega) (by omega) (by omega) (by omega) hlim hBL hfin
    · have hlt2 : (((mid - a : Nat) : Int) < ((b - mid : Nat) : Int)) = False := eq_false (by omega)
      simp only [unfC (y9s8.eq_1 c), unfC (y9s9.eq_1 c), unfC (y9s10.eq_1 c), unfC (y9s11.eq_1 c), unfC (y9s12.eq_1 c), unfC (y9s13.eq_1 c), unfC (y9s14.eq_1 c), unfC (y9s15.eq_1 c), unfC (y9s16.eq_1 c), unfC (y9s17.eq_1 c), unfC (y9s18.eq_1 c), unfC (y9s19.eq_1 c), A_, simprocAttr, ne_eq, hml, hmr, hq, hm1, hlt2]
      refine h9.at n d4 (mid + 1) b lim _ _ _ (sset hS) hsz (by omega) (by omega) hN (by omega) hlim hBr fun R hR hsR => ?_
      rw [List.set_set]
      obtain ⟨hBL, hfin⟩ := hright R hR hsR
      simp only [unfC (y9s8.eq_1 c), unfC (y9s9.eq_1 c), unfC (y9s10.eq_1 c), unfC (y9s11.eq_1 c), unfC (y9s12.eq_1 c), unfC (y9s13.eq_1 c), unfC (y9s14.eq_1 c), unfC (y9s15.eq_1 c), unfC (y9s16.eq_1 c), unfC (y9s17.eq_1 c), unfC (y9s18.eq_1 c), unfC (y9s19.eq_1 c), A_, simprocAttr, ne_eq, hml, hmr, hq, hm1, hlt2]
      exact hloop a mid lim (decide (((L / 8 : Nat) : Int) ≤ ((b - mid : Nat) : Int))) ap R _ _ (by simp [keep, zm]) (by rw [List.take_of_length_le]; simp [hn0]) (hR.1.trans hsz) (by omega) (by omega) (by omega) (by omega) hlim hBL hfin
set_option maxHeartbeats 32000000 in
theorem pdqsort_spec {C : CallW} (hC : LeC C C) (P : Program) {c : Nat → FuncId} {m : Nat} (h0 : SrtS C (c 0) (Sort.insertionSort ltI)) (h1 : SrtT C (c 1) (Sort.heapSort ltI)) (h2 : SrtT C (c 2) Sort.breakPatterns) (h3 : ChpS C (c 3)) (h4 : SrtT C (c 4) Sort.reverseRange) (h5 : PinS C (c 5)) (h6 : LessS C (c 6)) (h7 : PeqS C (c 7)) (h8 : PartS C (c 8)) (h9 : PdqS C (c 9) m) : ∀ (n : Nat) (d : Array Int) (a b lim : Nat) (S : List (List AV)) (H : List HObj) (K : AV → St → Prop), S[n]? = some (flat iA d) → a ≤ b → b ≤ d.size → d.size ≤ 2305843009213693952 → b - a < m + 1 → lim ≤ 2305843009213693952 → Sort.Below ltI a b d → (∀ R, Sort.PermIn a b d R → Sort.SortedIn ltI a b R → K (.tup []) ⟨S.set n (flat iA R), H⟩) → runL C P (C_slices_pdqsortOrdered_int64 c) [.row (.stk n) 0 d.size d.size, .s (.int .i64 a), .s (.int .i64 b), .s (.int .i64 lim)] ⟨S, H⟩ K := by
  intro n d a0 b0 lim0 S H K hS hab0 hbd0 hdl hm0 hlim0 hB0 hK
  have hn := slt hS
  obtain ⟨N, hN0⟩ : ∃ N, d.size = N := ⟨_, rfl⟩
  rw [hN0] at hbd0 hdl ⊢
  have hN : N ≤ 2305843009213693952 := hdl
  simp only [C_slices_pdqsortOrdered_int64, unfC (y9s1.eq_1 c), unfC (y9s2.eq_1 c), unfC (y9s3.eq_1 c), unfC (y9s4.eq_1 c), unfC (y9s5.eq_1 c), unfC (y9s6.eq_1 c), unfC (y9s7.eq_1 c), unfC (y9s20.eq_1 c), unfC (y9s21.eq_1 c), unfC (y9s22.eq_1 c), unfC (y9s23.eq_1 c), unfC (y9s24.eq_1 c), unfC (y9s25.eq_1 c), unfC (y9s26.eq_1 c), unfC (y9s27.eq_1 c), A_, simprocAttr, ne_eq]
  refine loop_rule hC (α := Nat × Nat × Nat × Bool × Bool × Array Int) (fun x => x.2.1 - x.1) (fun x => [.row (.stk n) 0 N N, .s (.int .i64 (x.1 : Nat)), .s (.int .i64 (x.2.1 : Nat)), .s (.int .i64 (x.2.2.1 : Nat)), uu, uu, uu, uu, .s (.bool x.2.2.2.1), .s (.bool x.2.2.2.2.1), uu, uu, uu, uu, uu, uu, uu, uu, uu, uu, uu, uu, uu, uu, uu, uu, uu, uu, uu, uu, uu, uu, uu, uu, uu, uu, uu, uu, uu, uu, uu, uu, uu, uu, uu, uu, uu, uu, uu, uu, uu, uu, uu, uu, uu, uu, uu, uu, uu, uu, uu, uu, uu, uu, uu, uu, uu, uu, uu, uu, uu, uu, uu, uu, uu, uu, uu, uu, uu, uu, uu, uu, uu, uu, uu, uu, uu, uu, uu, uu, uu, uu, uu, uu, uu, uu, uu, uu, uu, uu, uu, uu, uu, uu, uu, uu, uu, uu, uu, uu, uu, uu, uu, uu, uu, uu, uu, uu, uu, uu, uu, uu, uu, uu, uu, uu, uu, uu, uu, uu, uu, uu, uu, uu]) (fun x => S.set n (flat iA x.2.2.2.2.2)) (fun _ => H) (fun x => x.1 ≤ x.2.1 ∧ x.2.1 ≤ N ∧ x.2.2.2.2.2.size = N ∧ x.2.2.1 ≤ 2305843009213693952 ∧ x.2.1 - x.1 ≤ b0 - a0 ∧ Sort.Below ltI x.1 x.2.1 x.2.2.2.2.2 ∧ ∀ R, Sort.PermIn x.1 x.2.1 x.2.2.2.2.2 R → Sort.SortedIn ltI x.1 x.2.1 R → Sort.PermIn a0 b0 d R ∧ Sort.SortedIn ltI a0 b0 R) (a0, b0, lim0, true, true, d) ⟨hab0, hbd0, hN0, hlim0, Nat.le_refl _, hB0, fun R h1 h2 => ⟨h1, h2⟩⟩ (by simp [keep, zm]) (by rw [sself hS, List.take_of_length_le (Nat.le_refl _)]) rfl (fun x _ => by simp [AV.under, AV.under.go, hn]) ?_
  rintro ⟨a, b, lim, wb, wp, e⟩ ⟨hab, hbN, hes, hlim, hba, hB, hfin⟩ ih
  dsimp only at hab hbN hes hlim hba hB hfin ih ⊢
  have hbe : b ≤ e.size := by omega
  have hw0 : IntKind.i64.wrap ((b : Int) - (a : Int)) = ((b - a : Nat) : Int) := by rw [wrap_i64 (by omega) (by omega)]; omega
  have hSe : (S.set n (flat iA e))[n]? = some (flat iA e) := sset hS
  by_cases h12 : b - a ≤ 12
  · have hlt : (((b - a : Nat) : Int) ≤ 12) = True := eq_true (by omega)
    simp only [unfC (y9s1.eq_1 c), unfC (y9s2.eq_1 c), unfC (y9s3.eq_1 c), unfC (y9s4.eq_1 c), unfC (y9s5.eq_1 c), unfC (y9s6.eq_1 c), unfC (y9s7.eq_1 c), unfC (y9s20.eq_1 c), unfC (y9s21.eq_1 c), unfC (y9s22.eq_1 c), unfC (y9s23.eq_1 c), unfC (y9s24.eq_1 c), unfC (y9s25.eq_1 c), unfC (y9s26.eq_1 c), unfC (y9s27.eq_1 c), A_, simprocAttr, ne_eq, hw0, hlt]
    refine h0.at n e a b _ _ _ hSe hes hab hbN hN ?_
    rw [List.set_set]
    obtain ⟨q1, q2⟩ := Sort.insertionSort_holds Sort.swo_ltInt e a b hab hbe
    obtain ⟨q3, q4⟩ := hfin _ q1 q2
    simp only [unfC (y9s1.eq_1 c), unfC (y9s2.eq_1 c), unfC (y9s3.eq_1 c), unfC (y9s4.eq_1 c), unfC (y9s5.eq_1 c), unfC (y9s6.eq_1 c), unfC (y9s7.eq_1 c), unfC (y9s20.eq_1 c), unfC (y9s21.eq_1 c), unfC (y9s22.eq_1 c), unfC (y9s23.eq_1 c), unfC (y9s24.eq_1 c), unfC (y9s25.eq_1 c), unfC (y9s26.eq_1 c), unfC (y9s27.eq_1 c), A_, simprocAttr, ne_eq]
    exact hK _ q3 q4
  have hlt : (((b - a : Nat) : Int) ≤ 12) = False := eq_false (by omega)
  by_cases hl0 : lim = 0
  · subst hl0
    have hlt0 : (((0 : Nat) : Int) = 0) = True := eq_true rfl
    simp only [unfC (y9s1.eq_1 c), unfC (y9s2.eq_1 c), unfC (y9s3.eq_1 c), unfC (y9s4.eq_1 c), unfC (y9s5.eq_1 c), unfC (y9s6.eq_1 c), unfC (y9s7.eq_1 c), unfC (y9s20.eq_1 c), unfC (y9s21.eq_1 c), unfC (y9s22.eq_1 c), unfC (y9s23.eq_1 c), unfC (y9s24.eq_1 c), unfC (y9s25.eq_1 c), unfC (y9s26.eq_1 c), unfC (y9s27.eq_1 c), A_, simprocAttr, ne_eq, hw0, hlt, hlt0]
    refine h1.at n e a b _ _ _ hSe hes (by omega) hbN hN ?_
    rw [List.set_set]
    obtain ⟨q1, q2⟩ := Sort.heapSort_holds Sort.swo_ltInt e a b hab hbe
    obtain ⟨q3, q4⟩ := hfin _ q1 q2
    simp only [unfC (y9s1.eq_1 c), unfC (y9s2.eq_1 c), unfC (y9s3.eq_1 c), unfC (y9s4.eq_1 c), unfC (y9s5.eq_1 c), unfC (y9s6.eq_1 c), unfC (y9s7.eq_1 c), unfC (y9s20.eq_1 c), unfC (y9s21.eq_1 c), unfC (y9s22.eq_1 c), unfC (y9s23.eq_1 c), unfC (y9s24.eq_1 c), unfC (y9s25.eq_1 c), unfC (y9s26.eq_1 c), unfC (y9s27.eq_1 c), A_, simprocAttr, ne_eq]
    exact hK _ q3 q4
  have hlt0 : ((lim : Int) = 0) = False := eq_false (by omega)
  have loop2 : ∀ (e2 : Array Int), Sort.PermIn a b e e2 → ∀ (a' b' lim' : Nat) (wb' wp' : Bool) (e' : Array Int) (fr' : Fr) (S' : List (List AV)), keep (zm false [0, 4, 4, 2, 124]) fr' = [.row (.stk n) 0 N N, .s (.int .i64 (a' : Nat)), .s (.int .i64 (b' : Nat)), .s (.int .i64 (lim' : Nat)), uu, uu, uu, uu, .s (.bool wb'), .s (.bool wp'), uu, uu, uu, uu, uu, uu, uu, uu, uu, uu, uu, uu, uu, uu, uu, uu, uu, uu, uu, uu, uu, uu, uu, uu, uu, uu, uu, uu, uu, uu, uu, uu, uu, uu, uu, uu, uu, uu, uu, uu, uu, uu, uu, uu, uu, uu, uu, uu, uu, uu, uu, uu, uu, uu, uu, uu, uu, uu, uu, uu, uu, uu, uu, uu, uu, uu, uu, uu, uu, uu, uu, uu, uu, uu, uu, uu, uu, uu, uu, uu, uu, uu, uu, uu, uu, uu, uu, uu, uu, uu, uu, uu, uu, uu, uu, uu, uu, uu, uu, uu, uu, uu, uu, uu, uu, uu, uu, uu, uu, uu, uu, uu, uu, uu, uu, uu, uu, uu, uu, uu, uu, uu, uu, uu] → S'.take S.length = (S.set n (flat iA e2)).set n (flat iA e') → e'.size = N → b' - a' < b - a → a ≤ a' → b' ≤ b → a' ≤ b' → lim' ≤ 2305843009213693952 → Sort.Below ltI a' b' e' → (∀ R, Sort.PermIn a' b' e' R → Sort.SortedIn ltI a' b' R → Sort.PermIn a b e2 R ∧ Sort.SortedIn ltI a b R) → runLp C P false (zm false [0, 4, 4, 2, 124]) (y9s26 c) S.length [Item.blk 0] fr' ⟨S', H⟩ (fin S.length [] K) := by
    intro e2 hp a' b' lim' wb' wp' e' fr' S' k1 k2 k3 k4 k5 k6 k7 k8 k9 k10
    rw [List.set_set] at k2
    exact ih (a', b', lim', wb', wp', e') fr' S' H k4 ⟨k7, by dsimp only; omega, k3, k8, by dsimp only; omega, k9, fun R r1 r2 => by
      obtain ⟨q1, q2⟩ := k10 R r1 r2
      exact hfin R (Sort.permIn_trans _ _ _ _ _ hp q1) q2⟩ k1 k2 rfl
  have Sset2 : ∀ z : Array Int, (S.set n (flat iA z))[n]? = some (flat iA z) := fun z => sset hS
  have hlen : ∀ z : Array Int, S.length = (S.set n (flat iA z)).length := fun z => by simp
  have hwb1 : IntKind.i64.wrap ((b : Int) - 1) = ((b - 1 : Nat) : Int) := by rw [wrap_i64 (by omega) (by omega)]; omega
  have hwl1 : IntKind.i64.wrap ((lim : Int) - 1) = ((lim - 1 : Nat) : Int) := by rw [wrap_i64 (by omega) (by omega)]; omega
  have fin2 : ∀ (e2 : Array Int), Sort.PermIn a b e e2 → e2.size = N ∧ b ≤ e2.size ∧ Sort.Below ltI a b e2 := fun e2 hp => ⟨hp.1.trans hes, by rw [hp.1]; exact hbe, hB.perm hbe hp⟩
  cases wb with
  | false =>
    simp only [unfC (y9s1.eq_1 c), unfC (y9s2.eq_1 c), unfC (y9s3.eq_1 c), unfC (y9s4.eq_1 c), unfC (y9s5.eq_1 c), unfC (y9s6.eq_1 c), unfC (y9s7.eq_1 c), unfC (y9s20.eq_1 c), unfC (y9s21.eq_1 c), unfC (y9s22.eq_1 c), unfC (y9s23.eq_1 c), unfC (y9s24.eq_1 c), unfC (y9s25.eq_1 c), unfC (y9s26.eq_1 c), unfC (y9s27.eq_1 c), A_, simprocAttr, ne_eq, hw0, hlt, hlt0]
    refine h2.at n e a b _ _ _ hSe hes (by omega) hbN hN ?_
    rw [List.set_set]
    have p1 := Sort.breakPatterns_holds e a b hab hbe
    generalize Sort.breakPatterns e a b = e1 at p1 ⊢
    obtain ⟨s1, b1, B1⟩ := fin2 e1 p1
    simp only [unfC (y9s1.eq_1 c), unfC (y9s2.eq_1 c), unfC (y9s3.eq_1 c), unfC (y9s4.eq_1 c), unfC (y9s5.eq_1 c), unfC (y9s6.eq_1 c), unfC (y9s7.eq_1 c), unfC (y9s20.eq_1 c), unfC (y9s21.eq_1 c), unfC (y9s22.eq_1 c), unfC (y9s23.eq_1 c), unfC (y9s24.eq_1 c), unfC (y9s25.eq_1 c), unfC (y9s26.eq_1 c), unfC (y9s27.eq_1 c), A_, simprocAttr, ne_eq, hwl1]
    refine h3.at n e1 a b _ _ _ (Sset2 e1) s1 (by omega) hbN hN ?_
    obtain ⟨u1, u2⟩ := Sort.choosePivot_holds ltI e1 a b (by omega)
    generalize Sort.choosePivot ltI e1 a b = cp at u1 u2 ⊢
    obtain ⟨piv, hint⟩ := cp
    dsimp only at u1 u2 ⊢
    cases hint with
    | unknown =>
      simp only [unfC (y9s1.eq_1 c), unfC (y9s2.eq_1 c), unfC (y9s3.eq_1 c), unfC (y9s4.eq_1 c), unfC (y9s5.eq_1 c), unfC (y9s6.eq_1 c), unfC (y9s7.eq_1 c), unfC (y9s20.eq_1 c), unfC (y9s21.eq_1 c), unfC (y9s22.eq_1 c), unfC (y9s23.eq_1 c), unfC (y9s24.eq_1 c), unfC (y9s25.eq_1 c), unfC (y9s26.eq_1 c), unfC (y9s27.eq_1 c), A_, simprocAttr, ne_eq, hI]
      exact y9s19_run hC P h6 h7 h8 h9 (Sset2 e1) (hlen e1) s1 u1 u2 hbN hN (by omega) (by omega) (by omega) B1 (loop2 e1 p1) _ _ _ _ _ _ _ _ _ _ _ _ _ _ _ _ _ _ _ _ _ _ _ _ _ _ _ _ _ _ _ _ _ _ _ _ _ _ _ _ _ _ _ _ _ _ _ _ _ _ _ _ _ _ _ _ _ _ _ _ _ _ _ _ _ _ _ _ _ _ _ _ _ _ _ _ _ _ _ _ _ _ _ _ _ _ _ _ _ _ _ _ _ _ _ _ _ _ _ _ _ _ _ _ _ _ _ _ _ _ _ _ _ _ _ _ _ _ _ _ _ _ _ _ _ _
    | increasing =>
      simp only [unfC (y9s1.eq_1 c), unfC (y9s2.eq_1 c), unfC (y9s3.eq_1 c), unfC (y9s4.eq_1 c), unfC (y9s5.eq_1 c), unfC (y9s6.eq_1 c), unfC (y9s7.eq_1 c), unfC (y9s20.eq_1 c), unfC (y9s21.eq_1 c), unfC (y9s22.eq_1 c), unfC (y9s23.eq_1 c), unfC (y9s24.eq_1 c), unfC (y9s25.eq_1 c), unfC (y9s26.eq_1 c), unfC (y9s27.eq_1 c), A_, simprocAttr, ne_eq, hI]
      exact y9s19_run hC P h6 h7 h8 h9 (Sset2 e1) (hlen e1) s1 u1 u2 hbN hN (by omega) (by omega) (by omega) B1 (loop2 e1 p1) _ _ _ _ _ _ _ _ _ _ _ _ _ _ _ _ _ _ _ _ _ _ _ _ _ _ _ _ _ _ _ _ _ _ _ _ _ _ _ _ _ _ _ _ _ _ _ _ _ _ _ _ _ _ _ _ _ _ _ _ _ _ _ _ _ _ _ _ _ _ _ _ _ _ _ _ _ _ _ _ _ _ _ _ _ _ _ _ _ _ _ _ _ _ _ _ _ _ _ _ _ _ _ _ _ _ _ _ _ _ _ _ _ _ _ _ _ _ _ _ _ _ _ _ _ _
    | decreasing =>
      have hwp : IntKind.i64.wrap ((piv : Int) - (a : Int)) = ((piv - a : Nat) : Int) := by rw [wrap_i64 (by omega) (by omega)]; omega
      have hwp2 : IntKind.i64.wrap (((b - 1 : Nat) : Int) - ((piv - a : Nat) : Int)) = ((b - 1 - (piv - a) : Nat) : Int) := by rw [wrap_i64 (by omega) (by omega)]; omega
      simp only [unfC (y9s1.eq_1 c), unfC (y9s2.eq_1 c), unfC (y9s3.eq_1 c), unfC (y9s4.eq_1 c), unfC (y9s5.eq_1 c), unfC (y9s6.eq_1 c), unfC (y9s7.eq_1 c), unfC (y9s20.eq_1 c), unfC (y9s21.eq_1 c), unfC (y9s22.eq_1 c), unfC (y9s23.eq_1 c), unfC (y9s24.eq_1 c), unfC (y9s25.eq_1 c), unfC (y9s26.eq_1 c), unfC (y9s27.eq_1 c), A_, simprocAttr, ne_eq, hI]
      refine h4.at n e1 a b _ _ _ (Sset2 e1) s1 (by omega) hbN hN ?_
      rw [List.set_set]
      have p2 := Sort.reverseRange_holds e1 a b hab b1
      generalize Sort.reverseRange e1 a b = e2 at p2 ⊢
      have p3 := Sort.permIn_trans _ _ _ _ _ p1 p2
      obtain ⟨s2, b2, B2⟩ := fin2 e2 p3
      simp only [unfC (y9s1.eq_1 c), unfC (y9s2.eq_1 c), unfC (y9s3.eq_1 c), unfC (y9s4.eq_1 c), unfC (y9s5.eq_1 c), unfC (y9s6.eq_1 c), unfC (y9s7.eq_1 c), unfC (y9s20.eq_1 c), unfC (y9s21.eq_1 c), unfC (y9s22.eq_1 c), unfC (y9s23.eq_1 c), unfC (y9s24.eq_1 c), unfC (y9s25.eq_1 c), unfC (y9s26.eq_1 c), unfC (y9s27.eq_1 c), A_, simprocAttr, ne_eq, hwb1, hwp, hwp2]
      exact y9s19_run hC P h6 h7 h8 h9 (Sset2 e2) (hlen e2) s2 (by omega) (by omega) hbN hN (by omega) (by omega) (by omega) B2 (loop2 e2 p3) _ _ _ _ _ _ _ _ _ _ _ _ _ _ _ _ _ _ _ _ _ _ _ _ _ _ _ _ _ _ _ _ _ _ _ _ _ _ _ _ _ _ _ _ _ _ _ _ _ _ _ _ _ _ _ _ _ _ _ _ _ _ _ _ _ _ _ _ _ _ _ _ _ _ _ _ _ _ _ _ _ _ _ _ _ _ _ _ _ _ _ _ _ _ _ _ _ _ _ _ _ _ _ _ _ _ _ _ _ _ _ _ _ _ _ _ _ _ _ _ _ _ _ _ _ _
  | true =>
    simp only [unfC (y9s1.eq_1 c), unfC (y9s2.eq_1 c), unfC (y9s3.eq_1 c), unfC (y9s4.eq_1 c), unfC (y9s5.eq_1 c), unfC (y9s6.eq_1 c), unfC (y9s7.eq_1 c), unfC (y9s20.eq_1 c), unfC (y9s21.eq_1 c), unfC (y9s22.eq_1 c), unfC (y9s23.eq_1 c), unfC (y9s24.eq_1 c), unfC (y9s25.eq_1 c), unfC (y9s26.eq_1 c), unfC (y9s27.eq_1 c), A_, simprocAttr, ne_eq, hw0, hlt, hlt0]
    refine h3.at n e a b _ _ _ hSe hes (by omega) hbN hN ?_
    obtain ⟨u1, u2⟩ := Sort.choosePivot_holds ltI e a b (by omega)
    generalize Sort.choosePivot ltI e a b = cp at u1 u2 ⊢
    obtain ⟨piv, hint⟩ := cp
    dsimp only at u1 u2 ⊢
    have p0 := Sort.permIn_refl e a b
    obtain ⟨piv2, e1, p1, v1, v2, hst⟩ : ∃ (piv2 : Nat) (e1 : Array Int), Sort.PermIn a b e e1 ∧ a ≤ piv2 ∧ piv2 < b ∧ True := ⟨piv, e, p0, u1, u2, trivial⟩
    clear hst v1 v2 p1 e1 piv2
    cases hint with
    | unknown =>
      cases wp <;>
      · simp only [unfC (y9s1.eq_1 c), unfC (y9s2.eq_1 c), unfC (y9s3.eq_1 c), unfC (y9s4.eq_1 c), unfC (y9s5.eq_1 c), unfC (y9s6.eq_1 c), unfC (y9s7.eq_1 c), unfC (y9s20.eq_1 c), unfC (y9s21.eq_1 c), unfC (y9s22.eq_1 c), unfC (y9s23.eq_1 c), unfC (y9s24.eq_1 c), unfC (y9s25.eq_1 c), unfC (y9s26.eq_1 c), unfC (y9s27.eq_1 c), A_, simprocAttr, ne_eq, hI]
        exact y9s19_run hC P h6 h7 h8 h9 hSe (hlen e) hes u1 u2 hbN hN (by omega) hlim (by omega) hB (loop2 e p0) _ _ _ _ _ _ _ _ _ _ _ _ _ _ _ _ _ _ _ _ _ _ _ _ _ _ _ _ _ _ _ _ _ _ _ _ _ _ _ _ _ _ _ _ _ _ _ _ _ _ _ _ _ _ _ _ _ _ _ _ _ _ _ _ _ _ _ _ _ _ _ _ _ _ _ _ _ _ _ _ _ _ _ _ _ _ _ _ _ _ _ _ _ _ _ _ _ _ _ _ _ _ _ _ _ _ _ _ _ _ _ _ _ _ _ _ _ _ _ _ _ _ _ _ _ _
    | increasing =>
      cases wp with
      | false =>
        simp only [unfC (y9s1.eq_1 c), unfC (y9s2.eq_1 c), unfC (y9s3.eq_1 c), unfC (y9s4.eq_1 c), unfC (y9s5.eq_1 c), unfC (y9s6.eq_1 c), unfC (y9s7.eq_1 c), unfC (y9s20.eq_1 c), unfC (y9s21.eq_1 c), unfC (y9s22.eq_1 c), unfC (y9s23.eq_1 c), unfC (y9s24.eq_1 c), unfC (y9s25.eq_1 c), unfC (y9s26.eq_1 c), unfC (y9s27.eq_1 c), A_, simprocAttr, ne_eq, hI]
        exact y9s19_run hC P h6 h7 h8 h9 hSe (hlen e) hes u1 u2 hbN hN (by omega) hlim (by omega) hB (loop2 e p0) _ _ _ _ _ _ _ _ _ _ _ _ _ _ _ _ _ _ _ _ _ _ _ _ _ _ _ _ _ _ _ _ _ _ _ _ _ _ _ _ _ _ _ _ _ _ _ _ _ _ _ _ _ _ _ _ _ _ _ _ _ _ _ _ _ _ _ _ _ _ _ _ _ _ _ _ _ _ _ _ _ _ _ _ _ _ _ _ _ _ _ _ _ _ _ _ _ _ _ _ _ _ _ _ _ _ _ _ _ _ _ _ _ _ _ _ _ _ _ _ _ _ _ _ _ _
      | true =>
        simp only [unfC (y9s1.eq_1 c), unfC (y9s2.eq_1 c), unfC (y9s3.eq_1 c), unfC (y9s4.eq_1 c), unfC (y9s5.eq_1 c), unfC (y9s6.eq_1 c), unfC (y9s7.eq_1 c), unfC (y9s20.eq_1 c), unfC (y9s21.eq_1 c), unfC (y9s22.eq_1 c), unfC (y9s23.eq_1 c), unfC (y9s24.eq_1 c), unfC (y9s25.eq_1 c), unfC (y9s26.eq_1 c), unfC (y9s27.eq_1 c), A_, simprocAttr, ne_eq, hI]
        refine h5.at n e a b _ _ _ hSe hes (by omega) hbN hN ?_
        rw [List.set_set]
        obtain ⟨q1, q2⟩ := Sort.partialInsertionSort_holds Sort.swo_ltInt e a b (by omega) hbe hB
        have q1' : Sort.PermIn a b e (Sort.partialInsertionSort ltI e a b).1 := q1
        have q2' : (Sort.partialInsertionSort ltI e a b).2 = true → Sort.SortedIn ltI a b (Sort.partialInsertionSort ltI e a b).1 := q2
        clear q1 q2
        generalize Sort.partialInsertionSort ltI e a b = pr at q1' q2' ⊢
        obtain ⟨e3, ok⟩ := pr
        dsimp only at q1' q2' ⊢
        cases ok with
        | true =>
          obtain ⟨q3, q4⟩ := hfin _ q1' (q2' rfl)
          simp only [unfC (y9s1.eq_1 c), unfC (y9s2.eq_1 c), unfC (y9s3.eq_1 c), unfC (y9s4.eq_1 c), unfC (y9s5.eq_1 c), unfC (y9s6.eq_1 c), unfC (y9s7.eq_1 c), unfC (y9s20.eq_1 c), unfC (y9s21.eq_1 c), unfC (y9s22.eq_1 c), unfC (y9s23.eq_1 c), unfC (y9s24.eq_1 c), unfC (y9s25.eq_1 c), unfC (y9s26.eq_1 c), unfC (y9s27.eq_1 c), A_, simprocAttr, ne_eq]
          exact hK _ q3 q4
        | false =>
          obtain ⟨s3, b3, B3⟩ := fin2 e3 q1'
          simp only [unfC (y9s1.eq_1 c), unfC (y9s2.eq_1 c), unfC (y9s3.eq_1 c), unfC (y9s4.eq_1 c), unfC (y9s5.eq_1 c), unfC (y9s6.eq_1 c), unfC (y9s7.eq_1 c), unfC (y9s20.eq_1 c), unfC (y9s21.eq_1 c), unfC (y9s22.eq_1 c), unfC (y9s23.eq_1 c), unfC (y9s24.eq_1 c), unfC (y9s25.eq_1 c), unfC (y9s26.eq_1 c), unfC (y9s27.eq_1 c), A_, simprocAttr, ne_eq]
          exact y9s19_run hC P h6 h7 h8 h9 (Sset2 e3) (hlen e3) s3 u1 u2 hbN hN (by omega) hlim (by omega) B3 (loop2 e3 q1') _ _ _ _ _ _ _ _ _ _ _ _ _ _ _ _ _ _ _ _ _ _ _ _ _ _ _ _ _ _ _ _ _ _ _ _ _ _ _ _ _ _ _ _ _ _ _ _ _ _ _ _ _ _ _ _ _ _ _ _ _ _ _ _ _ _ _ _ _ _ _ _ _ _ _ _ _ _ _ _ _ _ _ _ _ _ _ _ _ _ _ _ _ _ _ _ _ _ _ _ _ _ _ _ _ _ _ _ _ _ _ _ _ _ _ _ _ _ _ _ _ _ _ _ _ _
    | decreasing =>
      have hwp : IntKind.i64.wrap ((piv : Int) - (a : Int)) = ((piv - a : Nat) : Int) := by rw [wrap_i64 (by omega) (by omega)]; omega
      have hwp2 : IntKind.i64.wrap (((b - 1 : Nat) : Int) - ((piv - a : Nat) : Int)) = ((b - 1 - (piv - a) : Nat) : Int) := by rw [wrap_i64 (by omega) (by omega)]; omega
      simp only [unfC (y9s1.eq_1 c), unfC (y9s2.eq_1 c), unfC (y9s3.eq_1 c), unfC (y9s4.eq_1 c), unfC (y9s5.eq_1 c), unfC (y9s6.eq_1 c), unfC (y9s7.eq_1 c), unfC (y9s20.eq_1 c), unfC (y9s21.eq_1 c), unfC (y9s22.eq_1 c), unfC (y9s23.eq_1 c), unfC (y9s24.eq_1 c), unfC (y9s25.eq_1 c), unfC (y9s26.eq_1 c), unfC (y9s27.eq_1 c), A_, simprocAttr, ne_eq, hI]
      refine h4.at n e a b _ _ _ hSe hes (by omega) hbN hN ?_
      rw [List.set_set]
      have p2 := Sort.reverseRange_holds e a b hab hbe
      generalize Sort.reverseRange e a b = e2 at p2 ⊢
      obtain ⟨s2, b2, B2⟩ := fin2 e2 p2
      cases wp with
      | false =>
        simp only [unfC (y9s1.eq_1 c), unfC (y9s2.eq_1 c), unfC (y9s3.eq_1 c), unfC (y9s4.eq_1 c), unfC (y9s5.eq_1 c), unfC (y9s6.eq_1 c), unfC (y9s7.eq_1 c), unfC (y9s20.eq_1 c), unfC (y9s21.eq_1 c), unfC (y9s22.eq_1 c), unfC (y9s23.eq_1 c), unfC (y9s24.eq_1 c), unfC (y9s25.eq_1 c), unfC (y9s26.eq_1 c), unfC (y9s27.eq_1 c), A_, simprocAttr, ne_eq, hwb1, hwp, hwp2]
        exact y9s19_run hC P h6 h7 h8 h9 (Sset2 e2) (hlen e2) s2 (by omega) (by omega) hbN hN (by omega) hlim (by omega) B2 (loop2 e2 p2) _ _ _ _ _ _ _ _ _ _ _ _ _ _ _ _ _ _ _ _ _ _ _ _ _ _ _ _ _ _ _ _ _ _ _ _ _ _ _ _ _ _ _ _ _ _ _ _ _ _ _ _ _ _ _ _ _ _ _ _ _ _ _ _ _ _ _ _ _ _ _ _ _ _ _ _ _ _ _ _ _ _ _ _ _ _ _ _ _ _ _ _ _ _ _ _ _ _ _ _ _ _ _ _ _ _ _ _ _ _ _ _ _ _ _ _ _ _ _ _ _ _ _ _ _ _
      | true =>
        simp only [unfC (y9s1.eq_1 c), unfC (y9s2.eq_1 c), unfC (y9s3.eq_1 c), unfC (y9s4.eq_1 c), unfC (y9s5.eq_1 c), unfC (y9s6.eq_1 c), unfC (y9s7.eq_1 c), unfC (y9s20.eq_1 c), unfC (y9s21.eq_1 c), unfC (y9s22.eq_1 c), unfC (y9s23.eq_1 c), unfC (y9s24.eq_1 c), unfC (y9s25.eq_1 c), unfC (y9s26.eq_1 c), unfC (y9s27.eq_1 c), A_, simprocAttr, ne_eq, hwb1, hwp, hwp2]
        refine h5.at n e2 a b _ _ _ (Sset2 e2) s2 (by omega) hbN hN ?_
        rw [List.set_set]
        obtain ⟨q1, q2⟩ := Sort.partialInsertionSort_holds Sort.swo_ltInt e2 a b (by omega) b2 B2
        have q1' : Sort.PermIn a b e2 (Sort.partialInsertionSort ltI e2 a b).1 := q1
        have q2' : (Sort.partialInsertionSort ltI e2 a b).2 = true → Sort.SortedIn ltI a b (Sort.partialInsertionSort ltI e2 a b).1 := q2
        clear q1 q2
        generalize Sort.partialInsertionSort ltI e2 a b = pr at q1' q2' ⊢
        obtain ⟨e3, ok⟩ := pr
        dsimp only at q1' q2' ⊢
        have q1' := Sort.permIn_trans _ _ _ _ _ p2 q1'
        cases ok with
        | true =>
          obtain ⟨q3, q4⟩ := hfin _ q1' (q2' rfl)
          simp only [unfC (y9s1.eq_1 c), unfC (y9s2.eq_1 c), unfC (y9s3.eq_1 c), unfC (y9s4.eq_1 c), unfC (y9s5.eq_1 c), unfC (y9s6.eq_1 c), unfC (y9s7.eq_1 c), unfC (y9s20.eq_1 c), unfC (y9s21.eq_1 c), unfC (y9s22.eq_1 c), unfC (y9s23.eq_1 c), unfC (y9s24.eq_1 c), unfC (y9s25.eq_1 c), unfC (y9s26.eq_1 c), unfC (y9s27.eq_1 c), A_, simprocAttr, ne_eq]
          exact hK _ q3 q4
        | false =>
          obtain ⟨s3, b3, B3⟩ := fin2 e3 q1'
          simp only [unfC (y9s1.eq_1 c), unfC (y9s2.eq_1 c), unfC (y9s3.eq_1 c), unfC (y9s4.eq_1 c), unfC (y9s5.eq_1 c), unfC (y9s6.eq_1 c), unfC (y9s7.eq_1 c), unfC (y9s20.eq_1 c), unfC (y9s21.eq_1 c), unfC (y9s22.eq_1 c), unfC (y9s23.eq_1 c), unfC (y9s24.eq_1 c), unfC (y9s25.eq_1 c), unfC (y9s26.eq_1 c), unfC (y9s27.eq_1 c), A_, simprocAttr, ne_eq]
          exact y9s19_run hC P h6 h7 h8 h9 (Sset2 e3) (hlen e3) s3 (by omega) (by omega) hbN hN (by omega) hlim (by omega) B3 (loop2 e3 q1') _ _ _ _ _ _ _ _ _ _ _ _ _ _ _ _ _ _ _ _ _ _ _ _ _ _ _ _ _ _ _ _ _ _ _ _ _ _ _ _ _ _ _ _ _ _ _ _ _ _ _ _ _ _ _ _ _ _ _ _ _ _ _ _ _ _ _ _ _ _ _ _ _ _ _ _ _ _ _ _ _ _ _ _ _ _ _ _ _ _ _ _ _ _ _ _ _ _ _ _ _ _ _ _ _ _ _ _ _ _ _ _ _ _ _ _ _ _ _ _ _ _ _ _ _ _
end Go.AM
namespace Go.AM
open Go
set_option maxRecDepth 20000
def y10a1 (c : Nat → FuncId) : LCode := (.sq [(zs 5 (.mv true (.t 0))), (zs 6 (.mv false (.t 2))), (zs 7 (.mv false (.t 2))), (zs 8 (.conv (.int .u64) (.t 7))), (zs 9 (.call (.f (c 0)) [(.t 8)])), (zs 10 (.call (.f (c 1)) [(.t 5), (zi 0), (.t 6), (.t 9)]))])
def U_slices_Sort_int (c : Nat → FuncId) := PLift.up (@unfC _ _ (y10a1.eq_1 c))
def C_slices_Sort_int (c : Nat → FuncId) : LFn := ⟨11, [], (.seq (.sq [(zs 3 (.mv false (.t 0))), (zs 4 (.len .sl (.t 3))), (zs 2 (.mv true (.t 4)))]) (y10a1 c))⟩
def y10b1 : LCode := (.sq [(zs 52 (.mv false (.t 3))), (zs 53 (.bin .add .sc (.t 52) (zi 1))), (zs 3 (.mv true (.t 53)))])
def y10b2 : LCode := (.seq (.sq [(zs 45 (.mv false (.t 0))), (zs 46 (.mv false (.t 3))), (zs 47 (.mv false (.t 4))), (zs 48 (.mv false (.t 5))), (zs 49 (.ixa (.sl 1) (.t 47) (.t 48))), (zs 50 (.load1 false (.t 49))), (zs 51 (.ixa (.sl 1) (.t 45) (.t 46))), (zn (.store 1 (.t 51) (.t 50)))]) y10b1)
def y10b3 : LCode := (.sq [(zs 33 (.mv false (.t 5))), (zs 34 (.bin .add .sc (.t 33) (zi 1))), (zs 5 (.mv true (.t 34)))])
def y10b4 : LCode := (.seq (.block 3 (.seq (.tree (.rd (zs 35 (.mv false (.t 4))) 0 false (.rd (zs 36 (.mv false (.t 5))) 1 false (.rd (zs 37 (.ixa (.sl 1) (.t 35) (.t 36))) 2 false (.rd (zs 38 (.load1 false (.t 37))) 3 false (.rd (zs 39 (.mv false (.t 4))) 4 false (.rd (zs 40 (.mv false (.t 5))) 5 false (.rd (zs 41 (.bin .sub .sc (.t 40) (zi 1))) 6 false (.rd (zs 42 (.ixa (.sl 1) (.t 39) (.t 41))) 7 false (.rd (zs 43 (.load1 false (.t 42))) 8 false (.rd (zs 44 (.bin .neq .sc (.t 38) (.t 43))) 9 false .done))))))))))) (.cond (.t 44) y10b2 .skip))) y10b3)
def y10b5 : LCode := (.seq (.seq (.sq [(zs 29 (.mv false (.t 5))), (zs 30 (.mv false (.t 4))), (zs 31 (.len .sl (.t 30))), (zs 32 (.bin .lss .sc (.t 29) (.t 31)))]) (.cond (.t 32) .skip (.exit 2))) y10b4)
def y10b6 : LCode := (.block 2 (.loop (zm false [0, 1, 2, 3, 55]) y10b5))
def y10b7 : LCode := (.seq (.sq [(zs 57 (.mv false (.t 0))), (zs 58 (.mv false (.t 3))), (zs 59 (.slc (.sl 1) (.t 57) none (some (.t 58)) none)), (zs 2 (.mv true (.t 59)))]) .ret)
def y10b8 : LCode := (.seq (.sq [(zs 54 (.mv false (.t 0))), (zs 55 (.mv false (.t 3))), (zs 56 (.slc (.sl 1) (.t 54) (some (.t 55)) none none)), (zn (.clr ⟨1, false, 8, (.s (.int .i64 0))⟩ (.t 56)))]) y10b7)
def y10b9 : LCode := (.seq (.sq [(zs 26 (.mv false (.t 0))), (zs 27 (.mv false (.t 3))), (zs 28 (.slc (.sl 1) (.t 26) (some (.t 27)) none none)), (zs 4 (.mv true (.t 28)))]) (.seq (.seq (.sq [(zs 5 (.mv true (zi 1)))]) y10b6) y10b8))
def y10b10 : LCode := (.sq [(zs 14 (.mv false (.t 3))), (zs 15 (.bin .add .sc (.t 14) (zi 1))), (zs 3 (.mv true (.t 15)))])
def y10b11 : LCode := (.seq (.block 1 (.seq (.tree (.rd (zs 16 (.mv false (.t 0))) 0 false (.rd (zs 17 (.mv false (.t 3))) 1 false (.rd (zs 18 (.ixa (.sl 1) (.t 16) (.t 17))) 2 false (.rd (zs 19 (.load1 false (.t 18))) 3 false (.rd (zs 20 (.mv false (.t 0))) 4 false (.rd (zs 21 (.mv false (.t 3))) 5 false (.rd (zs 22 (.bin .sub .sc (.t 21) (zi 1))) 6 false (.rd (zs 23 (.ixa (.sl 1) (.t 20) (.t 22))) 7 false (.rd (zs 24 (.load1 false (.t 23))) 8 false (.rd (zs 25 (.bin .eql .sc (.t 19) (.t 24))) 9 false .done))))))))))) (.cond (.t 25) y10b9 .skip))) y10b10)
def y10b12 : LCode := (.seq (.seq (.sq [(zs 10 (.mv false (.t 3))), (zs 11 (.mv false (.t 0))), (zs 12 (.len .sl (.t 11))), (zs 13 (.bin .lss .sc (.t 10) (.t 12)))]) (.cond (.t 13) .skip (.exit 0))) y10b11)
def y10b13 : LCode := (.block 0 (.loop (zm false [0, 1, 2, 1, 57]) y10b12))
def y10b14 : LCode := (.seq (.seq (.sq [(zs 3 (.mv true (zi 1)))]) y10b13) (.seq (.sq [(zs 60 (.mv true (.t 0))), (zs 2 (.mv true (.t 60)))]) .ret))
def y10b15 : LCode := (.seq (.seq (.sq [(zs 6 (.mv false (.t 0))), (zs 7 (.len .sl (.t 6))), (zs 8 (.bin .lss .sc (.t 7) (zi 2)))]) (.cond (.t 8) (.seq (.sq [(zs 9 (.mv true (.t 0))), (zs 2 (.mv true (.t 9)))]) .ret) .skip)) y10b14)
def U_slices_Compact_int := PLift.up (zc (zc (zc (@unfC _ _ (y10b1.eq_1)) (zc (@unfC _ _ (y10b2.eq_1)) (@unfC _ _ (y10b3.eq_1)))) (zc (zc (@unfC _ _ (y10b4.eq_1)) (@unfC _ _ (y10b5.eq_1))) (zc (@unfC _ _ (y10b6.eq_1)) (@unfC _ _ (y10b7.eq_1))))) (zc (zc (zc (@unfC _ _ (y10b8.eq_1)) (@unfC _ _ (y10b9.eq_1))) (zc (@unfC _ _ (y10b10.eq_1)) (@unfC _ _ (y10b11.eq_1)))) (zc (zc (@unfC _ _ (y10b12.eq_1)) (@unfC _ _ (y10b13.eq_1))) (zc (@unfC _ _ (y10b14.eq_1)) (@unfC _ _ (y10b15.eq_1))))))
def C_slices_Compact_int : LFn := ⟨61, [.t 2], (.seq (.sq [(zs 2 (.mv true (.c .nilS)))]) y10b15)⟩
def y10c1 (c : Nat → FuncId) : LCode := (.sq [(zs 21 (.mv true (.t 5))), (zs 22 (.mv false (.t 8))), (zs 23 (.bsl ⟨1, false, 8, (.s (.int .i64 0))⟩ 1 [(0, (.t 22))])), (zs 24 (.app ⟨1, false, 8, (.s (.int .i64 0))⟩ false (.t 21) (.t 23))), (zs 5 (.mv true (.t 24)))])
def y10c2 (c : Nat → FuncId) : LCode := (.seq (.sq [(zs 19 (.mv false (.t 8))), (zs 20 (.bin .geq .sc (.t 19) (zi 0)))]) (.cond (.t 20) (y10c1 c) .skip))
def y10c3 (c : Nat → FuncId) : LCode := (.seq (.sq [(zs 15 (.mv false (.t 0))), (zs 16 (.shift 0 (.t 7))), (zs 17 (.loadA 16 (.t 16))), (zs 18 (.call (.f (c 0)) [(.t 15), (.t 17)])), (zs 8 (.mv true (.t 18)))]) (y10c2 c))
def y10c4 (c : Nat → FuncId) : LCode := (.seq (.block 1 (.seq (.sq [(zs 13 (.ixa (.sl 18) (.t 9) (.t 11))), (zs 14 (.loadA 18 (.t 13))), (zs 7 (.alloc false (zk ++ [(.s (.str [])), (.s (.bool false))]))), (zn (.store 18 (.t 7) (.t 14)))]) (y10c3 c))) (.sq [(zs 25 (.bin .add .sc (.t 11) (zi 1))), (zs 11 (.mv false (.t 25)))]))
def y10c5 (c : Nat → FuncId) : LCode := (.seq (.sq [(zs 12 (.bin .lss .sc (.t 11) (.t 10)))]) (.seq (.cond (.t 12) .skip (.exit 0)) (y10c4 c)))
def y10c6 (c : Nat → FuncId) : LCode := (.block 0 (.loop (zm false [0, 1, 4, 1, 3, 3, 18]) (y10c5 c)))
def y10c7 (c : Nat → FuncId) : LCode := (.seq (.sq [(zs 28 (.mv true (.t 5))), (zs 29 (.call (.f (c 2)) [(.t 28)])), (zs 4 (.frz ⟨1, false, 8, (.s (.int .i64 0))⟩ (.t 29)))]) .ret)
def y10c8 (c : Nat → FuncId) : LCode := (.seq (.seq (.sq [(zs 9 (.mv false (.t 1))), (zs 10 (.len .sl (.t 9))), (zs 11 (.mv false (zi 0)))]) (y10c6 c)) (.seq (.sq [(zs 26 (.thaw 5)), (zs 27 (.call (.f (c 1)) [(.t 26)]))]) (y10c7 c)))
def U_route_Table_Parts (c : Nat → FuncId) := PLift.up (zc (zc (zc (@unfC _ _ (y10c1.eq_1 c)) (@unfC _ _ (y10c2.eq_1 c))) (zc (@unfC _ _ (y10c3.eq_1 c)) (@unfC _ _ (y10c4.eq_1 c)))) (zc (zc (@unfC _ _ (y10c5.eq_1 c)) (@unfC _ _ (y10c6.eq_1 c))) (zc (@unfC _ _ (y10c7.eq_1 c)) (@unfC _ _ (y10c8.eq_1 c)))))
def C_route_Table_Parts (c : Nat → FuncId) : LFn := ⟨30, [.t 4], (.seq (.sq [(zs 4 (.frz ⟨1, false, 8, (.s (.int .i64 0))⟩ (.c .nilS)))]) (.seq (.sq [(zs 5 (.mv true (.c .nilS)))]) (y10c8 c)))⟩
def y10d1 (c : Nat → FuncId) : LCode := (.cond (.t 7) (.seq (.sq [(zs 2 (.mv true (.c .nilP))), (zs 3 (.mv true zF))]) .ret) .skip)
def y10d2 (c : Nat → FuncId) : LCode := (.cond (.t 36) (.seq (.sq [(zs 2 (.mv true (.c .nilP))), (zs 3 (.mv true zF))]) .ret) .skip)
def y10d3 (c : Nat → FuncId) : LCode := (.sq [(zs 12 (.mv false (.t 4))), (zs 13 (.bin .add .sc (.t 12) (zi 1))), (zs 4 (.mv true (.t 13)))])
def y10d4 (c : Nat → FuncId) : LCode := (.seq (.block 1 (.seq (.tree (.rd (zs 14 (.mv false (.t 0))) 0 false (.rd (zs 15 (.mv false (.t 4))) 1 false (.rd (zs 16 (.ixa (.sl 16) (.t 14) (.t 15))) 2 false (.rd (zs 17 (.loadA 16 (.t 16))) 3 false (.mv (zs 18 (.call (.f (c 0)) [(.t 17)])) [0, 1, 2, 3] (.rd (zs 19 (.un .not (.t 18))) 5 false (.rd (zs 20 (.mv false (.t 19))) 6 false (.rd (zf 21 20 (.mv false (.t 4))) 7 false (.rd (zf 22 20 (.bin .gtr .sc (.t 21) (zi 0))) 8 false (.rd (zf 23 20 (.mv false (.t 22))) 9 false (.rd (zt 24 23 (.mv false (.t 0))) 10 false (.rd (zt 25 23 (.mv false (.t 4))) 11 false (.rd (zt 26 23 (.ixa (.sl 16) (.t 24) (.t 25))) 12 false (.rd (zt 27 23 (.loadA 16 (.t 26))) 13 false (.rd (zt 28 23 (.mv false (.t 0))) 14 false (.rd (zt 29 23 (.mv false (.t 4))) 15 false (.rd (zt 30 23 (.bin .sub .sc (.t 29) (zi 1))) 16 false (.rd (zt 31 23 (.ixa (.sl 16) (.t 28) (.t 30))) 17 false (.rd (zt 32 23 (.loadA 16 (.t 31))) 18 false (.mv (zt 33 23 (.call (.f (c 1)) [(.t 27), (.t 32)])) [0, 1, 2, 3, 4, 5, 6, 7, 8, 9, 10, 11, 12, 13, 14, 15, 16, 17, 18] (.rd (zt 34 23 (.bin .leq .sc (.t 33) (zi 0))) 20 false (.rd (zf 35 20 (.pick (.t 23) (.t 34) zF)) 21 false (.rd (zs 36 (.pick (.t 20) zT (.t 35))) 22 false .done))) .stop))))))))))))))) .stop)))))) (y10d2 c))) (y10d3 c))
def y10d5 (c : Nat → FuncId) : LCode := (.seq (.seq (.sq [(zs 8 (.mv false (.t 4))), (zs 9 (.mv false (.t 0))), (zs 10 (.len .sl (.t 9))), (zs 11 (.bin .lss .sc (.t 8) (.t 10)))]) (.cond (.t 11) .skip (.exit 0))) (y10d4 c))
def y10d6 (c : Nat → FuncId) : LCode := (.block 0 (.loop (zm false [0, 1, 3, 1, 37]) (y10d5 c)))
def y10d7 (c : Nat → FuncId) : LCode := (.seq (.sq [(zs 37 (.bsl ⟨16, true, 16, (.agg zk)⟩ 0 [])), (zs 38 (.mv false (.t 0))), (zs 39 (.app ⟨16, true, 16, (.agg zk)⟩ false (.t 37) (.t 38))), (zs 40 (.build [(.s .nilS)] [(0, 1, (.t 39))])), (zs 41 (.box false true (.t 40))), (zs 2 (.mv true (.t 41))), (zs 3 (.mv true zT))]) .ret)
def y10d8 (c : Nat → FuncId) : LCode := (.seq (.seq (.sq [(zs 4 (.mv true (zi 0)))]) (y10d6 c)) (y10d7 c))
def y10d9 (c : Nat → FuncId) : LCode := (.seq (.seq (.sq [(zs 5 (.mv false (.t 0))), (zs 6 (.len .sl (.t 5))), (zs 7 (.bin .gtr .sc (.t 6) (zi 7)))]) (y10d1 c)) (y10d8 c))
def U_hourglassref14_NewRoute (c : Nat → FuncId) := PLift.up (zc (zc (zc (@unfC _ _ (y10d1.eq_1 c)) (@unfC _ _ (y10d2.eq_1 c))) (zc (@unfC _ _ (y10d3.eq_1 c)) (@unfC _ _ (y10d4.eq_1 c)))) (zc (zc (@unfC _ _ (y10d5.eq_1 c)) (@unfC _ _ (y10d6.eq_1 c))) (zc (@unfC _ _ (y10d7.eq_1 c)) (zc (@unfC _ _ (y10d8.eq_1 c)) (@unfC _ _ (y10d9.eq_1 c))))))
def C_hourglassref14_NewRoute (c : Nat → FuncId) : LFn := ⟨42, [.t 2, .t 3], (.seq (.sq [(zs 2 (.mv true (.c .nilP))), (zs 3 (.mv true zF))]) (y10d9 c))⟩
def y10e1 (c : Nat → FuncId) : LCode := (.block 1 (.sq [(zs 28 (.mv false (.t 5))), (zs 29 (.bin .add .sc (.t 28) (zi 1))), (zs 5 (.mv true (.t 29)))]))
def y10e2 (c : Nat → FuncId) : LCode := (.seq (.seq (.tree (.rd (zs 9 (.mv false (.t 5))) 0 false (.rd (zs 10 (.mv false (.t 0))) 1 false (.rd (zs 11 (.nilc (.t 10))) 2 false (.rd (zs 12 (.shift 0 (.t 11))) 3 false (.rd (zs 13 (.load1 false (.t 12))) 4 false (.rd (zs 14 (.len .sl (.t 13))) 5 false (.rd (zs 15 (.bin .lss .sc (.t 9) (.t 14))) 6 false (.rd (zs 16 (.mv false (.t 15))) 7 false (.rd (zt 17 16 (.mv false (.t 0))) 8 false (.rd (zt 18 16 (.nilc (.t 17))) 9 false (.rd (zt 19 16 (.shift 0 (.t 18))) 10 false (.rd (zt 20 16 (.load1 false (.t 19))) 11 false (.rd (zt 21 16 (.mv false (.t 5))) 12 false (.rd (zt 22 16 (.ixa (.sl 16) (.t 20) (.t 21))) 13 false (.rd (zt 23 16 (.loadA 16 (.t 22))) 14 false (.rd (zt 24 16 (.loadA 16 (.t 3))) 15 false (.mv (zt 25 16 (.call (.f (c 1)) [(.t 23), (.t 24)])) [0, 1, 2, 3, 4, 5, 6, 7, 8, 9, 10, 11, 12, 13, 14, 15] (.rd (zt 26 16 (.bin .leq .sc (.t 25) (zi 0))) 17 false (.rd (zs 27 (.pick (.t 16) (.t 26) zF)) 18 false .done)) .stop)))))))))))))))))) (.cond (.t 27) .skip (.exit 0))) (y10e1 c))
def y10e3 (c : Nat → FuncId) : LCode := (.seq (.block 0 (.loop (zm false [0, 1, 2, 1, 1, 1, 25]) (y10e2 c))) (.seq (.sq [(zs 30 (.mv false (.t 5))), (zs 4 (.mv true (.t 30)))]) .ret))
def y10e4 (c : Nat → FuncId) : LCode := (.seq (.seq (.sq [(zs 6 (.loadA 16 (.t 3))), (zs 7 (.call (.f (c 0)) [(.t 6)])), (zs 8 (.un .not (.t 7)))]) (.cond (.t 8) (.seq (.sq [(zs 4 (.mv true (.c (.int .i64 (-1)))))]) .ret) .skip)) (.seq (.sq [(zs 5 (.mv true (zi 0)))]) (y10e3 c)))
def U_hourglassref14_Route_Of (c : Nat → FuncId) := PLift.up (zc (zc (@unfC _ _ (y10e1.eq_1 c)) (@unfC _ _ (y10e2.eq_1 c))) (zc (@unfC _ _ (y10e3.eq_1 c)) (@unfC _ _ (y10e4.eq_1 c))))
def C_hourglassref14_Route_Of (c : Nat → FuncId) : LFn := ⟨31, [.t 4], (.seq (.sq [(zs 3 (.box false false (.t 1))), (zs 4 (.mv true (zi 0)))]) (y10e4 c))⟩
def y10f1 (c : Nat → FuncId) : LCode := (.tree (.rd (zs 30 (.mv false (.t 5))) 0 true (.rd (zs 31 (.mv false (.t 7))) 1 true (.rd (zs 32 (.mv false (.t 5))) 2 false (.rd (zs 33 (.mv false (.t 7))) 3 false (.rd (zs 34 (.ixa (.sl 1) (.t 32) (.t 33))) 4 false (.rd (zs 36 (.mv false (.t 1))) 6 true (.rd (zs 37 (.mv false (.t 6))) 7 true (.rd (zs 38 (.ixa (.sl 18) (.t 36) (.t 37))) 8 true (.rd (zs 39 (.loadA 18 (.t 38))) 9 true (.rd (zs 40 (.bsl ⟨18, true, 40, (.agg (zk ++ [(.s (.str [])), (.s (.bool false))]))⟩ 1 [(0, (.t 39))])) 10 true (.mv (zs 35 (.load1 true (.t 34))) [2, 3, 4] (.mv (zs 41 (.app ⟨18, true, 40, (.agg (zk ++ [(.s (.str [])), (.s (.bool false))]))⟩ false (.t 35) (.t 40))) [2, 3, 4, 5, 6, 7, 8, 9, 10] (.rd (zs 42 (.ixa (.sl 1) (.t 30) (.t 31))) 12 false (.mv (zn (.store 1 (.t 42) (.t 41))) [0, 1, 2, 3, 4, 5, 6, 7, 8, 9, 10, 11, 12] .done .stop)) .stop) .stop))))))))))))
def y10f2 (c : Nat → FuncId) : LCode := (.seq (.sq [(zs 28 (.mv false (.t 7))), (zs 29 (.bin .geq .sc (.t 28) (zi 0)))]) (.cond (.t 29) (y10f1 c) .skip))
def y10f3 (c : Nat → FuncId) : LCode := (.sq [(zs 19 (.mv false (.t 6))), (zs 20 (.bin .add .sc (.t 19) (zi 1))), (zs 6 (.mv true (.t 20)))])
def y10f4 (c : Nat → FuncId) : LCode := (.seq (.block 1 (.seq (.sq [(zs 21 (.mv false (.t 0))), (zs 22 (.mv false (.t 1))), (zs 23 (.mv false (.t 6))), (zs 24 (.ixa (.sl 18) (.t 22) (.t 23))), (zs 25 (.shift 0 (.t 24))), (zs 26 (.loadA 16 (.t 25))), (zs 27 (.call (.f (c 0)) [(.t 21), (.t 26)])), (zs 7 (.mv true (.t 27)))]) (y10f2 c))) (y10f3 c))
def y10f5 (c : Nat → FuncId) : LCode := (.seq (.seq (.sq [(zs 15 (.mv false (.t 6))), (zs 16 (.mv false (.t 1))), (zs 17 (.len .sl (.t 16))), (zs 18 (.bin .lss .sc (.t 15) (.t 17)))]) (.cond (.t 18) .skip (.exit 0))) (y10f4 c))
def y10f6 (c : Nat → FuncId) : LCode := (.block 0 (.loop (zm false [0, 2, 3, 2, 37]) (y10f5 c)))
def y10f7 (c : Nat → FuncId) : LCode := (.seq (.seq (.sq [(zs 6 (.mv true (zi 0)))]) (y10f6 c)) (.seq (.sq [(zs 43 (.mv true (.t 5))), (zs 4 (.mv true (.t 43)))]) .ret))
def y10f8 (c : Nat → FuncId) : LCode := (.seq (.sq [(zs 8 (.mv false (.t 0))), (zs 9 (.nilc (.t 8))), (zs 10 (.shift 0 (.t 9))), (zs 11 (.load1 false (.t 10))), (zs 12 (.len .sl (.t 11))), (zs 13 (.bin .add .sc (.t 12) (zi 1))), (zs 14 (.mksl false true ⟨1, false, 24, (.s .nilS)⟩ (.t 13) (.t 13))), (zs 5 (.mv true (.t 14)))]) (y10f7 c))
def U_hourglassref14_Route_Split (c : Nat → FuncId) := PLift.up (zc (zc (zc (@unfC _ _ (y10f1.eq_1 c)) (@unfC _ _ (y10f2.eq_1 c))) (zc (@unfC _ _ (y10f3.eq_1 c)) (@unfC _ _ (y10f4.eq_1 c)))) (zc (zc (@unfC _ _ (y10f5.eq_1 c)) (@unfC _ _ (y10f6.eq_1 c))) (zc (@unfC _ _ (y10f7.eq_1 c)) (@unfC _ _ (y10f8.eq_1 c)))))
def C_hourglassref14_Route_Split (c : Nat → FuncId) : LFn := ⟨44, [.t 4], (.seq (.sq [(zs 4 (.mv true (.c .nilS)))]) (y10f8 c))⟩
def y10g1 (c : Nat → FuncId) : LCode := (.sq [(zs 23 (.mv true (.t 5))), (zs 24 (.mv false (.t 7))), (zs 25 (.bsl ⟨1, false, 8, (.s (.int .i64 0))⟩ 1 [(0, (.t 24))])), (zs 26 (.app ⟨1, false, 8, (.s (.int .i64 0))⟩ false (.t 23) (.t 25))), (zs 5 (.mv true (.t 26)))])
def y10g2 (c : Nat → FuncId) : LCode := (.sq [(zs 15 (.mv false (.t 7))), (zs 16 (.bin .add .sc (.t 15) (zi 1))), (zs 7 (.mv true (.t 16)))])
def y10g3 (c : Nat → FuncId) : LCode := (.seq (.block 1 (.seq (.sq [(zs 17 (.mv false (.t 6))), (zs 18 (.mv false (.t 7))), (zs 19 (.ixa (.sl 1) (.t 17) (.t 18))), (zs 20 (.load1 false (.t 19))), (zs 21 (.len .sl (.t 20))), (zs 22 (.bin .gtr .sc (.t 21) (zi 0)))]) (.cond (.t 22) (y10g1 c) .skip))) (y10g2 c))
def y10g4 (c : Nat → FuncId) : LCode := (.seq (.seq (.sq [(zs 11 (.mv false (.t 7))), (zs 12 (.mv false (.t 6))), (zs 13 (.len .sl (.t 12))), (zs 14 (.bin .lss .sc (.t 11) (.t 13)))]) (.cond (.t 14) .skip (.exit 0))) (y10g3 c))
def y10g5 (c : Nat → FuncId) : LCode := (.block 0 (.loop (zm false [5, 3, 20]) (y10g4 c)))
def y10g6 (c : Nat → FuncId) : LCode := (.seq (.seq (.sq [(zs 7 (.mv true (zi 0)))]) (y10g5 c)) (.seq (.sq [(zs 27 (.mv true (.t 5))), (zs 4 (.mv true (.t 27)))]) .ret))
def y10g7 (c : Nat → FuncId) : LCode := (.seq (.sq [(zs 8 (.mv false (.t 0))), (zs 9 (.mv true (.t 1))), (zs 10 (.call (.f (c 0)) [(.t 8), (.t 9)])), (zs 6 (.mv true (.t 10)))]) (y10g6 c))
def U_hourglassref14_Route_Parts (c : Nat → FuncId) := PLift.up (zc (zc (@unfC _ _ (y10g1.eq_1 c)) (zc (@unfC _ _ (y10g2.eq_1 c)) (@unfC _ _ (y10g3.eq_1 c)))) (zc (zc (@unfC _ _ (y10g4.eq_1 c)) (@unfC _ _ (y10g5.eq_1 c))) (zc (@unfC _ _ (y10g6.eq_1 c)) (@unfC _ _ (y10g7.eq_1 c)))))
def C_hourglassref14_Route_Parts (c : Nat → FuncId) : LFn := ⟨28, [.t 4], (.seq (.sq [(zs 4 (.mv true (.c .nilS)))]) (.seq (.sq [(zs 5 (.mv true (.c .nilS)))]) (y10g7 c)))⟩
def y10h1 (c : Nat → FuncId) : LCode := (.sq [(zs 76 (.mv true (.t 8))), (zs 77 (.mv false (.t 9))), (zs 78 (.bsl ⟨1, false, 8, (.s (.int .i64 0))⟩ 1 [(0, (.t 77))])), (zs 79 (.app ⟨1, false, 8, (.s (.int .i64 0))⟩ false (.t 76) (.t 78))), (zs 8 (.mv true (.t 79)))])
def y10h2 (c : Nat → FuncId) : LCode := (.seq (.sq [(zs 61 (.mv false (.t 10))), (zs 62 (.mv false (.t 61))), (zt 63 62 (.mv false (.t 11))), (zs 64 (.pick (.t 62) (.t 63) zF)), (zs 65 (.mv false (.t 64))), (zt 66 65 (.loadA 16 (.t 5))), (zt 67 65 (.loadA 16 (.t 7))), (zt 68 65 (.bin .eql (.leaf lk) (.t 66) (.t 67))), (zt 69 65 (.mv false (.t 68))), (zf 70 69 (.loadA 16 (.t 5))), (zf 71 69 (.loadA 16 (.t 4))), (zf 72 69 (.call (.f (c 0)) [(.t 70), (.t 71)])), (zf 73 69 (.bin .gtr .sc (.t 72) (zi 0))), (zt 74 65 (.pick (.t 69) zT (.t 73))), (zs 75 (.pick (.t 65) (.t 74) zF))]) (.cond (.t 75) (y10h1 c) .skip))
def y10h3 (c : Nat → FuncId) : LCode := (.seq (.tree (.rd (zs 41 (.mv false (.t 9))) 0 false (.rd (zs 42 (.bin .eql .sc (.t 41) (zi 0))) 1 false (.rd (zs 43 (.mv false (.t 42))) 2 false (.rd (zf 44 43 (.loadA 16 (.t 5))) 3 false (.rd (zf 45 43 (.loadA 16 (.t 7))) 4 false (.rd (zf 46 43 (.bin .eql (.leaf lk) (.t 44) (.t 45))) 5 false (.rd (zs 47 (.pick (.t 43) zT (.t 46))) 6 false (.rd (zs 48 (.mv false (.t 47))) 7 false (.rd (zf 49 48 (.mv false (.t 0))) 8 false (.rd (zf 50 48 (.nilc (.t 49))) 9 false (.rd (zf 51 48 (.shift 0 (.t 50))) 10 false (.rd (zf 52 48 (.load1 false (.t 51))) 11 false (.rd (zf 53 48 (.mv false (.t 9))) 12 false (.rd (zf 54 48 (.bin .sub .sc (.t 53) (zi 1))) 13 false (.rd (zf 55 48 (.ixa (.sl 16) (.t 52) (.t 54))) 14 false (.rd (zf 56 48 (.loadA 16 (.t 55))) 15 false (.rd (zf 57 48 (.loadA 16 (.t 5))) 16 false (.mv (zf 58 48 (.call (.f (c 0)) [(.t 56), (.t 57)])) [0, 1, 2, 3, 4, 5, 6, 7, 8, 9, 10, 11, 12, 13, 14, 15, 16] (.rd (zf 59 48 (.bin .lss .sc (.t 58) (zi 0))) 18 false (.rd (zs 60 (.pick (.t 48) zT (.t 59))) 19 false (.mv (zs 11 (.mv true (.t 60))) [0, 1, 2, 3, 4, 5, 6, 7, 8, 9, 10, 11, 12, 13, 14, 15, 16, 17, 18, 19] .done .stop))) .stop))))))))))))))))))) (y10h2 c))
def y10h4 (c : Nat → FuncId) : LCode := (.sq [(zs 20 (.mv false (.t 9))), (zs 21 (.bin .add .sc (.t 20) (zi 1))), (zs 9 (.mv true (.t 21)))])
def y10h5 (c : Nat → FuncId) : LCode := (.seq (.block 1 (.seq (.tree (.rd (zs 22 (.mv false (.t 9))) 0 false (.rd (zs 23 (.mv false (.t 0))) 1 false (.rd (zs 24 (.nilc (.t 23))) 2 false (.rd (zs 25 (.shift 0 (.t 24))) 3 false (.rd (zs 26 (.load1 false (.t 25))) 4 false (.rd (zs 27 (.len .sl (.t 26))) 5 false (.rd (zs 28 (.bin .eql .sc (.t 22) (.t 27))) 6 false (.rd (zs 29 (.mv false (.t 28))) 7 false (.rd (zf 30 29 (.mv false (.t 0))) 8 false (.rd (zf 31 29 (.nilc (.t 30))) 9 false (.rd (zf 32 29 (.shift 0 (.t 31))) 10 false (.rd (zf 33 29 (.load1 false (.t 32))) 11 false (.rd (zf 34 29 (.mv false (.t 9))) 12 false (.rd (zf 35 29 (.ixa (.sl 16) (.t 33) (.t 34))) 13 false (.rd (zf 36 29 (.loadA 16 (.t 35))) 14 false (.rd (zf 37 29 (.loadA 16 (.t 4))) 15 false (.mv (zf 38 29 (.call (.f (c 0)) [(.t 36), (.t 37)])) [0, 1, 2, 3, 4, 5, 6, 7, 8, 9, 10, 11, 12, 13, 14, 15] (.rd (zf 39 29 (.bin .gtr .sc (.t 38) (zi 0))) 17 false (.rd (zs 40 (.pick (.t 29) zT (.t 39))) 18 false (.mv (zs 10 (.mv true (.t 40))) [0, 1, 2, 3, 4, 5, 6, 7, 8, 9, 10, 11, 12, 13, 14, 15, 16, 17, 18] .done .stop))) .stop)))))))))))))))))) (y10h3 c))) (y10h4 c))
def y10h6 (c : Nat → FuncId) : LCode := (.seq (.seq (.sq [(zs 13 (.mv false (.t 9))), (zs 14 (.mv false (.t 0))), (zs 15 (.nilc (.t 14))), (zs 16 (.shift 0 (.t 15))), (zs 17 (.load1 false (.t 16))), (zs 18 (.len .sl (.t 17))), (zs 19 (.bin .leq .sc (.t 13) (.t 18)))]) (.cond (.t 19) .skip (.exit 0))) (y10h5 c))
def y10h7 (c : Nat → FuncId) : LCode := (.block 0 (.loop (zm false [0, 1, 3, 2, 1, 3, 71]) (y10h6 c)))
def y10h8 (c : Nat → FuncId) : LCode := (.seq (.seq (.sq [(zs 9 (.mv true (zi 0)))]) (y10h7 c)) (.seq (.sq [(zs 80 (.mv true (.t 8))), (zs 6 (.mv true (.t 80)))]) .ret))
def y10h9 (c : Nat → FuncId) : LCode := (.seq (.sq [(zs 12 (.build zk [])), (zs 7 (.alloc false zk)), (zn (.store 16 (.t 7) (.t 12)))]) (.seq (.sq [(zs 8 (.mv true (.c .nilS)))]) (y10h8 c)))
def C_hourglassref14_Route_Cover (c : Nat → FuncId) : LFn := ⟨81, [.t 6], (.seq (.sq [(zs 4 (.box false false (.t 1))), (zs 5 (.box false false (.t 2))), (zs 6 (.mv true (.c .nilS)))]) (y10h9 c))⟩
def y10i1 : LCode := (.sq [(zs 15 (.mv false (.t 5))), (zs 16 (.bin .add .sc (.t 15) (zi 1))), (zs 5 (.mv true (.t 16)))])
def y10i2 : LCode := (.seq (.block 1 (.seq (.tree (.rd (zs 17 (.mv false (.t 0))) 0 false (.rd (zs 18 (.mv false (.t 5))) 1 false (.rd (zs 19 (.ixa (.sl 1) (.t 17) (.t 18))) 2 false (.rd (zs 20 (.load1 false (.t 19))) 3 false (.rd (zs 21 (.mv false (.t 1))) 4 false (.rd (zs 22 (.mv false (.t 5))) 5 false (.rd (zs 23 (.ixa (.sl 1) (.t 21) (.t 22))) 6 false (.rd (zs 24 (.load1 false (.t 23))) 7 false (.rd (zs 25 (.bin .neq .sc (.t 20) (.t 24))) 8 false .done)))))))))) (.cond (.t 25) (.seq (.sq [(zs 4 (.mv true zF))]) .ret) .skip))) y10i1)
def y10i3 : LCode := (.seq (.seq (.sq [(zs 11 (.mv false (.t 5))), (zs 12 (.mv false (.t 0))), (zs 13 (.len .sl (.t 12))), (zs 14 (.bin .lss .sc (.t 11) (.t 13)))]) (.cond (.t 14) .skip (.exit 0))) y10i2)
def y10i4 : LCode := (.block 0 (.loop (zm false [0, 2, 3, 1, 20]) y10i3))
def y10i5 : LCode := (.seq (.seq (.sq [(zs 5 (.mv true (zi 0)))]) y10i4) (.seq (.sq [(zs 4 (.mv true zT))]) .ret))
def y10i6 : LCode := (.seq (.seq (.sq [(zs 6 (.mv false (.t 0))), (zs 7 (.len .sl (.t 6))), (zs 8 (.mv false (.t 1))), (zs 9 (.len .sl (.t 8))), (zs 10 (.bin .neq .sc (.t 7) (.t 9)))]) (.cond (.t 10) (.seq (.sq [(zs 4 (.mv true zF))]) .ret) .skip)) y10i5)
def U_hourglasslaw17_same := PLift.up (zc (zc (@unfC _ _ (y10i1.eq_1)) (zc (@unfC _ _ (y10i2.eq_1)) (@unfC _ _ (y10i3.eq_1)))) (zc (@unfC _ _ (y10i4.eq_1)) (zc (@unfC _ _ (y10i5.eq_1)) (@unfC _ _ (y10i6.eq_1)))))
def C_hourglasslaw17_same : LFn := ⟨26, [.t 4], (.seq (.sq [(zs 4 (.mv true zF))]) y10i6)⟩
def y10j1 (c : Nat → FuncId) : LCode := (.seq (.sq [(zs 45 (.mv false (.t 14))), (zs 46 (.un .not (.t 45))), (zs 47 (.mv false (.t 46))), (zt 48 47 (.mv false (.t 12))), (zt 49 47 (.bin .eql .sc (.t 48) (zi 1))), (zs 50 (.pick (.t 47) (.t 49) zF)), (zs 51 (.mv false (.t 50))), (zt 52 51 (.mv false (.t 11))), (zt 53 51 (.bin .eql (.ref 0) (.t 52) (.c .nilP))), (zs 54 (.pick (.t 51) (.t 53) zF)), (zs 10 (.mv true (.t 54)))]) .ret)
def y10j2 (c : Nat → FuncId) : LCode := (.sq [(zs 78 (.mv false (.t 17))), (zs 79 (.bin .add .sc (.t 78) (zi 1))), (zs 17 (.mv true (.t 79)))])
def y10j3 (c : Nat → FuncId) : LCode := (.seq (.block 1 (.seq (.tree (.rd (zs 80 (.mv false (.t 15))) 0 false (.rd (zs 81 (.mv false (.t 17))) 1 false (.rd (zs 82 (.ixa (.sl 1) (.t 80) (.t 81))) 2 false (.rd (zs 83 (.load1 false (.t 82))) 3 false (.rd (zs 84 (.mv false (.t 16))) 4 false (.rd (zs 85 (.mv false (.t 17))) 5 false (.rd (zs 86 (.ixa (.sl 1) (.t 84) (.t 85))) 6 false (.rd (zs 87 (.load1 false (.t 86))) 7 false (.mv (zs 88 (.call (.f (c 7)) [(.t 83), (.t 87)])) [0, 1, 2, 3, 4, 5, 6, 7] (.rd (zs 89 (.un .not (.t 88))) 9 false .done) .stop)))))))))) (.cond (.t 89) (.seq (.sq [(zs 10 (.mv true zF))]) .ret) .skip))) (y10j2 c))
def y10j4 (c : Nat → FuncId) : LCode := (.seq (.seq (.sq [(zs 74 (.mv false (.t 17))), (zs 75 (.mv false (.t 15))), (zs 76 (.len .sl (.t 75))), (zs 77 (.bin .lss .sc (.t 74) (.t 76)))]) (.cond (.t 77) .skip (.exit 0))) (y10j3 c))
def y10j5 (c : Nat → FuncId) : LCode := (.block 0 (.loop (zm false [2, 1, 3, 1, 1, 2, 1, 1, 1, 1, 1, 3, 99]) (y10j4 c)))
def y10j6 (c : Nat → FuncId) : LCode := (.seq (.tree (.rd (zs 90 (.mv false (.t 11))) 0 false (.rd (zs 91 (.loadA 16 (.t 6))) 1 false (.rd (zs 93 (.mv false (.t 13))) 3 true (.rd (zs 94 (.loadA 16 (.t 6))) 4 true (.mv (zs 92 (.call (.f (c 8)) [(.t 90), (.t 91)])) [0, 1] (.mv (zs 95 (.call (.f (c 9)) [(.t 93), (.t 94)])) [0, 1, 2, 3, 4] (.rd (zs 96 (.bin .eql .sc (.t 92) (.t 95))) 6 false (.rd (zs 97 (.mv false (.t 96))) 7 false (.rd (zt 98 97 (.mv false (.t 11))) 8 false (.rd (zt 99 97 (.mv false (.t 2))) 9 false (.rd (zt 101 97 (.mv false (.t 13))) 11 true (.rd (zt 102 97 (.mv false (.t 2))) 12 true (.mv (zt 100 97 (.call (.f (c 10)) [(.t 98), (.t 99)])) [0, 1, 2, 3, 4, 5, 6, 7, 8, 9] (.mv (zt 103 97 (.call (.f (c 11)) [(.t 101), (.t 102)])) [0, 1, 2, 3, 4, 5, 6, 7, 8, 9, 10, 11, 12] (.mv (zt 104 97 (.call (.f (c 12)) [(.t 100), (.t 103)])) [0, 1, 2, 3, 4, 5, 6, 7, 8, 9, 10, 11, 12, 13] (.rd (zs 105 (.pick (.t 97) (.t 104) zF)) 15 false (.rd (zs 106 (.mv false (.t 105))) 16 false (.rd (zt 107 106 (.mv false (.t 11))) 17 false (.rd (zt 108 106 (.loadA 16 (.t 8))) 18 false (.rd (zt 109 106 (.loadA 16 (.t 9))) 19 false (.rd (zt 111 106 (.mv false (.t 13))) 21 true (.rd (zt 112 106 (.loadA 16 (.t 8))) 22 true (.rd (zt 113 106 (.loadA 16 (.t 9))) 23 true (.mv (zt 110 106 (.call (.f (c 13)) [(.t 107), (.t 108), (.t 109)])) [0, 1, 2, 3, 4, 5, 6, 7, 8, 9, 10, 11, 12, 13, 14, 15, 16, 17, 18, 19] (.mv (zt 114 106 (.call (.f (c 14)) [(.t 111), (.t 112), (.t 113)])) [0, 1, 2, 3, 4, 5, 6, 7, 8, 9, 10, 11, 12, 13, 14, 15, 16, 17, 18, 19, 20, 21, 22, 23] (.mv (zt 115 106 (.call (.f (c 12)) [(.t 110), (.t 114)])) [0, 1, 2, 3, 4, 5, 6, 7, 8, 9, 10, 11, 12, 13, 14, 15, 16, 17, 18, 19, 20, 21, 22, 23, 24] (.rd (zs 116 (.pick (.t 106) (.t 115) zF)) 26 false (.mv (zs 10 (.mv true (.t 116))) [0, 1, 2, 3, 4, 5, 6, 7, 8, 9, 10, 11, 12, 13, 14, 15, 16, 17, 18, 19, 20, 21, 22, 23, 24, 25, 26] .done .stop)) .stop) .stop) .stop))))))))) .stop) .stop) .stop))))))) .stop) .stop)))))) .ret)
def y10j7 (c : Nat → FuncId) : LCode := (.seq (.seq (.sq [(zs 17 (.mv true (zi 0)))]) (y10j5 c)) (y10j6 c))
def y10j8 (c : Nat → FuncId) : LCode := (.seq (.seq (.sq [(zs 61 (.mv false (.t 15))), (zs 62 (.len .sl (.t 61))), (zs 63 (.mv false (.t 16))), (zs 64 (.len .sl (.t 63))), (zs 65 (.bin .neq .sc (.t 62) (.t 64))), (zs 66 (.mv false (.t 65))), (zf 67 66 (.mv false (.t 11))), (zf 68 66 (.call (.f (c 6)) [(.t 67)])), (zf 69 66 (.mv false (.t 0))), (zf 70 66 (.len .sl (.t 69))), (zf 71 66 (.bin .add .sc (.t 70) (zi 1))), (zf 72 66 (.bin .neq .sc (.t 68) (.t 71))), (zs 73 (.pick (.t 66) zT (.t 72)))]) (.cond (.t 73) (.seq (.sq [(zs 10 (.mv true zF))]) .ret) .skip)) (y10j7 c))
def y10j9 (c : Nat → FuncId) : LCode := (.seq (.sq [(zs 55 (.mv false (.t 11))), (zs 56 (.mv false (.t 2))), (zs 57 (.call (.f (c 4)) [(.t 55), (.t 56)])), (zs 58 (.mv false (.t 13))), (zs 59 (.mv false (.t 2))), (zs 60 (.call (.f (c 5)) [(.t 58), (.t 59)])), (zs 15 (.mv true (.t 57))), (zs 16 (.mv true (.t 60)))]) (y10j8 c))
def y10j10 (c : Nat → FuncId) : LCode := (.seq (.seq (.sq [(zs 37 (.mv false (.t 12))), (zs 38 (.bin .eql .sc (.t 37) (zi 0))), (zs 39 (.mv false (.t 14))), (zs 40 (.bin .neq .bl (.t 38) (.t 39))), (zs 41 (.mv false (.t 40))), (zf 42 41 (.mv false (.t 14))), (zf 43 41 (.un .not (.t 42))), (zs 44 (.pick (.t 41) zT (.t 43)))]) (.cond (.t 44) (y10j1 c) .skip)) (y10j9 c))
def y10j11 (c : Nat → FuncId) : LCode := (.seq (.sq [(zs 33 (.mv false (.t 0))), (zs 34 (.call (.f (c 3)) [(.t 33)])), (zs 32 (.mv false (.t 34))), (zs 35 (.ext (.t 32) 0)), (zs 36 (.ext (.t 32) 1)), (zs 13 (.mv true (.t 35))), (zs 14 (.mv true (.t 36)))]) (y10j10 c))
def y10j12 (c : Nat → FuncId) : LCode := (.seq (.sq [(zs 28 (.mv false (.t 0))), (zs 29 (.call (.f (c 2)) [(.t 28)])), (zs 27 (.mv false (.t 29))), (zs 30 (.ext (.t 27) 0)), (zs 31 (.ext (.t 27) 1)), (zs 11 (.mv true (.t 30))), (zs 12 (.mv true (.t 31)))]) (y10j11 c))
def y10j13 (c : Nat → FuncId) : LCode := (.seq (.seq (.sq [(zs 20 (.mv false (.t 0))), (zs 21 (.len .sl (.t 20))), (zs 22 (.bin .gtr .sc (.t 21) (zi 12))), (zs 23 (.mv false (.t 22))), (zf 24 23 (.mv false (.t 2))), (zf 25 23 (.call (.f (c 1)) [(.t 24)])), (zs 26 (.pick (.t 23) zT (.t 25)))]) (.cond (.t 26) (.seq (.sq [(zs 10 (.mv true zT))]) .ret) .skip)) (y10j12 c))
def y10j14 (c : Nat → FuncId) : LCode := (.seq (.seq (.sq [(zs 18 (.call (.f (c 0)) [])), (zs 19 (.un .not (.t 18)))]) (.cond (.t 19) (.seq (.sq [(zs 10 (.mv true zF))]) .ret) .skip)) (y10j13 c))
def U_hourglasslaw17_RouteSays (c : Nat → FuncId) := PLift.up (zc (zc (zc (@unfC _ _ (y10j1.eq_1 c)) (zc (@unfC _ _ (y10j2.eq_1 c)) (@unfC _ _ (y10j3.eq_1 c)))) (zc (zc (@unfC _ _ (y10j4.eq_1 c)) (@unfC _ _ (y10j5.eq_1 c))) (zc (@unfC _ _ (y10j6.eq_1 c)) (@unfC _ _ (y10j7.eq_1 c))))) (zc (zc (@unfC _ _ (y10j8.eq_1 c)) (zc (@unfC _ _ (y10j9.eq_1 c)) (@unfC _ _ (y10j10.eq_1 c)))) (zc (zc (@unfC _ _ (y10j11.eq_1 c)) (@unfC _ _ (y10j12.eq_1 c))) (zc (@unfC _ _ (y10j13.eq_1 c)) (@unfC _ _ (y10j14.eq_1 c))))))
def C_hourglasslaw17_RouteSays (c : Nat → FuncId) : LFn := ⟨117, [.t 10], (.seq (.sq [(zs 6 (.box false false (.t 1))), (zs 8 (.box false false (.t 3))), (zs 9 (.box false false (.t 4))), (zs 10 (.mv true zF))]) (y10j14 c))⟩
end Go.AM
namespace Go.AM
open Go
open AV renaming undef → uu
set_option maxRecDepth 20000
def PdqN (C : CallW) (f : FuncId) : Prop := ∀ S H (K : AV → St → Prop), K (.tup []) ⟨S, H⟩ → C (.fn f) [.s .nilS, .s (.int .i64 (0 : Nat)), .s (.int .i64 (0 : Nat)), .s (.int .i64 (0 : Nat))] ⟨S, H⟩ K
def SrtN (C : CallW) (f : FuncId) : Prop := ∀ S H (K : AV → St → Prop), K (.tup []) ⟨S, H⟩ → C (.fn f) [.s .nilS, .s (.int .i64 (0 : Nat)), .s (.int .i64 (0 : Nat))] ⟨S, H⟩ K
def OneN (C : CallW) (f : FuncId) (r : AV) : Prop := ∀ S H (K : AV → St → Prop), K r ⟨S, H⟩ → C (.fn f) [.s .nilS] ⟨S, H⟩ K
set_option maxHeartbeats 4000000 in
theorem insertionSort_nil {C : CallW} (hC : LeC C C) (P : Program) {c : Nat → FuncId} : ∀ S H (K : AV → St → Prop), K (.tup []) ⟨S, H⟩ → runL C P (C_slices_insertionSortOrdered_int64 c) [.s .nilS, .s (.int .i64 (0 : Nat)), .s (.int .i64 (0 : Nat))] ⟨S, H⟩ K := by
  intro S H K hK
  have hw0 : IntKind.i64.wrap (((0 : Nat) : Int) + 1) = 1 := rfl
  simp only [C_slices_insertionSortOrdered_int64, A_, simprocAttr, ne_eq, (U_slices_insertionSortOrdered_int64 _).1, hw0]
  refine loop_rule hC (α := Unit) (fun x => 0) (fun x => [.s .nilS, .s (.int .i64 (0 : Nat)), .s (.int .i64 (0 : Nat)), uu, uu, uu, .s (.int .i64 1), uu, uu, uu, uu, uu, uu, uu, uu, uu, uu, uu, uu, uu, uu, uu, uu, uu, uu, uu, uu, uu, uu, uu, uu, uu, uu, uu, uu, uu, uu, uu, uu, uu, uu, uu, uu, uu, uu, uu, uu, uu, uu]) (fun x => S) (fun _ => H) (fun x => True) () trivial (by simp [keep, zm]) (by rw [List.take_of_length_le (Nat.le_refl _)]) rfl (fun x _ => by simp [AV.under, AV.under.go]) ?_
  rintro x hx ih
  have hlt : ((1 : Int) < ((0 : Nat) : Int)) = False := eq_false (by omega)
  have hlt2 : ((1 : Int) < 0) = False := eq_false (by omega)
  simp only [C_slices_insertionSortOrdered_int64, A_, simprocAttr, ne_eq, (U_slices_insertionSortOrdered_int64 _).1, hlt, hlt2]
  exact hK
set_option maxHeartbeats 4000000 in
theorem pdqsort_nil {C : CallW} (hC : LeC C C) (P : Program) {c : Nat → FuncId} (h0 : SrtN C (c 0)) : ∀ S H (K : AV → St → Prop), K (.tup []) ⟨S, H⟩ → runL C P (C_slices_pdqsortOrdered_int64 c) [.s .nilS, .s (.int .i64 (0 : Nat)), .s (.int .i64 (0 : Nat)), .s (.int .i64 (0 : Nat))] ⟨S, H⟩ K := by
  intro S H K hK
  simp only [C_slices_pdqsortOrdered_int64, A_, simprocAttr, ne_eq, (U_slices_pdqsortOrdered_int64 _).1]
  refine loop_rule hC (α := Unit) (fun x => 0) (fun x => [.s .nilS, .s (.int .i64 (0 : Nat)), .s (.int .i64 (0 : Nat)), .s (.int .i64 (0 : Nat)), uu, uu, uu, uu, .s (.bool true), .s (.bool true), uu, uu, uu, uu, uu, uu, uu, uu, uu, uu, uu, uu, uu, uu, uu, uu, uu, uu, uu, uu, uu, uu, uu, uu, uu, uu, uu, uu, uu, uu, uu, uu, uu, uu, uu, uu, uu, uu, uu, uu, uu, uu, uu, uu, uu, uu, uu, uu, uu, uu, uu, uu, uu, uu, uu, uu, uu, uu, uu, uu, uu, uu, uu, uu, uu, uu, uu, uu, uu, uu, uu, uu, uu, uu, uu, uu, uu, uu, uu, uu, uu, uu, uu, uu, uu, uu, uu, uu, uu, uu, uu, uu, uu, uu, uu, uu, uu, uu, uu, uu, uu, uu, uu, uu, uu, uu, uu, uu, uu, uu, uu, uu, uu, uu, uu, uu, uu, uu, uu, uu, uu, uu, uu, uu]) (fun x => S) (fun _ => H) (fun x => True) () trivial (by simp [keep, zm]) (by rw [List.take_of_length_le (Nat.le_refl _)]) rfl (fun x _ => by simp [AV.under, AV.under.go]) ?_
  rintro x hx ih
  have hw : IntKind.i64.wrap (((0 : Nat) : Int) - ((0 : Nat) : Int)) = 0 := rfl
  have hlt : ((0 : Int) ≤ 12) = True := eq_true (by omega)
  simp only [C_slices_pdqsortOrdered_int64, A_, simprocAttr, ne_eq, (U_slices_pdqsortOrdered_int64 _).1, hw, hlt]
  refine h0 _ _ _ ?_
  simp only [C_slices_pdqsortOrdered_int64, A_, simprocAttr, ne_eq, (U_slices_pdqsortOrdered_int64 _).1]
  exact hK
def SortIS (C : CallW) (f : FuncId) : Prop := ∀ (n : Nat) (d : Array Int) (S : List (List AV)) (H : List HObj) (K : AV → St → Prop), S[n]? = some (flat iA d) → d.size ≤ 2305843009213693952 → (∀ R, Sort.PermIn 0 d.size d R → Sort.SortedIn ltI 0 d.size R → K (.tup []) ⟨S.set n (flat iA R), H⟩) → C (.fn f) [.row (.stk n) 0 d.size d.size] ⟨S, H⟩ K
theorem Sort_int_spec {C : CallW} (P : Program) {c : Nat → FuncId} (h0 : LenS C (c 0)) (h1 : ∀ m, PdqS C (c 1) m) : ∀ (n : Nat) (d : Array Int) (S : List (List AV)) (H : List HObj) (K : AV → St → Prop), S[n]? = some (flat iA d) → d.size ≤ 2305843009213693952 → (∀ R, Sort.PermIn 0 d.size d R → Sort.SortedIn ltI 0 d.size R → K (.tup []) ⟨S.set n (flat iA R), H⟩) → runL C P (C_slices_Sort_int c) [.row (.stk n) 0 d.size d.size] ⟨S, H⟩ K := by
  intro n d S H K hS hd hK
  have hc : IntKind.u64.wrap (d.size : Int) = (d.size : Int) := wu64 (by omega)
  simp only [C_slices_Sort_int, A_, simprocAttr, ne_eq, (U_slices_Sort_int _).1, convL, hc]
  refine h0 d.size (by omega) _ _ _ ?_
  have hb := bitsLen_le (x := d.size) (k := 62) (by omega)
  simp only [A_, simprocAttr, ne_eq, (U_slices_Sort_int _).1]
  refine h1 (d.size + 1) n d 0 d.size (Sort.bitsLen d.size) _ _ _ hS (Nat.zero_le _) (Nat.le_refl _) hd (by omega) (by omega) (.inl rfl) fun R h2 h3 => ?_
  simp only [A_, simprocAttr, ne_eq, (U_slices_Sort_int _).1]
  exact hK R h2 h3
theorem Sort_int_nil {C : CallW} (P : Program) {c : Nat → FuncId} (h0 : LenS C (c 0)) (h1 : PdqN C (c 1)) : ∀ S H (K : AV → St → Prop), K (.tup []) ⟨S, H⟩ → runL C P (C_slices_Sort_int c) [.s .nilS] ⟨S, H⟩ K := by
  intro S H K hK
  have hc : IntKind.u64.wrap (0 : Int) = ((0 : Nat) : Int) := rfl
  simp only [C_slices_Sort_int, A_, simprocAttr, ne_eq, (U_slices_Sort_int _).1, convL, hc]
  refine h0 0 (by omega) _ _ _ ?_
  simp only [A_, simprocAttr, ne_eq, (U_slices_Sort_int _).1]
  refine h1 _ _ _ ?_
  simp only [A_, simprocAttr, ne_eq, (U_slices_Sort_int _).1]
  exact hK
def compStep (acc : List Int) (y : Int) : List Int := if acc.getLast? = some y then acc else acc ++ [y]
def compI (l : List Int) : List Int := l.foldl compStep []
theorem compI_snoc (l : List Int) (y : Int) : compI (l ++ [y]) = compStep (compI l) y := by simp [compI, List.foldl_append]
theorem compI_last (l : List Int) : (compI l).getLast? = l.getLast? := by
  rcases List.eq_nil_or_concat l with rfl | ⟨l, y, rfl⟩
  · rfl
  · rw [List.concat_eq_append, compI_snoc]
    unfold compStep
    split
    · rename_i h; simpa using h
    · simp
theorem take_at {d : Array Int} {m : Nat} (h : m < d.size) : d.toList.take (m + 1) = d.toList.take m ++ [d[m]!] := by
  have h2 : m < d.toList.length := by simpa using h
  rw [List.take_succ_eq_append_getElem h2, get_bang h]
theorem compI_take {d : Array Int} {m : Nat} (h : m + 1 < d.size) : compI (d.toList.take (m + 2)) = if d[m + 1]! = d[m]! then compI (d.toList.take (m + 1)) else compI (d.toList.take (m + 1)) ++ [d[m + 1]!] := by
  rw [take_at (m := m + 1) h, compI_snoc]
  unfold compStep
  rw [compI_last, take_at (m := m) (by omega)]
  simp only [List.getLast?_append, List.getLast?_singleton, Option.some_or, Option.some.injEq]
  by_cases e : d[m]! = d[m + 1]!
  · rw [if_pos e, if_pos e.symm]
  · rw [if_neg e, if_neg (fun x => e x.symm)]
theorem flat_iA (d : Array Int) : flat iA d = d.toList.map iA := by
  unfold flat
  generalize d.toList = l
  induction l with
  | nil => rfl
  | cons x l ih => rw [List.flatMap_cons, ih]; rfl
def CompS (C : CallW) (f : FuncId) : Prop := ∀ (n : Nat) (d : Array Int) (S : List (List AV)) (H : List HObj) (K : AV → St → Prop), S[n]? = some (flat iA d) → d.size ≤ 2305843009213693952 → (∀ (k : Nat) (e : Array Int), k ≤ d.size → e.size = d.size → e.toList.take k = compI d.toList → K (.row (.stk n) 0 k d.size) ⟨S.set n (flat iA e), H⟩) → C (.fn f) [.row (.stk n) 0 d.size d.size] ⟨S, H⟩ K
theorem slr_lo {r : Ref} {N k : Nat} {kk : IntKind} (h : k < N) : sliceL (.sl 1) (.row r 0 N N) (some (.s (.int kk (k : Int)))) none none = some (.row r k (N - k) (N - k)) := by
  have h0 : (0 : Int) ≤ k := by omega
  have h1 : k ≤ N := by omega
  simp [sliceL, bound, h0, h1, h]
theorem slr_hi {r : Ref} {N k : Nat} {kk : IntKind} (h : k ≤ N) (hN : 0 < N) : sliceL (.sl 1) (.row r 0 N N) none (some (.s (.int kk (k : Int)))) none = some (.row r 0 k N) := by
  have h0 : (0 : Int) ≤ k := by omega
  simp [sliceL, bound, h0, h, hN]
theorem clr_i {S : List (List AV)} {H : List HObj} {n k N : Nat} {e : Array Int} {et : ET} (hz : et.z = .s (.int .i64 0)) (hS : S[n]? = some (flat iA e)) (he : e.size = N) (hk : k < N) : clearL et (.row (.stk n) k (N - k) (N - k)) ⟨S, H⟩ = some ⟨S.set n (flat iA (e.toList.take k ++ List.replicate (N - k) 0).toArray), H⟩ := by
  have hf : (List.replicate (N - k) (AV.s (.int .i64 0)).cells).flatten = List.replicate (N - k) (AV.s (.int .i64 0)) := by
    show (List.replicate (N - k) [AV.s (.int .i64 0)]).flatten = _
    simp
  have hl : k + (List.replicate (N - k) (AV.s (.int .i64 0))).length ≤ (flat iA e).length := by rw [flat_length iA_EK, List.length_replicate]; omega
  have hu : ∀ m j, AV.under.go m (List.replicate j (AV.s (.int .i64 0))) = true := by
    intro m j
    induction j with
    | zero => rfl
    | succ j ih => exact ih
  simp only [clearL, hz, hf, writeCells, boxOf_stk, hS, Option.bind_some, mayHold]
  rw [if_pos (by rw [Bool.and_eq_true]; exact ⟨decide_eq_true hl, hu _ _⟩)]
  have hsp : splice (flat iA e) k (List.replicate (N - k) (AV.s (.int .i64 0))) = flat iA (e.toList.take k ++ List.replicate (N - k) 0).toArray := by
    have hel : e.toList.length = N := by simpa using he
    have hd : ∀ j, N ≤ j → (flat iA e).drop j = [] := fun j hj => List.drop_of_length_le (by rw [flat_length iA_EK]; omega)
    rw [flat_iA, flat_iA]
    have hd2 : (e.toList.map iA).drop N = [] := List.drop_of_length_le (by simp; omega)
    unfold splice
    split
    · rename_i v hv
      have h1 : N - k = 1 := by have := congrArg List.length hv; simpa using this
      rw [h1] at hv
      cases hv
      rw [List.set_eq_take_append_cons_drop, if_pos (by simp; omega), h1, show k + 1 = N by omega, hd2]
      simp [List.map_take, iA]
    · simp only [List.length_replicate]
      rw [show k + (N - k) = N by omega, hd2]
      simp [List.map_take, iA]
  rw [hsp]
  rfl
set_option maxHeartbeats 16000000 in
theorem Compact_spec {C : CallW} (hC : LeC C C) (P : Program) : ∀ (n : Nat) (d : Array Int) (S : List (List AV)) (H : List HObj) (K : AV → St → Prop), S[n]? = some (flat iA d) → d.size ≤ 2305843009213693952 → (∀ (k : Nat) (e : Array Int), k ≤ d.size → e.size = d.size → e.toList.take k = compI d.toList → K (.row (.stk n) 0 k d.size) ⟨S.set n (flat iA e), H⟩) → runL C P C_slices_Compact_int [.row (.stk n) 0 d.size d.size] ⟨S, H⟩ K := by
  intro n d S H K hS hd hK
  have hn := slt hS
  have hDl : d.toList.length = d.size := by simp
  by_cases h2 : d.size < 2
  · have hlt : ((d.size : Int) < 2) = True := eq_true (by omega)
    simp only [C_slices_Compact_int, A_, simprocAttr, ne_eq, U_slices_Compact_int.1, hlt]
    have hc : d.toList.take d.size = compI d.toList := by
      rw [List.take_of_length_le (by omega)]
      match hd2 : d.toList with
      | [] => rfl
      | [x] => rfl
      | x :: y :: l => rw [hd2] at hDl; simp at hDl; omega
    have := hK d.size d (Nat.le_refl _) rfl hc
    rw [sself hS] at this
    exact ⟨decide_eq_true hn, this⟩
  have hlt : ((d.size : Int) < 2) = False := eq_false (by omega)
  obtain ⟨N, hN⟩ : ∃ N, d.size = N := ⟨_, rfl⟩
  rw [hN] at h2 hlt hd hK hDl ⊢
  simp only [C_slices_Compact_int, A_, simprocAttr, ne_eq, U_slices_Compact_int.1, hlt]
  refine loop_rule hC (α := Nat) (fun x => N - x) (fun x => [.row (.stk n) 0 N N, uu, uu, .s (.int .i64 (x : Nat)), uu, uu, uu, uu, uu, uu, uu, uu, uu, uu, uu, uu, uu, uu, uu, uu, uu, uu, uu, uu, uu, uu, uu, uu, uu, uu, uu, uu, uu, uu, uu, uu, uu, uu, uu, uu, uu, uu, uu, uu, uu, uu, uu, uu, uu, uu, uu, uu, uu, uu, uu, uu, uu, uu, uu, uu, uu]) (fun _ => S) (fun _ => H) (fun x => 1 ≤ x ∧ x ≤ N ∧ compI (d.toList.take x) = d.toList.take x) 1 ⟨Nat.le_refl _, by omega, by rw [take_at (m := 0) (by omega)]; rfl⟩ (by simp [keep, zm]) (by rw [List.take_of_length_le (Nat.le_refl _)]) rfl (fun x _ => by simp [AV.under, AV.under.go, hn]) ?_
  rintro k ⟨hk1, hk, hinv⟩ ih
  by_cases hkN : k < N
  case neg =>
    have hlt2 : ((k : Int) < (N : Int)) = False := eq_false (by omega)
    have hkN' : k = N := by omega
    simp only [C_slices_Compact_int, A_, simprocAttr, ne_eq, U_slices_Compact_int.1, hlt2]
    rw [hkN', List.take_of_length_le (by omega)] at hinv
    have := hK N d (Nat.le_refl _) hN (by rw [List.take_of_length_le (by omega)]; exact hinv.symm)
    rw [sself hS] at this
    exact ⟨decide_eq_true hn, this⟩
  have hlt2 : ((k : Int) < (N : Int)) = True := eq_true (by omega)
  obtain ⟨j, rfl⟩ : ∃ j, k = j + 1 := ⟨k - 1, by omega⟩
  have hw0 : IntKind.i64.wrap (((j + 1 : Nat) : Int) - 1) = ((j : Nat) : Int) := by rw [wrap_i64 (by omega) (by omega)]; omega
  have hw1 : IntKind.i64.wrap (((j + 1 : Nat) : Int) + 1) = ((j + 2 : Nat) : Int) := by rw [wrap_i64 (by omega) (by omega)]; omega
  have x1 : ∀ kk : IntKind, indexAddrL (.sl 1) (.row (.stk n) 0 N N) (.s (.int kk ((j + 1 : Nat) : Int))) = some (.ptr (.stk n) (j + 1)) := fun kk => ixi (by omega)
  have x2 : ∀ kk : IntKind, indexAddrL (.sl 1) (.row (.stk n) 0 N N) (.s (.int kk ((j : Nat) : Int))) = some (.ptr (.stk n) j) := fun kk => ixi (by omega)
  have r1 := ird (H := H) hS (i := j + 1) (by omega)
  have r2 := ird (H := H) hS (i := j) (by omega)
  have hct := compI_take (d := d) (m := j) (by omega)
  by_cases he : d[j + 1]! = d[j]!
  case neg =>
    have he' : (d[j + 1]! = d[j]!) = False := eq_false he
    rw [if_neg he, hinv, ← take_at (m := j + 1) (by omega)] at hct
    simp only [C_slices_Compact_int, A_, simprocAttr, ne_eq, U_slices_Compact_int.1, hlt2, hw0, hw1, x1, x2, r1, r2, he']
    exact ih (j + 2) _ _ _ (by omega) ⟨by omega, by omega, hct⟩ (by simp [keep, zm]) (by rw [List.take_of_length_le (Nat.le_refl _)]) rfl
  have he' : (d[j + 1]! = d[j]!) = True := eq_true he
  rw [if_pos he, hinv] at hct
  have s1 : ∀ kk : IntKind, sliceL (.sl 1) (.row (.stk n) 0 N N) (some (.s (.int kk ((j + 1 : Nat) : Int)))) none none = some (.row (.stk n) (j + 1) (N - (j + 1)) (N - (j + 1))) := fun kk => slr_lo (by omega)
  simp only [C_slices_Compact_int, A_, simprocAttr, ne_eq, U_slices_Compact_int.1, hlt2, hw0, hw1, x1, x2, r1, r2, he', s1]
  refine loop_rule hC (α := Nat × Nat × Array Int) (fun x => N - (j + 1) - x.1) (fun x => [.row (.stk n) 0 N N, uu, uu, .s (.int .i64 (x.2.1 : Nat)), .row (.stk n) (j + 1) (N - (j + 1)) (N - (j + 1)), .s (.int .i64 (x.1 : Nat)), uu, uu, uu, uu, uu, uu, uu, uu, uu, uu, uu, uu, uu, uu, uu, uu, uu, uu, uu, uu, uu, uu, uu, uu, uu, uu, uu, uu, uu, uu, uu, uu, uu, uu, uu, uu, uu, uu, uu, uu, uu, uu, uu, uu, uu, uu, uu, uu, uu, uu, uu, uu, uu, uu, uu]) (fun x => S.set n (flat iA x.2.2)) (fun _ => H) (fun x => 1 ≤ x.1 ∧ j + 1 + x.1 ≤ N ∧ x.2.1 ≤ j + x.1 ∧ x.2.2.size = N ∧ (∀ i, x.2.1 ≤ i → i < N → x.2.2[i]! = d[i]!) ∧ x.2.2.toList.take x.2.1 = compI (d.toList.take (j + 1 + x.1))) (1, j + 1, d) ⟨Nat.le_refl _, by dsimp only; omega, by dsimp only; omega, hN, fun _ _ _ => rfl, hct.symm⟩ (by simp [keep, zm]) (by rw [sself hS, List.take_of_length_le (Nat.le_refl _)]) rfl (fun x _ => by simp [AV.under, AV.under.go, hn]) ?_
  rintro ⟨q, kk, e⟩ ⟨hq1, hq, hkq, hes, hsame, hinv2⟩ ih2
  dsimp only at hq1 hq hkq hes hsame hinv2 ih2 ⊢
  have hSe : (S.set n (flat iA e))[n]? = some (flat iA e) := sset hS
  by_cases hqN : j + 1 + q < N
  case neg =>
    have hlt3 : ((q : Int) < ((N - (j + 1) : Nat) : Int)) = False := eq_false (by omega)
    have s2 : ∀ ki : IntKind, sliceL (.sl 1) (.row (.stk n) 0 N N) (some (.s (.int ki (kk : Int)))) none none = some (.row (.stk n) kk (N - kk) (N - kk)) := fun ki => slr_lo (by omega)
    have s3 : ∀ ki : IntKind, sliceL (.sl 1) (.row (.stk n) 0 N N) none (some (.s (.int ki (kk : Int)))) none = some (.row (.stk n) 0 kk N) := fun ki => slr_hi (by omega) (by omega)
    have c1 := clr_i (H := H) (et := ⟨1, false, 8, .s (.int .i64 0)⟩) rfl hSe hes (k := kk) (by omega)
    rw [List.set_set] at c1
    simp only [C_slices_Compact_int, A_, simprocAttr, ne_eq, U_slices_Compact_int.1, hlt3, s2, s3, c1]
    have hel : e.toList.length = N := by simpa using hes
    refine ⟨decide_eq_true (by simpa using hn), hK kk _ (by omega) (by simp; omega) ?_⟩
    rw [show j + 1 + q = N by omega, List.take_of_length_le (l := d.toList) (by omega)] at hinv2
    rw [← hinv2]
    show List.take kk (e.toList.take kk ++ List.replicate (N - kk) 0) = _
    rw [List.take_left' (by simp; omega)]
  have hlt3 : ((q : Int) < ((N - (j + 1) : Nat) : Int)) = True := eq_true (by omega)
  obtain ⟨p, rfl⟩ : ∃ p, q = p + 1 := ⟨q - 1, by omega⟩
  have hwq0 : IntKind.i64.wrap (((p + 1 : Nat) : Int) - 1) = ((p : Nat) : Int) := by rw [wrap_i64 (by omega) (by omega)]; omega
  have hwq1 : IntKind.i64.wrap (((p + 1 : Nat) : Int) + 1) = ((p + 2 : Nat) : Int) := by rw [wrap_i64 (by omega) (by omega)]; omega
  have hwk : IntKind.i64.wrap ((kk : Int) + 1) = ((kk + 1 : Nat) : Int) := by rw [wrap_i64 (by omega) (by omega)]; omega
  obtain ⟨u, hu⟩ : ∃ u, j + 1 + (p + 1) = u := ⟨_, rfl⟩
  obtain ⟨v, hv⟩ : ∃ v, j + 1 + p = v := ⟨_, rfl⟩
  have y1 : ∀ ki : IntKind, indexAddrL (.sl 1) (.row (.stk n) (j + 1) (N - (j + 1)) (N - (j + 1))) (.s (.int ki ((p + 1 : Nat) : Int))) = some (.ptr (.stk n) u) := fun ki => by
    have := ixr_n (r := .stk n) (off := j + 1) (len := N - (j + 1)) (cap := N - (j + 1)) (c := 1) (k := ki) (i := p + 1) (by omega) (by omega)
    rwa [Nat.mul_one, hu] at this
  have y2 : ∀ ki : IntKind, indexAddrL (.sl 1) (.row (.stk n) (j + 1) (N - (j + 1)) (N - (j + 1))) (.s (.int ki ((p : Nat) : Int))) = some (.ptr (.stk n) v) := fun ki => by
    have := ixr_n (r := .stk n) (off := j + 1) (len := N - (j + 1)) (cap := N - (j + 1)) (c := 1) (k := ki) (i := p) (by omega) (by omega)
    rwa [Nat.mul_one, hv] at this
  have q1 := ird (H := H) hSe (i := u) (by omega)
  have q2 := ird (H := H) hSe (i := v) (by omega)
  have e1 := hsame u (by omega) (by omega)
  have e2 := hsame v (by omega) (by omega)
  rw [e1] at q1
  rw [e2] at q2
  have hct2 : compI (d.toList.take (u + 1)) = if d[u]! = d[v]! then compI (d.toList.take u) else compI (d.toList.take u) ++ [d[u]!] := by
    have := compI_take (d := d) (m := v) (by omega)
    rwa [show v + 2 = u + 1 by omega, show v + 1 = u by omega] at this
  rw [hu] at hinv2
  by_cases hf : d[u]! = d[v]!
  · have hf' : (d[u]! = d[v]!) = True := eq_true hf
    rw [if_pos hf] at hct2
    simp only [C_slices_Compact_int, A_, simprocAttr, ne_eq, U_slices_Compact_int.1, hlt3, hwq0, hwq1, y1, y2, q1, q2, hf']
    exact ih2 (p + 2, kk, e) _ _ _ (by dsimp only; omega) ⟨by dsimp only; omega, by dsimp only; omega, by dsimp only; omega, hes, hsame, by dsimp only; rw [hinv2, show j + 1 + (p + 2) = u + 1 by omega]; exact hct2.symm⟩ (by simp [keep, zm]) (by rw [List.take_of_length_le]; simp) rfl
  · have hf' : (d[u]! = d[v]!) = False := eq_false hf
    rw [if_neg hf] at hct2
    have x3 : ∀ ki : IntKind, indexAddrL (.sl 1) (.row (.stk n) 0 N N) (.s (.int ki (kk : Int))) = some (.ptr (.stk n) kk) := fun ki => ixi (by omega)
    have w1 := iwr (H := H) (x := d[u]!) hSe (i := kk) (by omega)
    rw [List.set_set] at w1
    simp only [C_slices_Compact_int, A_, simprocAttr, ne_eq, U_slices_Compact_int.1, hlt3, hwq0, hwq1, y1, y2, q1, q2, hf', x3, w1, hwk]
    have hke : kk < e.size := by omega
    refine ih2 (p + 2, kk + 1, e.setIfInBounds kk d[u]!) _ _ _ (by dsimp only; omega) ⟨by dsimp only; omega, by dsimp only; omega, by dsimp only; omega, by simpa using hes, fun i h1 h2 => ?_, ?_⟩ (by simp [keep, zm]) (by rw [List.take_of_length_le]; simp) rfl
    · dsimp only at h1 ⊢
      rw [← hsame i (by omega) h2]
      have hi : i < e.size := by omega
      simp only [Array.getElem!_eq_getD, Array.getD_eq_getD_getElem?, Array.getElem?_setIfInBounds]
      rw [if_neg (by omega)]
    · dsimp only
      rw [show j + 1 + (p + 2) = u + 1 by omega, hct2, take_at (by simpa using hke)]
      congr 1
      · rw [← hinv2, Array.toList_setIfInBounds, List.take_set_of_le (Nat.le_refl _)]
      · simp only [Array.getElem!_eq_getD, Array.getD_eq_getD_getElem?, Array.getElem?_setIfInBounds]
        simp [hke]
theorem Compact_nil {C : CallW} (P : Program) : ∀ S H (K : AV → St → Prop), K (.s .nilS) ⟨S, H⟩ → runL C P C_slices_Compact_int [.s .nilS] ⟨S, H⟩ K := by
  intro S H K hK
  simp only [C_slices_Compact_int, A_, simprocAttr, ne_eq, U_slices_Compact_int.1]
  exact hK
end Go.AM
namespace Go.AM
open Go
open AV renaming undef → uu
set_option maxRecDepth 20000
def TextS (C : CallW) (f : FuncId) : Prop := ∀ (k : Key) S H K, K (.str (textOf k)) ⟨S, H⟩ → C (.fn f) [.agg (bs k.b)] ⟨S, H⟩ K
def BoolK (g : Key → Bool) (C : CallW) (f : FuncId) : Prop := ∀ (k : Key) S H K, K (.bool (g k)) ⟨S, H⟩ → C (.fn f) [.agg (bs k.b)] ⟨S, H⟩ K
theorem text_nz (k : Key) : (0 : UInt8) ∉ textOf k := by
  intro h
  have h2 : ∀ (l : List UInt8), (0 : UInt8) ∉ l.takeWhile (· != 0) := by
    intro l
    induction l with
    | nil => simp
    | cons x l ih =>
      rw [List.takeWhile_cons]
      split
      · rename_i hx
        intro h
        rcases List.mem_cons.1 h with h | h
        · subst h; simp at hx
        · exact ih h
      · simp
  exact h2 _ h
theorem text_len (k : Key) : (textOf k).length ≤ 16 := by
  have := (List.takeWhile_sublist (fun x : UInt8 => x != 0) (l := k.b)).length_le
  rw [k.h] at this
  exact this
def goodK (k : Key) : Bool := decide (textOf k ≠ []) && decide (padK (textOf k) = k)
theorem good_of (k : Key) : goodK k = (decide ((keyOf (textOf k)).2 = 0) && decide ((keyOf (textOf k)).1 = k)) := by
  unfold goodK keyOf
  by_cases h : textOf k = []
  · rw [if_pos (.inl h)]; simp [h]
  · rw [if_neg (by
      rintro (h1 | h1 | h1)
      · exact h h1
      · have := text_len k; omega
      · exact text_nz k h1)]
    simp [h]
set_option maxHeartbeats 1000000 in
theorem key_Good_spec {C : CallW} (hC : LeC C C) (P : Program) {f1 f2 : FuncId} (h1 : TextS C f1) (h2 : OfK C f2) : ∀ (k : Key) S H K, K (.bool (goodK k)) ⟨S, H⟩ → runL C P (C_key_Good f1 f2) [.agg (bs k.b)] ⟨S, H⟩ K := by
  intro k S H K hK
  rw [good_of] at hK
  simp only [C_key_Good, RUN_, (u_C_key_Good_k1 _ _).1, (u_C_key_Good_k2 _ _).1, FR_, simprocAttr, if_true, if_false, ite_true, ite_false, ne_eq, eq_self, OPK_, KEY_]
  refine h1 _ _ _ _ ?_
  simp only [RUN_, (u_C_key_Good_k1 _ _).1, (u_C_key_Good_k2 _ _).1, FR_, simprocAttr, if_true, if_false, ite_true, ite_false, ne_eq, eq_self, OPK_, KEY_]
  refine h2 _ _ _ _ ?_
  by_cases he : (keyOf (textOf k)).2 = 0
  · simp only [RUN_, (u_C_key_Good_k1 _ _).1, (u_C_key_Good_k2 _ _).1, FR_, simprocAttr, if_true, if_false, ite_true, ite_false, ne_eq, eq_self, OPK_, KEY_, he]
    rw [he] at hK
    simpa using hK
  · simp only [RUN_, (u_C_key_Good_k1 _ _).1, (u_C_key_Good_k2 _ _).1, FR_, simprocAttr, if_true, if_false, ite_true, ite_false, ne_eq, eq_self, OPK_, KEY_, he]
    simpa [he] using hK
def goodL : Bool → List UInt8 → Bool
  | _, [] => true
  | e, x :: l => if x = 0 then goodL true l else if e then false else goodL false l
def goodR (k : Key) : Bool := goodL false k.b && decide (k.b[0]'(by rw [k.h]; omega) ≠ 0)
theorem goodL_drop {e : Bool} {l : List UInt8} {i : Nat} (h : i < l.length) : goodL e (l.drop i) = if l[i] = 0 then goodL true (l.drop (i + 1)) else if e then false else goodL false (l.drop (i + 1)) := by
  rw [List.drop_eq_getElem_cons h]; rfl
theorem wrap_succ {i : Nat} (h : i < 4611686018427387904) : IntKind.i64.wrap ((i : Int) + 1) = ((i + 1 : Nat) : Int) := by rw [wrap_i64 (by omega) (by omega)]; rfl
theorem u8_zero {x : UInt8} : ((x.toNat : Int) = 0) ↔ x = 0 := ⟨fun h => UInt8.toNat_inj.1 (by simp; omega), fun h => by subst h; rfl⟩
set_option maxHeartbeats 1000000 in
theorem ref10_Good_spec {C : CallW} (hC : LeC C C) (P : Program) : ∀ (k : Key) S H K, K (.bool (goodR k)) ⟨S, H⟩ → runL C P C_hourglassref10_Good [.agg (bs k.b)] ⟨S, H⟩ K := by
  intro k S H K hK
  have hkl := k.h
  simp only [C_hourglassref10_Good, RUN_, u_C_hourglassref10_Good_k1.1, u_C_hourglassref10_Good_k2.1, u_C_hourglassref10_Good_k3.1, u_C_hourglassref10_Good_k4.1, u_C_hourglassref10_Good_k5.1, u_C_hourglassref10_Good_k6.1, u_C_hourglassref10_Good_k7.1, FR_, simprocAttr, if_true, if_false, ite_true, ite_false, ne_eq, eq_self, OPK_, KEY_]
  refine loop_rule hC (α := Nat × Bool) (fun a => 16 - a.1) (fun a => [.undef, .ptr (.stk S.length) 0, .undef, .bool a.2, .s (.int .i64 a.1), uu, uu, uu, uu, uu, uu, uu, uu, uu, uu, uu, uu]) (fun _ => S ++ [bs k.b]) (fun _ => H) (fun a => a.1 ≤ 16 ∧ goodL false k.b = goodL a.2 (k.b.drop a.1)) (0, false) ⟨by simp, by simp⟩ rfl (app_take_add _ _ _) rfl (fun i hi => by simp [AV.under, AV.under.go]) ?_
  rintro ⟨i, e⟩ ⟨hi, hinv⟩ ih
  dsimp only at hi hinv ih ⊢
  by_cases h16 : i < 16
  · have hb := bs_get (l := k.b) (i := i) (by omega)
    have hw := wrap_succ (i := i) (by omega)
    have h1 : ((i : Int) < 16) := by omega
    have h2 : (0 : Int) ≤ (i : Int) := by omega
    rw [goodL_drop (by omega)] at hinv
    by_cases hz : k.b[i]'(by omega) = 0
    · simp only [RUN_, u_C_hourglassref10_Good_k1.1, u_C_hourglassref10_Good_k2.1, u_C_hourglassref10_Good_k3.1, u_C_hourglassref10_Good_k4.1, u_C_hourglassref10_Good_k5.1, u_C_hourglassref10_Good_k6.1, u_C_hourglassref10_Good_k7.1, FR_, simprocAttr, if_true, if_false, ite_true, ite_false, ne_eq, eq_self, OPK_, KEY_, indexAddrL, h1, h2, hb, u8, hz, UInt8.toNat_zero, hw, Nat.mul_one]
      rw [if_pos hz] at hinv
      exact ih (i + 1, true) _ _ _ (by simp; omega) ⟨by simp; omega, hinv⟩ rfl (app_take_add _ _ _) rfl
    · have hz' : ¬ (((k.b[i]'(by omega)).toNat : Int) = 0) := fun e => hz (u8_zero.1 e)
      rw [if_neg hz] at hinv
      cases e with
      | true =>
        have : goodR k = false := by unfold goodR; rw [hinv]; rfl
        rw [this] at hK
        simp only [RUN_, u_C_hourglassref10_Good_k1.1, u_C_hourglassref10_Good_k2.1, u_C_hourglassref10_Good_k3.1, u_C_hourglassref10_Good_k4.1, u_C_hourglassref10_Good_k5.1, u_C_hourglassref10_Good_k6.1, u_C_hourglassref10_Good_k7.1, FR_, simprocAttr, if_true, if_false, ite_true, ite_false, ne_eq, eq_self, OPK_, KEY_, indexAddrL, h1, h2, hb, u8, hz', hw, Nat.mul_one]
        exact hK
      | false =>
        simp only [RUN_, u_C_hourglassref10_Good_k1.1, u_C_hourglassref10_Good_k2.1, u_C_hourglassref10_Good_k3.1, u_C_hourglassref10_Good_k4.1, u_C_hourglassref10_Good_k5.1, u_C_hourglassref10_Good_k6.1, u_C_hourglassref10_Good_k7.1, FR_, simprocAttr, if_true, if_false, ite_true, ite_false, ne_eq, eq_self, OPK_, KEY_, indexAddrL, h1, h2, hb, u8, hz', hw, Nat.mul_one]
        exact ih (i + 1, false) _ _ _ (by simp; omega) ⟨by simp; omega, by simpa using hinv⟩ rfl (app_take_add _ _ _) rfl
  · have h1 : ¬ ((i : Int) < 16) := by omega
    have hb := bs_get (l := k.b) (i := 0) (by omega)
    have hd : k.b.drop i = [] := List.drop_of_length_le (by omega)
    rw [hd] at hinv
    have hz : (((k.b[0]'(by omega)).toNat : Int) = 0) ↔ k.b[0]'(by omega) = 0 := u8_zero
    have hg : goodR k = decide (k.b[0]'(by omega) ≠ 0) := by unfold goodR; rw [hinv]; rfl
    rw [hg] at hK
    simp only [RUN_, u_C_hourglassref10_Good_k1.1, u_C_hourglassref10_Good_k2.1, u_C_hourglassref10_Good_k3.1, u_C_hourglassref10_Good_k4.1, u_C_hourglassref10_Good_k5.1, u_C_hourglassref10_Good_k6.1, u_C_hourglassref10_Good_k7.1, FR_, simprocAttr, if_true, if_false, ite_true, ite_false, ne_eq, eq_self, OPK_, KEY_, indexAddrL, h1, hb, u8, hz, Nat.mul_one]
    simpa using hK
theorem cmp_drop {a b : List UInt8} {i : Nat} (ha : i < a.length) (hb : i < b.length) : Lib.compareBytes (a.drop i) (b.drop i) = if a[i] < b[i] then -1 else if b[i] < a[i] then 1 else Lib.compareBytes (a.drop (i + 1)) (b.drop (i + 1)) := by
  rw [List.drop_eq_getElem_cons ha, List.drop_eq_getElem_cons hb]; rfl
theorem u8_lt {x y : UInt8} : ((x.toNat : Int) < (y.toNat : Int)) ↔ x < y := by rw [UInt8.lt_iff_toNat_lt]; omega
set_option maxHeartbeats 1000000 in
theorem ref10_Cmp_spec {C : CallW} (hC : LeC C C) (P : Program) : ∀ (a b : Key) S H K, K (.i (Lib.compareBytes a.b b.b)) ⟨S, H⟩ → runL C P C_hourglassref10_Cmp [.agg (bs a.b), .agg (bs b.b)] ⟨S, H⟩ K := by
  intro a b S H K hK
  have hal := a.h
  have hbl := b.h
  simp only [C_hourglassref10_Cmp, RUN_, u_C_hourglassref10_Cmp_k1.1, u_C_hourglassref10_Cmp_k2.1, u_C_hourglassref10_Cmp_k3.1, u_C_hourglassref10_Cmp_k4.1, u_C_hourglassref10_Cmp_k5.1, u_C_hourglassref10_Cmp_k6.1, FR_, simprocAttr, if_true, if_false, ite_true, ite_false, ne_eq, eq_self, OPK_, KEY_]
  refine loop_rule hC (α := Nat) (fun i => 16 - i) (fun i => [uu, uu, .ptr (.stk S.length) 0, .ptr (.stk (S.length + 1)) 0, .undef, .s (.int .i64 i), uu, uu, uu, uu, uu, uu, uu, uu, uu, uu, uu, uu, uu, uu, uu, uu, uu, uu]) (fun _ => S ++ [bs a.b, bs b.b]) (fun _ => H) (fun i => i ≤ 16 ∧ Lib.compareBytes a.b b.b = Lib.compareBytes (a.b.drop i) (b.b.drop i)) 0 ⟨by simp, by simp⟩ rfl (app_take_add _ _ _) rfl (fun i hi => by simp [AV.under, AV.under.go]) ?_
  rintro i ⟨hi, hinv⟩ ih
  by_cases h16 : i < 16
  · have hb := bs_get (l := a.b) (i := i) (by omega)
    have hb' := bs_get (l := b.b) (i := i) (by omega)
    have hw := wrap_succ (i := i) (by omega)
    have h1 : ((i : Int) < 16) := by omega
    have h2 : (0 : Int) ≤ (i : Int) := by omega
    rw [cmp_drop (by omega) (by omega)] at hinv
    by_cases hx : a.b[i]'(by omega) < b.b[i]'(by omega)
    · rw [if_pos hx] at hinv
      rw [hinv] at hK
      have hx' := u8_lt.2 hx
      simp only [RUN_, u_C_hourglassref10_Cmp_k1.1, u_C_hourglassref10_Cmp_k2.1, u_C_hourglassref10_Cmp_k3.1, u_C_hourglassref10_Cmp_k4.1, u_C_hourglassref10_Cmp_k5.1, u_C_hourglassref10_Cmp_k6.1, FR_, simprocAttr, if_true, if_false, ite_true, ite_false, ne_eq, eq_self, OPK_, KEY_, indexAddrL, h1, h2, hb, hb', u8, hx', hw, Nat.mul_one]
      exact hK
    · rw [if_neg hx] at hinv
      have hx' : ¬ (((a.b[i]'(by omega)).toNat : Int) < ((b.b[i]'(by omega)).toNat : Int)) := fun h => hx (u8_lt.1 h)
      by_cases hy : b.b[i]'(by omega) < a.b[i]'(by omega)
      · rw [if_pos hy] at hinv
        rw [hinv] at hK
        have hy' := u8_lt.2 hy
        simp only [RUN_, u_C_hourglassref10_Cmp_k1.1, u_C_hourglassref10_Cmp_k2.1, u_C_hourglassref10_Cmp_k3.1, u_C_hourglassref10_Cmp_k4.1, u_C_hourglassref10_Cmp_k5.1, u_C_hourglassref10_Cmp_k6.1, FR_, simprocAttr, if_true, if_false, ite_true, ite_false, ne_eq, eq_self, OPK_, KEY_, indexAddrL, h1, h2, hb, hb', u8, hx', hy', hw, Nat.mul_one]
        exact hK
      · rw [if_neg hy] at hinv
        have hy' : ¬ (((b.b[i]'(by omega)).toNat : Int) < ((a.b[i]'(by omega)).toNat : Int)) := fun h => hy (u8_lt.1 h)
        simp only [RUN_, u_C_hourglassref10_Cmp_k1.1, u_C_hourglassref10_Cmp_k2.1, u_C_hourglassref10_Cmp_k3.1, u_C_hourglassref10_Cmp_k4.1, u_C_hourglassref10_Cmp_k5.1, u_C_hourglassref10_Cmp_k6.1, FR_, simprocAttr, if_true, if_false, ite_true, ite_false, ne_eq, eq_self, OPK_, KEY_, indexAddrL, h1, h2, hb, hb', u8, hx', hy', hw, Nat.mul_one]
        exact ih (i + 1) _ _ _ (by omega) ⟨by omega, hinv⟩ rfl (app_take_add _ _ _) rfl
  · have h1 : ¬ ((i : Int) < 16) := by omega
    have hd : a.b.drop i = [] := List.drop_of_length_le (by omega)
    have hd' : b.b.drop i = [] := List.drop_of_length_le (by omega)
    rw [hd, hd'] at hinv
    rw [hinv] at hK
    simp only [RUN_, u_C_hourglassref10_Cmp_k1.1, u_C_hourglassref10_Cmp_k2.1, u_C_hourglassref10_Cmp_k3.1, u_C_hourglassref10_Cmp_k4.1, u_C_hourglassref10_Cmp_k5.1, u_C_hourglassref10_Cmp_k6.1, FR_, simprocAttr, if_true, if_false, ite_true, ite_false, ne_eq, eq_self, OPK_, KEY_, h1]
    exact hK
end Go.AM
namespace Go.AM
open Go
set_option maxRecDepth 20000
def cmpK (a b : Key) : Int := Lib.compareBytes a.b b.b
def withinK (k a b : Key) : Bool := decide (0 ≤ cmpK k a) && (decide (b = key0) || decide (cmpK k b < 0))
def lstK (l : List Key) : AV := .list .sh 16 (l.map kA)
def cloneA (l : List Key) (v : AV) : Prop := v = .list .uniq 16 (l.map kA) ∨ (l = [] ∧ (v = .nilS ∨ v = .list .full 16 []))
theorem cloneA_wk {l : List Key} {v : AV} (h : cloneA l v) : WkL [v.sh] [lstK l] := by
  rcases h with rfl | ⟨rfl, rfl | rfl⟩
  · exact .same .nil
  · exact .nilS (by omega) .nil
  · exact .full .nil
set_option maxHeartbeats 1000000 in
theorem slices_Clone_spec {C : CallW} (hC : LeC C C) (P : Program) : ∀ (l : List Key) S H (K : AV → St → Prop), l.length ≤ 1000 → (∀ v, cloneA l v → K v ⟨S, H⟩) → runL C P C_slices_Clone_Key [lstK l] ⟨S, H⟩ K := by
  intro l S H K hl hK
  have he : ∀ (e : ET) (σ : St), e.c = 16 → elemsL e (.list .sh 16 (l.map kA)) σ = some (l.map kA) := fun e σ h => by simp [elemsL, h]
  cases l with
  | nil =>
    simp only [lstK, C_slices_Clone_Key, RUN_, u_C_slices_Clone_Key_k1.1, u_C_slices_Clone_Key_k2.1, FR_, simprocAttr, if_true, if_false, ite_true, ite_false, ne_eq, eq_self, OPK_, KEY_]
    rintro (_ | _)
    · simp only [RUN_, u_C_slices_Clone_Key_k1.1, u_C_slices_Clone_Key_k2.1, FR_, simprocAttr, if_true, if_false, ite_true, ite_false, ne_eq, eq_self, OPK_, KEY_, bslL, appendL, srcL, appItems, elemsL, List.isEmpty_nil, Option.bind_some]
      exact hK _ (.inr ⟨rfl, .inr rfl⟩)
    · simp only [RUN_, u_C_slices_Clone_Key_k1.1, u_C_slices_Clone_Key_k2.1, FR_, simprocAttr, if_true, if_false, ite_true, ite_false, ne_eq, eq_self, OPK_, KEY_]
      exact hK _ (.inr ⟨rfl, .inl rfl⟩)
  | cons k l =>
    have hlow : AV.under.go 0 (l.map kA) = true := kA_low
    simp only [List.length_cons] at hl
    have hb : (l.length + 1) * 16 ≤ 2 ^ 48 := by omega
    simp only [lstK, C_slices_Clone_Key, RUN_, u_C_slices_Clone_Key_k1.1, u_C_slices_Clone_Key_k2.1, FR_, simprocAttr, if_true, if_false, ite_true, ite_false, ne_eq, eq_self, OPK_, KEY_, refEq, bslL, appendL, srcL, appItems, elemsL, List.isEmpty_nil, List.isEmpty_cons, Option.bind_some, hb, Option.map_some, and_self]
    exact hK _ (.inl rfl)
def tabA (l : List Key) : HObj := .cells [lstK l]
set_option maxHeartbeats 1000000 in
theorem Nodes_spec {C : CallW} (hC : LeC C C) (P : Program) : ∀ (l : List Key) (h : Nat) S H (K : AV → St → Prop), H[h]? = some (tabA l) → l.length < 9223372036854775807 → K (.i ((l.length + 1 : Nat) : Int)) ⟨S, H⟩ → runL C P C_route_Table_Nodes [.ptr (.heap h) 0] ⟨S, H⟩ K := by
  intro l h S H K hh hl hK
  have hw : IntKind.i64.wrap ((l.length : Int) + 1) = ((l.length + 1 : Nat) : Int) := by rw [wrap_i64 (by omega) (by omega)]; rfl
  unfold tabA lstK at hh
  simp only [C_route_Table_Nodes, RUN_, u_C_route_Table_Nodes_k1.1, FR_, simprocAttr, if_true, if_false, ite_true, ite_false, ne_eq, eq_self, OPK_, KEY_, hh, hw]
  exact hK
end Go.AM
namespace Go.AM
open Go
open AV renaming undef → uu
set_option maxRecDepth 20000
def cntK (k : Key) : List Key → Nat
  | [] => 0
  | p :: l => (if cmpK p k ≤ 0 then 1 else 0) + cntK k l
def ofK (pts : List Key) (k : Key) : Int := if goodK k then (cntK k pts : Int) else -1
theorem cnt_drop {k : Key} {l : List Key} {i : Nat} (h : i < l.length) : cntK k (l.drop i) = (if cmpK l[i] k ≤ 0 then 1 else 0) + cntK k (l.drop (i + 1)) := by
  rw [List.drop_eq_getElem_cons h]; rfl
set_option maxHeartbeats 2000000 in
theorem Of_spec {C : CallW} (hC : LeC C C) (P : Program) {f1 f2 : FuncId} (hg : BoolK goodK C f1) (hc : KCmp C f2) : ∀ (l : List Key) (k : Key) (h : Nat) S H (K : AV → St → Prop), H[h]? = some (tabA l) → l.length < 9223372036854775807 → K (.i (ofK l k)) ⟨S, H⟩ → runL C P (C_route_Table_Of f1 f2) [.ptr (.heap h) 0, .agg (bs k.b)] ⟨S, H⟩ K := by
  intro l k h S H K hh hl hK
  unfold tabA lstK at hh
  simp only [C_route_Table_Of, RUN_, (u_C_route_Table_Of_k1 _ _).1, (u_C_route_Table_Of_k2 _ _).1, (u_C_route_Table_Of_k3 _ _).1, (u_C_route_Table_Of_k4 _ _).1, (u_C_route_Table_Of_k5 _ _).1, (u_C_route_Table_Of_k6 _ _).1, (u_C_route_Table_Of_k7 _ _).1, FR_, simprocAttr, if_true, if_false, ite_true, ite_false, ne_eq, eq_self, OPK_, KEY_]
  refine hg _ _ _ _ ?_
  by_cases hgk : goodK k = true
  · simp only [RUN_, (u_C_route_Table_Of_k1 _ _).1, (u_C_route_Table_Of_k2 _ _).1, (u_C_route_Table_Of_k3 _ _).1, (u_C_route_Table_Of_k4 _ _).1, (u_C_route_Table_Of_k5 _ _).1, (u_C_route_Table_Of_k6 _ _).1, (u_C_route_Table_Of_k7 _ _).1, FR_, simprocAttr, if_true, if_false, ite_true, ite_false, ne_eq, eq_self, OPK_, KEY_, hgk, hh]
    have hK : K (.i (cntK k l : Nat)) ⟨S, H⟩ := by simpa [ofK, hgk] using hK
    refine loop_rule hC (α := Nat × Nat) (fun a => l.length - a.1) (fun a => [uu, uu, uu, .ptr (.stk S.length) 0, .undef, .s (.int .i64 a.2), uu, uu, uu, uu, uu, uu, uu, uu, .list .sh 16 (l.map kA), .s (.int .i64 l.length), .s (.int .i64 a.1), uu, uu, uu, uu, uu, uu, uu, uu, uu, uu, uu]) (fun _ => S ++ [bs k.b]) (fun _ => H) (fun a => a.1 ≤ l.length ∧ a.2 ≤ a.1 ∧ cntK k l = a.2 + cntK k (l.drop a.1)) (0, 0) ⟨by simp, by simp, by simp⟩ rfl (by rw [app_take_add]; rfl) rfl (fun i hi => by simp [AV.under, AV.under.go]) ?_
    rintro ⟨i, n⟩ ⟨hi, hn, hinv⟩ ih
    dsimp only at hi hn hinv ih ⊢
    by_cases h16 : i < l.length
    · have h1 : ((i : Int) < (l.length : Int)) := by omega
      have hw : IntKind.i64.wrap ((i : Int) + 1) = ((i + 1 : Nat) : Int) := by rw [wrap_i64 (by omega) (by omega)]; rfl
      have hwn : IntKind.i64.wrap ((n : Int) + 1) = ((n + 1 : Nat) : Int) := by rw [wrap_i64 (by omega) (by omega)]; rfl
      rw [cnt_drop h16] at hinv
      simp only [RUN_, (u_C_route_Table_Of_k1 _ _).1, (u_C_route_Table_Of_k2 _ _).1, (u_C_route_Table_Of_k3 _ _).1, (u_C_route_Table_Of_k4 _ _).1, (u_C_route_Table_Of_k5 _ _).1, (u_C_route_Table_Of_k6 _ _).1, (u_C_route_Table_Of_k7 _ _).1, FR_, simprocAttr, if_true, if_false, ite_true, ite_false, ne_eq, eq_self, OPK_, KEY_, h1, h16]
      refine hc _ _ _ _ _ ?_
      by_cases hx : Lib.compareBytes (l[i]).b k.b ≤ 0
      · rw [if_pos (show cmpK l[i] k ≤ 0 from hx)] at hinv
        simp only [RUN_, (u_C_route_Table_Of_k1 _ _).1, (u_C_route_Table_Of_k2 _ _).1, (u_C_route_Table_Of_k3 _ _).1, (u_C_route_Table_Of_k4 _ _).1, (u_C_route_Table_Of_k5 _ _).1, (u_C_route_Table_Of_k6 _ _).1, (u_C_route_Table_Of_k7 _ _).1, FR_, simprocAttr, if_true, if_false, ite_true, ite_false, ne_eq, eq_self, OPK_, KEY_, hx, hw, hwn]
        exact ih (i + 1, n + 1) _ _ _ (by simp; omega) ⟨by simp; omega, by simp; omega, by simp; omega⟩ rfl (by rw [app_take_add]; rfl) rfl
      · rw [if_neg (show ¬ cmpK l[i] k ≤ 0 from hx)] at hinv
        simp only [RUN_, (u_C_route_Table_Of_k1 _ _).1, (u_C_route_Table_Of_k2 _ _).1, (u_C_route_Table_Of_k3 _ _).1, (u_C_route_Table_Of_k4 _ _).1, (u_C_route_Table_Of_k5 _ _).1, (u_C_route_Table_Of_k6 _ _).1, (u_C_route_Table_Of_k7 _ _).1, FR_, simprocAttr, if_true, if_false, ite_true, ite_false, ne_eq, eq_self, OPK_, KEY_, hx, hw, hwn]
        exact ih (i + 1, n) _ _ _ (by simp; omega) ⟨by simp; omega, by simp; omega, by simp; omega⟩ rfl (by rw [app_take_add]; rfl) rfl
    · have h1 : ¬ ((i : Int) < (l.length : Int)) := by omega
      rw [List.drop_of_length_le (by omega)] at hinv
      have : cntK k l = n := hinv
      simp only [RUN_, (u_C_route_Table_Of_k1 _ _).1, (u_C_route_Table_Of_k2 _ _).1, (u_C_route_Table_Of_k3 _ _).1, (u_C_route_Table_Of_k4 _ _).1, (u_C_route_Table_Of_k5 _ _).1, (u_C_route_Table_Of_k6 _ _).1, (u_C_route_Table_Of_k7 _ _).1, FR_, simprocAttr, if_true, if_false, ite_true, ite_false, ne_eq, eq_self, OPK_, KEY_, h1]
      rw [this] at hK
      exact hK
  · have hgk' : goodK k = false := by simpa using hgk
    simp only [RUN_, (u_C_route_Table_Of_k1 _ _).1, (u_C_route_Table_Of_k2 _ _).1, (u_C_route_Table_Of_k3 _ _).1, (u_C_route_Table_Of_k4 _ _).1, (u_C_route_Table_Of_k5 _ _).1, (u_C_route_Table_Of_k6 _ _).1, (u_C_route_Table_Of_k7 _ _).1, FR_, simprocAttr, if_true, if_false, ite_true, ite_false, ne_eq, eq_self, OPK_, KEY_, hgk']
    simpa [ofK, hgk'] using hK
def okFrom : Option Key → List Key → Bool
  | _, [] => true
  | q, p :: l => goodK p && (match q with | none => true | some q => decide (cmpK q p < 0)) && okFrom (some p) l
def okPts (l : List Key) : Bool := okFrom none l
def prevK (l : List Key) (i : Nat) : Option Key := if i = 0 then none else l[i - 1]?
theorem ok_drop {q : Option Key} {l : List Key} {i : Nat} (h : i < l.length) : okFrom q (l.drop i) = (goodK l[i] && (match q with | none => true | some q => decide (cmpK q l[i] < 0)) && okFrom (some l[i]) (l.drop (i + 1))) := by
  rw [List.drop_eq_getElem_cons h]; rfl
def newA (l : List Key) (H : List HObj) : AV := if okPts l && decide (l.length < 8) then .tup [.ptr (.heap H.length) 0, .i 0] else .tup [.nilP, .i 1]
def newH (l : List Key) (H : List HObj) : List HObj := if okPts l && decide (l.length < 8) then H ++ [tabA l] else H
def CloneS (C : CallW) (f : FuncId) : Prop := ∀ (l : List Key) S H (K : AV → St → Prop), l.length ≤ 1000 → K (lstK l) ⟨S, H⟩ → C (.fn f) [lstK l] ⟨S, H⟩ K
set_option maxHeartbeats 4000000 in
theorem New_spec {C : CallW} (hC : LeC C C) (P : Program) {f1 f2 f3 : FuncId} (hg : BoolK goodK C f1) (hc : KCmp C f2) (hcl : CloneS C f3) : ∀ (l : List Key) S H (K : AV → St → Prop), l.length ≤ 9223372036854775807 → K (newA l H) ⟨S, newH l H⟩ → runL C P (C_route_New f1 f2 f3) [lstK l] ⟨S, H⟩ K := by
  intro l S H K hl hK
  simp only [lstK, C_route_New, RUN_, (u_C_route_New_k1 _ _ _).1, (u_C_route_New_k2 _ _ _).1, (u_C_route_New_k3 _ _ _).1, (u_C_route_New_k4 _ _ _).1, (u_C_route_New_k5 _ _ _).1, (u_C_route_New_k6 _ _ _).1, (u_C_route_New_k7 _ _ _).1, (u_C_route_New_k8 _ _ _).1, (u_C_route_New_k9 _ _ _).1, FR_, simprocAttr, if_true, if_false, ite_true, ite_false, ne_eq, eq_self, OPK_, KEY_]
  have bad : okPts l = false → K (.tup [.nilP, .i 1]) ⟨S, H⟩ := fun h => by
    unfold newA newH at hK
    rw [h] at hK
    simpa using hK
  refine loop_rule hC (α := Nat) (fun a => l.length - a) (fun a => [.list .sh 16 (l.map kA), uu, uu, uu, uu, uu, .list .sh 16 (l.map kA), .s (.int .i64 l.length), .s (.int .i64 a), uu, uu, uu, uu, uu, uu, uu, uu, uu, uu, uu, uu, uu, uu, uu, uu, uu, uu, uu, uu, uu, uu, uu, uu, uu, uu, uu, uu, uu]) (fun _ => S) (fun _ => H) (fun i => i ≤ l.length ∧ okPts l = okFrom (prevK l i) (l.drop i)) 0 ⟨by simp, rfl⟩ rfl (by simp) rfl (fun i hi => by simp [AV.under, AV.under.go]) ?_
  rintro i ⟨hi, hinv⟩ ih
  by_cases h16 : i < l.length
  · have h1 : ((i : Int) < (l.length : Int)) := by omega
    have hw : IntKind.i64.wrap ((i : Int) + 1) = ((i + 1 : Nat) : Int) := by rw [wrap_i64 (by omega) (by omega)]; rfl
    rw [ok_drop h16] at hinv
    simp only [RUN_, (u_C_route_New_k1 _ _ _).1, (u_C_route_New_k2 _ _ _).1, (u_C_route_New_k3 _ _ _).1, (u_C_route_New_k4 _ _ _).1, (u_C_route_New_k5 _ _ _).1, (u_C_route_New_k6 _ _ _).1, (u_C_route_New_k7 _ _ _).1, (u_C_route_New_k8 _ _ _).1, (u_C_route_New_k9 _ _ _).1, FR_, simprocAttr, if_true, if_false, ite_true, ite_false, ne_eq, eq_self, OPK_, KEY_, h1, h16]
    refine hg _ _ _ _ ?_
    cases hgk : goodK l[i] with
    | false =>
      rw [hgk] at hinv
      simp only [RUN_, (u_C_route_New_k1 _ _ _).1, (u_C_route_New_k2 _ _ _).1, (u_C_route_New_k3 _ _ _).1, (u_C_route_New_k4 _ _ _).1, (u_C_route_New_k5 _ _ _).1, (u_C_route_New_k6 _ _ _).1, (u_C_route_New_k7 _ _ _).1, (u_C_route_New_k8 _ _ _).1, (u_C_route_New_k9 _ _ _).1, FR_, simprocAttr, if_true, if_false, ite_true, ite_false, ne_eq, eq_self, OPK_, KEY_]
      exact bad (by rw [hinv]; rfl)
    | true =>
      rw [hgk, Bool.true_and] at hinv
      by_cases h0 : i = 0
      · have h0' : ¬ ((0 : Int) < (i : Int)) := by omega
        rw [show prevK l i = none from if_pos h0, Bool.true_and] at hinv
        simp only [RUN_, (u_C_route_New_k1 _ _ _).1, (u_C_route_New_k2 _ _ _).1, (u_C_route_New_k3 _ _ _).1, (u_C_route_New_k4 _ _ _).1, (u_C_route_New_k5 _ _ _).1, (u_C_route_New_k6 _ _ _).1, (u_C_route_New_k7 _ _ _).1, (u_C_route_New_k8 _ _ _).1, (u_C_route_New_k9 _ _ _).1, FR_, simprocAttr, if_true, if_false, ite_true, ite_false, ne_eq, eq_self, OPK_, KEY_, h0', hw]
        refine ih (i + 1) _ _ _ (by omega) ⟨by omega, ?_⟩ rfl (by rw [app_take]) rfl
        rw [hinv]; simp [prevK, h16]
      · have h0' : ((0 : Int) < (i : Int)) := by omega
        have hwp : IntKind.i64.wrap ((i : Int) - 1) = ((i - 1 : Nat) : Int) := by rw [wrap_i64 (by omega) (by omega)]; omega
        have h17 : i - 1 < l.length := by omega
        rw [show prevK l i = some l[i - 1] from (if_neg h0).trans (List.getElem?_eq_getElem h17)] at hinv
        dsimp only at hinv
        simp only [RUN_, (u_C_route_New_k1 _ _ _).1, (u_C_route_New_k2 _ _ _).1, (u_C_route_New_k3 _ _ _).1, (u_C_route_New_k4 _ _ _).1, (u_C_route_New_k5 _ _ _).1, (u_C_route_New_k6 _ _ _).1, (u_C_route_New_k7 _ _ _).1, (u_C_route_New_k8 _ _ _).1, (u_C_route_New_k9 _ _ _).1, FR_, simprocAttr, if_true, if_false, ite_true, ite_false, ne_eq, eq_self, OPK_, KEY_, h0', hw, hwp, h17]
        refine hc _ _ _ _ _ ?_
        by_cases hx : (0 : Int) ≤ Lib.compareBytes (l[i - 1]).b (l[i]).b
        · simp only [RUN_, (u_C_route_New_k1 _ _ _).1, (u_C_route_New_k2 _ _ _).1, (u_C_route_New_k3 _ _ _).1, (u_C_route_New_k4 _ _ _).1, (u_C_route_New_k5 _ _ _).1, (u_C_route_New_k6 _ _ _).1, (u_C_route_New_k7 _ _ _).1, (u_C_route_New_k8 _ _ _).1, (u_C_route_New_k9 _ _ _).1, FR_, simprocAttr, if_true, if_false, ite_true, ite_false, ne_eq, eq_self, OPK_, KEY_, hx]
          refine bad ?_
          rw [hinv, decide_eq_false (by unfold cmpK; omega)]; rfl
        · simp only [RUN_, (u_C_route_New_k1 _ _ _).1, (u_C_route_New_k2 _ _ _).1, (u_C_route_New_k3 _ _ _).1, (u_C_route_New_k4 _ _ _).1, (u_C_route_New_k5 _ _ _).1, (u_C_route_New_k6 _ _ _).1, (u_C_route_New_k7 _ _ _).1, (u_C_route_New_k8 _ _ _).1, (u_C_route_New_k9 _ _ _).1, FR_, simprocAttr, if_true, if_false, ite_true, ite_false, ne_eq, eq_self, OPK_, KEY_, hx, hw]
          refine ih (i + 1) _ _ _ (by omega) ⟨by omega, ?_⟩ rfl (by rw [app_take]) rfl
          rw [hinv, decide_eq_true (show cmpK l[i - 1] l[i] < 0 by unfold cmpK; omega)]; simp [prevK, h16]
  · have h1 : ¬ ((i : Int) < (l.length : Int)) := by omega
    rw [List.drop_of_length_le (by omega)] at hinv
    have hok : okPts l = true := hinv
    by_cases h8 : l.length < 8
    · have h8' : ¬ ((8 : Int) ≤ (l.length : Int)) := by omega
      simp only [RUN_, (u_C_route_New_k1 _ _ _).1, (u_C_route_New_k2 _ _ _).1, (u_C_route_New_k3 _ _ _).1, (u_C_route_New_k4 _ _ _).1, (u_C_route_New_k5 _ _ _).1, (u_C_route_New_k6 _ _ _).1, (u_C_route_New_k7 _ _ _).1, (u_C_route_New_k8 _ _ _).1, (u_C_route_New_k9 _ _ _).1, FR_, simprocAttr, if_true, if_false, ite_true, ite_false, ne_eq, eq_self, OPK_, KEY_, h1, h8']
      refine hcl l _ _ _ (by omega) ?_
      unfold newA newH at hK
      rw [hok, decide_eq_true h8] at hK
      simp only [RUN_, (u_C_route_New_k1 _ _ _).1, (u_C_route_New_k2 _ _ _).1, (u_C_route_New_k3 _ _ _).1, (u_C_route_New_k4 _ _ _).1, (u_C_route_New_k5 _ _ _).1, (u_C_route_New_k6 _ _ _).1, (u_C_route_New_k7 _ _ _).1, (u_C_route_New_k8 _ _ _).1, (u_C_route_New_k9 _ _ _).1, FR_, simprocAttr, if_true, if_false, ite_true, ite_false, ne_eq, eq_self, OPK_, KEY_, lstK, fillL]
      exact hK
    · have h8' : ((8 : Int) ≤ (l.length : Int)) := by omega
      simp only [RUN_, (u_C_route_New_k1 _ _ _).1, (u_C_route_New_k2 _ _ _).1, (u_C_route_New_k3 _ _ _).1, (u_C_route_New_k4 _ _ _).1, (u_C_route_New_k5 _ _ _).1, (u_C_route_New_k6 _ _ _).1, (u_C_route_New_k7 _ _ _).1, (u_C_route_New_k8 _ _ _).1, (u_C_route_New_k9 _ _ _).1, FR_, simprocAttr, if_true, if_false, ite_true, ite_false, ne_eq, eq_self, OPK_, KEY_, h1, h8']
      unfold newA newH at hK
      rw [decide_eq_false h8] at hK
      simpa using hK
end Go.AM
namespace Go.AM
open Go
open AV renaming undef → uu
set_option maxRecDepth 20000
theorem pad_set {s : List UInt8} {i : Nat} (h : i < s.length) (hs : s.length ≤ 16) : (bs (padB (s.take i))).set i (u8 s[i]) = bs (padB (s.take (i + 1))) := by
  have e : ∀ (t : List UInt8), t.length ≤ 16 → padB t = t ++ List.replicate (16 - t.length) 0 := fun t ht => by unfold padB; rw [List.take_of_length_le ht]
  rw [e _ (by simp; omega), e _ (by simp; omega)]
  have h1 : (s.take i).length = i := by simp; omega
  have h2 : (s.take (i + 1)).length = i + 1 := by simp; omega
  rw [h1, h2, show 16 - i = (16 - (i + 1)) + 1 by omega, List.replicate_succ]
  simp only [bs, List.map_append, List.map_cons]
  rw [List.set_append_right _ _ (by rw [List.length_map, h1]; exact Nat.le_refl _)]
  simp only [List.length_map, h1, Nat.sub_self, List.set_cons_zero]
  rw [List.take_succ_eq_append_getElem h]
  simp only [List.map_append, List.map_cons, List.map_nil, List.append_assoc, List.cons_append, List.nil_append]
def OfR (C : CallW) (f : FuncId) : Prop := ∀ (s : List UInt8) (S : List (List AV)) (H : List HObj) (K : AV → St → Prop), K (.tup [.agg (bs (keyOf s).1.b), .bool (decide ((keyOf s).2 = 0))]) ⟨S, H⟩ → C (.fn f) [.s (.str s)] ⟨S, H⟩ K
set_option maxHeartbeats 2000000 in
theorem ref10_Of_spec {C : CallW} (hC : LeC C C) (P : Program) : ∀ (s : List UInt8) (S : List (List AV)) (H : List HObj) (K : AV → St → Prop), K (.tup [.agg (bs (keyOf s).1.b), .bool (decide ((keyOf s).2 = 0))]) ⟨S, H⟩ → runL C P C_hourglassref10_Of [.s (.str s)] ⟨S, H⟩ K := by
  intro s S H K hK
  have key0l : (bs key0.b).length = 16 := rfl
  have bad : badT s → K (.tup [.agg (bs key0.b), .bool false]) ⟨S, H⟩ := fun h => by
    rw [show keyOf s = (key0, 1) from if_pos h] at hK; exact hK
  by_cases h0 : s.length < 1
  · have h0' : ((s.length : Int) < 1) := by omega
    simp only [C_hourglassref10_Of, RUN_, u_C_hourglassref10_Of_k1.1, u_C_hourglassref10_Of_k2.1, u_C_hourglassref10_Of_k3.1, u_C_hourglassref10_Of_k4.1, u_C_hourglassref10_Of_k5.1, u_C_hourglassref10_Of_k6.1, u_C_hourglassref10_Of_k7.1, u_C_hourglassref10_Of_k8.1, u_C_hourglassref10_Of_k9.1, u_C_hourglassref10_Of_k10.1, FR_, simprocAttr, if_true, if_false, ite_true, ite_false, ne_eq, eq_self, OPK_, KEY_, h0']
    exact bad (.inl (List.length_eq_zero_iff.1 (by omega)))
  · have h0' : ¬ ((s.length : Int) < 1) := by omega
    by_cases h1 : 16 < s.length
    · have h1' : (16 : Int) < (s.length : Int) := by omega
      simp only [C_hourglassref10_Of, RUN_, u_C_hourglassref10_Of_k1.1, u_C_hourglassref10_Of_k2.1, u_C_hourglassref10_Of_k3.1, u_C_hourglassref10_Of_k4.1, u_C_hourglassref10_Of_k5.1, u_C_hourglassref10_Of_k6.1, u_C_hourglassref10_Of_k7.1, u_C_hourglassref10_Of_k8.1, u_C_hourglassref10_Of_k9.1, u_C_hourglassref10_Of_k10.1, FR_, simprocAttr, if_true, if_false, ite_true, ite_false, ne_eq, eq_self, OPK_, KEY_, h0', h1']
      exact bad (.inr (.inl h1))
    · have h1' : ¬ ((16 : Int) < (s.length : Int)) := by omega
      simp only [C_hourglassref10_Of, RUN_, u_C_hourglassref10_Of_k1.1, u_C_hourglassref10_Of_k2.1, u_C_hourglassref10_Of_k3.1, u_C_hourglassref10_Of_k4.1, u_C_hourglassref10_Of_k5.1, u_C_hourglassref10_Of_k6.1, u_C_hourglassref10_Of_k7.1, u_C_hourglassref10_Of_k8.1, u_C_hourglassref10_Of_k9.1, u_C_hourglassref10_Of_k10.1, FR_, simprocAttr, if_true, if_false, ite_true, ite_false, ne_eq, eq_self, OPK_, KEY_, h0', h1']
      refine loop_rule hC (α := Nat) (fun a => s.length - a) (fun a => [.s (.str s), .undef, .ptr (.stk S.length) 0, .undef, .ptr (.stk (S.length + 1)) 0, .s (.int .i64 a), uu, uu, uu, uu, uu, uu, uu, uu, uu, uu, uu, uu, uu, uu, uu, uu, uu, uu, uu, uu, uu, uu, uu, uu, uu, uu, uu]) (fun a => S ++ [bs key0.b, bs (padB (s.take a))]) (fun _ => H) (fun i => i ≤ s.length ∧ ∀ j, (hj : j < i) → (hj' : j < s.length) → s[j] ≠ 0) 0 ⟨by simp, fun j hj => by omega⟩ rfl (by rw [app_take_add]; rfl) rfl (fun i hi => by simp [AV.under, AV.under.go]) ?_
      rintro i ⟨hi, hall⟩ ih
      have hpl : ∀ t, (bs (padB t)).length = 16 := fun t => by rw [bs_length]; exact (padK t).h
      by_cases h16 : i < s.length
      · have hlt : ((i : Int) < (s.length : Int)) := by omega
        have h16' : ((i : Int) < 16) := by omega
        have hge : (0 : Int) ≤ (i : Int) := by omega
        have hw := wrap_succ (i := i) (by omega)
        have hg : s.getD i 0 = s[i] := by simp [List.getD, h16]
        by_cases hz : s[i] = 0
        · simp only [RUN_, u_C_hourglassref10_Of_k1.1, u_C_hourglassref10_Of_k2.1, u_C_hourglassref10_Of_k3.1, u_C_hourglassref10_Of_k4.1, u_C_hourglassref10_Of_k5.1, u_C_hourglassref10_Of_k6.1, u_C_hourglassref10_Of_k7.1, u_C_hourglassref10_Of_k8.1, u_C_hourglassref10_Of_k9.1, u_C_hourglassref10_Of_k10.1, FR_, simprocAttr, if_true, if_false, ite_true, ite_false, ne_eq, eq_self, OPK_, KEY_, hlt, hge, hg, hz, UInt8.toNat_zero, hpl]
          exact bad (.inr (.inr (hz ▸ List.getElem_mem h16)))
        · have hz' : ¬ (((s[i]).toNat : Int) = 0) := fun e => hz (u8_zero.1 e)
          have hps := pad_set h16 (by omega)
          have hi16 : i < 16 := by omega
          unfold u8 at hps
          simp only [RUN_, u_C_hourglassref10_Of_k1.1, u_C_hourglassref10_Of_k2.1, u_C_hourglassref10_Of_k3.1, u_C_hourglassref10_Of_k4.1, u_C_hourglassref10_Of_k5.1, u_C_hourglassref10_Of_k6.1, u_C_hourglassref10_Of_k7.1, u_C_hourglassref10_Of_k8.1, u_C_hourglassref10_Of_k9.1, u_C_hourglassref10_Of_k10.1, FR_, simprocAttr, if_true, if_false, ite_true, ite_false, ne_eq, eq_self, OPK_, KEY_, hlt, hge, hg, hz', hpl, indexAddrL, h16', hw, Nat.mul_one, hi16, hps]
          exact ih (i + 1) _ _ _ (by omega) ⟨by omega, fun j hj hj' => by
            rcases Nat.lt_or_ge j i with h | h
            · exact hall j h hj'
            · have : j = i := by omega
              subst this; exact hz⟩ rfl (app_take_add _ _ _) rfl
      · have hlt : ¬ ((i : Int) < (s.length : Int)) := by omega
        have hnb : ¬ badT s := by
          rintro (h | h | h)
          · rw [h] at h0; exact h0 (by simp)
          · exact h1 h
          · obtain ⟨j, hj, e⟩ := List.getElem_of_mem h
            exact hall j (by omega) hj e
        have hp : padB (s.take i) = padB s := by rw [List.take_of_length_le (by omega)]
        rw [show keyOf s = (padK s, 0) from if_neg hnb] at hK
        have e2 : (bs (padB s)).take 16 = bs (padB s) := List.take_of_length_le (by rw [hpl]; omega)
        simp only [RUN_, u_C_hourglassref10_Of_k1.1, u_C_hourglassref10_Of_k2.1, u_C_hourglassref10_Of_k3.1, u_C_hourglassref10_Of_k4.1, u_C_hourglassref10_Of_k5.1, u_C_hourglassref10_Of_k6.1, u_C_hourglassref10_Of_k7.1, u_C_hourglassref10_Of_k8.1, u_C_hourglassref10_Of_k9.1, u_C_hourglassref10_Of_k10.1, FR_, simprocAttr, if_true, if_false, ite_true, ite_false, ne_eq, eq_self, OPK_, KEY_, hlt, hp, hpl, e2]
        exact hK
def kS (C : CallW) (f : FuncId) : Prop := ∀ (s : List UInt8) (S : List (List AV)) (H : List HObj) (K : AV → St → Prop), K (.agg (bs (keyOf s).1.b)) ⟨S, H⟩ → C (.fn f) [.s (.str s)] ⟨S, H⟩ K
set_option maxHeartbeats 1000000 in
theorem law_k_spec {C : CallW} (hC : LeC C C) (P : Program) {f : FuncId} (hf : OfR C f) : ∀ (s : List UInt8) (S : List (List AV)) (H : List HObj) (K : AV → St → Prop), K (.agg (bs (keyOf s).1.b)) ⟨S, H⟩ → runL C P (C_hourglasslaw17_k f) [.s (.str s)] ⟨S, H⟩ K := by
  intro s S H K hK
  simp only [C_hourglasslaw17_k, RUN_, (u_C_hourglasslaw17_k_k1 _).1, FR_, simprocAttr, if_true, if_false, ite_true, ite_false, ne_eq, eq_self, OPK_, KEY_]
  refine hf _ _ _ _ ?_
  simp only [RUN_, (u_C_hourglasslaw17_k_k1 _).1, FR_, simprocAttr, if_true, if_false, ite_true, ite_false, ne_eq, eq_self, OPK_, KEY_]
  exact hK
end Go.AM
namespace Go.AM
open Go
open AV renaming undef → uu
set_option maxRecDepth 20000
def longW (l : List Wr) : Bool := decide (20 < l.length) || l.any fun w => decide (250 < w.val.length)
set_option maxHeartbeats 1000000 in
theorem long_spec {C : CallW} (hC : LeC C C) (P : Program) : ∀ (l : List Wr) S H (K : AV → St → Prop), l.length ≤ 9223372036854775807 → K (.bool (longW l)) ⟨S, H⟩ → runL C P C_hourglasslaw17_long [lstW l] ⟨S, H⟩ K := by
  intro l S H K hl hK
  by_cases h20 : 20 < l.length
  · have h20' : (20 : Int) < (l.length : Int) := by omega
    simp only [lstW, C_hourglasslaw17_long, RUN_, u_C_hourglasslaw17_long_k1.1, u_C_hourglasslaw17_long_k2.1, u_C_hourglasslaw17_long_k3.1, u_C_hourglasslaw17_long_k4.1, u_C_hourglasslaw17_long_k5.1, u_C_hourglasslaw17_long_k6.1, FR_, simprocAttr, if_true, if_false, ite_true, ite_false, ne_eq, eq_self, OPK_, KEY_, h20']
    rw [show longW l = true by simp [longW, h20]] at hK
    exact hK
  · have h20' : ¬ ((20 : Int) < (l.length : Int)) := by omega
    simp only [lstW, C_hourglasslaw17_long, RUN_, u_C_hourglasslaw17_long_k1.1, u_C_hourglasslaw17_long_k2.1, u_C_hourglasslaw17_long_k3.1, u_C_hourglasslaw17_long_k4.1, u_C_hourglasslaw17_long_k5.1, u_C_hourglasslaw17_long_k6.1, FR_, simprocAttr, if_true, if_false, ite_true, ite_false, ne_eq, eq_self, OPK_, KEY_, h20']
    rw [show longW l = l.any fun w => decide (250 < w.val.length) by simp [longW, h20]] at hK
    refine loop_rule hC (α := Nat) (fun a => l.length - a) (fun a => [.list .sh 18 (l.map wA), uu, uu, .s (.int .i64 a), uu, uu, uu, uu, uu, uu, uu, uu, uu, uu, uu, uu, uu, uu, uu, uu]) (fun _ => S) (fun _ => H) (fun i => i ≤ l.length ∧ (l.any fun w => decide (250 < w.val.length)) = (l.drop i).any fun w => decide (250 < w.val.length)) 0 ⟨by simp, rfl⟩ rfl (by simp) rfl (fun i hi => by simp [AV.under, AV.under.go]) ?_
    rintro i ⟨hi, hinv⟩ ih
    by_cases h16 : i < l.length
    · have hlt : ((i : Int) < (l.length : Int)) := by omega
      have hw := wrap_succ (i := i) (by omega)
      rw [List.drop_eq_getElem_cons h16, List.any_cons] at hinv
      by_cases hv : 250 < (l[i]).val.length
      · have hv' : (250 : Int) < ((l[i]).val.length : Int) := by omega
        simp only [RUN_, u_C_hourglasslaw17_long_k1.1, u_C_hourglasslaw17_long_k2.1, u_C_hourglasslaw17_long_k3.1, u_C_hourglasslaw17_long_k4.1, u_C_hourglasslaw17_long_k5.1, u_C_hourglasslaw17_long_k6.1, FR_, simprocAttr, if_true, if_false, ite_true, ite_false, ne_eq, eq_self, OPK_, KEY_, WR_, hlt, h16, hv']
        rw [hinv, decide_eq_true hv, Bool.true_or] at hK
        exact hK
      · have hv' : ¬ ((250 : Int) < ((l[i]).val.length : Int)) := by omega
        rw [decide_eq_false hv, Bool.false_or] at hinv
        simp only [RUN_, u_C_hourglasslaw17_long_k1.1, u_C_hourglasslaw17_long_k2.1, u_C_hourglasslaw17_long_k3.1, u_C_hourglasslaw17_long_k4.1, u_C_hourglasslaw17_long_k5.1, u_C_hourglasslaw17_long_k6.1, FR_, simprocAttr, if_true, if_false, ite_true, ite_false, ne_eq, eq_self, OPK_, KEY_, WR_, hlt, h16, hv', hw]
        exact ih (i + 1) _ _ _ (by omega) ⟨by omega, hinv⟩ rfl (by simp) rfl
    · have hlt : ¬ ((i : Int) < (l.length : Int)) := by omega
      rw [List.drop_of_length_le (by omega)] at hinv
      rw [hinv] at hK
      simp only [RUN_, u_C_hourglasslaw17_long_k1.1, u_C_hourglasslaw17_long_k2.1, u_C_hourglasslaw17_long_k3.1, u_C_hourglasslaw17_long_k4.1, u_C_hourglasslaw17_long_k5.1, u_C_hourglasslaw17_long_k6.1, FR_, simprocAttr, if_true, if_false, ite_true, ite_false, ne_eq, eq_self, OPK_, KEY_, hlt]
      exact hK
def NewS (C : CallW) (f : FuncId) : Prop := ∀ (l : List Key) S H (K : AV → St → Prop), l.length ≤ 9223372036854775807 → K (newA l H) ⟨S, newH l H⟩ → C (.fn f) [lstK l] ⟨S, H⟩ K
def TOfS (C : CallW) (f : FuncId) : Prop := ∀ (l : List Key) (k : Key) (h : Nat) S H (K : AV → St → Prop), H[h]? = some (tabA l) → l.length < 9223372036854775807 → K (.i (ofK l k)) ⟨S, H⟩ → C (.fn f) [.ptr (.heap h) 0, .agg (bs k.b)] ⟨S, H⟩ K
def TNodesS (C : CallW) (f : FuncId) : Prop := ∀ (l : List Key) (h : Nat) S H (K : AV → St → Prop), H[h]? = some (tabA l) → l.length < 9223372036854775807 → K (.i ((l.length + 1 : Nat) : Int)) ⟨S, H⟩ → C (.fn f) [.ptr (.heap h) 0] ⟨S, H⟩ K
theorem app_getH (H : List HObj) (o : HObj) : (H ++ [o])[H.length]? = some o := by simp
set_option maxHeartbeats 1000000 in
theorem awake_spec {C : CallW} (hC : LeC C C) (hW : WkC C) (P : Program) {f1 f2 f3 f4 : FuncId} (h1 : kS C f1) (h2 : NewS C f2) (h3 : TOfS C f3) (h4 : TNodesS C f4) : ∀ S H (K : AV → St → Prop), (∀ o, K (.bool true) ⟨S, H ++ [o]⟩) → runL C P (C_hourglasslaw17_awake f1 f2 f3 f4) [] ⟨S, H⟩ K := by
  intro S H K hK
  have e0 : keyOf [109] = (padK [109], 0) := by decide
  have e1 : keyOf [97] = (padK [97], 0) := by decide
  have ek : okPts [padK [109]] = true := by decide
  have eN : newA [padK [109]] H = .tup [.ptr (.heap H.length) 0, .i 0] := by unfold newA; rw [ek]; rfl
  have eH : newH [padK [109]] H = H ++ [tabA [padK [109]]] := by unfold newH; rw [ek]; rfl
  have eo1 : ofK [padK [109]] (padK [97]) = 0 := by decide
  have eo2 : ofK [padK [109]] (padK [109]) = 1 := by decide
  simp only [C_hourglasslaw17_awake, RUN_, (u_C_hourglasslaw17_awake_k1 _ _ _ _).1, (u_C_hourglasslaw17_awake_k2 _ _ _ _).1, FR_, simprocAttr, if_true, if_false, ite_true, ite_false, ne_eq, eq_self, OPK_, KEY_]
  refine h1 _ _ _ _ ?_
  simp only [RUN_, (u_C_hourglasslaw17_awake_k1 _ _ _ _).1, (u_C_hourglasslaw17_awake_k2 _ _ _ _).1, FR_, simprocAttr, if_true, if_false, ite_true, ite_false, ne_eq, eq_self, OPK_, KEY_, bslL, fillE, e0, List.isEmpty_cons, List.isEmpty_nil]
  refine hW _ _ [lstK [padK [109]]] _ _ (.full .nil) ?_
  refine h2 _ _ _ _ (by simp) ?_
  rw [eN, eH]
  simp only [RUN_, (u_C_hourglasslaw17_awake_k1 _ _ _ _).1, (u_C_hourglasslaw17_awake_k2 _ _ _ _).1, FR_, simprocAttr, if_true, if_false, ite_true, ite_false, ne_eq, eq_self, OPK_, KEY_, refEq]
  refine h1 _ _ _ _ ?_
  simp only [RUN_, (u_C_hourglasslaw17_awake_k1 _ _ _ _).1, (u_C_hourglasslaw17_awake_k2 _ _ _ _).1, FR_, simprocAttr, if_true, if_false, ite_true, ite_false, ne_eq, eq_self, OPK_, KEY_, e1]
  refine h3 [padK [109]] _ _ _ _ _ (app_getH _ _) (by simp) ?_
  simp only [RUN_, (u_C_hourglasslaw17_awake_k1 _ _ _ _).1, (u_C_hourglasslaw17_awake_k2 _ _ _ _).1, FR_, simprocAttr, if_true, if_false, ite_true, ite_false, ne_eq, eq_self, OPK_, KEY_, eo1]
  refine h1 _ _ _ _ ?_
  simp only [RUN_, (u_C_hourglasslaw17_awake_k1 _ _ _ _).1, (u_C_hourglasslaw17_awake_k2 _ _ _ _).1, FR_, simprocAttr, if_true, if_false, ite_true, ite_false, ne_eq, eq_self, OPK_, KEY_, e0]
  refine h3 [padK [109]] _ _ _ _ _ (app_getH _ _) (by simp) ?_
  simp only [RUN_, (u_C_hourglasslaw17_awake_k1 _ _ _ _).1, (u_C_hourglasslaw17_awake_k2 _ _ _ _).1, FR_, simprocAttr, if_true, if_false, ite_true, ite_false, ne_eq, eq_self, OPK_, KEY_, eo2]
  refine h4 [padK [109]] _ _ _ _ (app_getH _ _) (by simp) ?_
  simp only [RUN_, (u_C_hourglasslaw17_awake_k1 _ _ _ _).1, (u_C_hourglasslaw17_awake_k2 _ _ _ _).1, FR_, simprocAttr, if_true, if_false, ite_true, ite_false, ne_eq, eq_self, OPK_, KEY_]
  exact hK _
end Go.AM
namespace Go.AM
open Go
set_option maxRecDepth 20000
def partW (pts : List Key) (l : List Wr) (j : Nat) : List Wr := l.filter fun w => decide (ofK pts w.key = (j : Int))
def splitC (pts : List Key) (l : List Wr) : List AV := (List.range (pts.length + 1)).map fun j => slO (partW pts l j)
theorem cnt_le' (k : Key) : ∀ (l : List Key), cntK k l ≤ l.length
  | [] => Nat.le_refl _
  | p :: l => by have := cnt_le' k l; simp only [cntK, List.length_cons]; split <;> omega
theorem splitC_len {pts : List Key} {l : List Wr} : (splitC pts l).length = pts.length + 1 := by simp [splitC]
theorem splitC_nil {pts : List Key} : splitC pts [] = List.replicate (pts.length + 1) (.s .nilS) := by
  apply List.ext_getElem
  · simp [splitC]
  · intro i h1 h2
    simp [splitC, partW, slO]
theorem splitC_get {pts : List Key} {l : List Wr} {j : Nat} (h : j < pts.length + 1) : (splitC pts l)[j]? = some (slO (partW pts l j)) := by simp [splitC, h]
theorem part_snoc {pts : List Key} {l : List Wr} {w : Wr} {j : Nat} : partW pts (l ++ [w]) j = partW pts l j ++ (if ofK pts w.key = (j : Int) then [w] else []) := by
  unfold partW
  rw [List.filter_append, List.filter_cons, List.filter_nil]
  congr 1
  by_cases h : ofK pts w.key = (j : Int) <;> simp [h]
theorem splitC_snoc {pts : List Key} {l : List Wr} {w : Wr} {n : Nat} (h : ofK pts w.key = (n : Int)) (hn : n < pts.length + 1) : (splitC pts l).set n (slO (partW pts l n ++ [w])) = splitC pts (l ++ [w]) := by
  apply List.ext_getElem
  · simp [splitC]
  · intro i h1 h2
    simp only [splitC, List.length_set, List.length_map, List.length_range] at h1
    rw [List.getElem_set]
    simp only [splitC, List.getElem_map, List.getElem_range, part_snoc]
    split
    · rename_i e; subst e; rw [if_pos h]
    · rename_i e
      rw [if_neg (by rw [h]; omega), List.append_nil]
theorem splitC_skip {pts : List Key} {l : List Wr} {w : Wr} (h : ofK pts w.key < 0) : splitC pts (l ++ [w]) = splitC pts l := by
  apply List.ext_getElem
  · simp [splitC]
  · intro i h1 h2
    simp only [splitC, List.getElem_map, List.getElem_range, part_snoc]
    rw [if_neg (by omega), List.append_nil]
end Go.AM
namespace Go.AM
open Go
set_option maxRecDepth 20000
def y3a1 (c : Nat → FuncId) : LCode := (.tree (.rd (zs 24 (.mv false (.t 5))) 0 true (.rd (zs 25 (.mv false (.t 8))) 1 true (.rd (zs 26 (.mv false (.t 5))) 2 false (.rd (zs 27 (.mv false (.t 8))) 3 false (.rd (zs 28 (.ixa (.sl 1) (.t 26) (.t 27))) 4 false (.rd (zs 30 (.loadA 18 (.t 7))) 6 true (.rd (zs 31 (.bsl ⟨18, true, 40, (.agg (zk ++ [(.s (.str [])), (.s (.bool false))]))⟩ 1 [(0, (.t 30))])) 7 true (.mv (zs 29 (.load1 true (.t 28))) [2, 3, 4] (.mv (zs 32 (.app ⟨18, true, 40, (.agg (zk ++ [(.s (.str [])), (.s (.bool false))]))⟩ false (.t 29) (.t 31))) [2, 3, 4, 5, 6, 7] (.rd (zs 33 (.ixa (.sl 1) (.t 24) (.t 25))) 9 false (.mv (zn (.store 1 (.t 33) (.t 32))) [0, 1, 2, 3, 4, 5, 6, 7, 8, 9] .done .stop)) .stop) .stop)))))))))
def y3a2 (c : Nat → FuncId) : LCode := (.seq (.sq [(zs 22 (.mv false (.t 8))), (zs 23 (.bin .geq .sc (.t 22) (zi 0)))]) (.cond (.t 23) (y3a1 c) .skip))
def y3a3 (c : Nat → FuncId) : LCode := (.seq (.sq [(zs 18 (.mv false (.t 0))), (zs 19 (.shift 0 (.t 7))), (zs 20 (.loadA 16 (.t 19))), (zs 21 (.call (.f (c 1)) [(.t 18), (.t 20)])), (zs 8 (.mv true (.t 21)))]) (y3a2 c))
def y3a4 (c : Nat → FuncId) : LCode := (.seq (.block 1 (.seq (.sq [(zs 16 (.ixa (.sl 18) (.t 12) (.t 14))), (zs 17 (.loadA 18 (.t 16))), (zs 7 (.alloc false (zk ++ [(.s (.str [])), (.s (.bool false))]))), (zn (.store 18 (.t 7) (.t 17)))]) (y3a3 c))) (.sq [(zs 34 (.bin .add .sc (.t 14) (zi 1))), (zs 14 (.mv false (.t 34)))]))
def y3a5 (c : Nat → FuncId) : LCode := (.seq (.sq [(zs 15 (.bin .lss .sc (.t 14) (.t 13)))]) (.seq (.cond (.t 15) .skip (.exit 0)) (y3a4 c)))
def y3a6 (c : Nat → FuncId) : LCode := (.block 0 (.loop (zm false [0, 1, 4, 1, 6, 3, 21]) (y3a5 c)))
def y3a7 (c : Nat → FuncId) : LCode := (.seq (.seq (.sq [(zs 12 (.mv false (.t 1))), (zs 13 (.len .sl (.t 12))), (zs 14 (.mv false (zi 0)))]) (y3a6 c)) (.seq (.sq [(zs 35 (.mv true (.t 5))), (zs 4 (.mv true (.t 35)))]) .ret))
def y3a8 (c : Nat → FuncId) : LCode := (.seq (.sq [(zs 9 (.mv false (.t 0))), (zs 10 (.call (.f (c 0)) [(.t 9)])), (zs 11 (.mksl false true ⟨1, false, 24, (.s .nilS)⟩ (.t 10) (.t 10))), (zs 5 (.mv true (.t 11)))]) (y3a7 c))
def U_route_Table_Split (c : Nat → FuncId) := PLift.up (zc (zc (zc (@unfC _ _ (y3a1.eq_1 c)) (@unfC _ _ (y3a2.eq_1 c))) (zc (@unfC _ _ (y3a3.eq_1 c)) (@unfC _ _ (y3a4.eq_1 c)))) (zc (zc (@unfC _ _ (y3a5.eq_1 c)) (@unfC _ _ (y3a6.eq_1 c))) (zc (@unfC _ _ (y3a7.eq_1 c)) (@unfC _ _ (y3a8.eq_1 c)))))
def C_route_Table_Split (c : Nat → FuncId) : LFn := ⟨36, [.t 4], (.seq (.sq [(zs 4 (.mv true (.c .nilS)))]) (y3a8 c))⟩
end Go.AM
namespace Go.AM
open Go
open AV renaming undef → uu
set_option maxRecDepth 20000
def SplitS (C : CallW) (f : FuncId) : Prop := ∀ (pts : List Key) (l : List Wr) (h : Nat) S H (K : AV → St → Prop), H[h]? = some (tabA pts) → pts.length ≤ 1000 → l.length ≤ 1000 → K (.row (.heap H.length) 0 (pts.length + 1) (pts.length + 1)) ⟨S, H ++ [.cells (splitC pts l)]⟩ → C (.fn f) [.ptr (.heap h) 0, lstW l] ⟨S, H⟩ K
theorem nilS_flat : ∀ (n : Nat), (List.replicate n [AV.s .nilS]).flatten = List.replicate n (.s .nilS)
  | 0 => rfl
  | n + 1 => by rw [List.replicate_succ, List.flatten_cons, nilS_flat n]; rfl
theorem nilS_low : ∀ (n : Nat), AV.under.go 0 (List.replicate n (.s .nilS)) = true
  | 0 => rfl
  | n + 1 => by rw [List.replicate_succ, AV.under.go, nilS_low n]; rfl
set_option maxHeartbeats 4000000 in
theorem Split_spec {C : CallW} (hC : LeC C C) (P : Program) {c : Nat → FuncId} (hn : TNodesS C (c 0)) (ho : TOfS C (c 1)) : ∀ (pts : List Key) (l : List Wr) (h : Nat) S H (K : AV → St → Prop), H[h]? = some (tabA pts) → pts.length ≤ 1000 → l.length ≤ 1000 →
    K (.row (.heap H.length) 0 (pts.length + 1) (pts.length + 1)) ⟨S, H ++ [.cells (splitC pts l)]⟩ → runL C P (C_route_Table_Split c) [.ptr (.heap h) 0, lstW l] ⟨S, H⟩ K := by
  intro pts l h S H K hh hp hl hK
  have hn' := hn pts
  have ho' := ho pts
  have hhl : h < H.length := (List.getElem?_eq_some_iff.1 hh).1
  simp only [lstW, C_route_Table_Split, RUN_, (U_route_Table_Split _).1, FR_, simprocAttr, if_true, if_false, ite_true, ite_false, ne_eq, eq_self, OPK_, KEY_]
  refine hn' _ _ _ _ hh (by omega) ?_
  have hmk : mkslL false true ⟨1, false, 24, .s .nilS⟩ (.s (.int .i64 ((pts.length + 1 : Nat) : Int))) (.s (.int .i64 ((pts.length + 1 : Nat) : Int))) ⟨S, H⟩ = some (.row (.heap H.length) 0 (pts.length + 1) (pts.length + 1), ⟨S, H ++ [.cells (splitC pts [])]⟩) := by
    unfold mkslL
    dsimp only
    rw [if_pos (by omega)]
    simp only [Int.toNat_natCast, AV.cells, nilS_flat, newBox_heap (nilS_low _), Option.map_some, splitC_nil]
  simp only [RUN_, (U_route_Table_Split _).1, FR_, simprocAttr, if_true, if_false, ite_true, ite_false, ne_eq, eq_self, OPK_, KEY_, hmk]
  refine loop_rule hC (α := Nat) (fun a => l.length - a) (fun a => [.ptr (.heap h) 0, uu, uu, uu, uu, .row (.heap H.length) 0 (pts.length + 1) (pts.length + 1), uu, uu, uu, uu, uu, uu, .list .sh 18 (l.map wA), .s (.int .i64 l.length), .s (.int .i64 a), uu, uu, uu, uu, uu, uu, uu, uu, uu, uu, uu, uu, uu, uu, uu, uu, uu, uu, uu, uu, uu]) (fun _ => S) (fun a => H ++ [.cells (splitC pts (l.take a))]) (fun i => i ≤ l.length) 0 (by simp) rfl (by simp) rfl (fun i hi => by simp [AV.under, AV.under.go]) ?_
  intro i hi ih
  by_cases h16 : i < l.length
  · have hh2 : (H ++ [.cells (splitC pts (l.take i))])[h]? = some (tabA pts) := by rw [List.getElem?_append_left hhl]; exact hh
    have hlt : ((i : Int) < (l.length : Int)) := by omega
    have hw := wrap_succ (i := i) (by omega)
    have htk : l.take (i + 1) = l.take i ++ [l[i]] := List.take_succ_eq_append_getElem h16
    simp only [RUN_, (U_route_Table_Split _).1, FR_, simprocAttr, if_true, if_false, ite_true, ite_false, ne_eq, eq_self, OPK_, KEY_, WR_, hlt, h16]
    refine ho' _ _ _ _ _ hh2 (by omega) ?_
    by_cases hneg : ofK pts (l[i]).key < 0
    · have hge : ¬ ((0 : Int) ≤ ofK pts (l[i]).key) := by omega
      simp only [RUN_, (U_route_Table_Split _).1, FR_, simprocAttr, if_true, if_false, ite_true, ite_false, ne_eq, eq_self, OPK_, KEY_, WR_, hge, hw]
      refine ih (i + 1) _ _ _ (by omega) (by omega) rfl (by simp) ?_
      rw [htk, splitC_skip hneg]
    · obtain ⟨n, hn⟩ : ∃ n : Nat, ofK pts (l[i]).key = (n : Int) := ⟨(ofK pts (l[i]).key).toNat, by omega⟩
      have hnl : n < pts.length + 1 := by
        unfold ofK at hn hneg
        split at hn
        · have := cnt_le' (l[i]).key pts; omega
        · omega
      have hge : ((0 : Int) ≤ (n : Int)) := by omega
      have hsl : n < (splitC pts (l.take i)).length := by rw [splitC_len]; exact hnl
      have hg := splitC_get (pts := pts) (l := l.take i) hnl
      have hfin := splitC_snoc (l := l.take i) hn hnl
      rw [slO_own (by simp), ← htk] at hfin
      by_cases hp : partW pts (l.take i) n = []
      · have hst := storeO_heap (S := S ++ [wc l[i]]) (H := H) (cs := (splitC pts (l.take i)).set n (.s .nilS)) (n := n) (sz := 18) (es := [.agg (wc l[i])]) (by simpa using hsl)
        rw [hp, slO_nil] at hg
        rw [hp, List.nil_append] at hfin
        simp only [RUN_, (U_route_Table_Split _).1, FR_, simprocAttr, if_true, if_false, ite_true, ite_false, ne_eq, eq_self, OPK_, KEY_, WR_, CHK_, Nat.reduceBEq, hn, hge, hnl, ixr_n, hg, hw, app_nilW, hst, Nat.mul_one, List.set_set]
        exact ih (i + 1) _ _ _ (by omega) (by omega) rfl (by simp) (by rw [← hfin]; rfl)
      · have hst := storeO_heap (S := S ++ [wc l[i]]) (H := H) (cs := (splitC pts (l.take i)).set n (.list .sh 18 ((partW pts (l.take i) n).map wA))) (n := n) (sz := 18) (es := (partW pts (l.take i) n ++ [l[i]]).map wA) (by simpa using hsl)
        have hpl : (partW pts (l.take i) n).length ≤ 1000000 := by
          have h1 := List.length_filter_le (fun w : Wr => decide (ofK pts w.key = (n : Int))) (l.take i)
          rw [List.length_take] at h1
          unfold partW; omega
        rw [slO_own hp] at hg
        simp only [RUN_, (U_route_Table_Split _).1, FR_, simprocAttr, if_true, if_false, ite_true, ite_false, ne_eq, eq_self, OPK_, KEY_, WR_, CHK_, Nat.reduceBEq, hn, hge, hnl, ixr_n, hg, hw, hpl, app_ownW, hst, Nat.mul_one, List.set_set]
        exact ih (i + 1) _ _ _ (by omega) (by omega) rfl (by simp) (by rw [← hfin])
  · have hlt : ¬ ((i : Int) < (l.length : Int)) := by omega
    have : i = l.length := by omega
    subst this
    simp only [RUN_, (U_route_Table_Split _).1, FR_, simprocAttr, if_true, if_false, ite_true, ite_false, ne_eq, eq_self, OPK_, KEY_, hlt]
    exact hK
end Go.AM
namespace Go.AM
open Go
open AV renaming undef → uu
set_option maxRecDepth 20000
def lstI (l : List Nat) : AV := .list .sh 1 (l.map fun (n : Nat) => AV.i n)
theorem slI_wk (l : List Nat) : WkL [(slI l).sh] [lstI l] := by
  unfold slI
  split
  · rename_i h; subst h; exact .nilS (by omega) .nil
  · exact .same .nil
theorem under_slI {n : Nat} {l : List Nat} : AV.under n (slI l) = true := by
  unfold slI; split <;> rfl
theorem app_slI {e : ET} {l : List Nat} {n : Nat} {σ : St} (h1 : e.c = 1) (h2 : e.bytes = 8) (hl : l.length ≤ 1000000) : appendL e false (slI l) (.list .full 1 [.i n]) σ = some (slI (l ++ [n]), σ) := by
  have he : elemsL e (.list .full 1 [.i n]) σ = some [.i n] := by simp [elemsL, h1]
  unfold appendL
  simp only [srcL, AV.isSlice, if_true, he, Option.bind_some, AV.under, AV.under.go, Bool.and_self]
  unfold slI
  by_cases h : l = []
  · subst h
    simp [appItems, h1, h2]
  · rw [if_neg h]
    have : 2 * (l.length + 1) * 8 ≤ 2 ^ 48 := by omega
    simp only [appItems, h1, ne_eq, not_true_eq_false, if_false, List.isEmpty_cons, Bool.false_eq_true, h2, List.length_map, List.length_cons, List.length_nil, Nat.zero_add, this, if_true]
    simp
def aboveK (l : List Key) (a : Key) (i : Nat) : Bool := match l[i]? with
  | some p => decide (0 < cmpK p a)
  | none => true
def belowK (l : List Key) (b : Key) (i : Nat) : Bool := decide (i = 0) || decide (b = key0) || (match l[i - 1]? with
  | some p => decide (cmpK p b < 0)
  | none => true)
def covUp (l : List Key) (a b : Key) (n : Nat) : List Nat := (List.range n).filter fun i => aboveK l a i && belowK l b i
def coverK (l : List Key) (a b : Key) : List Nat := if b ≠ key0 ∧ cmpK b a ≤ 0 then [] else covUp l a b (l.length + 1)
theorem cov_len {l : List Key} {a b : Key} {n : Nat} : (covUp l a b n).length ≤ n := by
  have := List.length_filter_le (fun i => aboveK l a i && belowK l b i) (List.range n)
  simpa [covUp] using this
theorem cov_succ {l : List Key} {a b : Key} {n : Nat} : covUp l a b (n + 1) = covUp l a b n ++ (if aboveK l a n && belowK l b n then [n] else []) := by
  unfold covUp
  rw [List.range_succ, List.filter_append]
  congr 1
  rw [List.filter_cons, List.filter_nil]
set_option maxHeartbeats 8000000 in
theorem Cover_spec {C : CallW} (hC : LeC C C) (P : Program) {f1 f2 : FuncId} (hc : KCmp C f1) (hn : TNodesS C f2) : ∀ (l : List Key) (a b : Key) (h : Nat) S H (K : AV → St → Prop), H[h]? = some (tabA l) → l.length ≤ 1000 → K (slI (coverK l a b)) ⟨S, H⟩ → runL C P (C_route_Table_Cover f1 f2) [.ptr (.heap h) 0, .agg (bs a.b), .agg (bs b.b)] ⟨S, H⟩ K := by
  intro l a b h S H K hh hl hK
  have hh' := hh
  unfold tabA lstK at hh'
  by_cases hb : b = key0
  · subst hb
    have hcv : coverK l a key0 = covUp l a key0 (l.length + 1) := if_neg fun h => h.1 rfl
    simp only [C_route_Table_Cover, RUN_, (u_C_route_Table_Cover_k1 _ _).1, (u_C_route_Table_Cover_k2 _ _).1, (u_C_route_Table_Cover_k3 _ _).1, (u_C_route_Table_Cover_k4 _ _).1, (u_C_route_Table_Cover_k5 _ _).1, (u_C_route_Table_Cover_k6 _ _).1, (u_C_route_Table_Cover_k7 _ _).1, (u_C_route_Table_Cover_k8 _ _).1, (u_C_route_Table_Cover_k9 _ _).1, (u_C_route_Table_Cover_k10 _ _).1, FR_, simprocAttr, if_true, if_false, ite_true, ite_false, ne_eq, eq_self, OPK_, KEY_]
    refine hn l _ _ _ _ hh (by omega) ?_
    simp only [RUN_, (u_C_route_Table_Cover_k1 _ _).1, (u_C_route_Table_Cover_k2 _ _).1, (u_C_route_Table_Cover_k3 _ _).1, (u_C_route_Table_Cover_k4 _ _).1, (u_C_route_Table_Cover_k5 _ _).1, (u_C_route_Table_Cover_k6 _ _).1, (u_C_route_Table_Cover_k7 _ _).1, (u_C_route_Table_Cover_k8 _ _).1, (u_C_route_Table_Cover_k9 _ _).1, (u_C_route_Table_Cover_k10 _ _).1, FR_, simprocAttr, if_true, if_false, ite_true, ite_false, ne_eq, eq_self, OPK_, KEY_]
    refine loop_rule hC (α := Nat) (fun i => l.length + 1 - i) (fun i => [.ptr (.heap h) 0, uu, uu, uu, .ptr (.stk S.length) 0, .ptr (.stk (S.length + 1)) 0, .undef, .s (.bool true), slI (covUp l a key0 i), uu, uu, uu, uu, uu, uu, uu, uu, uu, uu, uu, uu, uu, uu, uu, .i ((l.length + 1 : Nat) : Int), .s (.int .i64 i), uu, uu, uu, uu, uu, uu, uu, uu, uu, uu, uu, uu, uu, uu, uu, uu, uu, uu, uu, uu, uu, uu, uu, uu, uu, uu, uu, uu, uu, uu, uu, uu, uu, uu, uu, uu, uu, uu, uu, uu, uu, uu, uu, uu, uu, uu, uu, uu, uu]) (fun _ => S ++ [bs a.b, bs key0.b]) (fun _ => H) (fun i => i ≤ l.length + 1) 0 (by simp) rfl (by rw [app_take_add]; rfl) rfl (fun i hi => by simp [AV.under, AV.under.go, under_slI]) ?_
    intro i hi ih
    by_cases h16 : i < l.length + 1
    · have hlt : ((i : Int) < ((l.length + 1 : Nat) : Int)) := by omega
      have hge : (0 : Int) ≤ (i : Int) := by omega
      have hw := wrap_succ (i := i) (by omega)
      have hcl := cov_len (l := l) (a := a) (b := key0) (n := i)
      have happ : ∀ (e : ET) (σ : St), e.c = 1 → e.bytes = 8 → appendL e false (slI (covUp l a key0 i)) (.list .full 1 [.i i]) σ = some (slI (covUp l a key0 i ++ [i]), σ) := fun e σ h1 h2 => app_slI h1 h2 (by omega)
      have habove : aboveK l a i = (if hx : i < l.length then decide (0 < Lib.compareBytes (l[i]).b a.b) else true) := by
        unfold aboveK
        by_cases hx : i < l.length
        · simp [hx, cmpK] <;> rfl
        · simp [hx]
      have hbelow : belowK l key0 i = (if hx : 0 < i then true || decide (Lib.compareBytes (l[i - 1]'(by omega)).b key0.b < 0) else true) := by
        unfold belowK
        by_cases hx : 0 < i
        · have h17 : i - 1 < l.length := by omega
          have hne : ¬ i = 0 := by omega
          simp [hx, hne, cmpK, h17] <;> rfl
        · have : i = 0 := by omega
          simp [hx, this]
      have hs := cov_succ (l := l) (a := a) (b := key0) (n := i)
      by_cases hil : i < l.length
      · have hil' : ¬ ((i : Int) = (l.length : Int)) := by omega
        simp only [RUN_, (u_C_route_Table_Cover_k1 _ _).1, (u_C_route_Table_Cover_k2 _ _).1, (u_C_route_Table_Cover_k3 _ _).1, (u_C_route_Table_Cover_k4 _ _).1, (u_C_route_Table_Cover_k5 _ _).1, (u_C_route_Table_Cover_k6 _ _).1, (u_C_route_Table_Cover_k7 _ _).1, (u_C_route_Table_Cover_k8 _ _).1, (u_C_route_Table_Cover_k9 _ _).1, (u_C_route_Table_Cover_k10 _ _).1, FR_, simprocAttr, if_true, if_false, ite_true, ite_false, ne_eq, eq_self, OPK_, KEY_, hlt, hh', hil', hil]
        refine hc _ _ _ _ _ ?_
        by_cases hx : 0 < Lib.compareBytes (l[i]).b a.b
        · simp only [RUN_, (u_C_route_Table_Cover_k1 _ _).1, (u_C_route_Table_Cover_k2 _ _).1, (u_C_route_Table_Cover_k3 _ _).1, (u_C_route_Table_Cover_k4 _ _).1, (u_C_route_Table_Cover_k5 _ _).1, (u_C_route_Table_Cover_k6 _ _).1, (u_C_route_Table_Cover_k7 _ _).1, (u_C_route_Table_Cover_k8 _ _).1, (u_C_route_Table_Cover_k9 _ _).1, (u_C_route_Table_Cover_k10 _ _).1, FR_, simprocAttr, if_true, if_false, ite_true, ite_false, ne_eq, eq_self, OPK_, KEY_, hx]
          by_cases h0 : i = 0
          · have h0' : (((i : Int) = 0) = True) := eq_true (by omega)
            have h00 : ¬ (0 < i) := by omega
            simp only [RUN_, (u_C_route_Table_Cover_k1 _ _).1, (u_C_route_Table_Cover_k2 _ _).1, (u_C_route_Table_Cover_k3 _ _).1, (u_C_route_Table_Cover_k4 _ _).1, (u_C_route_Table_Cover_k5 _ _).1, (u_C_route_Table_Cover_k6 _ _).1, (u_C_route_Table_Cover_k7 _ _).1, (u_C_route_Table_Cover_k8 _ _).1, (u_C_route_Table_Cover_k9 _ _).1, (u_C_route_Table_Cover_k10 _ _).1, FR_, simprocAttr, if_true, if_false, ite_true, ite_false, ne_eq, eq_self, OPK_, KEY_, h0']
            have hs1 : covUp l a key0 (i + 1) = covUp l a key0 i ++ [i] := by rw [hs, habove, hbelow]; simp [hil, hx, h00]
            have ih1 := ih (i + 1)
            rw [hs1] at ih1
            try simp only [RUN_, (u_C_route_Table_Cover_k1 _ _).1, (u_C_route_Table_Cover_k2 _ _).1, (u_C_route_Table_Cover_k3 _ _).1, (u_C_route_Table_Cover_k4 _ _).1, (u_C_route_Table_Cover_k5 _ _).1, (u_C_route_Table_Cover_k6 _ _).1, (u_C_route_Table_Cover_k7 _ _).1, (u_C_route_Table_Cover_k8 _ _).1, (u_C_route_Table_Cover_k9 _ _).1, (u_C_route_Table_Cover_k10 _ _).1, FR_, simprocAttr, if_true, if_false, ite_true, ite_false, ne_eq, eq_self, OPK_, KEY_, happ, hw]
            exact ih1 _ _ _ (by omega) (by omega) rfl (app_take_add _ _ _) rfl
          · have h0' : ¬ ((i : Int) = 0) := by omega
            have h00 : 0 < i := by omega
            simp only [RUN_, (u_C_route_Table_Cover_k1 _ _).1, (u_C_route_Table_Cover_k2 _ _).1, (u_C_route_Table_Cover_k3 _ _).1, (u_C_route_Table_Cover_k4 _ _).1, (u_C_route_Table_Cover_k5 _ _).1, (u_C_route_Table_Cover_k6 _ _).1, (u_C_route_Table_Cover_k7 _ _).1, (u_C_route_Table_Cover_k8 _ _).1, (u_C_route_Table_Cover_k9 _ _).1, (u_C_route_Table_Cover_k10 _ _).1, FR_, simprocAttr, if_true, if_false, ite_true, ite_false, ne_eq, eq_self, OPK_, KEY_, h0']
            have hs1 : covUp l a key0 (i + 1) = covUp l a key0 i ++ [i] := by rw [hs, habove, hbelow]; simp [hil, hx, h00]
            have ih1 := ih (i + 1)
            rw [hs1] at ih1
            try simp only [RUN_, (u_C_route_Table_Cover_k1 _ _).1, (u_C_route_Table_Cover_k2 _ _).1, (u_C_route_Table_Cover_k3 _ _).1, (u_C_route_Table_Cover_k4 _ _).1, (u_C_route_Table_Cover_k5 _ _).1, (u_C_route_Table_Cover_k6 _ _).1, (u_C_route_Table_Cover_k7 _ _).1, (u_C_route_Table_Cover_k8 _ _).1, (u_C_route_Table_Cover_k9 _ _).1, (u_C_route_Table_Cover_k10 _ _).1, FR_, simprocAttr, if_true, if_false, ite_true, ite_false, ne_eq, eq_self, OPK_, KEY_, happ, hw]
            exact ih1 _ _ _ (by omega) (by omega) rfl (app_take_add _ _ _) rfl
        · simp only [RUN_, (u_C_route_Table_Cover_k1 _ _).1, (u_C_route_Table_Cover_k2 _ _).1, (u_C_route_Table_Cover_k3 _ _).1, (u_C_route_Table_Cover_k4 _ _).1, (u_C_route_Table_Cover_k5 _ _).1, (u_C_route_Table_Cover_k6 _ _).1, (u_C_route_Table_Cover_k7 _ _).1, (u_C_route_Table_Cover_k8 _ _).1, (u_C_route_Table_Cover_k9 _ _).1, (u_C_route_Table_Cover_k10 _ _).1, FR_, simprocAttr, if_true, if_false, ite_true, ite_false, ne_eq, eq_self, OPK_, KEY_, hx]
          by_cases h0 : i = 0
          · have h0' : (((i : Int) = 0) = True) := eq_true (by omega)
            have h00 : ¬ (0 < i) := by omega
            simp only [RUN_, (u_C_route_Table_Cover_k1 _ _).1, (u_C_route_Table_Cover_k2 _ _).1, (u_C_route_Table_Cover_k3 _ _).1, (u_C_route_Table_Cover_k4 _ _).1, (u_C_route_Table_Cover_k5 _ _).1, (u_C_route_Table_Cover_k6 _ _).1, (u_C_route_Table_Cover_k7 _ _).1, (u_C_route_Table_Cover_k8 _ _).1, (u_C_route_Table_Cover_k9 _ _).1, (u_C_route_Table_Cover_k10 _ _).1, FR_, simprocAttr, if_true, if_false, ite_true, ite_false, ne_eq, eq_self, OPK_, KEY_, h0']
            have hs1 : covUp l a key0 (i + 1) = covUp l a key0 i := by rw [hs, habove, hbelow]; simp [hil, hx, h00]
            have ih1 := ih (i + 1)
            rw [hs1] at ih1
            try simp only [RUN_, (u_C_route_Table_Cover_k1 _ _).1, (u_C_route_Table_Cover_k2 _ _).1, (u_C_route_Table_Cover_k3 _ _).1, (u_C_route_Table_Cover_k4 _ _).1, (u_C_route_Table_Cover_k5 _ _).1, (u_C_route_Table_Cover_k6 _ _).1, (u_C_route_Table_Cover_k7 _ _).1, (u_C_route_Table_Cover_k8 _ _).1, (u_C_route_Table_Cover_k9 _ _).1, (u_C_route_Table_Cover_k10 _ _).1, FR_, simprocAttr, if_true, if_false, ite_true, ite_false, ne_eq, eq_self, OPK_, KEY_, happ, hw]
            exact ih1 _ _ _ (by omega) (by omega) rfl (app_take_add _ _ _) rfl
          · have h0' : ¬ ((i : Int) = 0) := by omega
            have h00 : 0 < i := by omega
            simp only [RUN_, (u_C_route_Table_Cover_k1 _ _).1, (u_C_route_Table_Cover_k2 _ _).1, (u_C_route_Table_Cover_k3 _ _).1, (u_C_route_Table_Cover_k4 _ _).1, (u_C_route_Table_Cover_k5 _ _).1, (u_C_route_Table_Cover_k6 _ _).1, (u_C_route_Table_Cover_k7 _ _).1, (u_C_route_Table_Cover_k8 _ _).1, (u_C_route_Table_Cover_k9 _ _).1, (u_C_route_Table_Cover_k10 _ _).1, FR_, simprocAttr, if_true, if_false, ite_true, ite_false, ne_eq, eq_self, OPK_, KEY_, h0']
            have hs1 : covUp l a key0 (i + 1) = covUp l a key0 i := by rw [hs, habove, hbelow]; simp [hil, hx, h00]
            have ih1 := ih (i + 1)
            rw [hs1] at ih1
            try simp only [RUN_, (u_C_route_Table_Cover_k1 _ _).1, (u_C_route_Table_Cover_k2 _ _).1, (u_C_route_Table_Cover_k3 _ _).1, (u_C_route_Table_Cover_k4 _ _).1, (u_C_route_Table_Cover_k5 _ _).1, (u_C_route_Table_Cover_k6 _ _).1, (u_C_route_Table_Cover_k7 _ _).1, (u_C_route_Table_Cover_k8 _ _).1, (u_C_route_Table_Cover_k9 _ _).1, (u_C_route_Table_Cover_k10 _ _).1, FR_, simprocAttr, if_true, if_false, ite_true, ite_false, ne_eq, eq_self, OPK_, KEY_, happ, hw]
            exact ih1 _ _ _ (by omega) (by omega) rfl (app_take_add _ _ _) rfl
      · have hil' : (((i : Int) = (l.length : Int)) = True) := eq_true (by omega)
        simp only [RUN_, (u_C_route_Table_Cover_k1 _ _).1, (u_C_route_Table_Cover_k2 _ _).1, (u_C_route_Table_Cover_k3 _ _).1, (u_C_route_Table_Cover_k4 _ _).1, (u_C_route_Table_Cover_k5 _ _).1, (u_C_route_Table_Cover_k6 _ _).1, (u_C_route_Table_Cover_k7 _ _).1, (u_C_route_Table_Cover_k8 _ _).1, (u_C_route_Table_Cover_k9 _ _).1, (u_C_route_Table_Cover_k10 _ _).1, FR_, simprocAttr, if_true, if_false, ite_true, ite_false, ne_eq, eq_self, OPK_, KEY_, hlt, hh', hil']
        by_cases h0 : i = 0
        · have h0' : (((i : Int) = 0) = True) := eq_true (by omega)
          have h00 : ¬ (0 < i) := by omega
          simp only [RUN_, (u_C_route_Table_Cover_k1 _ _).1, (u_C_route_Table_Cover_k2 _ _).1, (u_C_route_Table_Cover_k3 _ _).1, (u_C_route_Table_Cover_k4 _ _).1, (u_C_route_Table_Cover_k5 _ _).1, (u_C_route_Table_Cover_k6 _ _).1, (u_C_route_Table_Cover_k7 _ _).1, (u_C_route_Table_Cover_k8 _ _).1, (u_C_route_Table_Cover_k9 _ _).1, (u_C_route_Table_Cover_k10 _ _).1, FR_, simprocAttr, if_true, if_false, ite_true, ite_false, ne_eq, eq_self, OPK_, KEY_, h0']
          have hs1 : covUp l a key0 (i + 1) = covUp l a key0 i ++ [i] := by rw [hs, habove, hbelow]; simp [hil, h00]
          have ih1 := ih (i + 1)
          rw [hs1] at ih1
          try simp only [RUN_, (u_C_route_Table_Cover_k1 _ _).1, (u_C_route_Table_Cover_k2 _ _).1, (u_C_route_Table_Cover_k3 _ _).1, (u_C_route_Table_Cover_k4 _ _).1, (u_C_route_Table_Cover_k5 _ _).1, (u_C_route_Table_Cover_k6 _ _).1, (u_C_route_Table_Cover_k7 _ _).1, (u_C_route_Table_Cover_k8 _ _).1, (u_C_route_Table_Cover_k9 _ _).1, (u_C_route_Table_Cover_k10 _ _).1, FR_, simprocAttr, if_true, if_false, ite_true, ite_false, ne_eq, eq_self, OPK_, KEY_, happ, hw]
          exact ih1 _ _ _ (by omega) (by omega) rfl (app_take_add _ _ _) rfl
        · have h0' : ¬ ((i : Int) = 0) := by omega
          have h00 : 0 < i := by omega
          simp only [RUN_, (u_C_route_Table_Cover_k1 _ _).1, (u_C_route_Table_Cover_k2 _ _).1, (u_C_route_Table_Cover_k3 _ _).1, (u_C_route_Table_Cover_k4 _ _).1, (u_C_route_Table_Cover_k5 _ _).1, (u_C_route_Table_Cover_k6 _ _).1, (u_C_route_Table_Cover_k7 _ _).1, (u_C_route_Table_Cover_k8 _ _).1, (u_C_route_Table_Cover_k9 _ _).1, (u_C_route_Table_Cover_k10 _ _).1, FR_, simprocAttr, if_true, if_false, ite_true, ite_false, ne_eq, eq_self, OPK_, KEY_, h0']
          have hs1 : covUp l a key0 (i + 1) = covUp l a key0 i ++ [i] := by rw [hs, habove, hbelow]; simp [hil, h00]
          have ih1 := ih (i + 1)
          rw [hs1] at ih1
          try simp only [RUN_, (u_C_route_Table_Cover_k1 _ _).1, (u_C_route_Table_Cover_k2 _ _).1, (u_C_route_Table_Cover_k3 _ _).1, (u_C_route_Table_Cover_k4 _ _).1, (u_C_route_Table_Cover_k5 _ _).1, (u_C_route_Table_Cover_k6 _ _).1, (u_C_route_Table_Cover_k7 _ _).1, (u_C_route_Table_Cover_k8 _ _).1, (u_C_route_Table_Cover_k9 _ _).1, (u_C_route_Table_Cover_k10 _ _).1, FR_, simprocAttr, if_true, if_false, ite_true, ite_false, ne_eq, eq_self, OPK_, KEY_, happ, hw]
          exact ih1 _ _ _ (by omega) (by omega) rfl (app_take_add _ _ _) rfl
    · have hlt : ¬ ((i : Int) < ((l.length + 1 : Nat) : Int)) := by omega
      have hi' : i = l.length + 1 := by omega
      subst hi'
      rw [hcv] at hK
      simp only [RUN_, (u_C_route_Table_Cover_k1 _ _).1, (u_C_route_Table_Cover_k2 _ _).1, (u_C_route_Table_Cover_k3 _ _).1, (u_C_route_Table_Cover_k4 _ _).1, (u_C_route_Table_Cover_k5 _ _).1, (u_C_route_Table_Cover_k6 _ _).1, (u_C_route_Table_Cover_k7 _ _).1, (u_C_route_Table_Cover_k8 _ _).1, (u_C_route_Table_Cover_k9 _ _).1, (u_C_route_Table_Cover_k10 _ _).1, FR_, simprocAttr, if_true, if_false, ite_true, ite_false, ne_eq, eq_self, OPK_, KEY_, hlt, under_slI]
      exact hK
  · simp only [C_route_Table_Cover, RUN_, (u_C_route_Table_Cover_k1 _ _).1, (u_C_route_Table_Cover_k2 _ _).1, (u_C_route_Table_Cover_k3 _ _).1, (u_C_route_Table_Cover_k4 _ _).1, (u_C_route_Table_Cover_k5 _ _).1, (u_C_route_Table_Cover_k6 _ _).1, (u_C_route_Table_Cover_k7 _ _).1, (u_C_route_Table_Cover_k8 _ _).1, (u_C_route_Table_Cover_k9 _ _).1, (u_C_route_Table_Cover_k10 _ _).1, FR_, simprocAttr, if_true, if_false, ite_true, ite_false, ne_eq, eq_self, OPK_, KEY_, hb]
    refine hc _ _ _ _ _ ?_
    by_cases hba : Lib.compareBytes b.b a.b ≤ 0
    · have hcv : coverK l a b = [] := if_pos ⟨hb, hba⟩
      rw [hcv] at hK
      simp only [RUN_, (u_C_route_Table_Cover_k1 _ _).1, (u_C_route_Table_Cover_k2 _ _).1, (u_C_route_Table_Cover_k3 _ _).1, (u_C_route_Table_Cover_k4 _ _).1, (u_C_route_Table_Cover_k5 _ _).1, (u_C_route_Table_Cover_k6 _ _).1, (u_C_route_Table_Cover_k7 _ _).1, (u_C_route_Table_Cover_k8 _ _).1, (u_C_route_Table_Cover_k9 _ _).1, (u_C_route_Table_Cover_k10 _ _).1, FR_, simprocAttr, if_true, if_false, ite_true, ite_false, ne_eq, eq_self, OPK_, KEY_, hba]
      exact hK
    · have hcv : coverK l a b = covUp l a b (l.length + 1) := if_neg fun h => hba h.2
      simp only [RUN_, (u_C_route_Table_Cover_k1 _ _).1, (u_C_route_Table_Cover_k2 _ _).1, (u_C_route_Table_Cover_k3 _ _).1, (u_C_route_Table_Cover_k4 _ _).1, (u_C_route_Table_Cover_k5 _ _).1, (u_C_route_Table_Cover_k6 _ _).1, (u_C_route_Table_Cover_k7 _ _).1, (u_C_route_Table_Cover_k8 _ _).1, (u_C_route_Table_Cover_k9 _ _).1, (u_C_route_Table_Cover_k10 _ _).1, FR_, simprocAttr, if_true, if_false, ite_true, ite_false, ne_eq, eq_self, OPK_, KEY_, hba]
      refine hn l _ _ _ _ hh (by omega) ?_
      simp only [RUN_, (u_C_route_Table_Cover_k1 _ _).1, (u_C_route_Table_Cover_k2 _ _).1, (u_C_route_Table_Cover_k3 _ _).1, (u_C_route_Table_Cover_k4 _ _).1, (u_C_route_Table_Cover_k5 _ _).1, (u_C_route_Table_Cover_k6 _ _).1, (u_C_route_Table_Cover_k7 _ _).1, (u_C_route_Table_Cover_k8 _ _).1, (u_C_route_Table_Cover_k9 _ _).1, (u_C_route_Table_Cover_k10 _ _).1, FR_, simprocAttr, if_true, if_false, ite_true, ite_false, ne_eq, eq_self, OPK_, KEY_]
      refine loop_rule hC (α := Nat) (fun i => l.length + 1 - i) (fun i => [.ptr (.heap h) 0, uu, uu, uu, .ptr (.stk S.length) 0, .ptr (.stk (S.length + 1)) 0, .undef, .s (.bool false), slI (covUp l a b i), uu, uu, uu, uu, uu, uu, uu, uu, uu, uu, uu, uu, uu, uu, uu, .i ((l.length + 1 : Nat) : Int), .s (.int .i64 i), uu, uu, uu, uu, uu, uu, uu, uu, uu, uu, uu, uu, uu, uu, uu, uu, uu, uu, uu, uu, uu, uu, uu, uu, uu, uu, uu, uu, uu, uu, uu, uu, uu, uu, uu, uu, uu, uu, uu, uu, uu, uu, uu, uu, uu, uu, uu, uu, uu]) (fun _ => S ++ [bs a.b, bs b.b]) (fun _ => H) (fun i => i ≤ l.length + 1) 0 (by simp) rfl (by rw [app_take_add]; rfl) rfl (fun i hi => by simp [AV.under, AV.under.go, under_slI]) ?_
      intro i hi ih
      by_cases h16 : i < l.length + 1
      · have hlt : ((i : Int) < ((l.length + 1 : Nat) : Int)) := by omega
        have hge : (0 : Int) ≤ (i : Int) := by omega
        have hw := wrap_succ (i := i) (by omega)
        have hcl := cov_len (l := l) (a := a) (b := b) (n := i)
        have happ : ∀ (e : ET) (σ : St), e.c = 1 → e.bytes = 8 → appendL e false (slI (covUp l a b i)) (.list .full 1 [.i i]) σ = some (slI (covUp l a b i ++ [i]), σ) := fun e σ h1 h2 => app_slI h1 h2 (by omega)
        have habove : aboveK l a i = (if hx : i < l.length then decide (0 < Lib.compareBytes (l[i]).b a.b) else true) := by
          unfold aboveK
          by_cases hx : i < l.length
          · simp [hx, cmpK] <;> rfl
          · simp [hx]
        have hbelow : belowK l b i = (if hx : 0 < i then false || decide (Lib.compareBytes (l[i - 1]'(by omega)).b b.b < 0) else true) := by
          unfold belowK
          by_cases hx : 0 < i
          · have h17 : i - 1 < l.length := by omega
            have hne : ¬ i = 0 := by omega
            simp [hx, hne, cmpK, h17, hb] <;> rfl
          · have : i = 0 := by omega
            simp [hx, this]
        have hs := cov_succ (l := l) (a := a) (b := b) (n := i)
        by_cases hil : i < l.length
        · have hil' : ¬ ((i : Int) = (l.length : Int)) := by omega
          simp only [RUN_, (u_C_route_Table_Cover_k1 _ _).1, (u_C_route_Table_Cover_k2 _ _).1, (u_C_route_Table_Cover_k3 _ _).1, (u_C_route_Table_Cover_k4 _ _).1, (u_C_route_Table_Cover_k5 _ _).1, (u_C_route_Table_Cover_k6 _ _).1, (u_C_route_Table_Cover_k7 _ _).1, (u_C_route_Table_Cover_k8 _ _).1, (u_C_route_Table_Cover_k9 _ _).1, (u_C_route_Table_Cover_k10 _ _).1, FR_, simprocAttr, if_true, if_false, ite_true, ite_false, ne_eq, eq_self, OPK_, KEY_, hlt, hh', hil', hil]
          refine hc _ _ _ _ _ ?_
          by_cases hx : 0 < Lib.compareBytes (l[i]).b a.b
          · simp only [RUN_, (u_C_route_Table_Cover_k1 _ _).1, (u_C_route_Table_Cover_k2 _ _).1, (u_C_route_Table_Cover_k3 _ _).1, (u_C_route_Table_Cover_k4 _ _).1, (u_C_route_Table_Cover_k5 _ _).1, (u_C_route_Table_Cover_k6 _ _).1, (u_C_route_Table_Cover_k7 _ _).1, (u_C_route_Table_Cover_k8 _ _).1, (u_C_route_Table_Cover_k9 _ _).1, (u_C_route_Table_Cover_k10 _ _).1, FR_, simprocAttr, if_true, if_false, ite_true, ite_false, ne_eq, eq_self, OPK_, KEY_, hx]
            by_cases h0 : i = 0
            · have h0' : (((i : Int) = 0) = True) := eq_true (by omega)
              have h00 : ¬ (0 < i) := by omega
              simp only [RUN_, (u_C_route_Table_Cover_k1 _ _).1, (u_C_route_Table_Cover_k2 _ _).1, (u_C_route_Table_Cover_k3 _ _).1, (u_C_route_Table_Cover_k4 _ _).1, (u_C_route_Table_Cover_k5 _ _).1, (u_C_route_Table_Cover_k6 _ _).1, (u_C_route_Table_Cover_k7 _ _).1, (u_C_route_Table_Cover_k8 _ _).1, (u_C_route_Table_Cover_k9 _ _).1, (u_C_route_Table_Cover_k10 _ _).1, FR_, simprocAttr, if_true, if_false, ite_true, ite_false, ne_eq, eq_self, OPK_, KEY_, h0']
              have hs1 : covUp l a b (i + 1) = covUp l a b i ++ [i] := by rw [hs, habove, hbelow]; simp [hil, hx, h00]
              have ih1 := ih (i + 1)
              rw [hs1] at ih1
              try simp only [RUN_, (u_C_route_Table_Cover_k1 _ _).1, (u_C_route_Table_Cover_k2 _ _).1, (u_C_route_Table_Cover_k3 _ _).1, (u_C_route_Table_Cover_k4 _ _).1, (u_C_route_Table_Cover_k5 _ _).1, (u_C_route_Table_Cover_k6 _ _).1, (u_C_route_Table_Cover_k7 _ _).1, (u_C_route_Table_Cover_k8 _ _).1, (u_C_route_Table_Cover_k9 _ _).1, (u_C_route_Table_Cover_k10 _ _).1, FR_, simprocAttr, if_true, if_false, ite_true, ite_false, ne_eq, eq_self, OPK_, KEY_, happ, hw]
              exact ih1 _ _ _ (by omega) (by omega) rfl (app_take_add _ _ _) rfl
            · have h0' : ¬ ((i : Int) = 0) := by omega
              have h00 : 0 < i := by omega
              have h17 : i - 1 < l.length := by omega
              have hwp : IntKind.i64.wrap ((i : Int) - 1) = ((i - 1 : Nat) : Int) := by rw [wrap_i64 (by omega) (by omega)]; omega
              simp only [RUN_, (u_C_route_Table_Cover_k1 _ _).1, (u_C_route_Table_Cover_k2 _ _).1, (u_C_route_Table_Cover_k3 _ _).1, (u_C_route_Table_Cover_k4 _ _).1, (u_C_route_Table_Cover_k5 _ _).1, (u_C_route_Table_Cover_k6 _ _).1, (u_C_route_Table_Cover_k7 _ _).1, (u_C_route_Table_Cover_k8 _ _).1, (u_C_route_Table_Cover_k9 _ _).1, (u_C_route_Table_Cover_k10 _ _).1, FR_, simprocAttr, if_true, if_false, ite_true, ite_false, ne_eq, eq_self, OPK_, KEY_, h0', hh', h17, hwp]
              refine hc _ _ _ _ _ ?_
              by_cases hy : Lib.compareBytes (l[i - 1]).b b.b < 0
              · simp only [RUN_, (u_C_route_Table_Cover_k1 _ _).1, (u_C_route_Table_Cover_k2 _ _).1, (u_C_route_Table_Cover_k3 _ _).1, (u_C_route_Table_Cover_k4 _ _).1, (u_C_route_Table_Cover_k5 _ _).1, (u_C_route_Table_Cover_k6 _ _).1, (u_C_route_Table_Cover_k7 _ _).1, (u_C_route_Table_Cover_k8 _ _).1, (u_C_route_Table_Cover_k9 _ _).1, (u_C_route_Table_Cover_k10 _ _).1, FR_, simprocAttr, if_true, if_false, ite_true, ite_false, ne_eq, eq_self, OPK_, KEY_, hy]
                have hs1 : covUp l a b (i + 1) = covUp l a b i ++ [i] := by rw [hs, habove, hbelow]; simp [hil, hx, h00, hy]
                have ih1 := ih (i + 1)
                rw [hs1] at ih1
                try simp only [RUN_, (u_C_route_Table_Cover_k1 _ _).1, (u_C_route_Table_Cover_k2 _ _).1, (u_C_route_Table_Cover_k3 _ _).1, (u_C_route_Table_Cover_k4 _ _).1, (u_C_route_Table_Cover_k5 _ _).1, (u_C_route_Table_Cover_k6 _ _).1, (u_C_route_Table_Cover_k7 _ _).1, (u_C_route_Table_Cover_k8 _ _).1, (u_C_route_Table_Cover_k9 _ _).1, (u_C_route_Table_Cover_k10 _ _).1, FR_, simprocAttr, if_true, if_false, ite_true, ite_false, ne_eq, eq_self, OPK_, KEY_, happ, hw]
                exact ih1 _ _ _ (by omega) (by omega) rfl (app_take_add _ _ _) rfl
              · simp only [RUN_, (u_C_route_Table_Cover_k1 _ _).1, (u_C_route_Table_Cover_k2 _ _).1, (u_C_route_Table_Cover_k3 _ _).1, (u_C_route_Table_Cover_k4 _ _).1, (u_C_route_Table_Cover_k5 _ _).1, (u_C_route_Table_Cover_k6 _ _).1, (u_C_route_Table_Cover_k7 _ _).1, (u_C_route_Table_Cover_k8 _ _).1, (u_C_route_Table_Cover_k9 _ _).1, (u_C_route_Table_Cover_k10 _ _).1, FR_, simprocAttr, if_true, if_false, ite_true, ite_false, ne_eq, eq_self, OPK_, KEY_, hy]
                have hs1 : covUp l a b (i + 1) = covUp l a b i := by rw [hs, habove, hbelow]; simp [hil, hx, h00, hy]
                have ih1 := ih (i + 1)
                rw [hs1] at ih1
                try simp only [RUN_, (u_C_route_Table_Cover_k1 _ _).1, (u_C_route_Table_Cover_k2 _ _).1, (u_C_route_Table_Cover_k3 _ _).1, (u_C_route_Table_Cover_k4 _ _).1, (u_C_route_Table_Cover_k5 _ _).1, (u_C_route_Table_Cover_k6 _ _).1, (u_C_route_Table_Cover_k7 _ _).1, (u_C_route_Table_Cover_k8 _ _).1, (u_C_route_Table_Cover_k9 _ _).1, (u_C_route_Table_Cover_k10 _ _).1, FR_, simprocAttr, if_true, if_false, ite_true, ite_false, ne_eq, eq_self, OPK_, KEY_, happ, hw]
                exact ih1 _ _ _ (by omega) (by omega) rfl (app_take_add _ _ _) rfl
          · simp only [RUN_, (u_C_route_Table_Cover_k1 _ _).1, (u_C_route_Table_Cover_k2 _ _).1, (u_C_route_Table_Cover_k3 _ _).1, (u_C_route_Table_Cover_k4 _ _).1, (u_C_route_Table_Cover_k5 _ _).1, (u_C_route_Table_Cover_k6 _ _).1, (u_C_route_Table_Cover_k7 _ _).1, (u_C_route_Table_Cover_k8 _ _).1, (u_C_route_Table_Cover_k9 _ _).1, (u_C_route_Table_Cover_k10 _ _).1, FR_, simprocAttr, if_true, if_false, ite_true, ite_false, ne_eq, eq_self, OPK_, KEY_, hx]
            by_cases h0 : i = 0
            · have h0' : (((i : Int) = 0) = True) := eq_true (by omega)
              have h00 : ¬ (0 < i) := by omega
              simp only [RUN_, (u_C_route_Table_Cover_k1 _ _).1, (u_C_route_Table_Cover_k2 _ _).1, (u_C_route_Table_Cover_k3 _ _).1, (u_C_route_Table_Cover_k4 _ _).1, (u_C_route_Table_Cover_k5 _ _).1, (u_C_route_Table_Cover_k6 _ _).1, (u_C_route_Table_Cover_k7 _ _).1, (u_C_route_Table_Cover_k8 _ _).1, (u_C_route_Table_Cover_k9 _ _).1, (u_C_route_Table_Cover_k10 _ _).1, FR_, simprocAttr, if_true, if_false, ite_true, ite_false, ne_eq, eq_self, OPK_, KEY_, h0']
              have hs1 : covUp l a b (i + 1) = covUp l a b i := by rw [hs, habove, hbelow]; simp [hil, hx, h00]
              have ih1 := ih (i + 1)
              rw [hs1] at ih1
              try simp only [RUN_, (u_C_route_Table_Cover_k1 _ _).1, (u_C_route_Table_Cover_k2 _ _).1, (u_C_route_Table_Cover_k3 _ _).1, (u_C_route_Table_Cover_k4 _ _).1, (u_C_route_Table_Cover_k5 _ _).1, (u_C_route_Table_Cover_k6 _ _).1, (u_C_route_Table_Cover_k7 _ _).1, (u_C_route_Table_Cover_k8 _ _).1, (u_C_route_Table_Cover_k9 _ _).1, (u_C_route_Table_Cover_k10 _ _).1, FR_, simprocAttr, if_true, if_false, ite_true, ite_false, ne_eq, eq_self, OPK_, KEY_, happ, hw]
              exact ih1 _ _ _ (by omega) (by omega) rfl (app_take_add _ _ _) rfl
            · have h0' : ¬ ((i : Int) = 0) := by omega
              have h00 : 0 < i := by omega
              have h17 : i - 1 < l.length := by omega
              have hwp : IntKind.i64.wrap ((i : Int) - 1) = ((i - 1 : Nat) : Int) := by rw [wrap_i64 (by omega) (by omega)]; omega
              simp only [RUN_, (u_C_route_Table_Cover_k1 _ _).1, (u_C_route_Table_Cover_k2 _ _).1, (u_C_route_Table_Cover_k3 _ _).1, (u_C_route_Table_Cover_k4 _ _).1, (u_C_route_Table_Cover_k5 _ _).1, (u_C_route_Table_Cover_k6 _ _).1, (u_C_route_Table_Cover_k7 _ _).1, (u_C_route_Table_Cover_k8 _ _).1, (u_C_route_Table_Cover_k9 _ _).1, (u_C_route_Table_Cover_k10 _ _).1, FR_, simprocAttr, if_true, if_false, ite_true, ite_false, ne_eq, eq_self, OPK_, KEY_, h0', hh', h17, hwp]
              refine hc _ _ _ _ _ ?_
              by_cases hy : Lib.compareBytes (l[i - 1]).b b.b < 0
              · simp only [RUN_, (u_C_route_Table_Cover_k1 _ _).1, (u_C_route_Table_Cover_k2 _ _).1, (u_C_route_Table_Cover_k3 _ _).1, (u_C_route_Table_Cover_k4 _ _).1, (u_C_route_Table_Cover_k5 _ _).1, (u_C_route_Table_Cover_k6 _ _).1, (u_C_route_Table_Cover_k7 _ _).1, (u_C_route_Table_Cover_k8 _ _).1, (u_C_route_Table_Cover_k9 _ _).1, (u_C_route_Table_Cover_k10 _ _).1, FR_, simprocAttr, if_true, if_false, ite_true, ite_false, ne_eq, eq_self, OPK_, KEY_, hy]
                have hs1 : covUp l a b (i + 1) = covUp l a b i := by rw [hs, habove, hbelow]; simp [hil, hx, h00, hy]
                have ih1 := ih (i + 1)
                rw [hs1] at ih1
                try simp only [RUN_, (u_C_route_Table_Cover_k1 _ _).1, (u_C_route_Table_Cover_k2 _ _).1, (u_C_route_Table_Cover_k3 _ _).1, (u_C_route_Table_Cover_k4 _ _).1, (u_C_route_Table_Cover_k5 _ _).1, (u_C_route_Table_Cover_k6 _ _).1, (u_C_route_Table_Cover_k7 _ _).1, (u_C_route_Table_Cover_k8 _ _).1, (u_C_route_Table_Cover_k9 _ _).1, (u_C_route_Table_Cover_k10 _ _).1, FR_, simprocAttr, if_true, if_false, ite_true, ite_false, ne_eq, eq_self, OPK_, KEY_, happ, hw]
                exact ih1 _ _ _ (by omega) (by omega) rfl (app_take_add _ _ _) rfl
              · simp only [RUN_, (u_C_route_Table_Cover_k1 _ _).1, (u_C_route_Table_Cover_k2 _ _).1, (u_C_route_Table_Cover_k3 _ _).1, (u_C_route_Table_Cover_k4 _ _).1, (u_C_route_Table_Cover_k5 _ _).1, (u_C_route_Table_Cover_k6 _ _).1, (u_C_route_Table_Cover_k7 _ _).1, (u_C_route_Table_Cover_k8 _ _).1, (u_C_route_Table_Cover_k9 _ _).1, (u_C_route_Table_Cover_k10 _ _).1, FR_, simprocAttr, if_true, if_false, ite_true, ite_false, ne_eq, eq_self, OPK_, KEY_, hy]
                have hs1 : covUp l a b (i + 1) = covUp l a b i := by rw [hs, habove, hbelow]; simp [hil, hx, h00, hy]
                have ih1 := ih (i + 1)
                rw [hs1] at ih1
                try simp only [RUN_, (u_C_route_Table_Cover_k1 _ _).1, (u_C_route_Table_Cover_k2 _ _).1, (u_C_route_Table_Cover_k3 _ _).1, (u_C_route_Table_Cover_k4 _ _).1, (u_C_route_Table_Cover_k5 _ _).1, (u_C_route_Table_Cover_k6 _ _).1, (u_C_route_Table_Cover_k7 _ _).1, (u_C_route_Table_Cover_k8 _ _).1, (u_C_route_Table_Cover_k9 _ _).1, (u_C_route_Table_Cover_k10 _ _).1, FR_, simprocAttr, if_true, if_false, ite_true, ite_false, ne_eq, eq_self, OPK_, KEY_, happ, hw]
                exact ih1 _ _ _ (by omega) (by omega) rfl (app_take_add _ _ _) rfl
        · have hil' : (((i : Int) = (l.length : Int)) = True) := eq_true (by omega)
          simp only [RUN_, (u_C_route_Table_Cover_k1 _ _).1, (u_C_route_Table_Cover_k2 _ _).1, (u_C_route_Table_Cover_k3 _ _).1, (u_C_route_Table_Cover_k4 _ _).1, (u_C_route_Table_Cover_k5 _ _).1, (u_C_route_Table_Cover_k6 _ _).1, (u_C_route_Table_Cover_k7 _ _).1, (u_C_route_Table_Cover_k8 _ _).1, (u_C_route_Table_Cover_k9 _ _).1, (u_C_route_Table_Cover_k10 _ _).1, FR_, simprocAttr, if_true, if_false, ite_true, ite_false, ne_eq, eq_self, OPK_, KEY_, hlt, hh', hil']
          by_cases h0 : i = 0
          · have h0' : (((i : Int) = 0) = True) := eq_true (by omega)
            have h00 : ¬ (0 < i) := by omega
            simp only [RUN_, (u_C_route_Table_Cover_k1 _ _).1, (u_C_route_Table_Cover_k2 _ _).1, (u_C_route_Table_Cover_k3 _ _).1, (u_C_route_Table_Cover_k4 _ _).1, (u_C_route_Table_Cover_k5 _ _).1, (u_C_route_Table_Cover_k6 _ _).1, (u_C_route_Table_Cover_k7 _ _).1, (u_C_route_Table_Cover_k8 _ _).1, (u_C_route_Table_Cover_k9 _ _).1, (u_C_route_Table_Cover_k10 _ _).1, FR_, simprocAttr, if_true, if_false, ite_true, ite_false, ne_eq, eq_self, OPK_, KEY_, h0']
            have hs1 : covUp l a b (i + 1) = covUp l a b i ++ [i] := by rw [hs, habove, hbelow]; simp [hil, h00]
            have ih1 := ih (i + 1)
            rw [hs1] at ih1
            try simp only [RUN_, (u_C_route_Table_Cover_k1 _ _).1, (u_C_route_Table_Cover_k2 _ _).1, (u_C_route_Table_Cover_k3 _ _).1, (u_C_route_Table_Cover_k4 _ _).1, (u_C_route_Table_Cover_k5 _ _).1, (u_C_route_Table_Cover_k6 _ _).1, (u_C_route_Table_Cover_k7 _ _).1, (u_C_route_Table_Cover_k8 _ _).1, (u_C_route_Table_Cover_k9 _ _).1, (u_C_route_Table_Cover_k10 _ _).1, FR_, simprocAttr, if_true, if_false, ite_true, ite_false, ne_eq, eq_self, OPK_, KEY_, happ, hw]
            exact ih1 _ _ _ (by omega) (by omega) rfl (app_take_add _ _ _) rfl
          · have h0' : ¬ ((i : Int) = 0) := by omega
            have h00 : 0 < i := by omega
            have h17 : i - 1 < l.length := by omega
            have hwp : IntKind.i64.wrap ((i : Int) - 1) = ((i - 1 : Nat) : Int) := by rw [wrap_i64 (by omega) (by omega)]; omega
            simp only [RUN_, (u_C_route_Table_Cover_k1 _ _).1, (u_C_route_Table_Cover_k2 _ _).1, (u_C_route_Table_Cover_k3 _ _).1, (u_C_route_Table_Cover_k4 _ _).1, (u_C_route_Table_Cover_k5 _ _).1, (u_C_route_Table_Cover_k6 _ _).1, (u_C_route_Table_Cover_k7 _ _).1, (u_C_route_Table_Cover_k8 _ _).1, (u_C_route_Table_Cover_k9 _ _).1, (u_C_route_Table_Cover_k10 _ _).1, FR_, simprocAttr, if_true, if_false, ite_true, ite_false, ne_eq, eq_self, OPK_, KEY_, h0', hh', h17, hwp]
            refine hc _ _ _ _ _ ?_
            by_cases hy : Lib.compareBytes (l[i - 1]).b b.b < 0
            · simp only [RUN_, (u_C_route_Table_Cover_k1 _ _).1, (u_C_route_Table_Cover_k2 _ _).1, (u_C_route_Table_Cover_k3 _ _).1, (u_C_route_Table_Cover_k4 _ _).1, (u_C_route_Table_Cover_k5 _ _).1, (u_C_route_Table_Cover_k6 _ _).1, (u_C_route_Table_Cover_k7 _ _).1, (u_C_route_Table_Cover_k8 _ _).1, (u_C_route_Table_Cover_k9 _ _).1, (u_C_route_Table_Cover_k10 _ _).1, FR_, simprocAttr, if_true, if_false, ite_true, ite_false, ne_eq, eq_self, OPK_, KEY_, hy]
              have hs1 : covUp l a b (i + 1) = covUp l a b i ++ [i] := by rw [hs, habove, hbelow]; simp [hil, h00, hy]
              have ih1 := ih (i + 1)
              rw [hs1] at ih1
              try simp only [RUN_, (u_C_route_Table_Cover_k1 _ _).1, (u_C_route_Table_Cover_k2 _ _).1, (u_C_route_Table_Cover_k3 _ _).1, (u_C_route_Table_Cover_k4 _ _).1, (u_C_route_Table_Cover_k5 _ _).1, (u_C_route_Table_Cover_k6 _ _).1, (u_C_route_Table_Cover_k7 _ _).1, (u_C_route_Table_Cover_k8 _ _).1, (u_C_route_Table_Cover_k9 _ _).1, (u_C_route_Table_Cover_k10 _ _).1, FR_, simprocAttr, if_true, if_false, ite_true, ite_false, ne_eq, eq_self, OPK_, KEY_, happ, hw]
              exact ih1 _ _ _ (by omega) (by omega) rfl (app_take_add _ _ _) rfl
            · simp only [RUN_, (u_C_route_Table_Cover_k1 _ _).1, (u_C_route_Table_Cover_k2 _ _).1, (u_C_route_Table_Cover_k3 _ _).1, (u_C_route_Table_Cover_k4 _ _).1, (u_C_route_Table_Cover_k5 _ _).1, (u_C_route_Table_Cover_k6 _ _).1, (u_C_route_Table_Cover_k7 _ _).1, (u_C_route_Table_Cover_k8 _ _).1, (u_C_route_Table_Cover_k9 _ _).1, (u_C_route_Table_Cover_k10 _ _).1, FR_, simprocAttr, if_true, if_false, ite_true, ite_false, ne_eq, eq_self, OPK_, KEY_, hy]
              have hs1 : covUp l a b (i + 1) = covUp l a b i := by rw [hs, habove, hbelow]; simp [hil, h00, hy]
              have ih1 := ih (i + 1)
              rw [hs1] at ih1
              try simp only [RUN_, (u_C_route_Table_Cover_k1 _ _).1, (u_C_route_Table_Cover_k2 _ _).1, (u_C_route_Table_Cover_k3 _ _).1, (u_C_route_Table_Cover_k4 _ _).1, (u_C_route_Table_Cover_k5 _ _).1, (u_C_route_Table_Cover_k6 _ _).1, (u_C_route_Table_Cover_k7 _ _).1, (u_C_route_Table_Cover_k8 _ _).1, (u_C_route_Table_Cover_k9 _ _).1, (u_C_route_Table_Cover_k10 _ _).1, FR_, simprocAttr, if_true, if_false, ite_true, ite_false, ne_eq, eq_self, OPK_, KEY_, happ, hw]
              exact ih1 _ _ _ (by omega) (by omega) rfl (app_take_add _ _ _) rfl
      · have hlt : ¬ ((i : Int) < ((l.length + 1 : Nat) : Int)) := by omega
        have hi' : i = l.length + 1 := by omega
        subst hi'
        rw [hcv] at hK
        simp only [RUN_, (u_C_route_Table_Cover_k1 _ _).1, (u_C_route_Table_Cover_k2 _ _).1, (u_C_route_Table_Cover_k3 _ _).1, (u_C_route_Table_Cover_k4 _ _).1, (u_C_route_Table_Cover_k5 _ _).1, (u_C_route_Table_Cover_k6 _ _).1, (u_C_route_Table_Cover_k7 _ _).1, (u_C_route_Table_Cover_k8 _ _).1, (u_C_route_Table_Cover_k9 _ _).1, (u_C_route_Table_Cover_k10 _ _).1, FR_, simprocAttr, if_true, if_false, ite_true, ite_false, ne_eq, eq_self, OPK_, KEY_, hlt, under_slI]
        exact hK
end Go.AM
namespace Go.AM
open Go
set_option maxRecDepth 20000
def CoverS (C : CallW) (f : FuncId) : Prop := ∀ (l : List Key) (a b : Key) (h : Nat) S H (K : AV → St → Prop), H[h]? = some (tabA l) → l.length ≤ 1000 → K (lstI (coverK l a b)) ⟨S, H⟩ → C (.fn f) [.ptr (.heap h) 0, .agg (bs a.b), .agg (bs b.b)] ⟨S, H⟩ K
def AwS (C : CallW) (f : FuncId) : Prop := ∀ S H (K : AV → St → Prop), (∀ o, K (.bool true) ⟨S, H ++ [o]⟩) → C (.fn f) [] ⟨S, H⟩ K
theorem ixl_i {l : List Nat} {i c : Nat} {k : IntKind} (h : i < l.length) (hc : c ≠ 0) : indexAddrL (.sl c) (.list .sh c (l.map fun (n : Nat) => AV.i n)) (.s (.int k (i : Int))) = some (.rop [.i (l[i] : Nat)]) := ixl_map h hc
def Steps (c : List Nat) : Prop := ∀ i, 0 < i → (h : i < c.length) → c[i] = c[i - 1] + 1
theorem coverK_len {l : List Key} {a b : Key} (h : l.length ≤ 100) : (coverK l a b).length ≤ 1000 := by
  unfold coverK
  split
  · simp
  · have := cov_len (l := l) (a := a) (b := b) (n := l.length + 1); omega
structure WholeP (pts : List Key) (a b fr to : Key) : Prop where
  good : ∀ k, goodR k = true → goodK k = true
  lt : cntK a pts ≤ pts.length
  mono : cmpK a b ≤ 0 → cntK a pts ≤ cntK b pts
  cons : Steps (coverK pts fr to)
  small : ∀ x ∈ coverK pts fr to, x ≤ pts.length
  mem : withinK a fr to = true → cntK a pts ∈ coverK pts fr to
end Go.AM
namespace Go.AM
open Go
theorem cb_flip : ∀ (x y : List UInt8), Lib.compareBytes y x = - Lib.compareBytes x y
  | [], [] => rfl
  | [], _ :: _ => rfl
  | _ :: _, [] => rfl
  | a :: x, b :: y => by
    simp only [Lib.compareBytes]
    by_cases h1 : a < b
    · have h2 : ¬ b < a := fun h => absurd (UInt8.lt_trans h1 h) (UInt8.lt_irrefl _)
      simp [h1, h2]
    · by_cases h2 : b < a
      · simp [h1, h2]
      · simp only [h1, h2, if_false]; exact cb_flip x y
theorem cb_trans : ∀ (x y z : List UInt8), Lib.compareBytes x y ≤ 0 → Lib.compareBytes y z ≤ 0 → Lib.compareBytes x z ≤ 0 ∧ (Lib.compareBytes x y < 0 ∨ Lib.compareBytes y z < 0 → Lib.compareBytes x z < 0)
  | [], [], [], _, _ => by simp [Lib.compareBytes]
  | [], [], _ :: _, _, _ => by simp [Lib.compareBytes]
  | [], _ :: _, [], _, h => by simp [Lib.compareBytes] at h
  | [], _ :: _, _ :: _, _, _ => by simp [Lib.compareBytes]
  | _ :: _, [], _, h, _ => by simp [Lib.compareBytes] at h
  | _ :: _, _ :: _, [], _, h => by simp [Lib.compareBytes] at h
  | a :: x, b :: y, c :: z, h1, h2 => by
    simp only [Lib.compareBytes] at h1 h2 ⊢
    rcases Nat.lt_trichotomy a.toNat b.toNat with hab | hab | hab
    · have e1 : a < b := UInt8.lt_iff_toNat_lt.2 hab
      rcases Nat.lt_trichotomy b.toNat c.toNat with hbc | hbc | hbc
      · have : a < c := UInt8.lt_iff_toNat_lt.2 (by omega)
        simp [this]
      · have : a < c := UInt8.lt_iff_toNat_lt.2 (by omega)
        simp [this]
      · have e2 : c < b := UInt8.lt_iff_toNat_lt.2 hbc
        have e3 : ¬ b < c := fun h => by have := UInt8.lt_iff_toNat_lt.1 h; omega
        simp [e2, e3] at h2
    · have e1 : a = b := UInt8.toNat_inj.1 hab
      subst e1
      have e0 : ¬ a < a := UInt8.lt_irrefl a
      simp only [e0, if_false] at h1 ⊢
      rcases Nat.lt_trichotomy a.toNat c.toNat with hbc | hbc | hbc
      · have : a < c := UInt8.lt_iff_toNat_lt.2 hbc
        simp [this]
      · have e2 : a = c := UInt8.toNat_inj.1 hbc
        subst e2
        simp only [e0, if_false] at h2 ⊢
        exact cb_trans x y z h1 h2
      · have e2 : c < a := UInt8.lt_iff_toNat_lt.2 hbc
        have e3 : ¬ a < c := fun h => by have := UInt8.lt_iff_toNat_lt.1 h; omega
        simp [e2, e3] at h2
    · have e1 : b < a := UInt8.lt_iff_toNat_lt.2 hab
      have e3 : ¬ a < b := fun h => by have := UInt8.lt_iff_toNat_lt.1 h; omega
      simp [e1, e3] at h1
theorem cmp_flip (a b : Key) : cmpK b a = - cmpK a b := cb_flip _ _
theorem cmp_le {a b c : Key} (h1 : cmpK a b ≤ 0) (h2 : cmpK b c ≤ 0) : cmpK a c ≤ 0 := (cb_trans _ _ _ h1 h2).1
theorem cmp_lt {a b c : Key} (h1 : cmpK a b < 0) (h2 : cmpK b c ≤ 0) : cmpK a c < 0 := (cb_trans _ _ _ (by unfold cmpK at h1; omega) h2).2 (.inl h1)
theorem ok_pair : ∀ {q : Option Key} {l : List Key}, okFrom q l = true → l.Pairwise (fun a b => cmpK a b < 0) ∧ ∀ p, q = some p → ∀ x ∈ l, cmpK p x < 0
  | _, [], _ => ⟨.nil, fun _ _ _ h => by cases h⟩
  | q, x :: l, h => by
    simp only [okFrom, Bool.and_eq_true] at h
    obtain ⟨⟨h1, h2⟩, h3⟩ := h
    obtain ⟨k1, k2⟩ := ok_pair h3
    have k2 := k2 x rfl
    refine ⟨List.pairwise_cons.2 ⟨k2, k1⟩, fun p hp y hy => ?_⟩
    subst hp
    have h2 : cmpK p x < 0 := by simpa using h2
    rcases List.mem_cons.1 hy with rfl | hy
    · exact h2
    · exact cmp_lt h2 (by have := k2 y hy; omega)
theorem cnt_le (k : Key) : ∀ (l : List Key), cntK k l ≤ l.length
  | [] => Nat.le_refl _
  | p :: l => by
    have := cnt_le k l
    simp only [cntK, List.length_cons]
    split <;> omega
theorem cnt_zero {k : Key} : ∀ {l : List Key}, (∀ x ∈ l, 0 < cmpK x k) → cntK k l = 0
  | [], _ => rfl
  | p :: l, h => by
    have h1 := h p List.mem_cons_self
    simp only [cntK]
    rw [if_neg (by omega), cnt_zero fun x hx => h x (List.mem_cons_of_mem _ hx)]
theorem cnt_iff {k : Key} : ∀ {l : List Key} {i : Nat}, l.Pairwise (fun a b => cmpK a b < 0) → (hi : i < l.length) → (cmpK l[i] k ≤ 0 ↔ i < cntK k l)
  | [], _, _, hi => by simp at hi
  | p :: l, i, hp, hi => by
    obtain ⟨h1, h2⟩ := List.pairwise_cons.1 hp
    simp only [cntK]
    by_cases hpk : cmpK p k ≤ 0
    · rw [if_pos hpk]
      cases i with
      | zero => simp [hpk]; omega
      | succ i =>
        have := cnt_iff (k := k) (i := i) h2 (by simpa using hi)
        simp only [List.getElem_cons_succ]
        rw [this]; omega
    · rw [if_neg hpk]
      have hz : cntK k l = 0 := cnt_zero fun x hx => by
        have := h1 x hx
        rcases (by omega : 0 < cmpK x k ∨ cmpK x k ≤ 0) with h | h
        · exact h
        · exact absurd (cmp_le (by omega : cmpK p x ≤ 0) h) hpk
      rw [hz]
      cases i with
      | zero => simp [hpk]
      | succ i =>
        have := cnt_iff (k := k) (i := i) h2 (by simpa using hi)
        simp only [List.getElem_cons_succ]
        rw [this, hz]; omega
theorem goodL_true : ∀ {l : List UInt8}, goodL true l = true → l = List.replicate l.length 0
  | [], _ => rfl
  | x :: l, h => by
    simp only [goodL] at h
    by_cases hx : x = 0
    · rw [if_pos hx] at h
      subst hx
      rw [List.length_cons, List.replicate_succ, ← goodL_true h]
    · rw [if_neg hx] at h; simp at h
theorem goodL_split : ∀ {l : List UInt8}, goodL false l = true → ∃ m, l = l.takeWhile (· != 0) ++ List.replicate m 0
  | [], _ => ⟨0, rfl⟩
  | x :: l, h => by
    simp only [goodL] at h
    by_cases hx : x = 0
    · rw [if_pos hx] at h
      subst hx
      refine ⟨l.length + 1, ?_⟩
      rw [List.replicate_succ, ← goodL_true h]; simp
    · rw [if_neg hx] at h
      obtain ⟨m, hm⟩ := goodL_split (l := l) (by simpa using h)
      refine ⟨m, ?_⟩
      rw [List.takeWhile_cons]
      have : (x != 0) = true := by simpa using hx
      rw [this]
      simp only [if_true, List.cons_append]
      rw [← hm]
theorem good_R {k : Key} (h : goodR k = true) : goodK k = true := by
  unfold goodR at h
  rw [Bool.and_eq_true] at h
  obtain ⟨h1, h2⟩ := h
  have h2 : k.b[0]'(by rw [k.h]; omega) ≠ 0 := by simpa using h2
  obtain ⟨m, hm⟩ := goodL_split h1
  have hne : textOf k ≠ [] := by
    unfold textOf
    intro e
    rw [e, List.nil_append] at hm
    apply h2
    have : ∀ (l : List UInt8) (hl : 0 < l.length), l = List.replicate m 0 → l[0] = 0 := by
      intro l hl e; subst e; simp
    exact this _ _ hm
  have hpad : padK (textOf k) = k := by
    apply Key.ext'
    show padB (textOf k) = k.b
    have hl := text_len k
    unfold padB
    rw [List.take_of_length_le hl]
    have hlen : (textOf k).length + m = 16 := by
      have := congrArg List.length hm
      rw [k.h, List.length_append, List.length_replicate] at this
      exact this.symm
    rw [show 16 - (textOf k).length = m by omega]
    exact hm.symm
  unfold goodK
  simp [hne, hpad]
end Go.AM
namespace Go.AM
open Go
set_option maxRecDepth 20000
def LongS (C : CallW) (f : FuncId) : Prop := ∀ (l : List Wr) S H (K : AV → St → Prop), l.length ≤ 9223372036854775807 → K (.bool (longW l)) ⟨S, H⟩ → C (.fn f) [lstW l] ⟨S, H⟩ K
end Go.AM
namespace Go.AM
open Go
end Go.AM
namespace Go.AM
open Go
set_option maxRecDepth 20000
end Go.AM
namespace Go.AM
open Go
set_option maxRecDepth 20000
end Go.AM
namespace Go.AM
open Go
set_option maxRecDepth 20000
theorem goodL_zeros : ∀ (e : Bool) (n : Nat), goodL e (List.replicate n 0) = true
  | e, 0 => by cases e <;> rfl
  | e, n + 1 => by
    rw [List.replicate_succ, goodL, if_pos rfl]; exact goodL_zeros true n
theorem goodL_text : ∀ (t : List UInt8) (n : Nat), (0 : UInt8) ∉ t → goodL false (t ++ List.replicate n 0) = true
  | [], n, _ => goodL_zeros false n
  | x :: t, n, h => by
    have hx : x ≠ 0 := fun e => h (by rw [e]; simp)
    rw [List.cons_append, goodL, if_neg hx]
    exact goodL_text t n (fun m => h (List.mem_cons_of_mem _ m))
theorem goodRK (k : Key) : goodR k = goodK k := by
  cases h : goodK k with
  | false =>
    cases h2 : goodR k with
    | false => rfl
    | true => rw [good_R h2] at h; cases h
  | true =>
    unfold goodK at h
    simp only [Bool.and_eq_true, decide_eq_true_eq] at h
    obtain ⟨h1, h2⟩ := h
    have hb : k.b = textOf k ++ List.replicate (16 - (textOf k).length) 0 := by
      have : k.b = padB (textOf k) := (congrArg Key.b h2).symm
      rw [padB, List.take_of_length_le (text_len k)] at this
      exact this
    unfold goodR
    have hg : goodL false k.b = true := by rw [hb]; exact goodL_text _ _ (text_nz k)
    rw [hg, Bool.true_and, decide_eq_true_eq]
    intro e
    apply h1
    unfold textOf
    cases hk : k.b with
    | nil => rfl
    | cons x l =>
      have : x = 0 := by simpa [hk] using e
      rw [List.takeWhile_cons, if_neg (by simp [this])]
end Go.AM
namespace Go.AM
open Go
open AV renaming undef → uu
set_option maxRecDepth 20000
theorem ref10_Writes_spec {C : CallW} (hC : LeC C C) (P : Program) : ∀ (a b : List Wr) S H (K : AV → St → Prop), a.length ≤ 9223372036854775807 → b.length ≤ 9223372036854775807 → K (.bool (decide (a = b))) ⟨S, H⟩ → runL C P C_hourglassref10_Writes [lstW a, lstW b] ⟨S, H⟩ K := by
  intro a b S H K ha hb hK
  by_cases hl : a.length = b.length
  case neg =>
    have hl' : ¬ ((a.length : Int) = (b.length : Int)) := by omega
    rw [decide_eq_false (fun e => hl (by rw [e]))] at hK
    simp only [lstW, C_hourglassref10_Writes, A_, simprocAttr, ne_eq, U_hourglassref10_Writes.1, hl']
    exact hK
  have hl' := eq_true (show ((a.length : Int) = (b.length : Int)) by omega)
  simp only [lstW, C_hourglassref10_Writes, A_, simprocAttr, ne_eq, U_hourglassref10_Writes.1, hl']
  refine loop_rule hC (α := Nat) (fun i => a.length - i) (fun i => [.list .sh 18 (a.map wA), .list .sh 18 (b.map wA), uu, uu, uu, .s (.int .i64 i), uu, uu, uu, uu, uu, uu, uu, uu, uu, uu, uu, uu, uu, uu, uu, uu, uu, uu, uu, uu]) (fun _ => S) (fun _ => H) (fun i => i ≤ a.length ∧ decide (a = b) = decide (a.drop i = b.drop i)) 0 ⟨by simp, by simp⟩ rfl (by simp) rfl (fun a _ => by simp [AV.under, AV.under.go]) ?_
  rintro i ⟨hi, hinv⟩ ih
  by_cases h16 : i < a.length
  · have hlt : ((i : Int) < (a.length : Int)) := by omega
    have h16' : i < b.length := by omega
    have hw : IntKind.i64.wrap ((i : Int) + 1) = (i : Int) + 1 := wrap_i64 (by omega) (by omega)
    rw [List.drop_eq_getElem_cons h16, List.drop_eq_getElem_cons h16'] at hinv
    by_cases he : a[i] = b[i]
    · have he' := eq_true he
      rw [he] at hinv
      simp only [List.cons.injEq, true_and] at hinv
      simp only [A_, simprocAttr, ne_eq, U_hourglassref10_Writes.1, hlt, h16, h16', he', hw]
      exact ih (i + 1) _ _ _ (by omega) ⟨by omega, hinv⟩ rfl (by simp) rfl
    · simp only [List.cons.injEq, he, false_and, decide_false] at hinv
      rw [hinv] at hK
      simp only [A_, simprocAttr, ne_eq, U_hourglassref10_Writes.1, hlt, h16, h16', he]
      exact hK
  · have hlt : ¬ ((i : Int) < (a.length : Int)) := by omega
    rw [List.drop_of_length_le (by omega), List.drop_of_length_le (by omega), decide_eq_true rfl] at hinv
    rw [hinv] at hK
    simp only [A_, simprocAttr, ne_eq, U_hourglassref10_Writes.1, hlt]
    exact hK
def WritesEqS (C : CallW) (f : FuncId) : Prop := ∀ (a b : List Wr) S H (K : AV → St → Prop), a.length ≤ 9223372036854775807 → b.length ≤ 9223372036854775807 → K (.bool (decide (a = b))) ⟨S, H⟩ → C (.fn f) [lstW a, lstW b] ⟨S, H⟩ K
end Go.AM
namespace Go.AM
open Go
open AV renaming undef → uu
set_option maxRecDepth 20000
def flq (l : List Key) : Fl := if l = [] then .full else .sh
def tabQ (l : List Key) : HObj := if l = [] then .cells [.list .full 16 []] else .cells [.list .sh 16 (l.map kA)]
theorem flq_sh {l : List Key} {i : Nat} (h : i < l.length) : flq l = .sh := if_neg (fun e => by subst e; simp at h)
theorem tabQ_load {S : List (List AV)} {H : List HObj} {h : Nat} {l : List Key} (hh : H[h]? = some (tabQ l)) : load1L false (.ptr (.heap h) 0) ⟨S, H⟩ = some (.list (flq l) 16 (l.map kA), ⟨S, H⟩) := by
  unfold tabQ at hh
  unfold flq
  by_cases e : l = []
  · subst e
    rw [if_pos rfl] at hh
    simp only [load1L, boxOf, hh, Option.bind_some]
    rfl
  · rw [if_neg e] at hh
    rw [if_neg e]
    simp only [load1L, boxOf, hh, Option.bind_some]
    rfl
theorem newRoute_app {e : ET} {l : List Key} {σ : St} (h1 : e.c = 16) (h2 : e.bytes = 16) (hl : l.length ≤ 1000) : appendL e false (.list .full 16 []) (.list .sh 16 (l.map kA)) σ = some (if l = [] then .list .full 16 [] else .list .uniq 16 (l.map kA), σ) := by
  have he : elemsL e (.list .sh 16 (l.map kA)) σ = some (l.map kA) := by simp [elemsL, h1]
  have hlow : AV.under.go 0 (l.map kA) = true := kA_low
  have hb : (l.map kA).length * 16 ≤ 2 ^ 48 := by simp; omega
  unfold appendL
  simp only [srcL, AV.isSlice, if_true, he, Option.bind_some, AV.under, hlow, appItems, h1, h2, ne_eq, not_true_eq_false, if_false]
  by_cases e : l = []
  · subst e; simp [AV.under.go]
  · rw [if_neg e, if_neg (by simp [e]), if_pos (by simp), if_pos hb]
def OfRS (C : CallW) (f : FuncId) : Prop := ∀ (l : List Key) (k : Key) (h : Nat) S H (K : AV → St → Prop), okPts l = true → H[h]? = some (tabQ l) → l.length ≤ 1000 → K (.i (ofK l k)) ⟨S, H⟩ → C (.fn f) [.ptr (.heap h) 0, .agg (bs k.b)] ⟨S, H⟩ K
set_option maxHeartbeats 4000000 in
theorem RouteOf_spec {C : CallW} (hC : LeC C C) (P : Program) {c : Nat → FuncId} (h0 : BoolK goodR C (c 0)) (h1 : KCmp C (c 1)) : ∀ (l : List Key) (k : Key) (h : Nat) S H (K : AV → St → Prop), okPts l = true → H[h]? = some (tabQ l) → l.length ≤ 1000 → K (.i (ofK l k)) ⟨S, H⟩ → runL C P (C_hourglassref14_Route_Of c) [.ptr (.heap h) 0, .agg (bs k.b)] ⟨S, H⟩ K := by
  intro l k h S H K hok hh hl hK
  have hp := (ok_pair hok).1
  have hld : ∀ S', load1L false (.ptr (.heap h) 0) ⟨S', H⟩ = some (.list (flq l) 16 (l.map kA), ⟨S', H⟩) := fun S' => tabQ_load hh
  simp only [C_hourglassref14_Route_Of, A_, simprocAttr, ne_eq, (U_hourglassref14_Route_Of _).1]
  refine h0 _ _ _ _ ?_
  rw [goodRK]
  cases hgk : goodK k with
  | false =>
    simp only [A_, simprocAttr, ne_eq, (U_hourglassref14_Route_Of _).1]
    rw [show ofK l k = -1 by unfold ofK; rw [hgk]; rfl] at hK
    exact hK
  | true =>
    rw [show ofK l k = (cntK k l : Nat) by unfold ofK; rw [hgk]; rfl] at hK
    have hcl := cnt_le k l
    simp only [A_, simprocAttr, ne_eq, (U_hourglassref14_Route_Of _).1, hld]
    refine loop_rule hC (α := Nat) (fun a => l.length - a) (fun a => [.ptr (.heap h) 0, uu, uu, .ptr (.stk S.length) 0, .undef, .s (.int .i64 (a : Nat)), uu, uu, uu, uu, uu, uu, uu, uu, uu, uu, uu, uu, uu, uu, uu, uu, uu, uu, uu, uu, uu, uu, uu, uu, uu]) (fun _ => S ++ [bs k.b]) (fun _ => H) (fun a => a ≤ cntK k l) 0 (Nat.zero_le _) (by simp [keep, zm]) (by rw [app_take_add]; rfl) rfl (fun i hi => by simp [AV.under, AV.under.go]) ?_
    intro i hi ih
    by_cases h16 : i < l.length
    · have hlt : ((i : Int) < (l.length : Int)) := by omega
      have hw : IntKind.i64.wrap ((i : Int) + 1) = ((i + 1 : Nat) : Int) := by rw [wrap_i64 (by omega) (by omega)]; rfl
      have hc := cnt_iff (k := k) hp h16
      have hld2 := hld
      rw [flq_sh h16] at hld2
      simp only [C_hourglassref14_Route_Of, A_, simprocAttr, ne_eq, (U_hourglassref14_Route_Of _).1, hld2, hlt, h16]
      refine h1 _ _ _ _ _ ?_
      by_cases hx : Lib.compareBytes (l[i]).b k.b ≤ 0
      · have := hc.1 hx
        simp only [C_hourglassref14_Route_Of, A_, simprocAttr, ne_eq, (U_hourglassref14_Route_Of _).1, hx, hw]
        exact ih (i + 1) _ _ _ (by omega) (by omega) (by simp [keep, zm]) (by rw [app_take_add]; rfl) rfl
      · have h2 : ¬ i < cntK k l := fun h2 => hx (hc.2 h2)
        simp only [C_hourglassref14_Route_Of, A_, simprocAttr, ne_eq, (U_hourglassref14_Route_Of _).1, hx]
        rw [show cntK k l = i by omega] at hK
        exact hK
    · have hlt : ¬ ((i : Int) < (l.length : Int)) := by omega
      rw [show cntK k l = i by omega] at hK
      by_cases e : l = []
      · subst e
        have hld2 : ∀ S', load1L false (.ptr (.heap h) 0) ⟨S', H⟩ = some (.list .full 16 [], ⟨S', H⟩) := hld
        have hlt2 : ((i : Int) < 0) = False := eq_false (by omega)
        simp only [C_hourglassref14_Route_Of, A_, simprocAttr, ne_eq, (U_hourglassref14_Route_Of _).1, hld2, hlt2]
        exact hK
      · have hld2 := hld
        rw [show flq l = .sh from if_neg e] at hld2
        simp only [C_hourglassref14_Route_Of, A_, simprocAttr, ne_eq, (U_hourglassref14_Route_Of _).1, hld2, hlt]
        exact hK
set_option maxHeartbeats 4000000 in
theorem NewRoute_spec {C : CallW} (hC : LeC C C) (P : Program) {c : Nat → FuncId} (h0 : BoolK goodR C (c 0)) (h1 : KCmp C (c 1)) : ∀ (l : List Key) S H (K : AV → St → Prop), l.length ≤ 9223372036854775807 → K (if okPts l && decide (l.length < 8) then .tup [.ptr (.heap H.length) 0, .bool true] else .tup [.nilP, .bool false]) ⟨S, if okPts l && decide (l.length < 8) then H ++ [tabQ l] else H⟩ → runL C P (C_hourglassref14_NewRoute c) [lstK l] ⟨S, H⟩ K := by
  intro l S H K hl hK
  simp only [lstK, C_hourglassref14_NewRoute, A_, simprocAttr, ne_eq, (U_hourglassref14_NewRoute _).1]
  have bad : okPts l = false → K (.tup [.nilP, .bool false]) ⟨S, H⟩ := fun h => by
    rw [h] at hK
    simpa using hK
  by_cases h7 : 7 < l.length
  · have h7' : ((7 : Int) < (l.length : Int)) := by omega
    rw [show decide (l.length < 8) = false from decide_eq_false (by omega), Bool.and_false] at hK
    simp only [A_, simprocAttr, ne_eq, (U_hourglassref14_NewRoute _).1, h7']
    simpa using hK
  have h7' : ¬ ((7 : Int) < (l.length : Int)) := by omega
  simp only [A_, simprocAttr, ne_eq, (U_hourglassref14_NewRoute _).1, h7']
  refine loop_rule hC (α := Nat) (fun a => l.length - a) (fun a => [.list .sh 16 (l.map kA), uu, uu, uu, .s (.int .i64 (a : Nat)), uu, uu, uu, uu, uu, uu, uu, uu, uu, uu, uu, uu, uu, uu, uu, uu, uu, uu, uu, uu, uu, uu, uu, uu, uu, uu, uu, uu, uu, uu, uu, uu, uu, uu, uu, uu, uu]) (fun _ => S) (fun _ => H) (fun i => i ≤ l.length ∧ okPts l = okFrom (prevK l i) (l.drop i)) 0 ⟨by simp, rfl⟩ (by simp [keep, zm]) (by simp) rfl (fun i hi => by simp [AV.under, AV.under.go]) ?_
  rintro i ⟨hi, hinv⟩ ih
  by_cases h16 : i < l.length
  · have hlt : ((i : Int) < (l.length : Int)) := by omega
    have hw : IntKind.i64.wrap ((i : Int) + 1) = ((i + 1 : Nat) : Int) := by rw [wrap_i64 (by omega) (by omega)]; rfl
    rw [ok_drop h16] at hinv
    simp only [C_hourglassref14_NewRoute, A_, simprocAttr, ne_eq, (U_hourglassref14_NewRoute _).1, hlt, h16]
    refine h0 _ _ _ _ ?_
    rw [goodRK]
    cases hgk : goodK l[i] with
    | false =>
      rw [hgk] at hinv
      simp only [C_hourglassref14_NewRoute, A_, simprocAttr, ne_eq, (U_hourglassref14_NewRoute _).1]
      exact bad (by rw [hinv]; rfl)
    | true =>
      rw [hgk, Bool.true_and] at hinv
      by_cases hz : i = 0
      · have hz' : ¬ ((0 : Int) < (i : Int)) := by omega
        rw [show prevK l i = none from if_pos hz, Bool.true_and] at hinv
        simp only [C_hourglassref14_NewRoute, A_, simprocAttr, ne_eq, (U_hourglassref14_NewRoute _).1, hz', hw]
        refine ih (i + 1) _ _ _ (by omega) ⟨by omega, ?_⟩ (by simp [keep, zm]) (by simp) rfl
        rw [hinv]; simp [prevK, h16]
      · have hz' : ((0 : Int) < (i : Int)) := by omega
        have hwp : IntKind.i64.wrap ((i : Int) - 1) = ((i - 1 : Nat) : Int) := by rw [wrap_i64 (by omega) (by omega)]; omega
        have h17 : i - 1 < l.length := by omega
        rw [show prevK l i = some l[i - 1] from (if_neg hz).trans (List.getElem?_eq_getElem h17)] at hinv
        dsimp only at hinv
        simp only [C_hourglassref14_NewRoute, A_, simprocAttr, ne_eq, (U_hourglassref14_NewRoute _).1, hz', hw, hwp, h17, h16]
        refine h1 _ _ _ _ _ ?_
        have hfl := cmp_flip l[i - 1] l[i]
        unfold cmpK at hfl hinv
        by_cases hx : Lib.compareBytes (l[i]).b (l[i - 1]).b ≤ 0
        · simp only [C_hourglassref14_NewRoute, A_, simprocAttr, ne_eq, (U_hourglassref14_NewRoute _).1, hx]
          refine bad ?_
          rw [hinv, decide_eq_false (by omega)]; rfl
        · simp only [C_hourglassref14_NewRoute, A_, simprocAttr, ne_eq, (U_hourglassref14_NewRoute _).1, hx, hw]
          refine ih (i + 1) _ _ _ (by omega) ⟨by omega, ?_⟩ (by simp [keep, zm]) (by simp) rfl
          rw [hinv, decide_eq_true (by omega)]; simp [prevK, h16]
  · have hlt : ¬ ((i : Int) < (l.length : Int)) := by omega
    rw [List.drop_of_length_le (by omega)] at hinv
    rw [show okPts l = true from hinv, show decide (l.length < 8) = true from decide_eq_true (by omega)] at hK
    have ha : ∀ σ, appendL ⟨16, true, 16, .agg (bs key0.b)⟩ false (.list .full 16 []) (.list .sh 16 (l.map kA)) σ = _ := fun σ => newRoute_app rfl rfl (by omega)
    unfold tabQ at hK
    by_cases e : l = []
    · subst e
      have hlt2 : ((i : Int) < 0) = False := eq_false (by omega)
      have ha2 : ∀ σ, appendL ⟨16, true, 16, .agg (bs key0.b)⟩ false (.list .full 16 []) (.list .sh 16 []) σ = some (.list .full 16 [], σ) := ha
      simp only [C_hourglassref14_NewRoute, A_, simprocAttr, ne_eq, (U_hourglassref14_NewRoute _).1, hlt2, ha2]
      exact hK
    · simp only [if_neg e] at ha hK
      simp only [C_hourglassref14_NewRoute, A_, simprocAttr, ne_eq, (U_hourglassref14_NewRoute _).1, hlt, ha]
      exact hK
end Go.AM
namespace Go.AM
open Go
open AV renaming undef → uu
set_option maxRecDepth 20000
def SplitRS (C : CallW) (f : FuncId) : Prop := ∀ (pts : List Key) (l : List Wr) (h : Nat) S H (K : AV → St → Prop), okPts pts = true → H[h]? = some (tabQ pts) → pts.length ≤ 1000 → l.length ≤ 1000 → K (.row (.heap H.length) 0 (pts.length + 1) (pts.length + 1)) ⟨S, H ++ [.cells (splitC pts l)]⟩ → C (.fn f) [.ptr (.heap h) 0, lstW l] ⟨S, H⟩ K
set_option maxHeartbeats 4000000 in
theorem RouteSplit_spec {C : CallW} (hC : LeC C C) (P : Program) {c : Nat → FuncId} (ho : OfRS C (c 0)) : ∀ (pts : List Key) (l : List Wr) (h : Nat) S H (K : AV → St → Prop), okPts pts = true → H[h]? = some (tabQ pts) → pts.length ≤ 1000 → l.length ≤ 1000 → K (.row (.heap H.length) 0 (pts.length + 1) (pts.length + 1)) ⟨S, H ++ [.cells (splitC pts l)]⟩ → runL C P (C_hourglassref14_Route_Split c) [.ptr (.heap h) 0, lstW l] ⟨S, H⟩ K := by
  intro pts l h S H K hok hh hp hl hK
  have ho' := ho pts
  have hhl : h < H.length := (List.getElem?_eq_some_iff.1 hh).1
  have hld : ∀ S', load1L false (.ptr (.heap h) 0) ⟨S', H⟩ = some (.list (flq pts) 16 (pts.map kA), ⟨S', H⟩) := fun S' => tabQ_load hh
  have hwp : IntKind.i64.wrap ((pts.length : Int) + 1) = ((pts.length + 1 : Nat) : Int) := by rw [wrap_i64 (by omega) (by omega)]; rfl
  have hmk : mkslL false true ⟨1, false, 24, .s .nilS⟩ (.s (.int .i64 ((pts.length + 1 : Nat) : Int))) (.s (.int .i64 ((pts.length + 1 : Nat) : Int))) ⟨S, H⟩ = some (.row (.heap H.length) 0 (pts.length + 1) (pts.length + 1), ⟨S, H ++ [.cells (splitC pts [])]⟩) := by
    unfold mkslL
    dsimp only
    rw [if_pos (by omega)]
    simp only [Int.toNat_natCast, AV.cells, nilS_flat, newBox_heap (nilS_low _), Option.map_some, splitC_nil]
  have go : ∀ fr', keep (zm false [0, 2, 3, 2, 37]) fr' = [.ptr (.heap h) 0, .list .sh 18 (l.map wA), uu, uu, uu, .row (.heap H.length) 0 (pts.length + 1) (pts.length + 1), .s (.int .i64 (0 : Nat)), uu, uu, uu, uu, uu, uu, uu, uu, uu, uu, uu, uu, uu, uu, uu, uu, uu, uu, uu, uu, uu, uu, uu, uu, uu, uu, uu, uu, uu, uu, uu, uu, uu, uu, uu, uu, uu] → runLp C P false (zm false [0, 2, 3, 2, 37]) (y10f5 c) S.length [Item.blk 0, Item.c (.seq (.sq [(zs 43 (.mv true (.t 5))), (zs 4 (.mv true (.t 43)))]) .ret)] fr' ⟨S, H ++ [.cells (splitC pts [])]⟩ (fin S.length [LR.t 4] K) := by
    intro fr' hfr
    refine loop_rule hC (α := Nat) (fun a => l.length - a) (fun a => [.ptr (.heap h) 0, .list .sh 18 (l.map wA), uu, uu, uu, .row (.heap H.length) 0 (pts.length + 1) (pts.length + 1), .s (.int .i64 (a : Nat)), uu, uu, uu, uu, uu, uu, uu, uu, uu, uu, uu, uu, uu, uu, uu, uu, uu, uu, uu, uu, uu, uu, uu, uu, uu, uu, uu, uu, uu, uu, uu, uu, uu, uu, uu, uu, uu]) (fun _ => S) (fun a => H ++ [.cells (splitC pts (l.take a))]) (fun i => i ≤ l.length) 0 (by simp) hfr (by simp) rfl (fun i hi => by simp [AV.under, AV.under.go]) ?_
    intro i hi ih
    by_cases h16 : i < l.length
    · have hh2 : (H ++ [.cells (splitC pts (l.take i))])[h]? = some (tabQ pts) := by rw [List.getElem?_append_left hhl]; exact hh
      have hlt : ((i : Int) < (l.length : Int)) := by omega
      have hw := wrap_succ (i := i) (by omega)
      have htk : l.take (i + 1) = l.take i ++ [l[i]] := List.take_succ_eq_append_getElem h16
      simp only [C_hourglassref14_Route_Split, A_, simprocAttr, ne_eq, (U_hourglassref14_Route_Split _).1, WR_, hlt, h16]
      refine ho' _ _ _ _ _ hok hh2 (by omega) ?_
      by_cases hneg : ofK pts (l[i]).key < 0
      · have hge : ¬ ((0 : Int) ≤ ofK pts (l[i]).key) := by omega
        simp only [C_hourglassref14_Route_Split, A_, simprocAttr, ne_eq, (U_hourglassref14_Route_Split _).1, WR_, hge, hw]
        refine ih (i + 1) _ _ _ (by omega) (by omega) (by simp [keep, zm]) (by simp) ?_
        rw [htk, splitC_skip hneg]
      · obtain ⟨n, hn⟩ : ∃ n : Nat, ofK pts (l[i]).key = (n : Int) := ⟨(ofK pts (l[i]).key).toNat, by omega⟩
        have hnl : n < pts.length + 1 := by
          unfold ofK at hn hneg
          split at hn
          · have := cnt_le' (l[i]).key pts; omega
          · omega
        have hge : ((0 : Int) ≤ (n : Int)) := by omega
        have hsl : n < (splitC pts (l.take i)).length := by rw [splitC_len]; exact hnl
        have hg := splitC_get (pts := pts) (l := l.take i) hnl
        have hfin := splitC_snoc (l := l.take i) hn hnl
        rw [slO_own (by simp), ← htk] at hfin
        by_cases hp2 : partW pts (l.take i) n = []
        · have hst := storeO_heap (S := S) (H := H) (cs := (splitC pts (l.take i)).set n (.s .nilS)) (n := n) (sz := 18) (es := [.agg (wc l[i])]) (by simpa using hsl)
          rw [hp2, slO_nil] at hg
          rw [hp2, List.nil_append] at hfin
          simp only [C_hourglassref14_Route_Split, A_, simprocAttr, ne_eq, (U_hourglassref14_Route_Split _).1, WR_, CHK_, Nat.reduceBEq, hn, hge, hnl, ixr_n, hg, hw, app_nilW, hst, Nat.mul_one, List.set_set, h16]
          exact ih (i + 1) _ _ _ (by omega) (by omega) (by simp [keep, zm]) (by simp) (by rw [← hfin]; rfl)
        · have hst := storeO_heap (S := S) (H := H) (cs := (splitC pts (l.take i)).set n (.list .sh 18 ((partW pts (l.take i) n).map wA))) (n := n) (sz := 18) (es := (partW pts (l.take i) n ++ [l[i]]).map wA) (by simpa using hsl)
          have hpl : (partW pts (l.take i) n).length ≤ 1000000 := by
            have h1 := List.length_filter_le (fun w : Wr => decide (ofK pts w.key = (n : Int))) (l.take i)
            rw [List.length_take] at h1
            unfold partW; omega
          rw [slO_own hp2] at hg
          simp only [C_hourglassref14_Route_Split, A_, simprocAttr, ne_eq, (U_hourglassref14_Route_Split _).1, WR_, CHK_, Nat.reduceBEq, hn, hge, hnl, ixr_n, hg, hw, hpl, app_ownW, hst, Nat.mul_one, List.set_set, h16]
          exact ih (i + 1) _ _ _ (by omega) (by omega) (by simp [keep, zm]) (by simp) (by rw [← hfin])
    · have hlt : ¬ ((i : Int) < (l.length : Int)) := by omega
      have : i = l.length := by omega
      subst this
      rw [List.take_length]
      simp only [C_hourglassref14_Route_Split, A_, simprocAttr, ne_eq, (U_hourglassref14_Route_Split _).1, hlt]
      exact hK
  by_cases e : pts = []
  · subst e
    have hld2 : ∀ S', load1L false (.ptr (.heap h) 0) ⟨S', H⟩ = some (.list .full 16 [], ⟨S', H⟩) := hld
    have hw1 : IntKind.i64.wrap ((0 : Int) + 1) = ((1 : Nat) : Int) := rfl
    have hmk1 : mkslL false true ⟨1, false, 24, .s .nilS⟩ (.s (.int .i64 1)) (.s (.int .i64 1)) ⟨S, H⟩ = some (.row (.heap H.length) 0 1 1, ⟨S, H ++ [.cells (splitC [] [])]⟩) := hmk
    simp only [lstW, C_hourglassref14_Route_Split, A_, simprocAttr, ne_eq, (U_hourglassref14_Route_Split _).1, hld2, hw1, hmk1]
    exact go _ (by simp [keep, zm])
  · have hld2 := hld
    rw [show flq pts = .sh from if_neg e] at hld2
    simp only [lstW, C_hourglassref14_Route_Split, A_, simprocAttr, ne_eq, (U_hourglassref14_Route_Split _).1, hld2, hwp, hmk]
    exact go _ (by simp [keep, zm])
end Go.AM
namespace Go.AM
open Go
open AV renaming undef → uu
set_option maxRecDepth 20000
def partsC (pts : List Key) (l : List Wr) : List Nat := (List.range (pts.length + 1)).filter fun j => decide (partW pts l j ≠ [])
def partsN (pts : List Key) (l : List Wr) (n : Nat) : List Nat := (List.range n).filter fun j => decide (partW pts l j ≠ [])
theorem partsN_succ {pts : List Key} {l : List Wr} {n : Nat} : partsN pts l (n + 1) = partsN pts l n ++ (if partW pts l n ≠ [] then [n] else []) := by
  unfold partsN
  rw [List.range_succ, List.filter_append]
  congr 1
  by_cases h : partW pts l n = [] <;> simp [h]
theorem partsN_len {pts : List Key} {l : List Wr} {n : Nat} : (partsN pts l n).length ≤ n := by
  have := List.length_filter_le (fun j => decide (partW pts l j ≠ [])) (List.range n)
  simpa [partsN] using this
def PartsS (C : CallW) (f : FuncId) : Prop := ∀ (pts : List Key) (l : List Wr) (h : Nat) S H (K : AV → St → Prop), okPts pts = true → H[h]? = some (tabA pts) → pts.length ≤ 1000 → l.length ≤ 1000 → K (lstI (partsC pts l)) ⟨S, H⟩ → C (.fn f) [.ptr (.heap h) 0, lstW l] ⟨S, H⟩ K
def PartsRS (C : CallW) (f : FuncId) : Prop := ∀ (pts : List Key) (l : List Wr) (h : Nat) S H (K : AV → St → Prop), okPts pts = true → H[h]? = some (tabQ pts) → pts.length ≤ 1000 → l.length ≤ 1000 → (∀ o, K (lstI (partsC pts l)) ⟨S, H ++ [o]⟩) → C (.fn f) [.ptr (.heap h) 0, lstW l] ⟨S, H⟩ K
set_option maxHeartbeats 4000000 in
theorem RouteParts_spec {C : CallW} (hC : LeC C C) (P : Program) {c : Nat → FuncId} (h0 : SplitRS C (c 0)) : ∀ (pts : List Key) (l : List Wr) (h : Nat) S H (K : AV → St → Prop), okPts pts = true → H[h]? = some (tabQ pts) → pts.length ≤ 1000 → l.length ≤ 1000 → (∀ o, K (slI (partsC pts l)) ⟨S, H ++ [o]⟩) → runL C P (C_hourglassref14_Route_Parts c) [.ptr (.heap h) 0, lstW l] ⟨S, H⟩ K := by
  intro pts l h S H K hok hh hp hl hK
  simp only [lstW, C_hourglassref14_Route_Parts, A_, simprocAttr, ne_eq, (U_hourglassref14_Route_Parts _).1]
  refine h0 pts l _ _ _ _ hok hh hp hl ?_
  simp only [C_hourglassref14_Route_Parts, A_, simprocAttr, ne_eq, (U_hourglassref14_Route_Parts _).1]
  refine loop_rule hC (α := Nat) (fun a => pts.length + 1 - a) (fun a => [uu, uu, uu, uu, uu, slI (partsN pts l a), .row (.heap H.length) 0 (pts.length + 1) (pts.length + 1), .s (.int .i64 (a : Nat)), uu, uu, uu, uu, uu, uu, uu, uu, uu, uu, uu, uu, uu, uu, uu, uu, uu, uu, uu, uu]) (fun _ => S) (fun a => H ++ [.cells (splitC pts l)]) (fun i => i ≤ pts.length + 1) 0 (by omega) (by simp [keep, zm]; rfl) (by simp) rfl (fun i hi => by simp [AV.under, AV.under.go, under_slI]) ?_
  intro i hi ih
  by_cases h16 : i < pts.length + 1
  · have hlt : ((i : Int) < ((pts.length + 1 : Nat) : Int)) := by omega
    have hw := wrap_succ (i := i) (by omega)
    have hcl := partsN_len (pts := pts) (l := l) (n := i)
    have happ : ∀ (e : ET) (σ : St), e.c = 1 → e.bytes = 8 → appendL e false (slI (partsN pts l i)) (.list .full 1 [.i i]) σ = some (slI (partsN pts l i ++ [i]), σ) := fun e σ h1 h2 => app_slI h1 h2 (by omega)
    have hg := splitC_get (pts := pts) (l := l) h16
    have hs := partsN_succ (pts := pts) (l := l) (n := i)
    by_cases hp2 : partW pts l i = []
    · rw [hp2, slO_nil] at hg
      rw [if_neg (by simpa using hp2), List.append_nil] at hs
      simp only [C_hourglassref14_Route_Parts, A_, simprocAttr, ne_eq, (U_hourglassref14_Route_Parts _).1, hlt, h16, ixr_n, hg, hw, Nat.mul_one]
      exact ih (i + 1) _ _ _ (by omega) (by omega) (by simp [keep, zm, hs]) (by simp) rfl
    · rw [slO_own hp2] at hg
      rw [if_pos hp2] at hs
      have hpos : ((0 : Int) < ((partW pts l i).length : Int)) := by have := List.length_pos_iff.2 hp2; omega
      simp only [C_hourglassref14_Route_Parts, A_, simprocAttr, ne_eq, (U_hourglassref14_Route_Parts _).1, hlt, h16, ixr_n, hg, hw, Nat.mul_one, hpos, happ]
      exact ih (i + 1) _ _ _ (by omega) (by omega) (by simp [keep, zm, hs]) (by simp) rfl
  · have hlt : ¬ ((i : Int) < ((pts.length + 1 : Nat) : Int)) := by omega
    have : i = pts.length + 1 := by omega
    subst this
    simp only [C_hourglassref14_Route_Parts, A_, simprocAttr, ne_eq, (U_hourglassref14_Route_Parts _).1, hlt]
    exact ⟨under_slI, hK _⟩
def outI (pts : List Key) (l : List Wr) : List Nat := l.filterMap fun w => if 0 ≤ ofK pts w.key then some (ofK pts w.key).toNat else none
theorem outI_snoc {pts : List Key} {l : List Wr} {w : Wr} : outI pts (l ++ [w]) = outI pts l ++ (if 0 ≤ ofK pts w.key then [(ofK pts w.key).toNat] else []) := by
  unfold outI
  rw [List.filterMap_append]
  congr 1
  split <;> rename_i h <;> simp [h]
theorem outI_len {pts : List Key} {l : List Wr} : (outI pts l).length ≤ l.length := List.length_filterMap_le _ _
def arrI (l : List Nat) : Array Int := (l.map fun (n : Nat) => (n : Int)).toArray
theorem arrI_flat (l : List Nat) : flat iA (arrI l) = l.map fun (n : Nat) => AV.i n := by rw [flat_iA]; simp [arrI, iA, Function.comp_def]
theorem arrI_size (l : List Nat) : (arrI l).size = l.length := by simp [arrI]
theorem thaw_slI {fr : Fr} {t : Nat} {l : List Nat} {S : List (List AV)} {H : List HObj} (hne : l ≠ []) (h : fr.getD t .undef = slI l) : AM.thaw fr (.tmp t) ⟨S, H⟩ = some (.row (.stk S.length) 0 l.length l.length, fr.set t (.row (.stk S.length) 0 l.length l.length), ⟨S ++ [flat iA (arrI l)], H⟩) := by
  have hc : ∀ l : List Nat, (l.map fun (n : Nat) => AV.i n).flatMap AV.cells = l.map fun (n : Nat) => AV.i n := by
    intro l
    induction l with
    | nil => rfl
    | cons x l ih => rw [List.map_cons, List.flatMap_cons, ih]; rfl
  have hu : ∀ (m : Nat) (l : List Nat), underL m (l.map fun (n : Nat) => AV.i n) = true := by
    intro m l
    induction l with
    | nil => rfl
    | cons x l ih => exact ih
  unfold AM.thaw
  simp only [h, slI, if_neg hne]
  rw [if_neg (by simp [hne]), hc, newBox_stk (hu _ _), arrI_flat]
  simp
theorem thaw_nil {fr : Fr} {t : Nat} {σ : St} (h : fr.getD t .undef = slI []) : AM.thaw fr (.tmp t) σ = some (.s .nilS, fr, σ) := by
  unfold AM.thaw
  simp only [h]
  rfl
theorem freeze_i {e : ET} {S : List (List AV)} {H : List HObj} {n k N : Nat} {d : Array Int} (h1 : e.c = 1) (h2 : e.ag = false) (hS : S[n]? = some (flat iA d)) (hk : k ≤ d.size) : freezeL e (.row (.stk n) 0 k N) ⟨S, H⟩ = some (.list .sh 1 ((d.toList.take k).map iA), ⟨S.set n [], H⟩) := by
  have hl : 0 + k ≤ (flat iA d).length := by rw [flat_length iA_EK]; omega
  have hlook : ∀ l : List Int, (l.map iA).map AV.look = l.map iA := by
    intro l; induction l with
    | nil => rfl
    | cons x l ih => rw [List.map_cons, List.map_cons, ih]; rfl
  have hcell : ∀ l : List Int, (l.map iA).all AV.isCell = true := by
    intro l; induction l with
    | nil => rfl
    | cons x l ih => rw [List.map_cons, List.all_cons, ih]; rfl
  have hu : ∀ l : List Int, underL 0 (l.map iA) = true := by
    intro l; induction l with
    | nil => rfl
    | cons x l ih => exact ih
  have hgr : ∀ l : List Int, groupL e l.length (l.map iA) = l.map iA := by
    intro l; induction l with
    | nil => rfl
    | cons x l ih => rw [List.length_cons, groupL, h1]; simp only [List.map_cons, List.take_succ_cons, List.take_zero, List.drop_succ_cons, List.drop_zero, ih]; simp [packL, h2, iA]
  have hlen : (d.toList.take k).length = k := by simp; omega
  have hg2 := hgr (d.toList.take k)
  rw [hlen] at hg2
  unfold freezeL
  simp only [h1, Nat.mul_one, readCells, boxOf_stk, hS, Option.bind_some]
  rw [if_pos ⟨hl, .inr (by rw [List.drop_zero, flat_iA, ← List.map_take, hlook]; exact hcell _)⟩]
  simp only [Option.bind_some, List.drop_zero, flat_iA, ← List.map_take, hlook, hu, hg2]
  simp
set_option maxHeartbeats 8000000 in
theorem Parts_spec {C : CallW} (hC : LeC C C) (P : Program) {c : Nat → FuncId} (h0 : TOfS C (c 0)) (h1 : SortIS C (c 1)) (h1n : OneN C (c 1) (.tup [])) (h2 : CompS C (c 2)) (h2n : OneN C (c 2) (.s .nilS)) : ∀ (pts : List Key) (l : List Wr) (h : Nat) S H (K : AV → St → Prop), H[h]? = some (tabA pts) → pts.length ≤ 1000 → l.length ≤ 1000 → (∀ R, Sort.PermIn 0 (outI pts l).length (arrI (outI pts l)) R → Sort.SortedIn ltI 0 (outI pts l).length R → K (if outI pts l = [] then .s .nilS else .list .sh 1 ((compI R.toList).map iA)) ⟨S, H⟩) → runL C P (C_route_Table_Parts c) [.ptr (.heap h) 0, lstW l] ⟨S, H⟩ K := by
  intro pts l h S H K hh hp hl hK
  have h0' := h0 pts
  have hfz : ∀ (e : ET) (σ : St), freezeL e (.s .nilS) σ = some (.s .nilS, σ) := fun _ _ => rfl
  simp only [lstW, C_route_Table_Parts, A_, simprocAttr, ne_eq, (U_route_Table_Parts _).1, hfz]
  refine loop_rule hC (α := Nat) (fun a => l.length - a) (fun a => [.ptr (.heap h) 0, uu, uu, uu, uu, slI (outI pts (l.take a)), uu, uu, uu, .list .sh 18 (l.map wA), .s (.int .i64 l.length), .s (.int .i64 (a : Nat)), uu, uu, uu, uu, uu, uu, uu, uu, uu, uu, uu, uu, uu, uu, uu, uu, uu, uu]) (fun _ => S) (fun a => H) (fun i => i ≤ l.length) 0 (by omega) (by simp [keep, zm]; rfl) (by simp) rfl (fun i hi => by simp [AV.under, AV.under.go, under_slI]) ?_
  intro i hi ih
  by_cases h16 : i < l.length
  · have hlt : ((i : Int) < (l.length : Int)) := by omega
    have hw := wrap_succ (i := i) (by omega)
    have htk : l.take (i + 1) = l.take i ++ [l[i]] := List.take_succ_eq_append_getElem h16
    have hcl := outI_len (pts := pts) (l := l.take i)
    rw [List.length_take] at hcl
    have hs := outI_snoc (pts := pts) (l := l.take i) (w := l[i])
    rw [← htk] at hs
    simp only [C_route_Table_Parts, A_, simprocAttr, ne_eq, (U_route_Table_Parts _).1, WR_, hlt, h16]
    refine h0' _ _ _ _ _ hh (by omega) ?_
    by_cases hneg : ofK pts (l[i]).key < 0
    · have hge : ¬ ((0 : Int) ≤ ofK pts (l[i]).key) := by omega
      rw [if_neg hge, List.append_nil] at hs
      simp only [C_route_Table_Parts, A_, simprocAttr, ne_eq, (U_route_Table_Parts _).1, WR_, hge, hw]
      exact ih (i + 1) _ _ _ (by omega) (by omega) (by simp [keep, zm, hs]) (by simp) rfl
    · obtain ⟨n, hn⟩ : ∃ n : Nat, ofK pts (l[i]).key = (n : Int) := ⟨(ofK pts (l[i]).key).toNat, by omega⟩
      have hge : ((0 : Int) ≤ (n : Int)) := by omega
      rw [hn, if_pos hge, Int.toNat_natCast] at hs
      have happ : ∀ (e : ET) (σ : St), e.c = 1 → e.bytes = 8 → appendL e false (slI (outI pts (l.take i))) (.list .full 1 [.i n]) σ = some (slI (outI pts (l.take i) ++ [n]), σ) := fun e σ h1 h2 => app_slI h1 h2 (by omega)
      simp only [C_route_Table_Parts, A_, simprocAttr, ne_eq, (U_route_Table_Parts _).1, WR_, hn, hge, happ, hw]
      exact ih (i + 1) _ _ _ (by omega) (by omega) (by simp [keep, zm, hs]) (by simp) rfl
  · have hlt : ¬ ((i : Int) < (l.length : Int)) := by omega
    have : i = l.length := by omega
    subst this
    rw [List.take_length]
    have hol := outI_len (pts := pts) (l := l)
    generalize ho : outI pts l = o at hK hol ⊢
    by_cases e : o = []
    · subst e
      have hd : Sort.PermIn 0 0 (arrI []) (arrI []) := Sort.permIn_refl _ _ _
      have hK2 := hK (arrI []) hd (fun i j h1 h2 h3 => by simp at h3)
      rw [if_pos rfl] at hK2
      simp only [C_route_Table_Parts, A_, simprocAttr, ne_eq, (U_route_Table_Parts _).1, hlt]
      rw [thaw_nil rfl]
      simp only [C_route_Table_Parts, A_, simprocAttr, ne_eq, (U_route_Table_Parts _).1, hlt]
      refine h1n _ _ _ ?_
      simp only [C_route_Table_Parts, A_, simprocAttr, ne_eq, (U_route_Table_Parts _).1, show slI [] = .s .nilS from rfl]
      refine h2n _ _ _ ?_
      simp only [C_route_Table_Parts, A_, simprocAttr, ne_eq, (U_route_Table_Parts _).1, hfz]
      exact hK2
    · simp only [if_neg e] at hK
      simp only [C_route_Table_Parts, A_, simprocAttr, ne_eq, (U_route_Table_Parts _).1, hlt]
      rw [thaw_slI e rfl]
      have hsz := arrI_size o
      have hS1 : (S ++ [flat iA (arrI o)])[S.length]? = some (flat iA (arrI o)) := by simp
      simp only [C_route_Table_Parts, A_, simprocAttr, ne_eq, (U_route_Table_Parts _).1, List.set_cons_zero, List.set_cons_succ]
      rw [← hsz]
      refine h1 S.length (arrI o) _ _ _ hS1 (by omega) fun R hR1 hR2 => ?_
      rw [hsz] at hR1 hR2
      have hK2 := hK R hR1 hR2
      have hRs : R.size = o.length := hR1.1.trans hsz
      have hset : ∀ x y : List AV, (S ++ [x]).set S.length y = S ++ [y] := fun x y => by simp
      rw [hset]
      have hS2 : (S ++ [flat iA R])[S.length]? = some (flat iA R) := by simp
      simp only [C_route_Table_Parts, A_, simprocAttr, ne_eq, (U_route_Table_Parts _).1]
      rw [hsz, ← hRs]
      refine h2 S.length R _ _ _ hS2 (by omega) fun k e2 hk he2 hc => ?_
      rw [hset]
      have hS3 : (S ++ [flat iA e2])[S.length]? = some (flat iA e2) := by simp
      have hf : ∀ {e : ET}, e.c = 1 → e.ag = false → freezeL e (.row (.stk S.length) 0 k R.size) ⟨S ++ [flat iA e2], H⟩ = _ := fun h1 h2 => freeze_i (H := H) h1 h2 hS3 (by omega)
      simp only [hset, hc] at hf
      simp only [C_route_Table_Parts, A_, simprocAttr, ne_eq, (U_route_Table_Parts _).1, hf]
      exact hK2
end Go.AM
