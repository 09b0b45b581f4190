import Derived.Test.YthbiajoionockaaM10
/-! Functions, lowered. -/
namespace Go.AM
open Go
set_option linter.unusedVariables false
set_option maxRecDepth 20000
def C_hourglassref10_Of_k1 : LCode := (.seq (.sq [⟨some 15, none, .loadA 16 (.t 4)⟩,
      ⟨none, none, .store 16 (.t 2) (.t 15)⟩,
      ⟨some 3, none, .mv true (.c (.bool false))⟩]) .ret)
theorem u_C_hourglassref10_Of_k1 {C : CallW} {P : Program} {rd : Bool} {is : List Item} {fr : Fr} {σ : St} {K : KC} : runC C P rd C_hourglassref10_Of_k1 is fr σ K = runC C P rd (.seq (.sq [⟨some 15, none, .loadA 16 (.t 4)⟩,
      ⟨none, none, .store 16 (.t 2) (.t 15)⟩,
      ⟨some 3, none, .mv true (.c (.bool false))⟩]) .ret) is fr σ K := (rfl)
def C_hourglassref10_Of_k2 : LCode := (.seq (.sq [⟨some 26, none, .build zk []⟩,
            ⟨none, none, .store 16 (.t 2) (.t 26)⟩,
            ⟨some 3, none, .mv true (.c (.bool false))⟩]) .ret)
theorem u_C_hourglassref10_Of_k2 {C : CallW} {P : Program} {rd : Bool} {is : List Item} {fr : Fr} {σ : St} {K : KC} : runC C P rd C_hourglassref10_Of_k2 is fr σ K = runC C P rd (.seq (.sq [⟨some 26, none, .build zk []⟩,
            ⟨none, none, .store 16 (.t 2) (.t 26)⟩,
            ⟨some 3, none, .mv true (.c (.bool false))⟩]) .ret) is fr σ K := (rfl)
def C_hourglassref10_Of_k3 : LCode := (.sq [⟨some 27, none, .mv false (.t 5)⟩,
          ⟨some 28, none, .mv false (.t 0)⟩,
          ⟨some 29, none, .mv false (.t 5)⟩,
          ⟨some 30, none, .ixs (.t 28) (.t 29)⟩,
          ⟨some 31, none, .ixa (.arr 16 1) (.t 4) (.t 27)⟩,
          ⟨none, none, .store 1 (.t 31) (.t 30)⟩])
theorem u_C_hourglassref10_Of_k3 {C : CallW} {P : Program} {rd : Bool} {is : List Item} {fr : Fr} {σ : St} {K : KC} : runC C P rd C_hourglassref10_Of_k3 is fr σ K = runC C P rd (.sq [⟨some 27, none, .mv false (.t 5)⟩,
          ⟨some 28, none, .mv false (.t 0)⟩,
          ⟨some 29, none, .mv false (.t 5)⟩,
          ⟨some 30, none, .ixs (.t 28) (.t 29)⟩,
          ⟨some 31, none, .ixa (.arr 16 1) (.t 4) (.t 27)⟩,
          ⟨none, none, .store 1 (.t 31) (.t 30)⟩]) is fr σ K := (rfl)
def C_hourglassref10_Of_k4 : LCode := (.sq [⟨some 20, none, .mv false (.t 5)⟩,
        ⟨some 21, none, .bin .add .sc (.t 20) (.c (.int .i64 1))⟩,
        ⟨some 5, none, .mv true (.t 21)⟩])
theorem u_C_hourglassref10_Of_k4 {C : CallW} {P : Program} {rd : Bool} {is : List Item} {fr : Fr} {σ : St} {K : KC} : runC C P rd C_hourglassref10_Of_k4 is fr σ K = runC C P rd (.sq [⟨some 20, none, .mv false (.t 5)⟩,
        ⟨some 21, none, .bin .add .sc (.t 20) (.c (.int .i64 1))⟩,
        ⟨some 5, none, .mv true (.t 21)⟩]) is fr σ K := (rfl)
def C_hourglassref10_Of_k5 : LCode := (.seq (.block 1 (.seq (.seq (.sq [⟨some 22, none, .mv false (.t 0)⟩,
          ⟨some 23, none, .mv false (.t 5)⟩,
          ⟨some 24, none, .ixs (.t 22) (.t 23)⟩,
          ⟨some 25, none, .bin .eql .sc (.t 24) (.c (.int .u8 0))⟩]) (.cond (.t 25) C_hourglassref10_Of_k2 .skip)) C_hourglassref10_Of_k3)) C_hourglassref10_Of_k4)
theorem u_C_hourglassref10_Of_k5 {C : CallW} {P : Program} {rd : Bool} {is : List Item} {fr : Fr} {σ : St} {K : KC} : runC C P rd C_hourglassref10_Of_k5 is fr σ K = runC C P rd (.seq (.block 1 (.seq (.seq (.sq [⟨some 22, none, .mv false (.t 0)⟩,
          ⟨some 23, none, .mv false (.t 5)⟩,
          ⟨some 24, none, .ixs (.t 22) (.t 23)⟩,
          ⟨some 25, none, .bin .eql .sc (.t 24) (.c (.int .u8 0))⟩]) (.cond (.t 25) C_hourglassref10_Of_k2 .skip)) C_hourglassref10_Of_k3)) C_hourglassref10_Of_k4) is fr σ K := (rfl)
def C_hourglassref10_Of_k6 : LCode := (.seq (.seq (.sq [⟨some 16, none, .mv false (.t 5)⟩,
        ⟨some 17, none, .mv false (.t 0)⟩,
        ⟨some 18, none, .len .str (.t 17)⟩,
        ⟨some 19, none, .bin .lss .sc (.t 16) (.t 18)⟩]) (.cond (.t 19) .skip (.exit 0))) C_hourglassref10_Of_k5)
theorem u_C_hourglassref10_Of_k6 {C : CallW} {P : Program} {rd : Bool} {is : List Item} {fr : Fr} {σ : St} {K : KC} : runC C P rd C_hourglassref10_Of_k6 is fr σ K = runC C P rd (.seq (.seq (.sq [⟨some 16, none, .mv false (.t 5)⟩,
        ⟨some 17, none, .mv false (.t 0)⟩,
        ⟨some 18, none, .len .str (.t 17)⟩,
        ⟨some 19, none, .bin .lss .sc (.t 16) (.t 18)⟩]) (.cond (.t 19) .skip (.exit 0))) C_hourglassref10_Of_k5) is fr σ K := (rfl)
def C_hourglassref10_Of_k7 : LCode := (.block 0 (.loop [true, false, true, false, true, true, false, false, false, false, false, false, false, false, false, false, false, false, false, false, false, false, false, false, false, false, false, false, false, false, false, false, false] C_hourglassref10_Of_k6))
theorem u_C_hourglassref10_Of_k7 {C : CallW} {P : Program} {rd : Bool} {is : List Item} {fr : Fr} {σ : St} {K : KC} : runC C P rd C_hourglassref10_Of_k7 is fr σ K = runC C P rd (.block 0 (.loop [true, false, true, false, true, true, false, false, false, false, false, false, false, false, false, false, false, false, false, false, false, false, false, false, false, false, false, false, false, false, false, false, false] C_hourglassref10_Of_k6)) is fr σ K := (rfl)
def C_hourglassref10_Of_k8 : LCode := (.seq (.sq [⟨some 32, none, .loadA 16 (.t 4)⟩,
    ⟨none, none, .store 16 (.t 2) (.t 32)⟩,
    ⟨some 3, none, .mv true (.c (.bool true))⟩]) .ret)
theorem u_C_hourglassref10_Of_k8 {C : CallW} {P : Program} {rd : Bool} {is : List Item} {fr : Fr} {σ : St} {K : KC} : runC C P rd C_hourglassref10_Of_k8 is fr σ K = runC C P rd (.seq (.sq [⟨some 32, none, .loadA 16 (.t 4)⟩,
    ⟨none, none, .store 16 (.t 2) (.t 32)⟩,
    ⟨some 3, none, .mv true (.c (.bool true))⟩]) .ret) is fr σ K := (rfl)
def C_hourglassref10_Of_k9 : LCode := (.seq (.seq (.sq [⟨some 7, none, .mv false (.t 0)⟩,
    ⟨some 8, none, .len .str (.t 7)⟩,
    ⟨some 9, none, .bin .lss .sc (.t 8) (.c (.int .i64 1))⟩,
    ⟨some 10, none, .mv false (.t 9)⟩,
    ⟨some 11, some (10, false), .mv false (.t 0)⟩,
    ⟨some 12, some (10, false), .len .str (.t 11)⟩,
    ⟨some 13, some (10, false), .bin .gtr .sc (.t 12) (.c (.int .i64 16))⟩,
    ⟨some 14, none, .pick (.t 10) (.c (.bool true)) (.t 13)⟩]) (.cond (.t 14) C_hourglassref10_Of_k1 .skip)) (.seq (.seq (.sq [⟨some 5, none, .mv true (.c (.int .i64 0))⟩]) C_hourglassref10_Of_k7) C_hourglassref10_Of_k8))
theorem u_C_hourglassref10_Of_k9 {C : CallW} {P : Program} {rd : Bool} {is : List Item} {fr : Fr} {σ : St} {K : KC} : runC C P rd C_hourglassref10_Of_k9 is fr σ K = runC C P rd (.seq (.seq (.sq [⟨some 7, none, .mv false (.t 0)⟩,
    ⟨some 8, none, .len .str (.t 7)⟩,
    ⟨some 9, none, .bin .lss .sc (.t 8) (.c (.int .i64 1))⟩,
    ⟨some 10, none, .mv false (.t 9)⟩,
    ⟨some 11, some (10, false), .mv false (.t 0)⟩,
    ⟨some 12, some (10, false), .len .str (.t 11)⟩,
    ⟨some 13, some (10, false), .bin .gtr .sc (.t 12) (.c (.int .i64 16))⟩,
    ⟨some 14, none, .pick (.t 10) (.c (.bool true)) (.t 13)⟩]) (.cond (.t 14) C_hourglassref10_Of_k1 .skip)) (.seq (.seq (.sq [⟨some 5, none, .mv true (.c (.int .i64 0))⟩]) C_hourglassref10_Of_k7) C_hourglassref10_Of_k8)) is fr σ K := (rfl)
def C_hourglassref10_Of_k10 : LCode := (.seq (.sq [⟨some 6, none, .build zk []⟩,
    ⟨some 4, none, .alloc false zk⟩,
    ⟨none, none, .store 16 (.t 4) (.t 6)⟩]) C_hourglassref10_Of_k9)
theorem u_C_hourglassref10_Of_k10 {C : CallW} {P : Program} {rd : Bool} {is : List Item} {fr : Fr} {σ : St} {K : KC} : runC C P rd C_hourglassref10_Of_k10 is fr σ K = runC C P rd (.seq (.sq [⟨some 6, none, .build zk []⟩,
    ⟨some 4, none, .alloc false zk⟩,
    ⟨none, none, .store 16 (.t 4) (.t 6)⟩]) C_hourglassref10_Of_k9) is fr σ K := (rfl)
def C_hourglassref10_Of : LFn :=
  ⟨33, [.many 2 16, .t 3], (.seq (.sq [⟨some 2, none, .alloc false zk⟩,
    ⟨some 3, none, .mv true (.c (.bool false))⟩]) C_hourglassref10_Of_k10)⟩

end Go.AM
/-! Stamps. -/
namespace Go.AM
open Go
set_option linter.unusedVariables false

structure Stp where
  t : Int
  n : UInt8
  deriving DecidableEq

def stc (s : Stp) : List AV := [.s (.int .i64 s.t), u8 s.n]
def sA (s : Stp) : AV := .agg (stc s)
theorem stc_length (s : Stp) : (stc s).length = 2 := rfl
theorem stc_under {n : Nat} {s : Stp} : AV.under.go n (stc s) = true := rfl
theorem sA_under {n : Nat} {s : Stp} : AV.under n (sA s) = true := rfl
theorem look_stc (s : Stp) : (stc s).map AV.look = stc s := rfl
theorem fits_stc (s : Stp) : fitsL [.int .i64, .int .u8] (stc s) = true := rfl
theorem beq_stc (a b : Stp) : AV.beq.go (stc a) (stc b) = decide (a = b) := by
  cases a; cases b
  simp only [stc, AV.beq.go, AV.beq, u8_inj, Bool.and_true, Sc.int.injEq, true_and, Stp.mk.injEq, Bool.decide_and]
theorem take_stc (s : Stp) (r : List AV) : (stc s ++ r).take 2 = stc s := rfl
theorem drop_stc (s : Stp) (r : List AV) : (stc s ++ r).drop 2 = r := rfl
theorem stc_get0 (s : Stp) : (stc s)[0]? = some (.s (.int .i64 s.t)) := rfl
theorem stc_get1 (s : Stp) : (stc s)[1]? = some (u8 s.n) := rfl
theorem u8_lt' {x y : UInt8} : ((x.toNat : Int) < (y.toNat : Int)) = (x < y) := by rw [UInt8.lt_iff_toNat_lt]; exact propext (by omega)
theorem u8_eq' {x y : UInt8} : ((x.toNat : Int) = (y.toNat : Int)) = (x = y) := propext ⟨fun h => UInt8.toNat_inj.1 (by omega), fun h => by rw [h]⟩

/-- Which stamp is less. -/
def cmpS (a b : Stp) : Int := if a.t < b.t then -1 else if b.t < a.t then 1 else if a.n < b.n then -1 else if b.n < a.n then 1 else 0
/-- A function that only answers. -/
def FnS (C : CallW) (f : FuncId) (args : List AV) (v : AV) : Prop := ∀ S H (K : AV → St → Prop), K v ⟨S, H⟩ → C (.fn f) args ⟨S, H⟩ K
end Go.AM
/-! The equations of a run, bundled. -/
namespace Go.AM
open Go
set_option linter.unusedVariables false
theorem K5_ :
  (((((type_of% @Go.AM.runC_rfun ∧ type_of% @Go.AM.rfn_fn) ∧ (type_of% @Go.AM.rfK_eq ∧ (type_of% @Go.AM.rfE_norm ∧ type_of% @Go.AM.rfE_ret))) ∧ ((type_of% @Go.AM.rfE_exit ∧ type_of% @Go.AM.rnd1_n) ∧ (type_of% @Go.AM.rnd1_some ∧ (type_of% @Go.AM.rnd2_e ∧ type_of% @Go.AM.rnd2_norm)))) ∧ (((type_of% @Go.AM.rnd2_ret ∧ type_of% @Go.AM.rnd2_exit) ∧ (type_of% @Go.AM.loopO_some ∧ (type_of% @Go.AM.setAll.eq_1 ∧ type_of% @Go.AM.setAll.eq_2))) ∧ ((type_of% @Go.AM.lasting.eq_1 ∧ (type_of% @Go.AM.stc_length ∧ type_of% @Go.AM.stc_under)) ∧ (type_of% @Go.AM.sA_under ∧ (type_of% @Go.AM.look_stc ∧ type_of% @Go.AM.fits_stc))))) ∧ ((((type_of% @Go.AM.beq_stc ∧ type_of% @Go.AM.take_stc) ∧ (type_of% @Go.AM.drop_stc ∧ (type_of% @Go.AM.stc_get0 ∧ type_of% @Go.AM.stc_get1))) ∧ ((type_of% @Go.AM.LK.fits.eq_1 ∧ type_of% @Go.AM.LK.fits.eq_2) ∧ (type_of% @Go.AM.LK.fits.eq_3 ∧ (type_of% @Go.AM.LK.fits.eq_4 ∧ type_of% @Go.AM.KK.fits.eq_1)))) ∧ (((type_of% @Go.AM.KK.fits.eq_2 ∧ type_of% @Go.AM.KK.fits.eq_3) ∧ (type_of% @Go.AM.u8_inj ∧ (type_of% @Go.AM.Sc.int.injEq ∧ type_of% @Go.AM.Sc.str.injEq))) ∧ ((type_of% @Go.AM.Sc.bool.injEq ∧ (type_of% @Go.AM.wrap_i64 ∧ type_of% @Bool.false_and)) ∧ (type_of% @Bool.and_false ∧ (type_of% @Nat.not_lt_zero ∧ type_of% @Go.AM.beq_refl)))))) :=
  ⟨⟨⟨⟨⟨@Go.AM.runC_rfun, @Go.AM.rfn_fn⟩, ⟨@Go.AM.rfK_eq, ⟨@Go.AM.rfE_norm, @Go.AM.rfE_ret⟩⟩⟩, ⟨⟨@Go.AM.rfE_exit, @Go.AM.rnd1_n⟩, ⟨@Go.AM.rnd1_some, ⟨@Go.AM.rnd2_e, @Go.AM.rnd2_norm⟩⟩⟩⟩, ⟨⟨⟨@Go.AM.rnd2_ret, @Go.AM.rnd2_exit⟩, ⟨@Go.AM.loopO_some, ⟨@Go.AM.setAll.eq_1, @Go.AM.setAll.eq_2⟩⟩⟩, ⟨⟨@Go.AM.lasting.eq_1, ⟨@Go.AM.stc_length, @Go.AM.stc_under⟩⟩, ⟨@Go.AM.sA_under, ⟨@Go.AM.look_stc, @Go.AM.fits_stc⟩⟩⟩⟩⟩, ⟨⟨⟨⟨@Go.AM.beq_stc, @Go.AM.take_stc⟩, ⟨@Go.AM.drop_stc, ⟨@Go.AM.stc_get0, @Go.AM.stc_get1⟩⟩⟩, ⟨⟨@Go.AM.LK.fits.eq_1, @Go.AM.LK.fits.eq_2⟩, ⟨@Go.AM.LK.fits.eq_3, ⟨@Go.AM.LK.fits.eq_4, @Go.AM.KK.fits.eq_1⟩⟩⟩⟩, ⟨⟨⟨@Go.AM.KK.fits.eq_2, @Go.AM.KK.fits.eq_3⟩, ⟨@Go.AM.u8_inj, ⟨@Go.AM.Sc.int.injEq, @Go.AM.Sc.str.injEq⟩⟩⟩, ⟨⟨@Go.AM.Sc.bool.injEq, ⟨@Go.AM.wrap_i64, @Bool.false_and⟩⟩, ⟨@Bool.and_false, ⟨@Nat.not_lt_zero, @Go.AM.beq_refl⟩⟩⟩⟩⟩⟩
end Go.AM
/-! Stamps: what the functions of stamp and of hourglassref6 answer. -/
namespace Go.AM
open Go
set_option maxRecDepth 20000
set_option linter.unusedSimpArgs false
set_option linter.unusedVariables false

theorem isNaN_spec {C : CallW} (P : Program) (x : Int) : ∀ S H (K : AV → St → Prop), K (.bool false) ⟨S, H⟩ → runL C P C_cmp_isNaN_int64 [.s (.int .i64 x)] ⟨S, H⟩ K := by
  intro S H K hK
  simp only [C_cmp_isNaN_int64, RUN_, U_cmp_isNaN_int64, FR_, Nat.reducePow, Int.reducePow, Nat.reduceAdd, Nat.reduceSub, Nat.reduceMul, Int.reduceToNat, Nat.reduceLeDiff, Nat.reduceEqDiff, Nat.reduceLT, Nat.reduceGT, Int.reduceGT, Int.reduceGE, Int.reduceLT, Int.reduceLE, Int.reduceEq, Int.reduceAdd, Int.reduceSub, Int.reduceNeg, reduceCtorEq, if_true, if_false, ite_true, ite_false, ne_eq, eq_self, OPK_, KEY_]
  exact hK
theorem isNaN8_spec {C : CallW} (P : Program) (x : UInt8) : ∀ S H (K : AV → St → Prop), K (.bool false) ⟨S, H⟩ → runL C P C_cmp_isNaN_uint8 [u8 x] ⟨S, H⟩ K := by
  intro S H K hK
  simp only [u8, C_cmp_isNaN_uint8, RUN_, U_cmp_isNaN_uint8, FR_, Nat.reducePow, Int.reducePow, Nat.reduceAdd, Nat.reduceSub, Nat.reduceMul, Int.reduceToNat, Nat.reduceLeDiff, Nat.reduceEqDiff, Nat.reduceLT, Nat.reduceGT, Int.reduceGT, Int.reduceGE, Int.reduceLT, Int.reduceLE, Int.reduceEq, Int.reduceAdd, Int.reduceSub, Int.reduceNeg, reduceCtorEq, if_true, if_false, ite_true, ite_false, ne_eq, eq_self, OPK_, KEY_]
  exact hK
def cmpI (x y : Int) : Int := if x < y then -1 else if y < x then 1 else 0
def cmpU (x y : UInt8) : Int := if x < y then -1 else if y < x then 1 else 0
theorem Compare_spec {C : CallW} (P : Program) {c : Nat → FuncId} (h : ∀ x : Int, FnS C (c 0) [.s (.int .i64 x)] (.bool false)) (x y : Int) : ∀ S H (K : AV → St → Prop), K (.i (cmpI x y)) ⟨S, H⟩ → runL C P (C_cmp_Compare_int64 c) [.s (.int .i64 x), .s (.int .i64 y)] ⟨S, H⟩ K := by
  intro S H K hK
  simp only [C_cmp_Compare_int64, RUN_, U_cmp_Compare_int64, FR_, Nat.reducePow, Int.reducePow, Nat.reduceAdd, Nat.reduceSub, Nat.reduceMul, Int.reduceToNat, Nat.reduceLeDiff, Nat.reduceEqDiff, Nat.reduceLT, Nat.reduceGT, Int.reduceGT, Int.reduceGE, Int.reduceLT, Int.reduceLE, Int.reduceEq, Int.reduceAdd, Int.reduceSub, Int.reduceNeg, reduceCtorEq, if_true, if_false, ite_true, ite_false, ne_eq, eq_self, OPK_, KEY_]
  refine h _ _ _ _ ?_
  simp only [RUN_, U_cmp_Compare_int64, FR_, Nat.reducePow, Int.reducePow, Nat.reduceAdd, Nat.reduceSub, Nat.reduceMul, Int.reduceToNat, Nat.reduceLeDiff, Nat.reduceEqDiff, Nat.reduceLT, Nat.reduceGT, Int.reduceGT, Int.reduceGE, Int.reduceLT, Int.reduceLE, Int.reduceEq, Int.reduceAdd, Int.reduceSub, Int.reduceNeg, reduceCtorEq, if_true, if_false, ite_true, ite_false, ne_eq, eq_self, OPK_, KEY_]
  refine h _ _ _ _ ?_
  unfold cmpI at hK
  by_cases h1 : x < y
  · rw [if_pos h1] at hK
    simp only [RUN_, U_cmp_Compare_int64, FR_, Nat.reducePow, Int.reducePow, Nat.reduceAdd, Nat.reduceSub, Nat.reduceMul, Int.reduceToNat, Nat.reduceLeDiff, Nat.reduceEqDiff, Nat.reduceLT, Nat.reduceGT, Int.reduceGT, Int.reduceGE, Int.reduceLT, Int.reduceLE, Int.reduceEq, Int.reduceAdd, Int.reduceSub, Int.reduceNeg, reduceCtorEq, if_true, if_false, ite_true, ite_false, ne_eq, eq_self, OPK_, KEY_, h1]
    exact hK
  · rw [if_neg h1] at hK
    by_cases h2 : y < x
    · rw [if_pos h2] at hK
      simp only [RUN_, U_cmp_Compare_int64, FR_, Nat.reducePow, Int.reducePow, Nat.reduceAdd, Nat.reduceSub, Nat.reduceMul, Int.reduceToNat, Nat.reduceLeDiff, Nat.reduceEqDiff, Nat.reduceLT, Nat.reduceGT, Int.reduceGT, Int.reduceGE, Int.reduceLT, Int.reduceLE, Int.reduceEq, Int.reduceAdd, Int.reduceSub, Int.reduceNeg, reduceCtorEq, if_true, if_false, ite_true, ite_false, ne_eq, eq_self, OPK_, KEY_, h1, h2]
      exact hK
    · rw [if_neg h2] at hK
      simp only [RUN_, U_cmp_Compare_int64, FR_, Nat.reducePow, Int.reducePow, Nat.reduceAdd, Nat.reduceSub, Nat.reduceMul, Int.reduceToNat, Nat.reduceLeDiff, Nat.reduceEqDiff, Nat.reduceLT, Nat.reduceGT, Int.reduceGT, Int.reduceGE, Int.reduceLT, Int.reduceLE, Int.reduceEq, Int.reduceAdd, Int.reduceSub, Int.reduceNeg, reduceCtorEq, if_true, if_false, ite_true, ite_false, ne_eq, eq_self, OPK_, KEY_, h1, h2]
      exact hK
theorem Compare8_spec {C : CallW} (P : Program) {c : Nat → FuncId} (h : ∀ x : UInt8, FnS C (c 0) [u8 x] (.bool false)) (x y : UInt8) : ∀ S H (K : AV → St → Prop), K (.i (cmpU x y)) ⟨S, H⟩ → runL C P (C_cmp_Compare_uint8 c) [u8 x, u8 y] ⟨S, H⟩ K := by
  intro S H K hK
  have h' : ∀ (x : UInt8) S H (K : AV → St → Prop), K (.bool false) ⟨S, H⟩ → C (.fn (c 0)) [.s (.int .u8 x.toNat)] ⟨S, H⟩ K := h
  simp only [u8, C_cmp_Compare_uint8, RUN_, U_cmp_Compare_uint8, FR_, Nat.reducePow, Int.reducePow, Nat.reduceAdd, Nat.reduceSub, Nat.reduceMul, Int.reduceToNat, Nat.reduceLeDiff, Nat.reduceEqDiff, Nat.reduceLT, Nat.reduceGT, Int.reduceGT, Int.reduceGE, Int.reduceLT, Int.reduceLE, Int.reduceEq, Int.reduceAdd, Int.reduceSub, Int.reduceNeg, reduceCtorEq, if_true, if_false, ite_true, ite_false, ne_eq, eq_self, OPK_, KEY_]
  refine h' _ _ _ _ ?_
  simp only [RUN_, U_cmp_Compare_uint8, FR_, Nat.reducePow, Int.reducePow, Nat.reduceAdd, Nat.reduceSub, Nat.reduceMul, Int.reduceToNat, Nat.reduceLeDiff, Nat.reduceEqDiff, Nat.reduceLT, Nat.reduceGT, Int.reduceGT, Int.reduceGE, Int.reduceLT, Int.reduceLE, Int.reduceEq, Int.reduceAdd, Int.reduceSub, Int.reduceNeg, reduceCtorEq, if_true, if_false, ite_true, ite_false, ne_eq, eq_self, OPK_, KEY_]
  refine h' _ _ _ _ ?_
  unfold cmpU at hK
  by_cases h1 : x < y
  · rw [if_pos h1] at hK
    simp only [RUN_, U_cmp_Compare_uint8, FR_, Nat.reducePow, Int.reducePow, Nat.reduceAdd, Nat.reduceSub, Nat.reduceMul, Int.reduceToNat, Nat.reduceLeDiff, Nat.reduceEqDiff, Nat.reduceLT, Nat.reduceGT, Int.reduceGT, Int.reduceGE, Int.reduceLT, Int.reduceLE, Int.reduceEq, Int.reduceAdd, Int.reduceSub, Int.reduceNeg, reduceCtorEq, if_true, if_false, ite_true, ite_false, ne_eq, eq_self, OPK_, KEY_, u8_lt', h1]
    exact hK
  · rw [if_neg h1] at hK
    by_cases h2 : y < x
    · rw [if_pos h2] at hK
      simp only [RUN_, U_cmp_Compare_uint8, FR_, Nat.reducePow, Int.reducePow, Nat.reduceAdd, Nat.reduceSub, Nat.reduceMul, Int.reduceToNat, Nat.reduceLeDiff, Nat.reduceEqDiff, Nat.reduceLT, Nat.reduceGT, Int.reduceGT, Int.reduceGE, Int.reduceLT, Int.reduceLE, Int.reduceEq, Int.reduceAdd, Int.reduceSub, Int.reduceNeg, reduceCtorEq, if_true, if_false, ite_true, ite_false, ne_eq, eq_self, OPK_, KEY_, u8_lt', h1, h2]
      exact hK
    · rw [if_neg h2] at hK
      simp only [RUN_, U_cmp_Compare_uint8, FR_, Nat.reducePow, Int.reducePow, Nat.reduceAdd, Nat.reduceSub, Nat.reduceMul, Int.reduceToNat, Nat.reduceLeDiff, Nat.reduceEqDiff, Nat.reduceLT, Nat.reduceGT, Int.reduceGT, Int.reduceGE, Int.reduceLT, Int.reduceLE, Int.reduceEq, Int.reduceAdd, Int.reduceSub, Int.reduceNeg, reduceCtorEq, if_true, if_false, ite_true, ite_false, ne_eq, eq_self, OPK_, KEY_, u8_lt', h1, h2]
      exact hK
theorem Or_spec {C : CallW} (hC : LeC C C) (P : Program) (x y : Int) : ∀ S H (K : AV → St → Prop), K (.i (if x ≠ 0 then x else y)) ⟨S, H⟩ → runL C P C_cmp_Or_int [.list .sh 1 [.i x, .i y]] ⟨S, H⟩ K := by
  intro S H K hK
  have go : ∀ {n0 m b is fr K}, underL n0 (keep m fr) = true → runC C P false b (.lp m b n0 :: is) (keep m fr) ⟨S.take n0, H⟩ K → runLp C P false m b n0 is fr ⟨S, H⟩ K := fun hu h => loop_step hC rfl hu h
  have w1 : IntKind.i64.wrap 1 = 1 := by decide
  have w2 : IntKind.i64.wrap 2 = 2 := by decide
  simp only [C_cmp_Or_int, RUN_, U_cmp_Or_int, FR_, Nat.reducePow, Int.reducePow, Nat.reduceAdd, Nat.reduceSub, Nat.reduceMul, Int.reduceToNat, Nat.reduceLeDiff, Nat.reduceEqDiff, Nat.reduceLT, Nat.reduceGT, Int.reduceGT, Int.reduceGE, Int.reduceLT, Int.reduceLE, Int.reduceEq, Int.reduceAdd, Int.reduceSub, Int.reduceNeg, reduceCtorEq, if_true, if_false, ite_true, ite_false, ne_eq, eq_self, OPK_, KEY_]
  refine go (by simp [keep, AV.under, AV.under.go]) ?_
  simp only [keep, List.take_length]
  by_cases h1 : x = 0
  · have h1' : (x = 0) = True := eq_true h1
    rw [if_neg (by simpa using h1)] at hK
    simp only [RUN_, U_cmp_Or_int, FR_, Nat.reducePow, Int.reducePow, Nat.reduceAdd, Nat.reduceSub, Nat.reduceMul, Int.reduceToNat, Nat.reduceLeDiff, Nat.reduceEqDiff, Nat.reduceLT, Nat.reduceGT, Int.reduceGT, Int.reduceGE, Int.reduceLT, Int.reduceLE, Int.reduceEq, Int.reduceAdd, Int.reduceSub, Int.reduceNeg, reduceCtorEq, if_true, if_false, ite_true, ite_false, ne_eq, eq_self, OPK_, KEY_, indexAddrL, Int.toNat_zero, h1']
    refine go (by simp [keep, AV.under, AV.under.go]) ?_
    simp only [keep, List.take_length]
    by_cases h2 : y = 0
    · have h2' : (y = 0) = True := eq_true h2
      simp only [RUN_, U_cmp_Or_int, FR_, Nat.reducePow, Int.reducePow, Nat.reduceAdd, Nat.reduceSub, Nat.reduceMul, Int.reduceToNat, Nat.reduceLeDiff, Nat.reduceEqDiff, Nat.reduceLT, Nat.reduceGT, Int.reduceGT, Int.reduceGE, Int.reduceLT, Int.reduceLE, Int.reduceEq, Int.reduceAdd, Int.reduceSub, Int.reduceNeg, reduceCtorEq, if_true, if_false, ite_true, ite_false, ne_eq, eq_self, OPK_, KEY_, indexAddrL, w1, Int.toNat_one, h2']
      refine go (by simp [keep, AV.under, AV.under.go]) ?_
      simp only [keep, List.take_length]
      simp only [RUN_, U_cmp_Or_int, FR_, Nat.reducePow, Int.reducePow, Nat.reduceAdd, Nat.reduceSub, Nat.reduceMul, Int.reduceToNat, Nat.reduceLeDiff, Nat.reduceEqDiff, Nat.reduceLT, Nat.reduceGT, Int.reduceGT, Int.reduceGE, Int.reduceLT, Int.reduceLE, Int.reduceEq, Int.reduceAdd, Int.reduceSub, Int.reduceNeg, reduceCtorEq, if_true, if_false, ite_true, ite_false, ne_eq, eq_self, OPK_, KEY_, w2]
      rw [h2] at hK
      exact hK
    · simp only [RUN_, U_cmp_Or_int, FR_, Nat.reducePow, Int.reducePow, Nat.reduceAdd, Nat.reduceSub, Nat.reduceMul, Int.reduceToNat, Nat.reduceLeDiff, Nat.reduceEqDiff, Nat.reduceLT, Nat.reduceGT, Int.reduceGT, Int.reduceGE, Int.reduceLT, Int.reduceLE, Int.reduceEq, Int.reduceAdd, Int.reduceSub, Int.reduceNeg, reduceCtorEq, if_true, if_false, ite_true, ite_false, ne_eq, eq_self, OPK_, KEY_, indexAddrL, w1, Int.toNat_one, h2]
      exact hK
  · rw [if_pos h1] at hK
    simp only [RUN_, U_cmp_Or_int, FR_, Nat.reducePow, Int.reducePow, Nat.reduceAdd, Nat.reduceSub, Nat.reduceMul, Int.reduceToNat, Nat.reduceLeDiff, Nat.reduceEqDiff, Nat.reduceLT, Nat.reduceGT, Int.reduceGT, Int.reduceGE, Int.reduceLT, Int.reduceLE, Int.reduceEq, Int.reduceAdd, Int.reduceSub, Int.reduceNeg, reduceCtorEq, if_true, if_false, ite_true, ite_false, ne_eq, eq_self, OPK_, KEY_, indexAddrL, Int.toNat_zero, h1]
    exact hK
theorem cmpS_or (a b : Stp) : (if cmpI a.t b.t ≠ 0 then cmpI a.t b.t else cmpU a.n b.n) = cmpS a b := by
  unfold cmpI cmpU cmpS
  by_cases h1 : a.t < b.t
  · simp [h1]
  · by_cases h2 : b.t < a.t
    · simp [h1, h2]
    · simp [h1, h2]
theorem stamp_Cmp_spec {C : CallW} (hC : LeC C C) (hW : WkC C) (P : Program) {c : Nat → FuncId} (h0 : ∀ x y : Int, FnS C (c 0) [.s (.int .i64 x), .s (.int .i64 y)] (.i (cmpI x y))) (h1 : ∀ x y : UInt8, FnS C (c 1) [u8 x, u8 y] (.i (cmpU x y)))
    (h2 : ∀ x y : Int, FnS C (c 2) [.list .sh 1 [.i x, .i y]] (.i (if x ≠ 0 then x else y))) (a b : Stp) : ∀ S H (K : AV → St → Prop), K (.i (cmpS a b)) ⟨S, H⟩ → runL C P (C_stamp_Cmp c) [.agg (stc a), .agg (stc b)] ⟨S, H⟩ K := by
  intro S H K hK
  simp only [stc, C_stamp_Cmp, RUN_, U_stamp_Cmp, FR_, Nat.reducePow, Int.reducePow, Nat.reduceAdd, Nat.reduceSub, Nat.reduceMul, Int.reduceToNat, Nat.reduceLeDiff, Nat.reduceEqDiff, Nat.reduceLT, Nat.reduceGT, Int.reduceGT, Int.reduceGE, Int.reduceLT, Int.reduceLE, Int.reduceEq, Int.reduceAdd, Int.reduceSub, Int.reduceNeg, reduceCtorEq, if_true, if_false, ite_true, ite_false, ne_eq, eq_self, OPK_, KEY_, CHK_, Nat.reduceBEq, K5_]
  refine h0 _ _ _ _ _ ?_
  simp only [RUN_, U_stamp_Cmp, FR_, Nat.reducePow, Int.reducePow, Nat.reduceAdd, Nat.reduceSub, Nat.reduceMul, Int.reduceToNat, Nat.reduceLeDiff, Nat.reduceEqDiff, Nat.reduceLT, Nat.reduceGT, Int.reduceGT, Int.reduceGE, Int.reduceLT, Int.reduceLE, Int.reduceEq, Int.reduceAdd, Int.reduceSub, Int.reduceNeg, reduceCtorEq, if_true, if_false, ite_true, ite_false, ne_eq, eq_self, OPK_, KEY_, CHK_, Nat.reduceBEq, K5_]
  refine h1 _ _ _ _ _ ?_
  simp only [RUN_, U_stamp_Cmp, FR_, Nat.reducePow, Int.reducePow, Nat.reduceAdd, Nat.reduceSub, Nat.reduceMul, Int.reduceToNat, Nat.reduceLeDiff, Nat.reduceEqDiff, Nat.reduceLT, Nat.reduceGT, Int.reduceGT, Int.reduceGE, Int.reduceLT, Int.reduceLE, Int.reduceEq, Int.reduceAdd, Int.reduceSub, Int.reduceNeg, reduceCtorEq, if_true, if_false, ite_true, ite_false, ne_eq, eq_self, OPK_, KEY_, CHK_, Nat.reduceBEq, K5_, List.isEmpty_cons]
  refine hW _ _ [.list .sh 1 [.i _, .i _]] _ _ (.full .nil) ?_
  refine h2 _ _ _ _ _ ?_
  rw [cmpS_or]
  simp only [RUN_, U_stamp_Cmp, FR_, Nat.reducePow, Int.reducePow, Nat.reduceAdd, Nat.reduceSub, Nat.reduceMul, Int.reduceToNat, Nat.reduceLeDiff, Nat.reduceEqDiff, Nat.reduceLT, Nat.reduceGT, Int.reduceGT, Int.reduceGE, Int.reduceLT, Int.reduceLE, Int.reduceEq, Int.reduceAdd, Int.reduceSub, Int.reduceNeg, reduceCtorEq, if_true, if_false, ite_true, ite_false, ne_eq, eq_self, OPK_, KEY_, CHK_, Nat.reduceBEq, K5_]
  exact hK
theorem ref6_Cmp_spec {C : CallW} (P : Program) (a b : Stp) : ∀ S H (K : AV → St → Prop), K (.i (cmpS a b)) ⟨S, H⟩ → runL C P C_hourglassref6_Cmp [.agg (stc a), .agg (stc b)] ⟨S, H⟩ K := by
  intro S H K hK
  obtain ⟨at_, an⟩ := a
  obtain ⟨bt, bn⟩ := b
  unfold cmpS at hK
  dsimp only at hK
  by_cases h1 : at_ < bt
  · rw [if_pos h1] at hK
    simp only [stc, u8, C_hourglassref6_Cmp, RUN_, U_hourglassref6_Cmp, FR_, Nat.reducePow, Int.reducePow, Nat.reduceAdd, Nat.reduceSub, Nat.reduceMul, Int.reduceToNat, Nat.reduceLeDiff, Nat.reduceEqDiff, Nat.reduceLT, Nat.reduceGT, Int.reduceGT, Int.reduceGE, Int.reduceLT, Int.reduceLE, Int.reduceEq, Int.reduceAdd, Int.reduceSub, Int.reduceNeg, reduceCtorEq, if_true, if_false, ite_true, ite_false, ne_eq, eq_self, OPK_, KEY_, h1]
    exact hK
  · rw [if_neg h1] at hK
    by_cases h2 : bt < at_
    · rw [if_pos h2] at hK
      have h3 : ¬ (at_ = bt) := by omega
      simp only [stc, u8, C_hourglassref6_Cmp, RUN_, U_hourglassref6_Cmp, FR_, Nat.reducePow, Int.reducePow, Nat.reduceAdd, Nat.reduceSub, Nat.reduceMul, Int.reduceToNat, Nat.reduceLeDiff, Nat.reduceEqDiff, Nat.reduceLT, Nat.reduceGT, Int.reduceGT, Int.reduceGE, Int.reduceLT, Int.reduceLE, Int.reduceEq, Int.reduceAdd, Int.reduceSub, Int.reduceNeg, reduceCtorEq, if_true, if_false, ite_true, ite_false, ne_eq, eq_self, OPK_, KEY_, K5_, h1, h3]
      exact hK
    · rw [if_neg h2] at hK
      have h3 : at_ = bt := by omega
      subst h3
      by_cases h4 : an < bn
      · rw [if_pos h4] at hK
        simp only [stc, u8, C_hourglassref6_Cmp, RUN_, U_hourglassref6_Cmp, FR_, Nat.reducePow, Int.reducePow, Nat.reduceAdd, Nat.reduceSub, Nat.reduceMul, Int.reduceToNat, Nat.reduceLeDiff, Nat.reduceEqDiff, Nat.reduceLT, Nat.reduceGT, Int.reduceGT, Int.reduceGE, Int.reduceLT, Int.reduceLE, Int.reduceEq, Int.reduceAdd, Int.reduceSub, Int.reduceNeg, reduceCtorEq, if_true, if_false, ite_true, ite_false, ne_eq, eq_self, OPK_, KEY_, K5_, h1, u8_lt', h4]
        exact hK
      · rw [if_neg h4] at hK
        by_cases h5 : bn < an
        · rw [if_pos h5] at hK
          have h6 : ¬ (an = bn) := fun e => by subst e; exact h4 h5
          simp only [stc, u8, C_hourglassref6_Cmp, RUN_, U_hourglassref6_Cmp, FR_, Nat.reducePow, Int.reducePow, Nat.reduceAdd, Nat.reduceSub, Nat.reduceMul, Int.reduceToNat, Nat.reduceLeDiff, Nat.reduceEqDiff, Nat.reduceLT, Nat.reduceGT, Int.reduceGT, Int.reduceGE, Int.reduceLT, Int.reduceLE, Int.reduceEq, Int.reduceAdd, Int.reduceSub, Int.reduceNeg, reduceCtorEq, if_true, if_false, ite_true, ite_false, ne_eq, eq_self, OPK_, KEY_, K5_, h1, u8_lt', u8_eq', h4, h6]
          exact hK
        · rw [if_neg h5] at hK
          have h6 : an = bn := by rw [UInt8.lt_iff_toNat_lt] at h4 h5; exact UInt8.toNat_inj.1 (by omega)
          subst h6
          simp only [stc, u8, C_hourglassref6_Cmp, RUN_, U_hourglassref6_Cmp, FR_, Nat.reducePow, Int.reducePow, Nat.reduceAdd, Nat.reduceSub, Nat.reduceMul, Int.reduceToNat, Nat.reduceLeDiff, Nat.reduceEqDiff, Nat.reduceLT, Nat.reduceGT, Int.reduceGT, Int.reduceGE, Int.reduceLT, Int.reduceLE, Int.reduceEq, Int.reduceAdd, Int.reduceSub, Int.reduceNeg, reduceCtorEq, if_true, if_false, ite_true, ite_false, ne_eq, eq_self, OPK_, KEY_, K5_, h1, u8_lt', u8_eq', h4]
          exact hK
end Go.AM
/-! The equations of a run, bundled. -/
namespace Go.AM
open Go
set_option linter.unusedVariables false
theorem K4_ :
  (type_of% @Go.AM.lenL_row ∧ (type_of% @Go.AM.lenL_nilS ∧ type_of% @Go.AM.ixr_n)) :=
  ⟨@Go.AM.lenL_row, ⟨@Go.AM.lenL_nilS, @Go.AM.ixr_n⟩⟩
end Go.AM
/-! Transactions; boxes on the heap. -/
namespace Go.AM
open Go
set_option linter.unusedVariables false

structure Tx where
  id : Int
  snap : Stp
  stamp : Stp
  done : Bool
  reads : List Wr
  writes : List Wr

def txc (x : Tx) : List AV := [.s (.int .i64 x.id), .s (.int .i64 x.snap.t), u8 x.snap.n, .s (.int .i64 x.stamp.t), u8 x.stamp.n, .s (.bool x.done), .list .sh 18 (x.reads.map wA), .list .sh 18 (x.writes.map wA)]
def txA (x : Tx) : AV := .agg (txc x)
def lstT (l : List Tx) : AV := .list .sh 8 (l.map txA)
theorem ixl_t {l : List Tx} {i c : Nat} {k : IntKind} (h : i < l.length) (hc : c ≠ 0) : indexAddrL (.sl c) (.list .sh c (l.map txA)) (.s (.int k (i : Int))) = some (.rop (txc l[i])) := ixl_map h hc
theorem txc_len (x : Tx) : (txc x).length = 8 := rfl
theorem under_yield {n h : Nat} : AV.under n (.yield h) = true := rfl

def hcells : HObj → List AV
  | .cells cs => cs
  | _ => []
theorem storeL_heap {S : List (List AV)} {H l : List HObj} {j n : Nat} {vs : List AV} (hj : j < l.length) (h : (hcells (l.getD j .dead)).length = n) (hv : vs.length = n) (hn : 2 ≤ n) (hu : AV.under.go 0 vs = true) : storeL n (.ptr (.heap (H.length + j)) 0) (.agg vs) ⟨S, H ++ l⟩ = some ⟨S, H ++ l.set j (.cells vs)⟩ := by
  have e : l[j]? = some (l.getD j .dead) := by simp [List.getD, hj]
  cases hb : l.getD j .dead with
  | cells cs =>
    rw [hb] at h e
    have h : cs.length = n := h
    have hs : splice cs 0 vs = vs := by
      unfold splice
      split
      · simp at hv; omega
      · rw [List.take_zero, List.nil_append, Nat.zero_add, hv, List.drop_of_length_le (Nat.le_of_eq h), List.append_nil]
    have h' : cs.length = n := h
    simp only [storeL, AV.cells, AV.fit, hv, writeCells, boxOf_heap, app_get, e, cellsOf?, Option.bind_some, hs, setBox_heap, app_set, mayHold, hu, h', Nat.zero_add, Nat.le_refl, decide_true, Bool.and_self, if_true, true_and]
    rw [if_pos (by simp; omega)]
  | _ => rw [hb] at h; simp [hcells] at h; omega
theorem storeL_heap0 {S : List (List AV)} {H l : List HObj} {n : Nat} {vs : List AV} (hj : 0 < l.length) (h : (hcells (l.getD 0 .dead)).length = n) (hv : vs.length = n) (hn : 2 ≤ n) (hu : AV.under.go 0 vs = true) : storeL n (.ptr (.heap H.length) 0) (.agg vs) ⟨S, H ++ l⟩ = some ⟨S, H ++ l.set 0 (.cells vs)⟩ := storeL_heap (j := 0) hj h hv hn hu
theorem storeS_heap {S : List (List AV)} {H l : List HObj} {j off : Nat} {x : Sc} (hj : j < l.length) (h : off < (hcells (l.getD j .dead)).length) : storeL 1 (.ptr (.heap (H.length + j)) off) (.s x) ⟨S, H ++ l⟩ = some ⟨S, H ++ l.set j (.cells ((hcells (l.getD j .dead)).set off (.s x)))⟩ := by
  have e : l[j]? = some (l.getD j .dead) := by simp [List.getD, hj]
  cases hb : l.getD j .dead with
  | cells cs =>
    rw [hb] at h e
    have h1 : off + 1 ≤ cs.length := h
    simp only [storeL, AV.cells, AV.fit, List.length_cons, List.length_nil, writeCells, boxOf_heap, app_get, e, cellsOf?, Option.bind_some, splice, setBox_heap, app_set, mayHold, AV.under.go, AV.under, Nat.zero_add, h1, decide_true, Bool.and_self, if_true, true_and, and_self, hcells]
    rw [if_pos (by simp)]
  | _ => rw [hb] at h; simp [hcells] at h
theorem storeS_heap0 {S : List (List AV)} {H l : List HObj} {off : Nat} {x : Sc} (hj : 0 < l.length) (h : off < (hcells (l.getD 0 .dead)).length) : storeL 1 (.ptr (.heap H.length) off) (.s x) ⟨S, H ++ l⟩ = some ⟨S, H ++ l.set 0 (.cells ((hcells (l.getD 0 .dead)).set off (.s x)))⟩ := storeS_heap (j := 0) hj h
theorem readA_heap' {S : List (List AV)} {H l : List HObj} {j n off : Nat} (hj : j < l.length) (h : off + n ≤ (hcells (l.getD j .dead)).length) (hn : 0 < n) : readA ⟨S, H ++ l⟩ (.ptr (.heap (H.length + j)) off) n = some (.agg ((((hcells (l.getD j .dead)).drop off).take n).map AV.look)) := by
  have e : l[j]? = some (l.getD j .dead) := by simp [List.getD, hj]
  cases hb : l.getD j .dead with
  | cells cs =>
    rw [hb] at h e
    have h' : off + n ≤ cs.length := h
    simp only [readA, readCells, boxOf_heap, app_get, e, cellsOf?, Option.bind_some, if_pos h', Option.map_some, hcells]
  | _ => rw [hb] at h; simp [hcells] at h; omega
theorem readA_heap0 {S : List (List AV)} {H l : List HObj} {n off : Nat} (hj : 0 < l.length) (h : off + n ≤ (hcells (l.getD 0 .dead)).length) (hn : 0 < n) : readA ⟨S, H ++ l⟩ (.ptr (.heap H.length) off) n = some (.agg ((((hcells (l.getD 0 .dead)).drop off).take n).map AV.look)) := readA_heap' (j := 0) hj h hn
theorem wc_get16 (w : Wr) : (wc w)[16]? = some (.s (.str w.val)) := get_kc16 w.key [.s (.str w.val), .s (.bool w.gone)]
theorem wc_get17 (w : Wr) : (wc w)[17]? = some (.s (.bool w.gone)) := get_kc17 w.key [.s (.str w.val), .s (.bool w.gone)]
theorem fits_u8b {b : UInt8} : (LK.int .u8).fits (u8 b) = true := rfl
theorem wA_eq (w : Wr) : wA w = .agg (wc w) := rfl
end Go.AM
/-! The equations of a run, bundled. -/
namespace Go.AM
open Go
set_option linter.unusedVariables false
theorem K6_ :
  ((((type_of% @Go.AM.ixl_t ∧ type_of% @Go.AM.txc.eq_1) ∧ (type_of% @Go.AM.under_yield ∧ type_of% @Go.AM.hcells.eq_1)) ∧ ((type_of% @Go.AM.hcells.eq_2 ∧ type_of% @Go.AM.storeL_heap) ∧ (type_of% @Go.AM.storeL_heap0 ∧ type_of% @Go.AM.storeS_heap))) ∧ (((type_of% @Go.AM.storeS_heap0 ∧ type_of% @Go.AM.readA_heap') ∧ (type_of% @Go.AM.readA_heap0 ∧ type_of% @Go.AM.wA_eq)) ∧ ((type_of% @Go.AM.wc_get16 ∧ type_of% @Go.AM.wc_get17) ∧ (type_of% @Go.AM.fillL.eq_1 ∧ (type_of% @Go.AM.fillL.eq_2 ∧ type_of% @Go.AM.fits_u8b))))) :=
  ⟨⟨⟨⟨@Go.AM.ixl_t, @Go.AM.txc.eq_1⟩, ⟨@Go.AM.under_yield, @Go.AM.hcells.eq_1⟩⟩, ⟨⟨@Go.AM.hcells.eq_2, @Go.AM.storeL_heap⟩, ⟨@Go.AM.storeL_heap0, @Go.AM.storeS_heap⟩⟩⟩, ⟨⟨⟨@Go.AM.storeS_heap0, @Go.AM.readA_heap'⟩, ⟨@Go.AM.readA_heap0, @Go.AM.wA_eq⟩⟩, ⟨⟨@Go.AM.wc_get16, @Go.AM.wc_get17⟩, ⟨@Go.AM.fillL.eq_1, ⟨@Go.AM.fillL.eq_2, @Go.AM.fits_u8b⟩⟩⟩⟩⟩
end Go.AM
/-! Slices cut and joined. -/
namespace Go.AM
open Go
set_option linter.unusedVariables false

theorem slc_hi {c n : Nat} {es : List AV} {k : IntKind} (h : n ≤ es.length) : sliceL (.sl c) (.list .sh c es) none (some (.s (.int k (n : Int)))) none = some (.list .sh c (es.take n)) := by
  have h0 : (0 : Int) ≤ n := by omega
  simp only [sliceL, bound, h0, if_true, Int.toNat_natCast, reduceCtorEq, if_false, Nat.zero_le, h, and_self, List.drop_zero, false_and]
theorem slc_lo {c n : Nat} {es : List AV} {k : IntKind} (h : n ≤ es.length) : sliceL (.sl c) (.list .sh c es) (some (.s (.int k (n : Int)))) none none = some (.list .sh c (es.drop n)) := by
  have h0 : (0 : Int) ≤ n := by omega
  simp only [sliceL, bound, h0, if_true, Int.toNat_natCast, reduceCtorEq, if_false, h, Nat.le_refl, and_self, false_and, List.take_length]
theorem slc_both {c m n : Nat} {es : List AV} {k k' : IntKind} (hm : m ≤ n) (h : n ≤ es.length) : sliceL (.sl c) (.list .sh c es) (some (.s (.int k (m : Int)))) (some (.s (.int k' (n : Int)))) none = some (.list .sh c ((es.take n).drop m)) := by
  have h0 : (0 : Int) ≤ n := by omega
  have h1 : (0 : Int) ≤ m := by omega
  simp only [sliceL, bound, h0, h1, if_true, Int.toNat_natCast, reduceCtorEq, if_false, hm, h, and_self, false_and]
/-- What is one's own alone, or empty. -/
def Own1 (fl : Fl) (es : List AV) : Prop := fl = .uniq ∨ fl = .full ∧ es = []
theorem Own1.wk {fl : Fl} {c : Nat} {es : List AV} (h : Own1 fl es) {as bs : List AV} (t : WkF as bs) : WkF (.list fl c es :: as) (.list .sh c es :: bs) := by
  rcases h with rfl | ⟨rfl, rfl⟩
  · exact .uniq t
  · exact .full t

/-- A list grown from nil. -/
def slG (c : Nat) (es : List AV) : AV := if es = [] then .s .nilS else .list .uniq c es
theorem slG_nil {c : Nat} : slG c [] = .s .nilS := rfl
theorem slG_under {n c : Nat} {es : List AV} : AV.under n (slG c es) = true := by unfold slG; split <;> rfl
theorem app_slG {e : ET} {es : List AV} {a : AV} {σ : St} (hu : AV.under 0 a = true) (hb : 2 * (es.length + 1) * e.bytes ≤ 2 ^ 48) : appendL e false (slG e.c es) (.list .full e.c [a]) σ = some (slG e.c (es ++ [a]), σ) := by
  have he : elemsL e (.list .full e.c [a]) σ = some [a] := by simp [elemsL]
  have h1 : 1 * e.bytes ≤ 2 ^ 48 := Nat.le_trans (Nat.mul_le_mul_right _ (by omega)) hb
  have hg : AV.under.go 0 [a] = true := by simp [AV.under.go, hu]
  unfold appendL
  simp only [srcL, AV.isSlice, if_true, he, Option.bind_some, hg]
  unfold slG
  by_cases h : es = []
  · subst h
    simp [appItems] at h1 ⊢
    omega
  · rw [if_neg h]
    simp only [appItems, ne_eq, not_true_eq_false, if_false, List.isEmpty_cons, Bool.false_eq_true, List.length_cons, List.length_nil, Nat.zero_add, hb, if_true]
    simp
theorem drop_kc17 {k : Key} {a : AV} {r : List AV} : (bs k.b ++ a :: r).drop 17 = r := by rw [show bs k.b ++ a :: r = (bs k.b ++ [a]) ++ r by simp, List.drop_left' (by simp [kc_length])]
theorem take_kc17 {k : Key} {a : AV} {r : List AV} : (bs k.b ++ a :: r).take 17 = bs k.b ++ [a] := by rw [show bs k.b ++ a :: r = (bs k.b ++ [a]) ++ r by simp, List.take_left' (by simp [kc_length])]
theorem drop_kc18 {k : Key} {a b : AV} {r : List AV} : (bs k.b ++ a :: b :: r).drop 18 = r := by rw [show bs k.b ++ a :: b :: r = (bs k.b ++ [a, b]) ++ r by simp, List.drop_left' (by simp [kc_length])]
theorem take_kc18 {k : Key} {a b : AV} {r : List AV} : (bs k.b ++ a :: b :: r).take 18 = bs k.b ++ [a, b] := by rw [show bs k.b ++ a :: b :: r = (bs k.b ++ [a, b]) ++ r by simp, List.take_left' (by simp [kc_length])]
end Go.AM
/-! The equations of a run, bundled. -/
namespace Go.AM
open Go
set_option linter.unusedVariables false
theorem K7_ :
  (((type_of% @Go.AM.slc_hi ∧ type_of% @Go.AM.slc_lo) ∧ (type_of% @Go.AM.slc_both ∧ type_of% @Go.AM.slG_nil)) ∧ ((type_of% @Go.AM.slG_under ∧ type_of% @Go.AM.drop_kc17) ∧ (type_of% @Go.AM.take_kc17 ∧ (type_of% @Go.AM.drop_kc18 ∧ type_of% @Go.AM.take_kc18)))) :=
  ⟨⟨⟨@Go.AM.slc_hi, @Go.AM.slc_lo⟩, ⟨@Go.AM.slc_both, @Go.AM.slG_nil⟩⟩, ⟨⟨@Go.AM.slG_under, @Go.AM.drop_kc17⟩, ⟨@Go.AM.take_kc17, ⟨@Go.AM.drop_kc18, @Go.AM.take_kc18⟩⟩⟩⟩
end Go.AM
/-! hist: a transaction's last write of a key. -/
namespace Go.AM
open Go
set_option maxRecDepth 20000
set_option linter.unusedSimpArgs false
set_option linter.unusedVariables false

def BackS (C : CallW) (f g : FuncId) : Prop := ∀ (l : List Wr) S H (K : AV → St → Prop), K (.fn (.func g) [] [.ptr (.heap H.length) 0]) ⟨S, H ++ [.cells [lstW l]]⟩ → C (.fn f) [lstW l] ⟨S, H⟩ K
theorem Backward_spec {C : CallW} (P : Program) {c : Nat → FuncId} : ∀ (l : List Wr) S H (K : AV → St → Prop), K (.fn (.func (c 0)) [] [.ptr (.heap H.length) 0]) ⟨S, H ++ [.cells [lstW l]]⟩ → runL C P (C_slices_Backward_Write c) [lstW l] ⟨S, H⟩ K := by
  intro l S H K hK
  simp only [lstW, C_slices_Backward_Write, RUN_, FR_, Nat.reducePow, Int.reducePow, Nat.reduceAdd, Nat.reduceSub, Nat.reduceMul, Int.reduceToNat, Nat.reduceLeDiff, Nat.reduceEqDiff, Nat.reduceLT, Nat.reduceGT, Int.reduceGT, Int.reduceGE, Int.reduceLT, Int.reduceLE, Int.reduceEq, Int.reduceAdd, Int.reduceSub, Int.reduceNeg, reduceCtorEq, if_true, if_false, ite_true, ite_false, ne_eq, eq_self, OPK_, KEY_, WR_, CHK_, Nat.reduceBEq, K4_, K5_, K6_, K7_]
  exact hK

/-- A walk through a list from its end, down to a place where it is left. -/
def Back1S (C : CallW) (g : FuncId) : Prop := ∀ (l : List Wr) (h bx m : Nat) S H Hf (K : AV → St → Prop), l.length ≤ 9223372036854775807 → H[bx]? = some (.cells [lstW l]) → m ≤ l.length →
  (∀ i, m ≤ i → (hi : i < l.length) → ∀ S' (K' : AV → St → Prop), K' (.bool true) ⟨S', H⟩ → C (.yield h) [.i i, .agg (wc l[i])] ⟨S', H⟩ K') →
  (m = 0 → Hf = H) →
  (0 < m → (hm : m - 1 < l.length) → ∀ S' (K' : AV → St → Prop), K' (.bool false) ⟨S', Hf⟩ → C (.yield h) [.i ((m - 1 : Nat) : Int), .agg (wc l[m - 1])] ⟨S', H⟩ K') →
  K (.tup []) ⟨S, Hf⟩ → C (.fn g) [.yield h, .ptr (.heap bx) 0] ⟨S, H⟩ K
theorem wrap_pred {i : Nat} (h : i ≤ 9223372036854775807) : IntKind.i64.wrap ((i : Int) - 1) = (i : Int) - 1 := wrap_i64 (by omega) (by omega)
set_option maxHeartbeats 2000000 in
theorem Backward1_spec {C : CallW} (hC : LeC C C) (P : Program) : ∀ (l : List Wr) (h bx m : Nat) S H Hf (K : AV → St → Prop), l.length ≤ 9223372036854775807 → H[bx]? = some (.cells [lstW l]) → m ≤ l.length →
  (∀ i, m ≤ i → (hi : i < l.length) → ∀ S' (K' : AV → St → Prop), K' (.bool true) ⟨S', H⟩ → C (.yield h) [.i i, .agg (wc l[i])] ⟨S', H⟩ K') →
  (m = 0 → Hf = H) →
  (0 < m → (hm : m - 1 < l.length) → ∀ S' (K' : AV → St → Prop), K' (.bool false) ⟨S', Hf⟩ → C (.yield h) [.i ((m - 1 : Nat) : Int), .agg (wc l[m - 1])] ⟨S', H⟩ K') →
  K (.tup []) ⟨S, Hf⟩ → runL C P C_slices_Backward_Write_1 [.yield h, .ptr (.heap bx) 0] ⟨S, H⟩ K := by
  intro l h bx m S H Hf K hl hb hm hpass hend hstop hK
  unfold lstW at hb
  have hwl := wrap_pred hl
  simp only [C_slices_Backward_Write_1, RUN_, U_slices_Backward_Write_1, FR_, Nat.reducePow, Int.reducePow, Nat.reduceAdd, Nat.reduceSub, Nat.reduceMul, Int.reduceToNat, Nat.reduceLeDiff, Nat.reduceEqDiff, Nat.reduceLT, Nat.reduceGT, Int.reduceGT, Int.reduceGE, Int.reduceLT, Int.reduceLE, Int.reduceEq, Int.reduceAdd, Int.reduceSub, Int.reduceNeg, reduceCtorEq, if_true, if_false, ite_true, ite_false, ne_eq, eq_self, OPK_, KEY_, WR_, CHK_, Nat.reduceBEq, K4_, K5_, K6_, K7_, hb, hwl]
  refine loop_rule hC (α := Nat) (fun a => a) (fun a => [.yield h, .ptr (.heap bx) 0, .undef, .s (.int .i64 ((a : Int) - 1)), .undef, .undef, .undef, .undef, .undef, .undef, .undef, .undef, .undef, .undef, .undef, .undef, .undef, .undef, .undef]) (fun _ => S) (fun _ => H) (fun a => m ≤ a ∧ a ≤ l.length) l.length ⟨hm, Nat.le_refl _⟩ rfl (by simp) rfl (fun a _ => by simp [AV.under, AV.under.go]) ?_
  rintro a ⟨ha, hal⟩ ih
  by_cases h0 : a = 0
  · subst h0
    have hn : ¬ ((0 : Int) ≤ ((0 : Nat) : Int) - 1) := by omega
    simp only [RUN_, U_slices_Backward_Write_1, FR_, Nat.reducePow, Int.reducePow, Nat.reduceAdd, Nat.reduceSub, Nat.reduceMul, Int.reduceToNat, Nat.reduceLeDiff, Nat.reduceEqDiff, Nat.reduceLT, Nat.reduceGT, Int.reduceGT, Int.reduceGE, Int.reduceLT, Int.reduceLE, Int.reduceEq, Int.reduceAdd, Int.reduceSub, Int.reduceNeg, reduceCtorEq, if_true, if_false, ite_true, ite_false, ne_eq, eq_self, OPK_, KEY_, WR_, CHK_, Nat.reduceBEq, K4_, K5_, K6_, K7_, hn]
    rw [hend (by omega)] at hK
    exact hK
  · have hp : ((0 : Int) ≤ (a : Int) - 1) := by omega
    have e : ((a : Int) - 1) = ((a - 1 : Nat) : Int) := by omega
    have hlt : a - 1 < l.length := by omega
    have hw := wrap_pred (i := a - 1) (by omega)
    rw [e] at hp
    simp only [RUN_, U_slices_Backward_Write_1, FR_, Nat.reducePow, Int.reducePow, Nat.reduceAdd, Nat.reduceSub, Nat.reduceMul, Int.reduceToNat, Nat.reduceLeDiff, Nat.reduceEqDiff, Nat.reduceLT, Nat.reduceGT, Int.reduceGT, Int.reduceGE, Int.reduceLT, Int.reduceLE, Int.reduceEq, Int.reduceAdd, Int.reduceSub, Int.reduceNeg, reduceCtorEq, if_true, if_false, ite_true, ite_false, ne_eq, eq_self, OPK_, KEY_, WR_, CHK_, Nat.reduceBEq, K4_, K5_, K6_, K7_, hb, hp, e, hlt]
    by_cases hma : m ≤ a - 1
    · refine hpass (a - 1) hma hlt _ _ ?_
      simp only [RUN_, U_slices_Backward_Write_1, FR_, Nat.reducePow, Int.reducePow, Nat.reduceAdd, Nat.reduceSub, Nat.reduceMul, Int.reduceToNat, Nat.reduceLeDiff, Nat.reduceEqDiff, Nat.reduceLT, Nat.reduceGT, Int.reduceGT, Int.reduceGE, Int.reduceLT, Int.reduceLE, Int.reduceEq, Int.reduceAdd, Int.reduceSub, Int.reduceNeg, reduceCtorEq, if_true, if_false, ite_true, ite_false, ne_eq, eq_self, OPK_, KEY_, WR_, CHK_, Nat.reduceBEq, K4_, K5_, K6_, K7_, hw]
      exact ih (a - 1) _ _ _ (by omega) ⟨hma, by omega⟩ rfl (by simp) rfl
    · have : m = a := by omega
      subst this
      refine hstop (by omega) hlt _ _ ?_
      simp only [RUN_, U_slices_Backward_Write_1, FR_, Nat.reducePow, Int.reducePow, Nat.reduceAdd, Nat.reduceSub, Nat.reduceMul, Int.reduceToNat, Nat.reduceLeDiff, Nat.reduceEqDiff, Nat.reduceLT, Nat.reduceGT, Int.reduceGT, Int.reduceGE, Int.reduceLT, Int.reduceLE, Int.reduceEq, Int.reduceAdd, Int.reduceSub, Int.reduceNeg, reduceCtorEq, if_true, if_false, ite_true, ite_false, ne_eq, eq_self, OPK_, KEY_, WR_, CHK_, Nat.reduceBEq, K4_, K5_, K6_, K7_]
      exact hK
end Go.AM
namespace Go.AM
open Go
set_option maxRecDepth 20000
set_option linter.unusedSimpArgs false
set_option linter.unusedVariables false

def zW : Wr := ⟨key0, [], false⟩
/-- The last write of a key. -/
def lastR (k : Key) : List Wr → Wr × Bool
  | [] => (zW, false)
  | w :: ws => if (lastR k ws).2 then lastR k ws else if w.key = k then (w, true) else (zW, false)
theorem lastR_at (k : Key) : ∀ (ws : List Wr), ∃ m, m ≤ ws.length ∧ (∀ i, m ≤ i → (hi : i < ws.length) → ws[i].key ≠ k) ∧ ((m = 0 ∧ lastR k ws = (zW, false)) ∨ ∃ hm : m - 1 < ws.length, 0 < m ∧ (ws[m - 1]).key = k ∧ lastR k ws = (ws[m - 1], true))
  | [] => ⟨0, Nat.le_refl _, fun i _ hi => by simp at hi, .inl ⟨rfl, rfl⟩⟩
  | w :: ws => by
    obtain ⟨m, h1, h2, h3⟩ := lastR_at k ws
    rcases h3 with ⟨rfl, h3⟩ | ⟨hm, h0, h3, h4⟩
    · by_cases hk : w.key = k
      · refine ⟨1, by simp, fun i hi hl => ?_, .inr ⟨by simp, by omega, by simpa using hk, ?_⟩⟩
        · cases i with
          | zero => omega
          | succ i => simpa using h2 i (by omega) (by simpa using hl)
        · simp [lastR, h3, hk]
      · refine ⟨0, by simp, fun i _ hl => ?_, .inl ⟨rfl, ?_⟩⟩
        · cases i with
          | zero => simpa using hk
          | succ i => simpa using h2 i (by omega) (by simpa using hl)
        · simp [lastR, h3, hk]
    · refine ⟨m + 1, by simpa using h1, fun i hi hl => ?_, .inr ⟨by simp; omega, by omega, ?_, ?_⟩⟩
      · cases i with
        | zero => omega
        | succ i => simpa using h2 i (by omega) (by simpa using hl)
      · obtain ⟨j, rfl⟩ : ∃ j, m = j + 1 := ⟨m - 1, by omega⟩
        simpa using h3
      · obtain ⟨j, rfl⟩ : ∃ j, m = j + 1 := ⟨m - 1, by omega⟩
        simp only [lastR, h4, if_true]
        simp

def LastS (C : CallW) (f : FuncId) : Prop := ∀ (x : Tx) (k : Key) S H (K : AV → St → Prop), x.writes.length ≤ 9223372036854775807 → (∀ G, K (.tup [.agg (wc (lastR k x.writes).1), .bool (lastR k x.writes).2]) ⟨S, H ++ G⟩) → C (.fn f) [.agg (txc x), .agg (bs k.b)] ⟨S, H⟩ K

set_option maxHeartbeats 4000000 in
theorem last_spec {C : CallW} (hC : LeC C C) (P : Program) {c : Nat → FuncId} {as1 bd1 : Code} {g : FuncId} (hb : BackS C (c 0) g) (h1 : Back1S C g) (hB : hasBody P g = true) (hR : RoundOK C P (c 1) as1 bd1 (C_hist_Txn_last_a0).code (C_hist_Txn_last_b0).code) :
    ∀ (x : Tx) (k : Key) S H (K : AV → St → Prop), x.writes.length ≤ 9223372036854775807 → (∀ G, K (.tup [.agg (wc (lastR k x.writes).1), .bool (lastR k x.writes).2]) ⟨S, H ++ G⟩) → runL C P (C_hist_Txn_last c as1 bd1) [.agg (txc x), .agg (bs k.b)] ⟨S, H⟩ K := by
  intro x k S H K hl hK
  simp only [C_hist_Txn_last, RUN_, U_hist_Txn_last, U_hist_Txn_last_b0, FR_, Nat.reducePow, Int.reducePow, Nat.reduceAdd, Nat.reduceSub, Nat.reduceMul, Int.reduceToNat, Nat.reduceLeDiff, Nat.reduceEqDiff, Nat.reduceLT, Nat.reduceGT, Int.reduceGT, Int.reduceGE, Int.reduceLT, Int.reduceLE, Int.reduceEq, Int.reduceAdd, Int.reduceSub, Int.reduceNeg, reduceCtorEq, if_true, if_false, ite_true, ite_false, ne_eq, eq_self, OPK_, KEY_, WR_, CHK_, Nat.reduceBEq, K4_, K5_, K6_, K7_]
  have hb' := hb x.writes
  unfold lstW at hb'
  refine hb' _ _ _ ?_
  simp only [RUN_, U_hist_Txn_last, U_hist_Txn_last_b0, FR_, Nat.reducePow, Int.reducePow, Nat.reduceAdd, Nat.reduceSub, Nat.reduceMul, Int.reduceToNat, Nat.reduceLeDiff, Nat.reduceEqDiff, Nat.reduceLT, Nat.reduceGT, Int.reduceGT, Int.reduceGE, Int.reduceLT, Int.reduceLE, Int.reduceEq, Int.reduceAdd, Int.reduceSub, Int.reduceNeg, reduceCtorEq, if_true, if_false, ite_true, ite_false, ne_eq, eq_self, OPK_, KEY_, WR_, CHK_, Nat.reduceBEq, K4_, K5_, K6_, K7_, hB]
  obtain ⟨m, hm, hpass, hfin⟩ := lastR_at k x.writes
  rcases hfin with ⟨rfl, hfin⟩ | ⟨hlt, h0, hkey, hfin⟩
  · refine h1 x.writes _ _ 0 _ _ _ _ hl ?_ hm ?_ (fun _ => rfl) (fun h => absurd h (by omega)) ?_
    · rw [app_get]; rfl
    · intro i hmi hi S' K' hK'
      have hne : ¬ ((x.writes[i]).key = k) := hpass i hmi hi
      refine hR _ _ _ _ _ _ _ (by rw [app_get]; rfl) rfl ?_
      simp only [C_hist_Txn_last_a0, C_hist_Txn_last_b0, RUN_, U_hist_Txn_last, U_hist_Txn_last_b0, FR_, Nat.reducePow, Int.reducePow, Nat.reduceAdd, Nat.reduceSub, Nat.reduceMul, Int.reduceToNat, Nat.reduceLeDiff, Nat.reduceEqDiff, Nat.reduceLT, Nat.reduceGT, Int.reduceGT, Int.reduceGE, Int.reduceLT, Int.reduceLE, Int.reduceEq, Int.reduceAdd, Int.reduceSub, Int.reduceNeg, reduceCtorEq, if_true, if_false, ite_true, ite_false, ne_eq, eq_self, OPK_, KEY_, WR_, CHK_, Nat.reduceBEq, K4_, K5_, K6_, K7_, hne]
      exact hK'
    · rw [hfin] at hK
      simp only [RUN_, U_hist_Txn_last, U_hist_Txn_last_b0, FR_, Nat.reducePow, Int.reducePow, Nat.reduceAdd, Nat.reduceSub, Nat.reduceMul, Int.reduceToNat, Nat.reduceLeDiff, Nat.reduceEqDiff, Nat.reduceLT, Nat.reduceGT, Int.reduceGT, Int.reduceGE, Int.reduceLT, Int.reduceLE, Int.reduceEq, Int.reduceAdd, Int.reduceSub, Int.reduceNeg, reduceCtorEq, if_true, if_false, ite_true, ite_false, ne_eq, eq_self, OPK_, KEY_, WR_, CHK_, Nat.reduceBEq, K4_, K5_, K6_, K7_]
      exact hK _
  · refine h1 x.writes _ _ m _ _ (H ++ [.cells (bs k.b), .cells (wc x.writes[m - 1]), .cells [.s (.bool true)], .cells [.list .sh 18 (x.writes.map wA)], .loop ⟨c 1, [.agg [AV.s (Sc.int IntKind.i64 x.id), AV.s (Sc.int IntKind.i64 x.snap.t), u8 x.snap.n, AV.s (Sc.int IntKind.i64 x.stamp.t), u8 x.stamp.n, AV.s (Sc.bool x.done), AV.list Fl.sh 18 (List.map wA x.reads), AV.list Fl.sh 18 (List.map wA x.writes)], .agg (bs k.b), .undef, .ptr (.heap H.length) 0, .ptr (.heap (H.length + 1)) 0, .ptr (.heap (H.length + 2)) 0, .undef, .undef, .undef, .list .sh 18 (x.writes.map wA), .fn (.func g) [] [.ptr (.heap (H.length + 3)) 0], .undef, .undef, .undef, .undef, .undef, .undef, .undef, .undef], [11, 12], as1, bd1, false, some .ret⟩]) _ hl ?_ hm ?_ (fun h => absurd h (by omega)) ?_ ?_
    · rw [app_get]; rfl
    · intro i hmi hi S' K' hK'
      have hne : ¬ ((x.writes[i]).key = k) := hpass i hmi hi
      refine hR _ _ _ _ _ _ _ (by rw [app_get]; rfl) rfl ?_
      simp only [C_hist_Txn_last_a0, C_hist_Txn_last_b0, RUN_, U_hist_Txn_last, U_hist_Txn_last_b0, FR_, Nat.reducePow, Int.reducePow, Nat.reduceAdd, Nat.reduceSub, Nat.reduceMul, Int.reduceToNat, Nat.reduceLeDiff, Nat.reduceEqDiff, Nat.reduceLT, Nat.reduceGT, Int.reduceGT, Int.reduceGE, Int.reduceLT, Int.reduceLE, Int.reduceEq, Int.reduceAdd, Int.reduceSub, Int.reduceNeg, reduceCtorEq, if_true, if_false, ite_true, ite_false, ne_eq, eq_self, OPK_, KEY_, WR_, CHK_, Nat.reduceBEq, K4_, K5_, K6_, K7_, hne]
      exact hK'
    · intro _ hi S' K' hK'
      have hkey' : ((x.writes[m - 1]).key = k) = True := eq_true hkey
      refine hR _ _ _ _ _ _ _ (by rw [app_get]; rfl) rfl ?_
      simp only [C_hist_Txn_last_a0, C_hist_Txn_last_b0, RUN_, U_hist_Txn_last, U_hist_Txn_last_b0, FR_, Nat.reducePow, Int.reducePow, Nat.reduceAdd, Nat.reduceSub, Nat.reduceMul, Int.reduceToNat, Nat.reduceLeDiff, Nat.reduceEqDiff, Nat.reduceLT, Nat.reduceGT, Int.reduceGT, Int.reduceGE, Int.reduceLT, Int.reduceLE, Int.reduceEq, Int.reduceAdd, Int.reduceSub, Int.reduceNeg, reduceCtorEq, if_true, if_false, ite_true, ite_false, ne_eq, eq_self, OPK_, KEY_, WR_, CHK_, Nat.reduceBEq, K4_, K5_, K6_, K7_, hkey']
      exact hK'
    · rw [hfin] at hK
      simp only [RUN_, U_hist_Txn_last, U_hist_Txn_last_b0, FR_, Nat.reducePow, Int.reducePow, Nat.reduceAdd, Nat.reduceSub, Nat.reduceMul, Int.reduceToNat, Nat.reduceLeDiff, Nat.reduceEqDiff, Nat.reduceLT, Nat.reduceGT, Int.reduceGT, Int.reduceGE, Int.reduceLT, Int.reduceLE, Int.reduceEq, Int.reduceAdd, Int.reduceSub, Int.reduceNeg, reduceCtorEq, if_true, if_false, ite_true, ite_false, ne_eq, eq_self, OPK_, KEY_, WR_, CHK_, Nat.reduceBEq, K4_, K5_, K6_, K7_]
      exact hK _
end Go.AM
namespace Go.AM
open Go
set_option maxRecDepth 20000
set_option linter.unusedSimpArgs false
set_option linter.unusedVariables false

def wroteT (x : Tx) : Bool := x.done && decide (0 < x.writes.length)
def beforeT (a b : Tx) : Bool := decide (cmpS a.stamp b.snap ≤ 0)
def sharesT (a b : Tx) : Bool := a.writes.any fun w => (lastR w.key b.writes).2
def CmpSS (C : CallW) (f : FuncId) : Prop := ∀ (a b : Stp), FnS C f [.agg (stc a), .agg (stc b)] (.i (cmpS a b))

theorem wrote_spec {C : CallW} (P : Program) (x : Tx) : ∀ S H (K : AV → St → Prop), K (.bool (wroteT x)) ⟨S, H⟩ → runL C P (C_hist_Txn_wrote) [.agg (txc x)] ⟨S, H⟩ K := by
  intro S H K hK
  unfold wroteT at hK
  cases hd : x.done with
  | true =>
    by_cases h : 0 < x.writes.length
    · have h' : (0 : Int) < (x.writes.length : Int) := by omega
      simp only [C_hist_Txn_wrote, RUN_, U_hist_Txn_wrote, FR_, Nat.reducePow, Int.reducePow, Nat.reduceAdd, Nat.reduceSub, Nat.reduceMul, Int.reduceToNat, Nat.reduceLeDiff, Nat.reduceEqDiff, Nat.reduceLT, Nat.reduceGT, Int.reduceGT, Int.reduceGE, Int.reduceLT, Int.reduceLE, Int.reduceEq, Int.reduceAdd, Int.reduceSub, Int.reduceNeg, reduceCtorEq, if_true, if_false, ite_true, ite_false, ne_eq, eq_self, OPK_, KEY_, WR_, CHK_, Nat.reduceBEq, K4_, K5_, K6_, K7_, hd, h']
      simpa [hd, h] using hK
    · have h' : ¬ ((0 : Int) < (x.writes.length : Int)) := by omega
      simp only [C_hist_Txn_wrote, RUN_, U_hist_Txn_wrote, FR_, Nat.reducePow, Int.reducePow, Nat.reduceAdd, Nat.reduceSub, Nat.reduceMul, Int.reduceToNat, Nat.reduceLeDiff, Nat.reduceEqDiff, Nat.reduceLT, Nat.reduceGT, Int.reduceGT, Int.reduceGE, Int.reduceLT, Int.reduceLE, Int.reduceEq, Int.reduceAdd, Int.reduceSub, Int.reduceNeg, reduceCtorEq, if_true, if_false, ite_true, ite_false, ne_eq, eq_self, OPK_, KEY_, WR_, CHK_, Nat.reduceBEq, K4_, K5_, K6_, K7_, hd, h']
      simpa [hd, h] using hK
  | false =>
    simp only [C_hist_Txn_wrote, RUN_, U_hist_Txn_wrote, FR_, Nat.reducePow, Int.reducePow, Nat.reduceAdd, Nat.reduceSub, Nat.reduceMul, Int.reduceToNat, Nat.reduceLeDiff, Nat.reduceEqDiff, Nat.reduceLT, Nat.reduceGT, Int.reduceGT, Int.reduceGE, Int.reduceLT, Int.reduceLE, Int.reduceEq, Int.reduceAdd, Int.reduceSub, Int.reduceNeg, reduceCtorEq, if_true, if_false, ite_true, ite_false, ne_eq, eq_self, OPK_, KEY_, WR_, CHK_, Nat.reduceBEq, K4_, K5_, K6_, K7_, hd]
    simpa [hd] using hK

theorem before_spec {C : CallW} (P : Program) {c : Nat → FuncId} (h0 : CmpSS C (c 0)) (a b : Tx) : ∀ S H (K : AV → St → Prop), K (.bool (beforeT a b)) ⟨S, H⟩ → runL C P (C_hist_before c) [.agg (txc a), .agg (txc b)] ⟨S, H⟩ K := by
  intro S H K hK
  have h0' : ∀ (a b : Stp) S H (K : AV → St → Prop), K (.i (cmpS a b)) ⟨S, H⟩ → C (.fn (c 0)) [.agg [.s (.int .i64 a.t), u8 a.n], .agg [.s (.int .i64 b.t), u8 b.n]] ⟨S, H⟩ K := h0
  simp only [C_hist_before, RUN_, U_hist_before, FR_, Nat.reducePow, Int.reducePow, Nat.reduceAdd, Nat.reduceSub, Nat.reduceMul, Int.reduceToNat, Nat.reduceLeDiff, Nat.reduceEqDiff, Nat.reduceLT, Nat.reduceGT, Int.reduceGT, Int.reduceGE, Int.reduceLT, Int.reduceLE, Int.reduceEq, Int.reduceAdd, Int.reduceSub, Int.reduceNeg, reduceCtorEq, if_true, if_false, ite_true, ite_false, ne_eq, eq_self, OPK_, KEY_, WR_, CHK_, Nat.reduceBEq, K4_, K5_, K6_, K7_]
  refine h0' a.stamp b.snap _ _ _ ?_
  simp only [RUN_, U_hist_before, FR_, Nat.reducePow, Int.reducePow, Nat.reduceAdd, Nat.reduceSub, Nat.reduceMul, Int.reduceToNat, Nat.reduceLeDiff, Nat.reduceEqDiff, Nat.reduceLT, Nat.reduceGT, Int.reduceGT, Int.reduceGE, Int.reduceLT, Int.reduceLE, Int.reduceEq, Int.reduceAdd, Int.reduceSub, Int.reduceNeg, reduceCtorEq, if_true, if_false, ite_true, ite_false, ne_eq, eq_self, OPK_, KEY_, WR_, CHK_, Nat.reduceBEq, K4_, K5_, K6_, K7_]
  exact hK

/-- A function value asked of each write of a list, whatever it leaves on the heap. -/
def AskS (C : CallW) (g : FuncId) (cp : AV) (p : Wr → Bool) (S : List (List AV)) (H : List HObj) : Prop :=
  ∀ (w : Wr) (G : List HObj) (K : AV → St → Prop), (∀ G', K (.bool (p w)) ⟨S, H ++ G'⟩) → C (.fn g) [.agg (wc w), cp] ⟨S, H ++ G⟩ K
def idxP (p : Wr → Bool) : List Wr → Int → Int
  | [], _ => -1
  | w :: l, i => if p w then i else idxP p l (i + 1)
theorem idxP_any (p : Wr → Bool) : ∀ (l : List Wr) (i : Int), 0 ≤ i → decide (0 ≤ idxP p l i) = l.any p
  | [], i, _ => rfl
  | w :: l, i, h => by
    simp only [idxP, List.any_cons]
    by_cases hp : p w = true
    · simp [hp, h]
    · simpa [hp] using idxP_any p l (i + 1) (by omega)
theorem IndexFunc_spec {C : CallW} (hC : LeC C C) (P : Program) : ∀ (l : List Wr) (g : FuncId) (cp : AV) (p : Wr → Bool) S H (K : AV → St → Prop), l.length ≤ 9223372036854775807 → cp.sh = cp → cp.look = cp → AV.under S.length cp = true → AskS C g cp p S H → ∀ G0, (∀ G, K (.i (idxP p l 0)) ⟨S, H ++ G⟩) →
    runL C P C_slices_IndexFunc_Write [.list .sh 18 (l.map wA), .fn (.func g) [] [cp]] ⟨S, H ++ G0⟩ K := by
  intro l g cp p S H K hl hc1 hc2 hu hask G0 hK
  simp only [C_slices_IndexFunc_Write, RUN_, U_slices_IndexFunc_Write, FR_, Nat.reducePow, Int.reducePow, Nat.reduceAdd, Nat.reduceSub, Nat.reduceMul, Int.reduceToNat, Nat.reduceLeDiff, Nat.reduceEqDiff, Nat.reduceLT, Nat.reduceGT, Int.reduceGT, Int.reduceGE, Int.reduceLT, Int.reduceLE, Int.reduceEq, Int.reduceAdd, Int.reduceSub, Int.reduceNeg, reduceCtorEq, if_true, if_false, ite_true, ite_false, ne_eq, eq_self, OPK_, KEY_, WR_, CHK_, Nat.reduceBEq, K4_, K5_, K6_, K7_]
  refine loop_rule hC (α := Nat × List HObj) (fun a => l.length - a.1) (fun a => [.list .sh 18 (l.map wA), .fn (.func g) [] [cp], .undef, .undef, .undef, .undef, .undef, .s (.int .i64 l.length), .s (.int .i64 a.1), .undef, .undef, .undef, .undef, .undef, .undef, .undef, .undef, .undef, .undef]) (fun _ => S) (fun a => H ++ a.2) (fun a => a.1 ≤ l.length ∧ idxP p l 0 = idxP p (l.drop a.1) a.1) (0, G0) ⟨by simp, rfl⟩ rfl (by simp) rfl (fun a _ => by simp [AV.under, AV.under.go, hu]) ?_
  rintro ⟨i, G⟩ ⟨hi, hinv⟩ ih
  dsimp only at hi hinv ih ⊢
  by_cases h16 : i < l.length
  · have hlt : ((i : Int) < (l.length : Int)) := by omega
    have hw : IntKind.i64.wrap ((i : Int) + 1) = (i : Int) + 1 := wrap_i64 (by omega) (by omega)
    rw [List.drop_eq_getElem_cons h16, idxP] at hinv
    simp only [RUN_, U_slices_IndexFunc_Write, FR_, Nat.reducePow, Int.reducePow, Nat.reduceAdd, Nat.reduceSub, Nat.reduceMul, Int.reduceToNat, Nat.reduceLeDiff, Nat.reduceEqDiff, Nat.reduceLT, Nat.reduceGT, Int.reduceGT, Int.reduceGE, Int.reduceLT, Int.reduceLE, Int.reduceEq, Int.reduceAdd, Int.reduceSub, Int.reduceNeg, reduceCtorEq, if_true, if_false, ite_true, ite_false, ne_eq, eq_self, OPK_, KEY_, WR_, CHK_, Nat.reduceBEq, K4_, K5_, K6_, K7_, hlt, h16]
    refine hask _ _ _ fun G' => ?_
    cases hp : p l[i] with
    | true =>
      rw [hp, if_pos rfl] at hinv
      rw [hinv] at hK
      simp only [RUN_, U_slices_IndexFunc_Write, FR_, Nat.reducePow, Int.reducePow, Nat.reduceAdd, Nat.reduceSub, Nat.reduceMul, Int.reduceToNat, Nat.reduceLeDiff, Nat.reduceEqDiff, Nat.reduceLT, Nat.reduceGT, Int.reduceGT, Int.reduceGE, Int.reduceLT, Int.reduceLE, Int.reduceEq, Int.reduceAdd, Int.reduceSub, Int.reduceNeg, reduceCtorEq, if_true, if_false, ite_true, ite_false, ne_eq, eq_self, OPK_, KEY_, WR_, CHK_, Nat.reduceBEq, K4_, K5_, K6_, K7_]
      exact hK _
    | false =>
      rw [hp] at hinv
      simp only [RUN_, U_slices_IndexFunc_Write, FR_, Nat.reducePow, Int.reducePow, Nat.reduceAdd, Nat.reduceSub, Nat.reduceMul, Int.reduceToNat, Nat.reduceLeDiff, Nat.reduceEqDiff, Nat.reduceLT, Nat.reduceGT, Int.reduceGT, Int.reduceGE, Int.reduceLT, Int.reduceLE, Int.reduceEq, Int.reduceAdd, Int.reduceSub, Int.reduceNeg, reduceCtorEq, if_true, if_false, ite_true, ite_false, ne_eq, eq_self, OPK_, KEY_, WR_, CHK_, Nat.reduceBEq, K4_, K5_, K6_, K7_, hw]
      exact ih (i + 1, G') _ _ _ (by simp; omega) ⟨by simp; omega, hinv⟩ rfl (by simp) rfl
  · have hlt : ¬ ((i : Int) < (l.length : Int)) := by omega
    rw [List.drop_of_length_le (by omega)] at hinv
    rw [hinv] at hK
    simp only [RUN_, U_slices_IndexFunc_Write, FR_, Nat.reducePow, Int.reducePow, Nat.reduceAdd, Nat.reduceSub, Nat.reduceMul, Int.reduceToNat, Nat.reduceLeDiff, Nat.reduceEqDiff, Nat.reduceLT, Nat.reduceGT, Int.reduceGT, Int.reduceGE, Int.reduceLT, Int.reduceLE, Int.reduceEq, Int.reduceAdd, Int.reduceSub, Int.reduceNeg, reduceCtorEq, if_true, if_false, ite_true, ite_false, ne_eq, eq_self, OPK_, KEY_, WR_, CHK_, Nat.reduceBEq, K4_, K5_, K6_, K7_, hlt]
    exact hK _
def IdxFS (C : CallW) (f : FuncId) : Prop := ∀ (l : List Wr) (g : FuncId) (cp : AV) (p : Wr → Bool) S H (K : AV → St → Prop), l.length ≤ 9223372036854775807 → cp.sh = cp → cp.look = cp → AV.under S.length cp = true → AskS C g cp p S H → ∀ G0, (∀ G, K (.i (idxP p l 0)) ⟨S, H ++ G⟩) →
    C (.fn f) [.list .sh 18 (l.map wA), .fn (.func g) [] [cp]] ⟨S, H ++ G0⟩ K
theorem ContainsFunc_spec {C : CallW} (P : Program) {c : Nat → FuncId} (h0 : IdxFS C (c 0)) : ∀ (l : List Wr) (g : FuncId) (cp : AV) (p : Wr → Bool) S H (K : AV → St → Prop), l.length ≤ 9223372036854775807 → cp.sh = cp → cp.look = cp → AV.under S.length cp = true → AskS C g cp p S H → ∀ G0, (∀ G, K (.bool (l.any p)) ⟨S, H ++ G⟩) →
    runL C P (C_slices_ContainsFunc_Write c) [.list .sh 18 (l.map wA), .fn (.func g) [] [cp]] ⟨S, H ++ G0⟩ K := by
  intro l g cp p S H K hl hc1 hc2 hu hask G0 hK
  have hi := idxP_any p l 0 (by omega)
  simp only [C_slices_ContainsFunc_Write, RUN_, U_slices_ContainsFunc_Write, FR_, Nat.reducePow, Int.reducePow, Nat.reduceAdd, Nat.reduceSub, Nat.reduceMul, Int.reduceToNat, Nat.reduceLeDiff, Nat.reduceEqDiff, Nat.reduceLT, Nat.reduceGT, Int.reduceGT, Int.reduceGE, Int.reduceLT, Int.reduceLE, Int.reduceEq, Int.reduceAdd, Int.reduceSub, Int.reduceNeg, reduceCtorEq, if_true, if_false, ite_true, ite_false, ne_eq, eq_self, OPK_, KEY_, WR_, CHK_, Nat.reduceBEq, K4_, K5_, K6_, K7_]
  refine h0 l g cp p S H _ hl hc1 hc2 hu hask G0 fun G => ?_
  simp only [RUN_, U_slices_ContainsFunc_Write, FR_, Nat.reducePow, Int.reducePow, Nat.reduceAdd, Nat.reduceSub, Nat.reduceMul, Int.reduceToNat, Nat.reduceLeDiff, Nat.reduceEqDiff, Nat.reduceLT, Nat.reduceGT, Int.reduceGT, Int.reduceGE, Int.reduceLT, Int.reduceLE, Int.reduceEq, Int.reduceAdd, Int.reduceSub, Int.reduceNeg, reduceCtorEq, if_true, if_false, ite_true, ite_false, ne_eq, eq_self, OPK_, KEY_, WR_, CHK_, Nat.reduceBEq, K4_, K5_, K6_, K7_, hi]
  exact hK _
def ContS (C : CallW) (f : FuncId) : Prop := ∀ (l : List Wr) (g : FuncId) (cp : AV) (p : Wr → Bool) S H (K : AV → St → Prop), l.length ≤ 9223372036854775807 → cp.sh = cp → cp.look = cp → AV.under S.length cp = true → AskS C g cp p S H → ∀ G0, (∀ G, K (.bool (l.any p)) ⟨S, H ++ G⟩) →
    C (.fn f) [.list .sh 18 (l.map wA), .fn (.func g) [] [cp]] ⟨S, H ++ G0⟩ K

theorem shares1_spec {C : CallW} (P : Program) {c : Nat → FuncId} (h0 : LastS C (c 0)) : ∀ (w : Wr) (b : Tx) (r : Nat) S H (K : AV → St → Prop), b.writes.length ≤ 9223372036854775807 → S[r]? = some (txc b) → (∀ G, K (.bool (lastR w.key b.writes).2) ⟨S, H ++ G⟩) → runL C P (C_hist_shares_1 c) [.agg (wc w), .ptr (.stk r) 0] ⟨S, H⟩ K := by
  intro w b r S H K hl hr hK
  have hr1 : (S ++ [wc w])[r]? = some (txc b) := by rw [List.getElem?_append_left (List.getElem?_eq_some_iff.1 hr).1]; exact hr
  have hrd : readA ⟨S ++ [wc w], H⟩ (.ptr (.stk r) 0) 8 = some (.agg (txc b)) := by
    simp only [readA, readCells, boxOf_stk, hr1, Option.bind_some, txc_len, Nat.zero_add, Nat.le_refl, if_true, List.drop_zero, Option.map_some]
    rw [List.take_of_length_le (by rw [txc_len]; omega)]; rfl
  have h0' := h0 b
  unfold txc at h0'
  simp only [C_hist_shares_1, RUN_, U_hist_shares_1, FR_, Nat.reducePow, Int.reducePow, Nat.reduceAdd, Nat.reduceSub, Nat.reduceMul, Int.reduceToNat, Nat.reduceLeDiff, Nat.reduceEqDiff, Nat.reduceLT, Nat.reduceGT, Int.reduceGT, Int.reduceGE, Int.reduceLT, Int.reduceLE, Int.reduceEq, Int.reduceAdd, Int.reduceSub, Int.reduceNeg, reduceCtorEq, if_true, if_false, ite_true, ite_false, ne_eq, eq_self, OPK_, KEY_, WR_, CHK_, Nat.reduceBEq, K4_, K5_, K6_, K7_, hrd]
  refine h0' _ _ _ _ hl fun G => ?_
  simp only [RUN_, U_hist_shares_1, FR_, Nat.reducePow, Int.reducePow, Nat.reduceAdd, Nat.reduceSub, Nat.reduceMul, Int.reduceToNat, Nat.reduceLeDiff, Nat.reduceEqDiff, Nat.reduceLT, Nat.reduceGT, Int.reduceGT, Int.reduceGE, Int.reduceLT, Int.reduceLE, Int.reduceEq, Int.reduceAdd, Int.reduceSub, Int.reduceNeg, reduceCtorEq, if_true, if_false, ite_true, ite_false, ne_eq, eq_self, OPK_, KEY_, WR_, CHK_, Nat.reduceBEq, K4_, K5_, K6_, K7_]
  exact hK _
def Shares1S (C : CallW) (f : FuncId) : Prop := ∀ (w : Wr) (b : Tx) (r : Nat) S H (K : AV → St → Prop), b.writes.length ≤ 9223372036854775807 → S[r]? = some (txc b) → (∀ G, K (.bool (lastR w.key b.writes).2) ⟨S, H ++ G⟩) → C (.fn f) [.agg (wc w), .ptr (.stk r) 0] ⟨S, H⟩ K
def TwoT (p : Tx → Tx → Bool) (C : CallW) (f : FuncId) : Prop := ∀ (a b : Tx) S H (K : AV → St → Prop), a.writes.length ≤ 9223372036854775807 → b.writes.length ≤ 9223372036854775807 → (∀ G, K (.bool (p a b)) ⟨S, H ++ G⟩) → C (.fn f) [.agg (txc a), .agg (txc b)] ⟨S, H⟩ K
theorem shares_spec {C : CallW} (P : Program) {c : Nat → FuncId} (h0 : Shares1S C (c 0)) (h1 : ContS C (c 1)) : ∀ (a b : Tx) S H (K : AV → St → Prop), a.writes.length ≤ 9223372036854775807 → b.writes.length ≤ 9223372036854775807 → (∀ G, K (.bool (sharesT a b)) ⟨S, H ++ G⟩) → runL C P (C_hist_shares c) [.agg (txc a), .agg (txc b)] ⟨S, H⟩ K := by
  intro a b S H K hla hlb hK
  simp only [C_hist_shares, RUN_, U_hist_shares, FR_, Nat.reducePow, Int.reducePow, Nat.reduceAdd, Nat.reduceSub, Nat.reduceMul, Int.reduceToNat, Nat.reduceLeDiff, Nat.reduceEqDiff, Nat.reduceLT, Nat.reduceGT, Int.reduceGT, Int.reduceGE, Int.reduceLT, Int.reduceLE, Int.reduceEq, Int.reduceAdd, Int.reduceSub, Int.reduceNeg, reduceCtorEq, if_true, if_false, ite_true, ite_false, ne_eq, eq_self, OPK_, KEY_, WR_, CHK_, Nat.reduceBEq, K4_, K5_, K6_, K7_]
  rw [show H = H ++ [] by simp]
  refine h1 a.writes _ _ (fun w => (lastR w.key b.writes).2) _ _ _ hla rfl rfl (by simp [AV.under]) (fun w G K hK => ?_) [] fun G => ?_
  · exact h0 w b _ _ _ _ hlb (by simp [txc]) fun G' => by rw [List.append_assoc]; exact hK _
  · simp only [RUN_, U_hist_shares, FR_, Nat.reducePow, Int.reducePow, Nat.reduceAdd, Nat.reduceSub, Nat.reduceMul, Int.reduceToNat, Nat.reduceLeDiff, Nat.reduceEqDiff, Nat.reduceLT, Nat.reduceGT, Int.reduceGT, Int.reduceGE, Int.reduceLT, Int.reduceLE, Int.reduceEq, Int.reduceAdd, Int.reduceSub, Int.reduceNeg, reduceCtorEq, if_true, if_false, ite_true, ite_false, ne_eq, eq_self, OPK_, KEY_, WR_, CHK_, Nat.reduceBEq, K4_, K5_, K6_, K7_]
    exact hK _
end Go.AM
namespace Go.AM
open Go
set_option maxRecDepth 20000
set_option linter.unusedSimpArgs false
set_option linter.unusedVariables false

def okT (l : List Tx) : Prop := ∀ x ∈ l, x.writes.length ≤ 9223372036854775807 ∧ x.reads.length ≤ 9223372036854775807
structure VSt where
  best : Wr
  top : Stp
  found : Bool
def vSt0 : VSt := ⟨zW, ⟨0, 0⟩, false⟩
def valStep (k : Key) (at_ : Stp) (st : VSt) (x : Tx) : VSt :=
  if (lastR k x.writes).2 = false then st else if x.done = false then st else if 0 < cmpS x.stamp at_ then st else if st.found = true ∧ cmpS x.stamp st.top ≤ 0 then st else ⟨(lastR k x.writes).1, x.stamp, true⟩
def valR (st : VSt) : List UInt8 × Bool := if st.found = false ∨ st.best.gone = true then ([], false) else (st.best.val, true)
def valueT (l : List Tx) (k : Key) (at_ : Stp) : List UInt8 × Bool := valR (l.foldl (valStep k at_) vSt0)
def ValueS (C : CallW) (f : FuncId) : Prop := ∀ (l : List Tx) (k : Key) (at_ : Stp) S H (K : AV → St → Prop), l.length ≤ 9223372036854775807 → okT l → (∀ G, K (.tup [.s (.str (valueT l k at_).1), .bool (valueT l k at_).2]) ⟨S, H ++ G⟩) → C (.fn f) [lstT l, .agg (bs k.b), .agg (stc at_)] ⟨S, H⟩ K

theorem wc_eq' (w : Wr) : bs w.key.b ++ [.s (.str w.val), .s (.bool w.gone)] = wc w := rfl
set_option maxHeartbeats 8000000 in
theorem Value_spec {C : CallW} (hC : LeC C C) (P : Program) {c : Nat → FuncId} (h0 : LastS C (c 0)) (h1 : CmpSS C (c 1)) : ∀ (l : List Tx) (k : Key) (at_ : Stp) S H (K : AV → St → Prop), l.length ≤ 9223372036854775807 → okT l → (∀ G, K (.tup [.s (.str (valueT l k at_).1), .bool (valueT l k at_).2]) ⟨S, H ++ G⟩) →
    runL C P (C_hist_Value c) [lstT l, .agg (bs k.b), .agg (stc at_)] ⟨S, H⟩ K := by
  intro l k at_ S H K hl hok hK
  have h1' : ∀ (a b : Stp) S H (K : AV → St → Prop), K (.i (cmpS a b)) ⟨S, H⟩ → C (.fn (c 1)) [.agg [.s (.int .i64 a.t), u8 a.n], .agg (stc b)] ⟨S, H⟩ K := h1
  simp only [lstT, C_hist_Value, RUN_, U_hist_Value, FR_, Nat.reducePow, Int.reducePow, Nat.reduceAdd, Nat.reduceSub, Nat.reduceMul, Int.reduceToNat, Nat.reduceLeDiff, Nat.reduceEqDiff, Nat.reduceLT, Nat.reduceGT, Int.reduceGT, Int.reduceGE, Int.reduceLT, Int.reduceLE, Int.reduceEq, Int.reduceAdd, Int.reduceSub, Int.reduceNeg, reduceCtorEq, if_true, if_false, ite_true, ite_false, ne_eq, eq_self, OPK_, KEY_, WR_, CHK_, Nat.reduceBEq, K4_, K5_, K6_, K7_]
  refine loop_rule hC (α := Nat × VSt × List HObj) (fun a => l.length - a.1) (fun a => [.undef, .undef, .undef, .undef, .ptr (.stk S.length) 0, .ptr (.stk (S.length + 1)) 0, .undef, .undef, .ptr (.stk (S.length + 2)) 0, .ptr (.stk (S.length + 3)) 0, .s (.bool a.2.1.found), .undef, .undef, .undef, .undef, .list .sh 8 (l.map txA), .s (.int .i64 l.length), .s (.int .i64 a.1), .undef, .undef, .undef, .undef, .undef, .undef, .undef, .undef, .undef, .undef, .undef, .undef, .undef, .undef, .undef, .undef, .undef, .undef, .undef, .undef, .undef, .undef, .undef, .undef, .undef, .undef, .undef, .undef, .undef, .undef, .undef, .undef, .undef, .undef, .undef, .undef, .undef, .undef, .undef, .undef, .undef, .undef, .undef, .undef, .undef]) (fun a => S ++ [bs k.b, stc at_, wc a.2.1.best, stc a.2.1.top]) (fun a => H ++ a.2.2) (fun a => a.1 ≤ l.length ∧ l.foldl (valStep k at_) vSt0 = (l.drop a.1).foldl (valStep k at_) a.2.1) (0, vSt0, []) ⟨by simp, rfl⟩ rfl (by rw [app_take_add]; rfl) (by simp) (fun a _ => by simp [AV.under, AV.under.go]) ?_
  rintro ⟨i, st, G⟩ ⟨hi, hinv⟩ ih
  dsimp only at hi hinv ih ⊢
  by_cases h16 : i < l.length
  · have hlt : ((i : Int) < (l.length : Int)) := by omega
    have hw : IntKind.i64.wrap ((i : Int) + 1) = (i : Int) + 1 := wrap_i64 (by omega) (by omega)
    rw [List.drop_eq_getElem_cons h16, List.foldl_cons, valStep] at hinv
    have hx := hok l[i] (List.getElem_mem h16)
    have h0' := h0 l[i]
    unfold txc at h0'
    simp only [RUN_, U_hist_Value, FR_, Nat.reducePow, Int.reducePow, Nat.reduceAdd, Nat.reduceSub, Nat.reduceMul, Int.reduceToNat, Nat.reduceLeDiff, Nat.reduceEqDiff, Nat.reduceLT, Nat.reduceGT, Int.reduceGT, Int.reduceGE, Int.reduceLT, Int.reduceLE, Int.reduceEq, Int.reduceAdd, Int.reduceSub, Int.reduceNeg, reduceCtorEq, if_true, if_false, ite_true, ite_false, ne_eq, eq_self, OPK_, KEY_, WR_, CHK_, Nat.reduceBEq, K4_, K5_, K6_, K7_, hlt, h16]
    refine h0' _ _ _ _ hx.1 fun G' => ?_
    cases e1 : (lastR k (l[i]).writes).2 with
    | false =>
      rw [e1, if_pos rfl] at hinv
      simp only [RUN_, U_hist_Value, FR_, Nat.reducePow, Int.reducePow, Nat.reduceAdd, Nat.reduceSub, Nat.reduceMul, Int.reduceToNat, Nat.reduceLeDiff, Nat.reduceEqDiff, Nat.reduceLT, Nat.reduceGT, Int.reduceGT, Int.reduceGE, Int.reduceLT, Int.reduceLE, Int.reduceEq, Int.reduceAdd, Int.reduceSub, Int.reduceNeg, reduceCtorEq, if_true, if_false, ite_true, ite_false, ne_eq, eq_self, OPK_, KEY_, WR_, CHK_, Nat.reduceBEq, K4_, K5_, K6_, K7_, e1, hw]
      exact ih (i + 1, st, G ++ G') _ _ _ (by simp; omega) ⟨by simp; omega, hinv⟩ rfl (by rw [app_take_add]; rfl) (by simp)
    | true =>
      rw [e1, if_neg (by simp)] at hinv
      cases e2 : (l[i]).done with
      | false =>
        rw [e2, if_pos rfl] at hinv
        simp only [RUN_, U_hist_Value, FR_, Nat.reducePow, Int.reducePow, Nat.reduceAdd, Nat.reduceSub, Nat.reduceMul, Int.reduceToNat, Nat.reduceLeDiff, Nat.reduceEqDiff, Nat.reduceLT, Nat.reduceGT, Int.reduceGT, Int.reduceGE, Int.reduceLT, Int.reduceLE, Int.reduceEq, Int.reduceAdd, Int.reduceSub, Int.reduceNeg, reduceCtorEq, if_true, if_false, ite_true, ite_false, ne_eq, eq_self, OPK_, KEY_, WR_, CHK_, Nat.reduceBEq, K4_, K5_, K6_, K7_, e1, e2, hw]
        exact ih (i + 1, st, G ++ G') _ _ _ (by simp; omega) ⟨by simp; omega, hinv⟩ rfl (by rw [app_take_add]; rfl) (by simp)
      | true =>
        rw [e2, if_neg (by simp)] at hinv
        simp only [RUN_, U_hist_Value, FR_, Nat.reducePow, Int.reducePow, Nat.reduceAdd, Nat.reduceSub, Nat.reduceMul, Int.reduceToNat, Nat.reduceLeDiff, Nat.reduceEqDiff, Nat.reduceLT, Nat.reduceGT, Int.reduceGT, Int.reduceGE, Int.reduceLT, Int.reduceLE, Int.reduceEq, Int.reduceAdd, Int.reduceSub, Int.reduceNeg, reduceCtorEq, if_true, if_false, ite_true, ite_false, ne_eq, eq_self, OPK_, KEY_, WR_, CHK_, Nat.reduceBEq, K4_, K5_, K6_, K7_, e1, e2, hw]
        refine h1' (l[i]).stamp at_ _ _ _ ?_
        by_cases e3 : 0 < cmpS (l[i]).stamp at_
        · rw [if_pos e3] at hinv
          simp only [RUN_, U_hist_Value, FR_, Nat.reducePow, Int.reducePow, Nat.reduceAdd, Nat.reduceSub, Nat.reduceMul, Int.reduceToNat, Nat.reduceLeDiff, Nat.reduceEqDiff, Nat.reduceLT, Nat.reduceGT, Int.reduceGT, Int.reduceGE, Int.reduceLT, Int.reduceLE, Int.reduceEq, Int.reduceAdd, Int.reduceSub, Int.reduceNeg, reduceCtorEq, if_true, if_false, ite_true, ite_false, ne_eq, eq_self, OPK_, KEY_, WR_, CHK_, Nat.reduceBEq, K4_, K5_, K6_, K7_, e1, e2, e3, hw]
          exact ih (i + 1, st, G ++ G') _ _ _ (by simp; omega) ⟨by simp; omega, hinv⟩ rfl (by rw [app_take_add]; rfl) (by simp)
        · rw [if_neg e3] at hinv
          obtain ⟨best, top, fd⟩ := st
          cases fd with
          | false =>
            rw [if_neg (by simp)] at hinv
            simp only [RUN_, U_hist_Value, FR_, Nat.reducePow, Int.reducePow, Nat.reduceAdd, Nat.reduceSub, Nat.reduceMul, Int.reduceToNat, Nat.reduceLeDiff, Nat.reduceEqDiff, Nat.reduceLT, Nat.reduceGT, Int.reduceGT, Int.reduceGE, Int.reduceLT, Int.reduceLE, Int.reduceEq, Int.reduceAdd, Int.reduceSub, Int.reduceNeg, reduceCtorEq, if_true, if_false, ite_true, ite_false, ne_eq, eq_self, OPK_, KEY_, WR_, CHK_, Nat.reduceBEq, K4_, K5_, K6_, K7_, e1, e2, e3, hw]
            exact ih (i + 1, _, G ++ G') _ _ _ (by simp; omega) ⟨by simp; omega, hinv⟩ rfl (by rw [app_take_add]; rfl) (by simp)
          | true =>
            simp only [RUN_, U_hist_Value, FR_, Nat.reducePow, Int.reducePow, Nat.reduceAdd, Nat.reduceSub, Nat.reduceMul, Int.reduceToNat, Nat.reduceLeDiff, Nat.reduceEqDiff, Nat.reduceLT, Nat.reduceGT, Int.reduceGT, Int.reduceGE, Int.reduceLT, Int.reduceLE, Int.reduceEq, Int.reduceAdd, Int.reduceSub, Int.reduceNeg, reduceCtorEq, if_true, if_false, ite_true, ite_false, ne_eq, eq_self, OPK_, KEY_, WR_, CHK_, Nat.reduceBEq, K4_, K5_, K6_, K7_, e1, e2, e3, hw]
            refine h1' (l[i]).stamp top _ _ _ ?_
            by_cases e5 : cmpS (l[i]).stamp top ≤ 0
            · rw [if_pos ⟨rfl, e5⟩] at hinv
              simp only [RUN_, U_hist_Value, FR_, Nat.reducePow, Int.reducePow, Nat.reduceAdd, Nat.reduceSub, Nat.reduceMul, Int.reduceToNat, Nat.reduceLeDiff, Nat.reduceEqDiff, Nat.reduceLT, Nat.reduceGT, Int.reduceGT, Int.reduceGE, Int.reduceLT, Int.reduceLE, Int.reduceEq, Int.reduceAdd, Int.reduceSub, Int.reduceNeg, reduceCtorEq, if_true, if_false, ite_true, ite_false, ne_eq, eq_self, OPK_, KEY_, WR_, CHK_, Nat.reduceBEq, K4_, K5_, K6_, K7_, e1, e2, e3, e5, hw]
              exact ih (i + 1, ⟨best, top, true⟩, G ++ G') _ _ _ (by simp; omega) ⟨by simp; omega, hinv⟩ rfl (by rw [app_take_add]; rfl) (by simp)
            · rw [if_neg (by simp; omega)] at hinv
              simp only [RUN_, U_hist_Value, FR_, Nat.reducePow, Int.reducePow, Nat.reduceAdd, Nat.reduceSub, Nat.reduceMul, Int.reduceToNat, Nat.reduceLeDiff, Nat.reduceEqDiff, Nat.reduceLT, Nat.reduceGT, Int.reduceGT, Int.reduceGE, Int.reduceLT, Int.reduceLE, Int.reduceEq, Int.reduceAdd, Int.reduceSub, Int.reduceNeg, reduceCtorEq, if_true, if_false, ite_true, ite_false, ne_eq, eq_self, OPK_, KEY_, WR_, CHK_, Nat.reduceBEq, K4_, K5_, K6_, K7_, e1, e2, e3, e5, hw]
              exact ih (i + 1, _, G ++ G') _ _ _ (by simp; omega) ⟨by simp; omega, hinv⟩ rfl (by rw [app_take_add]; rfl) (by simp)
  · have hlt : ¬ ((i : Int) < (l.length : Int)) := by omega
    rw [List.drop_of_length_le (by omega)] at hinv
    have hv : valueT l k at_ = valR st := by unfold valueT; rw [hinv]; rfl
    rw [hv] at hK
    unfold valR at hK
    cases e4 : st.found with
    | false =>
      rw [e4, if_pos (.inl rfl)] at hK
      simp only [RUN_, U_hist_Value, FR_, Nat.reducePow, Int.reducePow, Nat.reduceAdd, Nat.reduceSub, Nat.reduceMul, Int.reduceToNat, Nat.reduceLeDiff, Nat.reduceEqDiff, Nat.reduceLT, Nat.reduceGT, Int.reduceGT, Int.reduceGE, Int.reduceLT, Int.reduceLE, Int.reduceEq, Int.reduceAdd, Int.reduceSub, Int.reduceNeg, reduceCtorEq, if_true, if_false, ite_true, ite_false, ne_eq, eq_self, OPK_, KEY_, WR_, CHK_, Nat.reduceBEq, K4_, K5_, K6_, K7_, hlt, e4]
      exact hK _
    | true =>
      cases e5 : st.best.gone with
      | true =>
        rw [e5, if_pos (.inr rfl)] at hK
        simp only [RUN_, U_hist_Value, FR_, Nat.reducePow, Int.reducePow, Nat.reduceAdd, Nat.reduceSub, Nat.reduceMul, Int.reduceToNat, Nat.reduceLeDiff, Nat.reduceEqDiff, Nat.reduceLT, Nat.reduceGT, Int.reduceGT, Int.reduceGE, Int.reduceLT, Int.reduceLE, Int.reduceEq, Int.reduceAdd, Int.reduceSub, Int.reduceNeg, reduceCtorEq, if_true, if_false, ite_true, ite_false, ne_eq, eq_self, OPK_, KEY_, WR_, CHK_, Nat.reduceBEq, K4_, K5_, K6_, K7_, hlt, e4, e5]
        exact hK _
      | false =>
        rw [e4, e5, if_neg (by simp)] at hK
        simp only [RUN_, U_hist_Value, FR_, Nat.reducePow, Int.reducePow, Nat.reduceAdd, Nat.reduceSub, Nat.reduceMul, Int.reduceToNat, Nat.reduceLeDiff, Nat.reduceEqDiff, Nat.reduceLT, Nat.reduceGT, Int.reduceGT, Int.reduceGE, Int.reduceLT, Int.reduceLE, Int.reduceEq, Int.reduceAdd, Int.reduceSub, Int.reduceNeg, reduceCtorEq, if_true, if_false, ite_true, ite_false, ne_eq, eq_self, OPK_, KEY_, WR_, CHK_, Nat.reduceBEq, K4_, K5_, K6_, K7_, hlt, e4, e5]
        exact hK _
end Go.AM
namespace Go.AM
open Go
set_option maxRecDepth 20000
set_option linter.unusedSimpArgs false
set_option linter.unusedVariables false

def fltA (k a b : Int) : AV := .agg [.i k, .i a, .i b]
def aloneF : List Tx → Nat → Option Nat
  | [], _ => none
  | x :: l, i => if wroteT x = true ∧ cmpS x.stamp x.snap ≤ 0 then some i else aloneF l (i + 1)
def aloneA : Option Nat → AV
  | some i => .tup [fltA 1 i (-1), .bool true]
  | none => .tup [fltA 0 0 0, .bool false]
def WroteS (C : CallW) (f : FuncId) : Prop := ∀ x : Tx, FnS C f [.agg (txc x)] (.bool (wroteT x))
def AloneS (C : CallW) (f : FuncId) : Prop := ∀ (l : List Tx) S H (K : AV → St → Prop), l.length ≤ 9223372036854775807 → K (aloneA (aloneF l 0)) ⟨S, H⟩ → C (.fn f) [lstT l] ⟨S, H⟩ K

set_option maxHeartbeats 4000000 in
theorem alone_spec {C : CallW} (hC : LeC C C) (P : Program) {c : Nat → FuncId} (h0 : WroteS C (c 0)) (h1 : CmpSS C (c 1)) : ∀ (l : List Tx) S H (K : AV → St → Prop), l.length ≤ 9223372036854775807 → K (aloneA (aloneF l 0)) ⟨S, H⟩ → runL C P (C_hist_alone c) [lstT l] ⟨S, H⟩ K := by
  intro l S H K hl hK
  have h1' : ∀ (a b : Stp) S H (K : AV → St → Prop), K (.i (cmpS a b)) ⟨S, H⟩ → C (.fn (c 1)) [.agg [.s (.int .i64 a.t), u8 a.n], .agg [.s (.int .i64 b.t), u8 b.n]] ⟨S, H⟩ K := h1
  simp only [lstT, C_hist_alone, RUN_, U_hist_alone, FR_, Nat.reducePow, Int.reducePow, Nat.reduceAdd, Nat.reduceSub, Nat.reduceMul, Int.reduceToNat, Nat.reduceLeDiff, Nat.reduceEqDiff, Nat.reduceLT, Nat.reduceGT, Int.reduceGT, Int.reduceGE, Int.reduceLT, Int.reduceLE, Int.reduceEq, Int.reduceAdd, Int.reduceSub, Int.reduceNeg, reduceCtorEq, if_true, if_false, ite_true, ite_false, ne_eq, eq_self, OPK_, KEY_, WR_, CHK_, Nat.reduceBEq, K4_, K5_, K6_, K7_]
  refine loop_rule hC (α := Nat) (fun a => l.length - a) (fun a => [.undef, .undef, .ptr (.stk S.length) 0, .undef, .undef, .undef, .list .sh 8 (l.map txA), .s (.int .i64 l.length), .s (.int .i64 a), .undef, .undef, .undef, .undef, .undef, .undef, .undef, .undef, .undef, .undef, .undef, .undef, .undef, .undef, .undef, .undef, .undef, .undef]) (fun a => S ++ [[.i 0, .i 0, .i 0]]) (fun a => H) (fun a => a ≤ l.length ∧ aloneF l 0 = aloneF (l.drop a) a) 0 ⟨by simp, rfl⟩ rfl (by rw [app_take_add]; rfl) rfl (fun a _ => by simp [AV.under, AV.under.go]) ?_
  rintro i ⟨hi, hinv⟩ ih
  by_cases h16 : i < l.length
  · have hlt : ((i : Int) < (l.length : Int)) := by omega
    have hw : IntKind.i64.wrap ((i : Int) + 1) = (i : Int) + 1 := wrap_i64 (by omega) (by omega)
    rw [List.drop_eq_getElem_cons h16, aloneF] at hinv
    have h0' := h0 l[i]
    unfold txc at h0'
    simp only [RUN_, U_hist_alone, FR_, Nat.reducePow, Int.reducePow, Nat.reduceAdd, Nat.reduceSub, Nat.reduceMul, Int.reduceToNat, Nat.reduceLeDiff, Nat.reduceEqDiff, Nat.reduceLT, Nat.reduceGT, Int.reduceGT, Int.reduceGE, Int.reduceLT, Int.reduceLE, Int.reduceEq, Int.reduceAdd, Int.reduceSub, Int.reduceNeg, reduceCtorEq, if_true, if_false, ite_true, ite_false, ne_eq, eq_self, OPK_, KEY_, WR_, CHK_, Nat.reduceBEq, K4_, K5_, K6_, K7_, hlt, h16]
    refine h0' _ _ _ ?_
    cases e1 : wroteT l[i] with
    | false =>
      rw [e1, if_neg (by simp)] at hinv
      simp only [RUN_, U_hist_alone, FR_, Nat.reducePow, Int.reducePow, Nat.reduceAdd, Nat.reduceSub, Nat.reduceMul, Int.reduceToNat, Nat.reduceLeDiff, Nat.reduceEqDiff, Nat.reduceLT, Nat.reduceGT, Int.reduceGT, Int.reduceGE, Int.reduceLT, Int.reduceLE, Int.reduceEq, Int.reduceAdd, Int.reduceSub, Int.reduceNeg, reduceCtorEq, if_true, if_false, ite_true, ite_false, ne_eq, eq_self, OPK_, KEY_, WR_, CHK_, Nat.reduceBEq, K4_, K5_, K6_, K7_, hw]
      exact ih (i + 1) _ _ _ (by omega) ⟨by omega, hinv⟩ rfl (by rw [app_take_add]; rfl) rfl
    | true =>
      simp only [RUN_, U_hist_alone, FR_, Nat.reducePow, Int.reducePow, Nat.reduceAdd, Nat.reduceSub, Nat.reduceMul, Int.reduceToNat, Nat.reduceLeDiff, Nat.reduceEqDiff, Nat.reduceLT, Nat.reduceGT, Int.reduceGT, Int.reduceGE, Int.reduceLT, Int.reduceLE, Int.reduceEq, Int.reduceAdd, Int.reduceSub, Int.reduceNeg, reduceCtorEq, if_true, if_false, ite_true, ite_false, ne_eq, eq_self, OPK_, KEY_, WR_, CHK_, Nat.reduceBEq, K4_, K5_, K6_, K7_, hw]
      refine h1' (l[i]).stamp (l[i]).snap _ _ _ ?_
      by_cases e2 : cmpS (l[i]).stamp (l[i]).snap ≤ 0
      · rw [if_pos ⟨e1, e2⟩] at hinv
        rw [hinv] at hK
        simp only [RUN_, U_hist_alone, FR_, Nat.reducePow, Int.reducePow, Nat.reduceAdd, Nat.reduceSub, Nat.reduceMul, Int.reduceToNat, Nat.reduceLeDiff, Nat.reduceEqDiff, Nat.reduceLT, Nat.reduceGT, Int.reduceGT, Int.reduceGE, Int.reduceLT, Int.reduceLE, Int.reduceEq, Int.reduceAdd, Int.reduceSub, Int.reduceNeg, reduceCtorEq, if_true, if_false, ite_true, ite_false, ne_eq, eq_self, OPK_, KEY_, WR_, CHK_, Nat.reduceBEq, K4_, K5_, K6_, K7_, e2]
        exact hK
      · rw [if_neg (fun h => e2 h.2)] at hinv
        simp only [RUN_, U_hist_alone, FR_, Nat.reducePow, Int.reducePow, Nat.reduceAdd, Nat.reduceSub, Nat.reduceMul, Int.reduceToNat, Nat.reduceLeDiff, Nat.reduceEqDiff, Nat.reduceLT, Nat.reduceGT, Int.reduceGT, Int.reduceGE, Int.reduceLT, Int.reduceLE, Int.reduceEq, Int.reduceAdd, Int.reduceSub, Int.reduceNeg, reduceCtorEq, if_true, if_false, ite_true, ite_false, ne_eq, eq_self, OPK_, KEY_, WR_, CHK_, Nat.reduceBEq, K4_, K5_, K6_, K7_, e2, hw]
        exact ih (i + 1) _ _ _ (by omega) ⟨by omega, hinv⟩ rfl (by rw [app_take_add]; rfl) rfl
  · have hlt : ¬ ((i : Int) < (l.length : Int)) := by omega
    rw [List.drop_of_length_le (by omega)] at hinv
    rw [hinv] at hK
    simp only [RUN_, U_hist_alone, FR_, Nat.reducePow, Int.reducePow, Nat.reduceAdd, Nat.reduceSub, Nat.reduceMul, Int.reduceToNat, Nat.reduceLeDiff, Nat.reduceEqDiff, Nat.reduceLT, Nat.reduceGT, Int.reduceGT, Int.reduceGE, Int.reduceLT, Int.reduceLE, Int.reduceEq, Int.reduceAdd, Int.reduceSub, Int.reduceNeg, reduceCtorEq, if_true, if_false, ite_true, ite_false, ne_eq, eq_self, OPK_, KEY_, WR_, CHK_, Nat.reduceBEq, K4_, K5_, K6_, K7_, hlt]
    exact hK

def pairIn (p : Tx → Tx → Bool) (x : Tx) : List Tx → Nat → Option Nat
  | [], _ => none
  | y :: l, k => if wroteT x = true ∧ wroteT y = true ∧ p x y = true then some k else pairIn p x l (k + 1)
def pairF (p : Tx → Tx → Bool) : List Tx → Nat → Option (Nat × Nat)
  | [], _ => none
  | x :: l, i => match pairIn p x l (i + 1) with
    | some k => some (i, k)
    | none => pairF p l (i + 1)
def pairA (kind : Int) : Option (Nat × Nat) → AV
  | some (i, k) => .tup [fltA kind i k, .bool true]
  | none => .tup [fltA 0 0 0, .bool false]
def PairS (C : CallW) (f : FuncId) : Prop := ∀ (l : List Tx) (kind : Int) (g : FuncId) (p : Tx → Tx → Bool) S H (K : AV → St → Prop), l.length < 9223372036854775807 → okT l → TwoT p C g → (∀ G, K (pairA kind (pairF p l 0)) ⟨S, H ++ G⟩) → C (.fn f) [lstT l, .s (.int .i64 kind), .fn (.func g) [] []] ⟨S, H⟩ K

set_option maxHeartbeats 8000000 in
theorem pair_spec {C : CallW} (hC : LeC C C) (P : Program) {c : Nat → FuncId} (h0 : WroteS C (c 0)) : ∀ (l : List Tx) (kind : Int) (g : FuncId) (p : Tx → Tx → Bool) S H (K : AV → St → Prop), l.length < 9223372036854775807 → okT l → TwoT p C g → (∀ G, K (pairA kind (pairF p l 0)) ⟨S, H ++ G⟩) →
    runL C P (C_hist_pair c) [lstT l, .s (.int .i64 kind), .fn (.func g) [] []] ⟨S, H⟩ K := by
  intro l kind g p S H K hl hok hg hK
  simp only [lstT, C_hist_pair, RUN_, U_hist_pair, FR_, Nat.reducePow, Int.reducePow, Nat.reduceAdd, Nat.reduceSub, Nat.reduceMul, Int.reduceToNat, Nat.reduceLeDiff, Nat.reduceEqDiff, Nat.reduceLT, Nat.reduceGT, Int.reduceGT, Int.reduceGE, Int.reduceLT, Int.reduceLE, Int.reduceEq, Int.reduceAdd, Int.reduceSub, Int.reduceNeg, reduceCtorEq, if_true, if_false, ite_true, ite_false, ne_eq, eq_self, OPK_, KEY_, WR_, CHK_, Nat.reduceBEq, K4_, K5_, K6_, K7_]
  refine loop_rule hC (α := Nat × List HObj) (fun a => l.length - a.1) (fun a => [.list .sh 8 (l.map txA), .s (.int .i64 kind), .fn (.func g) [] [], .undef, .undef, .undef, .ptr (.stk S.length) 0, .undef, .undef, .undef, .undef, .list .sh 8 (l.map txA), .s (.int .i64 l.length), .s (.int .i64 a.1), .undef, .undef, .undef, .undef, .undef, .undef, .undef, .undef, .undef, .undef, .undef, .undef, .undef, .undef, .undef, .undef, .undef, .undef, .undef, .undef, .undef, .undef, .undef, .undef, .undef, .undef, .undef, .undef, .undef, .undef, .undef, .undef, .undef, .undef, .undef, .undef]) (fun a => S ++ [[.i 0, .i 0, .i 0]]) (fun a => H ++ a.2) (fun a => a.1 ≤ l.length ∧ pairF p l 0 = pairF p (l.drop a.1) a.1) (0, []) ⟨by simp, rfl⟩ rfl (by rw [app_take_add]; rfl) (by simp) (fun a _ => by simp [AV.under, AV.under.go]) ?_
  rintro ⟨i, G⟩ ⟨hi, hinv⟩ ih
  dsimp only at hi hinv ih ⊢
  by_cases h16 : i < l.length
  · have hlt : ((i : Int) < (l.length : Int)) := by omega
    have hw : IntKind.i64.wrap ((i : Int) + 1) = (i : Int) + 1 := wrap_i64 (by omega) (by omega)
    rw [List.drop_eq_getElem_cons h16, pairF] at hinv
    have h0' := h0 l[i]
    unfold txc at h0'
    simp only [RUN_, U_hist_pair, FR_, Nat.reducePow, Int.reducePow, Nat.reduceAdd, Nat.reduceSub, Nat.reduceMul, Int.reduceToNat, Nat.reduceLeDiff, Nat.reduceEqDiff, Nat.reduceLT, Nat.reduceGT, Int.reduceGT, Int.reduceGE, Int.reduceLT, Int.reduceLE, Int.reduceEq, Int.reduceAdd, Int.reduceSub, Int.reduceNeg, reduceCtorEq, if_true, if_false, ite_true, ite_false, ne_eq, eq_self, OPK_, KEY_, WR_, CHK_, Nat.reduceBEq, K4_, K5_, K6_, K7_, hlt, h16, hw]
    refine loop_rule hC (α := Nat × List HObj) (fun a => l.length - a.1) (fun a => [.list .sh 8 (l.map txA), .s (.int .i64 kind), .fn (.func g) [] [], .undef, .undef, .undef, .ptr (.stk S.length) 0, .undef, .s (.int .i64 i), .ptr (.stk (S.length + 1)) 0, .s (.int .i64 a.1), .list .sh 8 (l.map txA), .s (.int .i64 l.length), .s (.int .i64 i), .undef, .undef, .undef, .undef, .undef, .undef, .undef, .undef, .undef, .undef, .undef, .undef, .undef, .undef, .undef, .undef, .undef, .undef, .undef, .undef, .undef, .undef, .undef, .undef, .undef, .undef, .undef, .undef, .undef, .undef, .undef, .undef, .undef, .undef, .undef, .undef]) (fun a => S ++ [[.i 0, .i 0, .i 0], txc l[i]]) (fun a => H ++ a.2) (fun a => i + 1 ≤ a.1 ∧ a.1 ≤ l.length ∧ pairIn p l[i] (l.drop (i + 1)) (i + 1) = pairIn p l[i] (l.drop a.1) a.1) (i + 1, G) ⟨by simp, by simp; omega, rfl⟩ rfl (by rw [app_take_add]; rfl) rfl (fun a _ => by simp [AV.under, AV.under.go]) ?_
    rintro ⟨k, G1⟩ ⟨hk0, hk, hkinv⟩ ih2
    dsimp only at hk0 hk hkinv ih2 ⊢
    by_cases h17 : k < l.length
    · have hltk : ((k : Int) < (l.length : Int)) := by omega
      have hwk : IntKind.i64.wrap ((k : Int) + 1) = (k : Int) + 1 := wrap_i64 (by omega) (by omega)
      rw [List.drop_eq_getElem_cons h17, pairIn] at hkinv
      have h0k := h0 l[k]
      unfold txc at h0k
      simp only [RUN_, U_hist_pair, FR_, Nat.reducePow, Int.reducePow, Nat.reduceAdd, Nat.reduceSub, Nat.reduceMul, Int.reduceToNat, Nat.reduceLeDiff, Nat.reduceEqDiff, Nat.reduceLT, Nat.reduceGT, Int.reduceGT, Int.reduceGE, Int.reduceLT, Int.reduceLE, Int.reduceEq, Int.reduceAdd, Int.reduceSub, Int.reduceNeg, reduceCtorEq, if_true, if_false, ite_true, ite_false, ne_eq, eq_self, OPK_, KEY_, WR_, CHK_, Nat.reduceBEq, K4_, K5_, K6_, K7_, hltk, h17]
      refine h0' _ _ _ ?_
      cases e1 : wroteT l[i] with
      | false =>
        rw [e1, if_neg (by simp)] at hkinv
        simp only [RUN_, U_hist_pair, FR_, Nat.reducePow, Int.reducePow, Nat.reduceAdd, Nat.reduceSub, Nat.reduceMul, Int.reduceToNat, Nat.reduceLeDiff, Nat.reduceEqDiff, Nat.reduceLT, Nat.reduceGT, Int.reduceGT, Int.reduceGE, Int.reduceLT, Int.reduceLE, Int.reduceEq, Int.reduceAdd, Int.reduceSub, Int.reduceNeg, reduceCtorEq, if_true, if_false, ite_true, ite_false, ne_eq, eq_self, OPK_, KEY_, WR_, CHK_, Nat.reduceBEq, K4_, K5_, K6_, K7_, hwk]
        exact ih2 (k + 1, G1) _ _ _ (by simp; omega) ⟨by simp; omega, by simp; omega, hkinv⟩ rfl (by rw [app_take_add]; rfl) rfl
      | true =>
        simp only [RUN_, U_hist_pair, FR_, Nat.reducePow, Int.reducePow, Nat.reduceAdd, Nat.reduceSub, Nat.reduceMul, Int.reduceToNat, Nat.reduceLeDiff, Nat.reduceEqDiff, Nat.reduceLT, Nat.reduceGT, Int.reduceGT, Int.reduceGE, Int.reduceLT, Int.reduceLE, Int.reduceEq, Int.reduceAdd, Int.reduceSub, Int.reduceNeg, reduceCtorEq, if_true, if_false, ite_true, ite_false, ne_eq, eq_self, OPK_, KEY_, WR_, CHK_, Nat.reduceBEq, K4_, K5_, K6_, K7_, h17]
        refine h0k _ _ _ ?_
        cases e2 : wroteT l[k] with
        | false =>
          rw [e2, if_neg (by simp)] at hkinv
          simp only [RUN_, U_hist_pair, FR_, Nat.reducePow, Int.reducePow, Nat.reduceAdd, Nat.reduceSub, Nat.reduceMul, Int.reduceToNat, Nat.reduceLeDiff, Nat.reduceEqDiff, Nat.reduceLT, Nat.reduceGT, Int.reduceGT, Int.reduceGE, Int.reduceLT, Int.reduceLE, Int.reduceEq, Int.reduceAdd, Int.reduceSub, Int.reduceNeg, reduceCtorEq, if_true, if_false, ite_true, ite_false, ne_eq, eq_self, OPK_, KEY_, WR_, CHK_, Nat.reduceBEq, K4_, K5_, K6_, K7_, hwk]
          exact ih2 (k + 1, G1) _ _ _ (by simp; omega) ⟨by simp; omega, by simp; omega, hkinv⟩ rfl (by rw [app_take_add]; rfl) rfl
        | true =>
          have hg' := hg l[i] l[k]
          unfold txc at hg'
          simp only [RUN_, U_hist_pair, FR_, Nat.reducePow, Int.reducePow, Nat.reduceAdd, Nat.reduceSub, Nat.reduceMul, Int.reduceToNat, Nat.reduceLeDiff, Nat.reduceEqDiff, Nat.reduceLT, Nat.reduceGT, Int.reduceGT, Int.reduceGE, Int.reduceLT, Int.reduceLE, Int.reduceEq, Int.reduceAdd, Int.reduceSub, Int.reduceNeg, reduceCtorEq, if_true, if_false, ite_true, ite_false, ne_eq, eq_self, OPK_, KEY_, WR_, CHK_, Nat.reduceBEq, K4_, K5_, K6_, K7_, h17]
          refine hg' _ _ _ (hok _ (List.getElem_mem h16)).1 (hok _ (List.getElem_mem h17)).1 fun G2 => ?_
          cases e3 : p l[i] l[k] with
          | false =>
            rw [e3, if_neg (by simp)] at hkinv
            simp only [RUN_, U_hist_pair, FR_, Nat.reducePow, Int.reducePow, Nat.reduceAdd, Nat.reduceSub, Nat.reduceMul, Int.reduceToNat, Nat.reduceLeDiff, Nat.reduceEqDiff, Nat.reduceLT, Nat.reduceGT, Int.reduceGT, Int.reduceGE, Int.reduceLT, Int.reduceLE, Int.reduceEq, Int.reduceAdd, Int.reduceSub, Int.reduceNeg, reduceCtorEq, if_true, if_false, ite_true, ite_false, ne_eq, eq_self, OPK_, KEY_, WR_, CHK_, Nat.reduceBEq, K4_, K5_, K6_, K7_, hwk]
            exact ih2 (k + 1, G1 ++ G2) _ _ _ (by simp; omega) ⟨by simp; omega, by simp; omega, hkinv⟩ rfl (by rw [app_take_add]; rfl) (by simp)
          | true =>
            rw [if_pos ⟨e1, e2, e3⟩] at hkinv
            rw [hkinv] at hinv
            rw [hinv] at hK
            simp only [RUN_, U_hist_pair, FR_, Nat.reducePow, Int.reducePow, Nat.reduceAdd, Nat.reduceSub, Nat.reduceMul, Int.reduceToNat, Nat.reduceLeDiff, Nat.reduceEqDiff, Nat.reduceLT, Nat.reduceGT, Int.reduceGT, Int.reduceGE, Int.reduceLT, Int.reduceLE, Int.reduceEq, Int.reduceAdd, Int.reduceSub, Int.reduceNeg, reduceCtorEq, if_true, if_false, ite_true, ite_false, ne_eq, eq_self, OPK_, KEY_, WR_, CHK_, Nat.reduceBEq, K4_, K5_, K6_, K7_]
            exact hK _
    · have hltk : ¬ ((k : Int) < (l.length : Int)) := by omega
      rw [show l.drop k = [] from List.drop_of_length_le (by omega)] at hkinv
      rw [hkinv, pairIn] at hinv
      simp only [RUN_, U_hist_pair, FR_, Nat.reducePow, Int.reducePow, Nat.reduceAdd, Nat.reduceSub, Nat.reduceMul, Int.reduceToNat, Nat.reduceLeDiff, Nat.reduceEqDiff, Nat.reduceLT, Nat.reduceGT, Int.reduceGT, Int.reduceGE, Int.reduceLT, Int.reduceLE, Int.reduceEq, Int.reduceAdd, Int.reduceSub, Int.reduceNeg, reduceCtorEq, if_true, if_false, ite_true, ite_false, ne_eq, eq_self, OPK_, KEY_, WR_, CHK_, Nat.reduceBEq, K4_, K5_, K6_, K7_, hltk, hw]
      exact ih (i + 1, G1) _ _ _ (by simp; omega) ⟨by simp; omega, hinv⟩ rfl (by rw [app_take_add]; rfl) rfl
  · have hlt : ¬ ((i : Int) < (l.length : Int)) := by omega
    rw [List.drop_of_length_le (by omega)] at hinv
    rw [hinv] at hK
    simp only [RUN_, U_hist_pair, FR_, Nat.reducePow, Int.reducePow, Nat.reduceAdd, Nat.reduceSub, Nat.reduceMul, Int.reduceToNat, Nat.reduceLeDiff, Nat.reduceEqDiff, Nat.reduceLT, Nat.reduceGT, Int.reduceGT, Int.reduceGE, Int.reduceLT, Int.reduceLE, Int.reduceEq, Int.reduceAdd, Int.reduceSub, Int.reduceNeg, reduceCtorEq, if_true, if_false, ite_true, ite_false, ne_eq, eq_self, OPK_, KEY_, WR_, CHK_, Nat.reduceBEq, K4_, K5_, K6_, K7_, hlt]
    exact hK _
end Go.AM
namespace Go.AM
open Go
set_option maxRecDepth 20000
set_option linter.unusedSimpArgs false
set_option linter.unusedVariables false

def alikeT (a b : Tx) : Bool := decide (a.stamp = b.stamp)
def bothT (a b : Tx) : Bool := sharesT a b && !beforeT a b && !beforeT b a
theorem stp_beq (a b : Stp) : (decide (a.t = b.t) && decide (a.n = b.n)) = decide (a = b) := by
  cases a; cases b; simp [Stp.mk.injEq, Bool.decide_and]
theorem Check1_spec {C : CallW} (P : Program) : ∀ (a b : Tx) S H (K : AV → St → Prop), a.writes.length ≤ 9223372036854775807 → b.writes.length ≤ 9223372036854775807 → (∀ G, K (.bool (alikeT a b)) ⟨S, H ++ G⟩) → runL C P C_hist_Check_1 [.agg (txc a), .agg (txc b)] ⟨S, H⟩ K := by
  intro a b S H K _ _ hK
  have hK := hK []
  rw [List.append_nil, alikeT, ← stp_beq] at hK
  simp only [C_hist_Check_1, RUN_, U_hist_Check_1, FR_, Nat.reducePow, Int.reducePow, Nat.reduceAdd, Nat.reduceSub, Nat.reduceMul, Int.reduceToNat, Nat.reduceLeDiff, Nat.reduceEqDiff, Nat.reduceLT, Nat.reduceGT, Int.reduceGT, Int.reduceGE, Int.reduceLT, Int.reduceLE, Int.reduceEq, Int.reduceAdd, Int.reduceSub, Int.reduceNeg, reduceCtorEq, if_true, if_false, ite_true, ite_false, ne_eq, eq_self, OPK_, KEY_, WR_, CHK_, Nat.reduceBEq, K4_, K5_, K6_, K7_]
  exact hK
def BeforeS (C : CallW) (f : FuncId) : Prop := ∀ a b : Tx, FnS C f [.agg (txc a), .agg (txc b)] (.bool (beforeT a b))
theorem Check2_spec {C : CallW} (P : Program) {c : Nat → FuncId} (h0 : TwoT sharesT C (c 0)) (h1 : BeforeS C (c 1)) : ∀ (a b : Tx) S H (K : AV → St → Prop), a.writes.length ≤ 9223372036854775807 → b.writes.length ≤ 9223372036854775807 → (∀ G, K (.bool (bothT a b)) ⟨S, H ++ G⟩) → runL C P (C_hist_Check_2 c) [.agg (txc a), .agg (txc b)] ⟨S, H⟩ K := by
  intro a b S H K ha hb hK
  have h0' := h0 a b
  have h1' := h1 a b
  have h2' := h1 b a
  unfold txc at h0' h1' h2'
  unfold bothT at hK
  simp only [C_hist_Check_2, RUN_, U_hist_Check_2, FR_, Nat.reducePow, Int.reducePow, Nat.reduceAdd, Nat.reduceSub, Nat.reduceMul, Int.reduceToNat, Nat.reduceLeDiff, Nat.reduceEqDiff, Nat.reduceLT, Nat.reduceGT, Int.reduceGT, Int.reduceGE, Int.reduceLT, Int.reduceLE, Int.reduceEq, Int.reduceAdd, Int.reduceSub, Int.reduceNeg, reduceCtorEq, if_true, if_false, ite_true, ite_false, ne_eq, eq_self, OPK_, KEY_, WR_, CHK_, Nat.reduceBEq, K4_, K5_, K6_, K7_]
  refine h0' _ _ _ ha hb fun G => ?_
  cases e1 : sharesT a b with
  | false =>
    rw [e1] at hK
    simp only [RUN_, U_hist_Check_2, FR_, Nat.reducePow, Int.reducePow, Nat.reduceAdd, Nat.reduceSub, Nat.reduceMul, Int.reduceToNat, Nat.reduceLeDiff, Nat.reduceEqDiff, Nat.reduceLT, Nat.reduceGT, Int.reduceGT, Int.reduceGE, Int.reduceLT, Int.reduceLE, Int.reduceEq, Int.reduceAdd, Int.reduceSub, Int.reduceNeg, reduceCtorEq, if_true, if_false, ite_true, ite_false, ne_eq, eq_self, OPK_, KEY_, WR_, CHK_, Nat.reduceBEq, K4_, K5_, K6_, K7_]
    exact hK _
  | true =>
    simp only [RUN_, U_hist_Check_2, FR_, Nat.reducePow, Int.reducePow, Nat.reduceAdd, Nat.reduceSub, Nat.reduceMul, Int.reduceToNat, Nat.reduceLeDiff, Nat.reduceEqDiff, Nat.reduceLT, Nat.reduceGT, Int.reduceGT, Int.reduceGE, Int.reduceLT, Int.reduceLE, Int.reduceEq, Int.reduceAdd, Int.reduceSub, Int.reduceNeg, reduceCtorEq, if_true, if_false, ite_true, ite_false, ne_eq, eq_self, OPK_, KEY_, WR_, CHK_, Nat.reduceBEq, K4_, K5_, K6_, K7_]
    refine h1' _ _ _ ?_
    cases e2 : beforeT a b with
    | true =>
      rw [e1, e2] at hK
      simp only [RUN_, U_hist_Check_2, FR_, Nat.reducePow, Int.reducePow, Nat.reduceAdd, Nat.reduceSub, Nat.reduceMul, Int.reduceToNat, Nat.reduceLeDiff, Nat.reduceEqDiff, Nat.reduceLT, Nat.reduceGT, Int.reduceGT, Int.reduceGE, Int.reduceLT, Int.reduceLE, Int.reduceEq, Int.reduceAdd, Int.reduceSub, Int.reduceNeg, reduceCtorEq, if_true, if_false, ite_true, ite_false, ne_eq, eq_self, OPK_, KEY_, WR_, CHK_, Nat.reduceBEq, K4_, K5_, K6_, K7_]
      exact hK _
    | false =>
      simp only [RUN_, U_hist_Check_2, FR_, Nat.reducePow, Int.reducePow, Nat.reduceAdd, Nat.reduceSub, Nat.reduceMul, Int.reduceToNat, Nat.reduceLeDiff, Nat.reduceEqDiff, Nat.reduceLT, Nat.reduceGT, Int.reduceGT, Int.reduceGE, Int.reduceLT, Int.reduceLE, Int.reduceEq, Int.reduceAdd, Int.reduceSub, Int.reduceNeg, reduceCtorEq, if_true, if_false, ite_true, ite_false, ne_eq, eq_self, OPK_, KEY_, WR_, CHK_, Nat.reduceBEq, K4_, K5_, K6_, K7_]
      refine h2' _ _ _ ?_
      rw [e1, e2] at hK
      cases e3 : beforeT b a with
      | true =>
        rw [e3] at hK
        simp only [RUN_, U_hist_Check_2, FR_, Nat.reducePow, Int.reducePow, Nat.reduceAdd, Nat.reduceSub, Nat.reduceMul, Int.reduceToNat, Nat.reduceLeDiff, Nat.reduceEqDiff, Nat.reduceLT, Nat.reduceGT, Int.reduceGT, Int.reduceGE, Int.reduceLT, Int.reduceLE, Int.reduceEq, Int.reduceAdd, Int.reduceSub, Int.reduceNeg, reduceCtorEq, if_true, if_false, ite_true, ite_false, ne_eq, eq_self, OPK_, KEY_, WR_, CHK_, Nat.reduceBEq, K4_, K5_, K6_, K7_]
        exact hK _
      | false =>
        rw [e3] at hK
        simp only [RUN_, U_hist_Check_2, FR_, Nat.reducePow, Int.reducePow, Nat.reduceAdd, Nat.reduceSub, Nat.reduceMul, Int.reduceToNat, Nat.reduceLeDiff, Nat.reduceEqDiff, Nat.reduceLT, Nat.reduceGT, Int.reduceGT, Int.reduceGE, Int.reduceLT, Int.reduceLE, Int.reduceEq, Int.reduceAdd, Int.reduceSub, Int.reduceNeg, reduceCtorEq, if_true, if_false, ite_true, ite_false, ne_eq, eq_self, OPK_, KEY_, WR_, CHK_, Nat.reduceBEq, K4_, K5_, K6_, K7_]
        exact hK _

def badRead (l : List Tx) (x : Tx) (r : Wr) : Bool := !(lastR r.key x.writes).2 && !(decide ((valueT l r.key x.snap).1 = r.val) && decide ((valueT l r.key x.snap).2 = r.gone))
def readsF (l0 : List Tx) : List Tx → Nat → Option Nat
  | [], _ => none
  | x :: l, i => if x.reads.any (badRead l0 x) = true then some i else readsF l0 l (i + 1)
def readsA : Option Nat → AV
  | some i => .tup [fltA 4 i (-1), .bool true]
  | none => .tup [fltA 0 0 0, .bool false]
set_option maxHeartbeats 8000000 in
theorem reads_spec {C : CallW} (hC : LeC C C) (P : Program) {c : Nat → FuncId} (h0 : LastS C (c 0)) (h1 : ValueS C (c 1)) : ∀ (l : List Tx) S H (K : AV → St → Prop), l.length ≤ 9223372036854775807 → okT l → (∀ G, K (readsA (readsF l l 0)) ⟨S, H ++ G⟩) → runL C P (C_hist_reads c) [lstT l] ⟨S, H⟩ K := by
  intro l S H K hl hok hK
  have h1' : ∀ (k : Key) (s : Stp) S H (K : AV → St → Prop), l.length ≤ 9223372036854775807 → okT l → (∀ G, K (.tup [.s (.str (valueT l k s).1), .bool (valueT l k s).2]) ⟨S, H ++ G⟩) → C (.fn (c 1)) [.list .sh 8 (l.map txA), .agg (bs k.b), .agg [.s (.int .i64 s.t), u8 s.n]] ⟨S, H⟩ K := h1 l
  simp only [lstT, C_hist_reads, RUN_, U_hist_reads, FR_, Nat.reducePow, Int.reducePow, Nat.reduceAdd, Nat.reduceSub, Nat.reduceMul, Int.reduceToNat, Nat.reduceLeDiff, Nat.reduceEqDiff, Nat.reduceLT, Nat.reduceGT, Int.reduceGT, Int.reduceGE, Int.reduceLT, Int.reduceLE, Int.reduceEq, Int.reduceAdd, Int.reduceSub, Int.reduceNeg, reduceCtorEq, if_true, if_false, ite_true, ite_false, ne_eq, eq_self, OPK_, KEY_, WR_, CHK_, Nat.reduceBEq, K4_, K5_, K6_, K7_]
  refine loop_rule hC (α := Nat × List HObj) (fun a => l.length - a.1) (fun a => [.list .sh 8 (l.map txA), .undef, .ptr (.stk S.length) 0, .undef, .undef, .undef, .undef, .undef, .undef, .undef, .undef, .undef, .list .sh 8 (l.map txA), .s (.int .i64 l.length), .s (.int .i64 a.1), .undef, .undef, .undef, .undef, .undef, .undef, .undef, .undef, .undef, .undef, .undef, .undef, .undef, .undef, .undef, .undef, .undef, .undef, .undef, .undef, .undef, .undef, .undef, .undef, .undef, .undef, .undef, .undef, .undef, .undef, .undef, .undef, .undef, .undef, .undef, .undef, .undef, .undef, .undef, .undef, .undef, .undef, .undef]) (fun a => S ++ [[.i 0, .i 0, .i 0]]) (fun a => H ++ a.2) (fun a => a.1 ≤ l.length ∧ readsF l l 0 = readsF l (l.drop a.1) a.1) (0, []) ⟨by simp, rfl⟩ rfl (by rw [app_take_add]; rfl) (by simp) (fun a _ => by simp [AV.under, AV.under.go]) ?_
  rintro ⟨i, G⟩ ⟨hi, hinv⟩ ih
  dsimp only at hi hinv ih ⊢
  by_cases h16 : i < l.length
  · have hlt : ((i : Int) < (l.length : Int)) := by omega
    have hw : IntKind.i64.wrap ((i : Int) + 1) = (i : Int) + 1 := wrap_i64 (by omega) (by omega)
    rw [List.drop_eq_getElem_cons h16, readsF] at hinv
    have hx := hok _ (List.getElem_mem h16)
    have hxr := hx.2
    have h0' := h0 l[i]
    unfold txc at h0'
    simp only [RUN_, U_hist_reads, FR_, Nat.reducePow, Int.reducePow, Nat.reduceAdd, Nat.reduceSub, Nat.reduceMul, Int.reduceToNat, Nat.reduceLeDiff, Nat.reduceEqDiff, Nat.reduceLT, Nat.reduceGT, Int.reduceGT, Int.reduceGE, Int.reduceLT, Int.reduceLE, Int.reduceEq, Int.reduceAdd, Int.reduceSub, Int.reduceNeg, reduceCtorEq, if_true, if_false, ite_true, ite_false, ne_eq, eq_self, OPK_, KEY_, WR_, CHK_, Nat.reduceBEq, K4_, K5_, K6_, K7_, hlt, h16, hw]
    generalize hrs : (l[i]).reads = rs at *
    refine loop_rule hC (α := Nat × List HObj) (fun a => rs.length - a.1) (fun a => [.list .sh 8 (l.map txA), .undef, .ptr (.stk S.length) 0, .undef, .s (.int .i64 i), .ptr (.stk (S.length + 1)) 0, .undef, .undef, .undef, .undef, .undef, .undef, .list .sh 8 (l.map txA), .s (.int .i64 l.length), .s (.int .i64 i), .undef, .undef, .undef, .undef, .undef, .list .sh 18 (rs.map wA), .s (.int .i64 rs.length), .s (.int .i64 a.1), .undef, .undef, .undef, .undef, .undef, .undef, .undef, .undef, .undef, .undef, .undef, .undef, .undef, .undef, .undef, .undef, .undef, .undef, .undef, .undef, .undef, .undef, .undef, .undef, .undef, .undef, .undef, .undef, .undef, .undef, .undef, .undef, .undef, .undef, .undef]) (fun a => S ++ [[.i 0, .i 0, .i 0], [.s (.int .i64 (l[i]).id), .s (.int .i64 (l[i]).snap.t), u8 (l[i]).snap.n, .s (.int .i64 (l[i]).stamp.t), u8 (l[i]).stamp.n, .s (.bool (l[i]).done), .list .sh 18 (rs.map wA), .list .sh 18 ((l[i]).writes.map wA)]]) (fun a => H ++ a.2) (fun a => a.1 ≤ rs.length ∧ rs.any (badRead l l[i]) = (rs.drop a.1).any (badRead l l[i])) (0, G) ⟨by simp, rfl⟩ rfl (by rw [app_take_add]; rfl) rfl (fun a _ => by simp [AV.under, AV.under.go]) ?_
    rintro ⟨k, G1⟩ ⟨hk, hkinv⟩ ih2
    dsimp only at hk hkinv ih2 ⊢
    by_cases h17 : k < rs.length
    · have hltk : ((k : Int) < (rs.length : Int)) := by omega
      have hwk : IntKind.i64.wrap ((k : Int) + 1) = (k : Int) + 1 := wrap_i64 (by omega) (by omega)
      rw [List.drop_eq_getElem_cons h17, List.any_cons] at hkinv
      simp only [RUN_, U_hist_reads, FR_, Nat.reducePow, Int.reducePow, Nat.reduceAdd, Nat.reduceSub, Nat.reduceMul, Int.reduceToNat, Nat.reduceLeDiff, Nat.reduceEqDiff, Nat.reduceLT, Nat.reduceGT, Int.reduceGT, Int.reduceGE, Int.reduceLT, Int.reduceLE, Int.reduceEq, Int.reduceAdd, Int.reduceSub, Int.reduceNeg, reduceCtorEq, if_true, if_false, ite_true, ite_false, ne_eq, eq_self, OPK_, KEY_, WR_, CHK_, Nat.reduceBEq, K4_, K5_, K6_, K7_, hltk, h17]
      refine h0' _ _ _ _ hx.1 fun G2 => ?_
      cases e1 : (lastR (rs[k]).key (l[i]).writes).2 with
      | true =>
        rw [show badRead l l[i] rs[k] = false by simp [badRead, e1], Bool.false_or] at hkinv
        simp only [RUN_, U_hist_reads, FR_, Nat.reducePow, Int.reducePow, Nat.reduceAdd, Nat.reduceSub, Nat.reduceMul, Int.reduceToNat, Nat.reduceLeDiff, Nat.reduceEqDiff, Nat.reduceLT, Nat.reduceGT, Int.reduceGT, Int.reduceGE, Int.reduceLT, Int.reduceLE, Int.reduceEq, Int.reduceAdd, Int.reduceSub, Int.reduceNeg, reduceCtorEq, if_true, if_false, ite_true, ite_false, ne_eq, eq_self, OPK_, KEY_, WR_, CHK_, Nat.reduceBEq, K4_, K5_, K6_, K7_, hwk]
        exact ih2 (k + 1, G1 ++ G2) _ _ _ (by simp; omega) ⟨by simp; omega, hkinv⟩ rfl (by rw [app_take_add]; rfl) (by simp)
      | false =>
        simp only [RUN_, U_hist_reads, FR_, Nat.reducePow, Int.reducePow, Nat.reduceAdd, Nat.reduceSub, Nat.reduceMul, Int.reduceToNat, Nat.reduceLeDiff, Nat.reduceEqDiff, Nat.reduceLT, Nat.reduceGT, Int.reduceGT, Int.reduceGE, Int.reduceLT, Int.reduceLE, Int.reduceEq, Int.reduceAdd, Int.reduceSub, Int.reduceNeg, reduceCtorEq, if_true, if_false, ite_true, ite_false, ne_eq, eq_self, OPK_, KEY_, WR_, CHK_, Nat.reduceBEq, K4_, K5_, K6_, K7_]
        refine h1' _ (l[i]).snap _ _ _ hl hok fun G3 => ?_
        by_cases e2 : (valueT l (rs[k]).key (l[i]).snap).1 = (rs[k]).val
        · have e2' := eq_true e2
          by_cases e3 : (valueT l (rs[k]).key (l[i]).snap).2 = (rs[k]).gone
          · have e3' := eq_true e3
            rw [show badRead l l[i] rs[k] = false by simp [badRead, e1, e2, e3], Bool.false_or] at hkinv
            simp only [RUN_, U_hist_reads, FR_, Nat.reducePow, Int.reducePow, Nat.reduceAdd, Nat.reduceSub, Nat.reduceMul, Int.reduceToNat, Nat.reduceLeDiff, Nat.reduceEqDiff, Nat.reduceLT, Nat.reduceGT, Int.reduceGT, Int.reduceGE, Int.reduceLT, Int.reduceLE, Int.reduceEq, Int.reduceAdd, Int.reduceSub, Int.reduceNeg, reduceCtorEq, if_true, if_false, ite_true, ite_false, ne_eq, eq_self, OPK_, KEY_, WR_, CHK_, Nat.reduceBEq, K4_, K5_, K6_, K7_, e2', e3', hwk]
            exact ih2 (k + 1, G1 ++ (G2 ++ G3)) _ _ _ (by simp; omega) ⟨by simp; omega, hkinv⟩ rfl (by rw [app_take_add]; rfl) (by simp)
          · rw [show badRead l l[i] rs[k] = true by simp [badRead, e1, e2, e3], Bool.true_or] at hkinv
            rw [if_pos hkinv] at hinv
            rw [hinv] at hK
            simp only [RUN_, U_hist_reads, FR_, Nat.reducePow, Int.reducePow, Nat.reduceAdd, Nat.reduceSub, Nat.reduceMul, Int.reduceToNat, Nat.reduceLeDiff, Nat.reduceEqDiff, Nat.reduceLT, Nat.reduceGT, Int.reduceGT, Int.reduceGE, Int.reduceLT, Int.reduceLE, Int.reduceEq, Int.reduceAdd, Int.reduceSub, Int.reduceNeg, reduceCtorEq, if_true, if_false, ite_true, ite_false, ne_eq, eq_self, OPK_, KEY_, WR_, CHK_, Nat.reduceBEq, K4_, K5_, K6_, K7_, e2', e3]
            exact hK _
        · rw [show badRead l l[i] rs[k] = true by simp [badRead, e1, e2], Bool.true_or] at hkinv
          rw [if_pos hkinv] at hinv
          rw [hinv] at hK
          simp only [RUN_, U_hist_reads, FR_, Nat.reducePow, Int.reducePow, Nat.reduceAdd, Nat.reduceSub, Nat.reduceMul, Int.reduceToNat, Nat.reduceLeDiff, Nat.reduceEqDiff, Nat.reduceLT, Nat.reduceGT, Int.reduceGT, Int.reduceGE, Int.reduceLT, Int.reduceLE, Int.reduceEq, Int.reduceAdd, Int.reduceSub, Int.reduceNeg, reduceCtorEq, if_true, if_false, ite_true, ite_false, ne_eq, eq_self, OPK_, KEY_, WR_, CHK_, Nat.reduceBEq, K4_, K5_, K6_, K7_, e2]
          exact hK _
    · have hltk : ¬ ((k : Int) < (rs.length : Int)) := by omega
      rw [List.drop_of_length_le (by omega)] at hkinv
      rw [hkinv, if_neg (by simp)] at hinv
      simp only [RUN_, U_hist_reads, FR_, Nat.reducePow, Int.reducePow, Nat.reduceAdd, Nat.reduceSub, Nat.reduceMul, Int.reduceToNat, Nat.reduceLeDiff, Nat.reduceEqDiff, Nat.reduceLT, Nat.reduceGT, Int.reduceGT, Int.reduceGE, Int.reduceLT, Int.reduceLE, Int.reduceEq, Int.reduceAdd, Int.reduceSub, Int.reduceNeg, reduceCtorEq, if_true, if_false, ite_true, ite_false, ne_eq, eq_self, OPK_, KEY_, WR_, CHK_, Nat.reduceBEq, K4_, K5_, K6_, K7_, hltk, hw]
      exact ih (i + 1, G1) _ _ _ (by simp; omega) ⟨by simp; omega, hinv⟩ rfl (by rw [app_take_add]; rfl) rfl
  · have hlt : ¬ ((i : Int) < (l.length : Int)) := by omega
    rw [List.drop_of_length_le (by omega)] at hinv
    rw [hinv] at hK
    simp only [RUN_, U_hist_reads, FR_, Nat.reducePow, Int.reducePow, Nat.reduceAdd, Nat.reduceSub, Nat.reduceMul, Int.reduceToNat, Nat.reduceLeDiff, Nat.reduceEqDiff, Nat.reduceLT, Nat.reduceGT, Int.reduceGT, Int.reduceGE, Int.reduceLT, Int.reduceLE, Int.reduceEq, Int.reduceAdd, Int.reduceSub, Int.reduceNeg, reduceCtorEq, if_true, if_false, ite_true, ite_false, ne_eq, eq_self, OPK_, KEY_, WR_, CHK_, Nat.reduceBEq, K4_, K5_, K6_, K7_, hlt]
    exact hK _

/-- The first fault. -/
def checkT (l : List Tx) : Int × Int × Int :=
  match aloneF l 0 with
  | some i => (1, (i : Int), -1)
  | none => match pairF alikeT l 0 with
    | some p => (2, (p.1 : Int), (p.2 : Int))
    | none => match pairF bothT l 0 with
      | some p => (3, (p.1 : Int), (p.2 : Int))
      | none => match readsF l l 0 with
        | some i => (4, (i : Int), -1)
        | none => (0, -1, -1)
def ReadsS (C : CallW) (f : FuncId) : Prop := ∀ (l : List Tx) S H (K : AV → St → Prop), l.length ≤ 9223372036854775807 → okT l → (∀ G, K (readsA (readsF l l 0)) ⟨S, H ++ G⟩) → C (.fn f) [lstT l] ⟨S, H⟩ K
set_option maxHeartbeats 4000000 in
theorem Check_spec {C : CallW} (P : Program) {c : Nat → FuncId} (h0 : AloneS C (c 0)) (h1 : PairS C (c 1)) (h2 : TwoT alikeT C (c 2)) (h3 : TwoT bothT C (c 3)) (h4 : ReadsS C (c 4)) : ∀ (l : List Tx) S H (K : AV → St → Prop), l.length < 9223372036854775807 → okT l → (∀ G, K (fltA (checkT l).1 (checkT l).2.1 (checkT l).2.2) ⟨S, H ++ G⟩) → runL C P (C_hist_Check c) [lstT l] ⟨S, H⟩ K := by
  intro l S H K hl hok hK
  unfold fltA at hK
  have h0' := h0 l
  have h1' := h1 l
  have h4' := h4 l
  unfold lstT at h0' h1' h4'
  simp only [lstT, C_hist_Check, RUN_, U_hist_Check, FR_, Nat.reducePow, Int.reducePow, Nat.reduceAdd, Nat.reduceSub, Nat.reduceMul, Int.reduceToNat, Nat.reduceLeDiff, Nat.reduceEqDiff, Nat.reduceLT, Nat.reduceGT, Int.reduceGT, Int.reduceGE, Int.reduceLT, Int.reduceLE, Int.reduceEq, Int.reduceAdd, Int.reduceSub, Int.reduceNeg, reduceCtorEq, if_true, if_false, ite_true, ite_false, ne_eq, eq_self, OPK_, KEY_, WR_, CHK_, Nat.reduceBEq, K4_, K5_, K6_, K7_]
  refine h0' _ _ _ (by omega) ?_
  unfold checkT at hK
  cases e1 : aloneF l 0 with
  | some i =>
    rw [e1] at hK
    dsimp only at hK
    simp only [aloneA, fltA, RUN_, U_hist_Check, FR_, Nat.reducePow, Int.reducePow, Nat.reduceAdd, Nat.reduceSub, Nat.reduceMul, Int.reduceToNat, Nat.reduceLeDiff, Nat.reduceEqDiff, Nat.reduceLT, Nat.reduceGT, Int.reduceGT, Int.reduceGE, Int.reduceLT, Int.reduceLE, Int.reduceEq, Int.reduceAdd, Int.reduceSub, Int.reduceNeg, reduceCtorEq, if_true, if_false, ite_true, ite_false, ne_eq, eq_self, OPK_, KEY_, WR_, CHK_, Nat.reduceBEq, K4_, K5_, K6_, K7_]
    have := hK []
    rw [List.append_nil] at this
    exact this
  | none =>
    rw [e1] at hK
    dsimp only at hK
    simp only [aloneA, fltA, RUN_, U_hist_Check, FR_, Nat.reducePow, Int.reducePow, Nat.reduceAdd, Nat.reduceSub, Nat.reduceMul, Int.reduceToNat, Nat.reduceLeDiff, Nat.reduceEqDiff, Nat.reduceLT, Nat.reduceGT, Int.reduceGT, Int.reduceGE, Int.reduceLT, Int.reduceLE, Int.reduceEq, Int.reduceAdd, Int.reduceSub, Int.reduceNeg, reduceCtorEq, if_true, if_false, ite_true, ite_false, ne_eq, eq_self, OPK_, KEY_, WR_, CHK_, Nat.reduceBEq, K4_, K5_, K6_, K7_]
    refine h1' _ _ alikeT _ _ _ hl hok h2 fun G => ?_
    cases e2 : pairF alikeT l 0 with
    | some p =>
      obtain ⟨i, k⟩ := p
      rw [e2] at hK
      dsimp only at hK
      simp only [pairA, fltA, RUN_, U_hist_Check, FR_, Nat.reducePow, Int.reducePow, Nat.reduceAdd, Nat.reduceSub, Nat.reduceMul, Int.reduceToNat, Nat.reduceLeDiff, Nat.reduceEqDiff, Nat.reduceLT, Nat.reduceGT, Int.reduceGT, Int.reduceGE, Int.reduceLT, Int.reduceLE, Int.reduceEq, Int.reduceAdd, Int.reduceSub, Int.reduceNeg, reduceCtorEq, if_true, if_false, ite_true, ite_false, ne_eq, eq_self, OPK_, KEY_, WR_, CHK_, Nat.reduceBEq, K4_, K5_, K6_, K7_]
      exact hK _
    | none =>
      rw [e2] at hK
      dsimp only at hK
      simp only [pairA, fltA, RUN_, U_hist_Check, FR_, Nat.reducePow, Int.reducePow, Nat.reduceAdd, Nat.reduceSub, Nat.reduceMul, Int.reduceToNat, Nat.reduceLeDiff, Nat.reduceEqDiff, Nat.reduceLT, Nat.reduceGT, Int.reduceGT, Int.reduceGE, Int.reduceLT, Int.reduceLE, Int.reduceEq, Int.reduceAdd, Int.reduceSub, Int.reduceNeg, reduceCtorEq, if_true, if_false, ite_true, ite_false, ne_eq, eq_self, OPK_, KEY_, WR_, CHK_, Nat.reduceBEq, K4_, K5_, K6_, K7_]
      refine h1' _ _ bothT _ _ _ hl hok h3 fun G2 => ?_
      cases e3 : pairF bothT l 0 with
      | some p =>
        obtain ⟨i, k⟩ := p
        rw [e3] at hK
        dsimp only at hK
        simp only [pairA, fltA, RUN_, U_hist_Check, FR_, Nat.reducePow, Int.reducePow, Nat.reduceAdd, Nat.reduceSub, Nat.reduceMul, Int.reduceToNat, Nat.reduceLeDiff, Nat.reduceEqDiff, Nat.reduceLT, Nat.reduceGT, Int.reduceGT, Int.reduceGE, Int.reduceLT, Int.reduceLE, Int.reduceEq, Int.reduceAdd, Int.reduceSub, Int.reduceNeg, reduceCtorEq, if_true, if_false, ite_true, ite_false, ne_eq, eq_self, OPK_, KEY_, WR_, CHK_, Nat.reduceBEq, K4_, K5_, K6_, K7_]
        exact hK _
      | none =>
        rw [e3] at hK
        dsimp only at hK
        simp only [pairA, fltA, RUN_, U_hist_Check, FR_, Nat.reducePow, Int.reducePow, Nat.reduceAdd, Nat.reduceSub, Nat.reduceMul, Int.reduceToNat, Nat.reduceLeDiff, Nat.reduceEqDiff, Nat.reduceLT, Nat.reduceGT, Int.reduceGT, Int.reduceGE, Int.reduceLT, Int.reduceLE, Int.reduceEq, Int.reduceAdd, Int.reduceSub, Int.reduceNeg, reduceCtorEq, if_true, if_false, ite_true, ite_false, ne_eq, eq_self, OPK_, KEY_, WR_, CHK_, Nat.reduceBEq, K4_, K5_, K6_, K7_]
        refine h4' _ _ _ (by omega) hok fun G3 => ?_
        cases e4 : readsF l l 0 with
        | some i =>
          rw [e4] at hK
          dsimp only at hK
          simp only [readsA, fltA, RUN_, U_hist_Check, FR_, Nat.reducePow, Int.reducePow, Nat.reduceAdd, Nat.reduceSub, Nat.reduceMul, Int.reduceToNat, Nat.reduceLeDiff, Nat.reduceEqDiff, Nat.reduceLT, Nat.reduceGT, Int.reduceGT, Int.reduceGE, Int.reduceLT, Int.reduceLE, Int.reduceEq, Int.reduceAdd, Int.reduceSub, Int.reduceNeg, reduceCtorEq, if_true, if_false, ite_true, ite_false, ne_eq, eq_self, OPK_, KEY_, WR_, CHK_, Nat.reduceBEq, K4_, K5_, K6_, K7_]
          exact hK _
        | none =>
          rw [e4] at hK
          dsimp only at hK
          simp only [readsA, fltA, RUN_, U_hist_Check, FR_, Nat.reducePow, Int.reducePow, Nat.reduceAdd, Nat.reduceSub, Nat.reduceMul, Int.reduceToNat, Nat.reduceLeDiff, Nat.reduceEqDiff, Nat.reduceLT, Nat.reduceGT, Int.reduceGT, Int.reduceGE, Int.reduceLT, Int.reduceLE, Int.reduceEq, Int.reduceAdd, Int.reduceSub, Int.reduceNeg, reduceCtorEq, if_true, if_false, ite_true, ite_false, ne_eq, eq_self, OPK_, KEY_, WR_, CHK_, Nat.reduceBEq, K4_, K5_, K6_, K7_]
          exact hK _
end Go.AM
/-! What chapter 24's faults hang on: plain law. -/
namespace Go.AM
open Go
set_option linter.unusedVariables false

theorem lastR_iff {k : Key} : ∀ {ws : List Wr}, (lastR k ws).2 = true ↔ ∃ w ∈ ws, w.key = k
  | [] => by simp [lastR]
  | w :: ws => by
    simp only [lastR, List.mem_cons, exists_eq_or_imp]
    by_cases h : (lastR k ws).2 = true
    · rw [if_pos h]; simp only [h, true_iff]; exact .inr (lastR_iff.1 h)
    · rw [if_neg h]
      by_cases hk : w.key = k
      · rw [if_pos hk]; simp [hk]
      · rw [if_neg hk]; simp only [Bool.false_eq_true, hk, false_or, false_iff]; exact fun k => h (lastR_iff.2 k)
/-! what a key was -/
end Go.AM
namespace Go.AM
open Go
set_option maxRecDepth 20000
set_option linter.unusedSimpArgs false
end Go.AM
/-! Keys: what the functions of key and of hourglassref10 answer. -/
namespace Go.AM
open Go
set_option maxRecDepth 20000
set_option linter.unusedSimpArgs false
set_option linter.unusedVariables false

/-- A text as a key's bytes. -/
def padB (s : List UInt8) : List UInt8 := s.take 16 ++ List.replicate (16 - s.length) 0
def padK (s : List UInt8) : Key := ⟨padB s, by simp [padB]; omega⟩
def badT (s : List UInt8) : Prop := s = [] ∨ 16 < s.length ∨ (0 : UInt8) ∈ s
instance (s : List UInt8) : Decidable (badT s) := inferInstanceAs (Decidable (_ ∨ _))
def keyOf (s : List UInt8) : Key × Int := if badT s then (key0, 1) else (padK s, 0)

end Go.AM
namespace Go.AM
open Go
set_option maxRecDepth 20000
set_option linter.unusedSimpArgs false
set_option linter.unusedVariables false

/-! hourglassref10 -/
theorem wrap_succ {i : Nat} (h : i < 4611686018427387904) : IntKind.i64.wrap ((i : Int) + 1) = ((i + 1 : Nat) : Int) := by rw [wrap_i64 (by omega) (by omega)]; rfl
theorem u8_zero {x : UInt8} : ((x.toNat : Int) = 0) ↔ x = 0 := ⟨fun h => UInt8.toNat_inj.1 (by simp; omega), fun h => by subst h; rfl⟩

end Go.AM
namespace Go.AM
open Go
set_option maxRecDepth 20000
set_option linter.unusedSimpArgs false
set_option linter.unusedVariables false

end Go.AM
namespace Go.AM
open Go
set_option maxRecDepth 20000
set_option linter.unusedSimpArgs false
set_option linter.unusedVariables false

end Go.AM
namespace Go.AM
open Go
set_option maxRecDepth 20000
set_option linter.unusedSimpArgs false
set_option linter.unusedVariables false

theorem pad_set {s : List UInt8} {i : Nat} (h : i < s.length) (hs : s.length ≤ 16) : (bs (padB (s.take i))).set i (u8 s[i]) = bs (padB (s.take (i + 1))) := by
  have e : ∀ (t : List UInt8), t.length ≤ 16 → padB t = t ++ List.replicate (16 - t.length) 0 := fun t ht => by unfold padB; rw [List.take_of_length_le ht]
  rw [e _ (by simp; omega), e _ (by simp; omega)]
  have h1 : (s.take i).length = i := by simp; omega
  have h2 : (s.take (i + 1)).length = i + 1 := by simp; omega
  rw [h1, h2, show 16 - i = (16 - (i + 1)) + 1 by omega, List.replicate_succ]
  simp only [bs, List.map_append, List.map_cons]
  rw [List.set_append_right _ _ (by rw [List.length_map, h1]; exact Nat.le_refl _)]
  simp only [List.length_map, h1, Nat.sub_self, List.set_cons_zero]
  rw [List.take_succ_eq_append_getElem h]
  simp only [List.map_append, List.map_cons, List.map_nil, List.append_assoc, List.cons_append, List.nil_append]

def OfR (C : CallW) (f : FuncId) : Prop := ∀ (s : List UInt8) (S : List (List AV)) (H : List HObj) (K : AV → St → Prop), K (.tup [.agg (bs (keyOf s).1.b), .bool (decide ((keyOf s).2 = 0))]) ⟨S, H⟩ → C (.fn f) [.s (.str s)] ⟨S, H⟩ K

set_option maxHeartbeats 2000000 in
theorem ref10_Of_spec {C : CallW} (hC : LeC C C) (P : Program) : ∀ (s : List UInt8) (S : List (List AV)) (H : List HObj) (K : AV → St → Prop), K (.tup [.agg (bs (keyOf s).1.b), .bool (decide ((keyOf s).2 = 0))]) ⟨S, H⟩ → runL C P C_hourglassref10_Of [.s (.str s)] ⟨S, H⟩ K := by
  intro s S H K hK
  have key0l : (bs key0.b).length = 16 := rfl
  have bad : badT s → K (.tup [.agg (bs key0.b), .bool false]) ⟨S, H⟩ := fun h => by
    rw [show keyOf s = (key0, 1) from if_pos h] at hK; exact hK
  by_cases h0 : s.length < 1
  · have h0' : ((s.length : Int) < 1) := by omega
    simp only [C_hourglassref10_Of, RUN_, u_C_hourglassref10_Of_k1, u_C_hourglassref10_Of_k2, u_C_hourglassref10_Of_k3, u_C_hourglassref10_Of_k4, u_C_hourglassref10_Of_k5, u_C_hourglassref10_Of_k6, u_C_hourglassref10_Of_k7, u_C_hourglassref10_Of_k8, u_C_hourglassref10_Of_k9, u_C_hourglassref10_Of_k10, FR_, Nat.reducePow, Int.reducePow, Nat.reduceAdd, Nat.reduceSub, Nat.reduceMul, Int.reduceToNat, Nat.reduceLeDiff, Nat.reduceEqDiff, Nat.reduceLT, Nat.reduceGT, Int.reduceGT, Int.reduceGE, Int.reduceLT, Int.reduceLE, Int.reduceEq, Int.reduceAdd, Int.reduceSub, Int.reduceNeg, reduceCtorEq, if_true, if_false, ite_true, ite_false, ne_eq, eq_self, OPK_, KEY_, h0']
    exact bad (.inl (List.length_eq_zero_iff.1 (by omega)))
  · have h0' : ¬ ((s.length : Int) < 1) := by omega
    by_cases h1 : 16 < s.length
    · have h1' : (16 : Int) < (s.length : Int) := by omega
      simp only [C_hourglassref10_Of, RUN_, u_C_hourglassref10_Of_k1, u_C_hourglassref10_Of_k2, u_C_hourglassref10_Of_k3, u_C_hourglassref10_Of_k4, u_C_hourglassref10_Of_k5, u_C_hourglassref10_Of_k6, u_C_hourglassref10_Of_k7, u_C_hourglassref10_Of_k8, u_C_hourglassref10_Of_k9, u_C_hourglassref10_Of_k10, FR_, Nat.reducePow, Int.reducePow, Nat.reduceAdd, Nat.reduceSub, Nat.reduceMul, Int.reduceToNat, Nat.reduceLeDiff, Nat.reduceEqDiff, Nat.reduceLT, Nat.reduceGT, Int.reduceGT, Int.reduceGE, Int.reduceLT, Int.reduceLE, Int.reduceEq, Int.reduceAdd, Int.reduceSub, Int.reduceNeg, reduceCtorEq, if_true, if_false, ite_true, ite_false, ne_eq, eq_self, OPK_, KEY_, h0', h1']
      exact bad (.inr (.inl h1))
    · have h1' : ¬ ((16 : Int) < (s.length : Int)) := by omega
      simp only [C_hourglassref10_Of, RUN_, u_C_hourglassref10_Of_k1, u_C_hourglassref10_Of_k2, u_C_hourglassref10_Of_k3, u_C_hourglassref10_Of_k4, u_C_hourglassref10_Of_k5, u_C_hourglassref10_Of_k6, u_C_hourglassref10_Of_k7, u_C_hourglassref10_Of_k8, u_C_hourglassref10_Of_k9, u_C_hourglassref10_Of_k10, FR_, Nat.reducePow, Int.reducePow, Nat.reduceAdd, Nat.reduceSub, Nat.reduceMul, Int.reduceToNat, Nat.reduceLeDiff, Nat.reduceEqDiff, Nat.reduceLT, Nat.reduceGT, Int.reduceGT, Int.reduceGE, Int.reduceLT, Int.reduceLE, Int.reduceEq, Int.reduceAdd, Int.reduceSub, Int.reduceNeg, reduceCtorEq, if_true, if_false, ite_true, ite_false, ne_eq, eq_self, OPK_, KEY_, h0', h1']
      refine loop_rule hC (α := Nat) (fun a => s.length - a) (fun a => [.s (.str s), .undef, .ptr (.stk S.length) 0, .undef, .ptr (.stk (S.length + 1)) 0, .s (.int .i64 a), .undef, .undef, .undef, .undef, .undef, .undef, .undef, .undef, .undef, .undef, .undef, .undef, .undef, .undef, .undef, .undef, .undef, .undef, .undef, .undef, .undef, .undef, .undef, .undef, .undef, .undef, .undef]) (fun a => S ++ [bs key0.b, bs (padB (s.take a))]) (fun _ => H) (fun i => i ≤ s.length ∧ ∀ j, (hj : j < i) → (hj' : j < s.length) → s[j] ≠ 0) 0 ⟨by simp, fun j hj => by omega⟩ rfl (by rw [app_take_add]; rfl) rfl (fun i hi => by simp [AV.under, AV.under.go]) ?_
      rintro i ⟨hi, hall⟩ ih
      have hpl : ∀ t, (bs (padB t)).length = 16 := fun t => by rw [bs_length]; exact (padK t).h
      by_cases h16 : i < s.length
      · have hlt : ((i : Int) < (s.length : Int)) := by omega
        have h16' : ((i : Int) < 16) := by omega
        have hge : (0 : Int) ≤ (i : Int) := by omega
        have hw := wrap_succ (i := i) (by omega)
        have hg : s.getD i 0 = s[i] := by simp [List.getD, h16]
        by_cases hz : s[i] = 0
        · simp only [RUN_, u_C_hourglassref10_Of_k1, u_C_hourglassref10_Of_k2, u_C_hourglassref10_Of_k3, u_C_hourglassref10_Of_k4, u_C_hourglassref10_Of_k5, u_C_hourglassref10_Of_k6, u_C_hourglassref10_Of_k7, u_C_hourglassref10_Of_k8, u_C_hourglassref10_Of_k9, u_C_hourglassref10_Of_k10, FR_, Nat.reducePow, Int.reducePow, Nat.reduceAdd, Nat.reduceSub, Nat.reduceMul, Int.reduceToNat, Nat.reduceLeDiff, Nat.reduceEqDiff, Nat.reduceLT, Nat.reduceGT, Int.reduceGT, Int.reduceGE, Int.reduceLT, Int.reduceLE, Int.reduceEq, Int.reduceAdd, Int.reduceSub, Int.reduceNeg, reduceCtorEq, if_true, if_false, ite_true, ite_false, ne_eq, eq_self, OPK_, KEY_, hlt, hge, hg, hz, UInt8.toNat_zero, hpl]
          exact bad (.inr (.inr (hz ▸ List.getElem_mem h16)))
        · have hz' : ¬ (((s[i]).toNat : Int) = 0) := fun e => hz (u8_zero.1 e)
          have hps := pad_set h16 (by omega)
          have hi16 : i < 16 := by omega
          unfold u8 at hps
          simp only [RUN_, u_C_hourglassref10_Of_k1, u_C_hourglassref10_Of_k2, u_C_hourglassref10_Of_k3, u_C_hourglassref10_Of_k4, u_C_hourglassref10_Of_k5, u_C_hourglassref10_Of_k6, u_C_hourglassref10_Of_k7, u_C_hourglassref10_Of_k8, u_C_hourglassref10_Of_k9, u_C_hourglassref10_Of_k10, FR_, Nat.reducePow, Int.reducePow, Nat.reduceAdd, Nat.reduceSub, Nat.reduceMul, Int.reduceToNat, Nat.reduceLeDiff, Nat.reduceEqDiff, Nat.reduceLT, Nat.reduceGT, Int.reduceGT, Int.reduceGE, Int.reduceLT, Int.reduceLE, Int.reduceEq, Int.reduceAdd, Int.reduceSub, Int.reduceNeg, reduceCtorEq, if_true, if_false, ite_true, ite_false, ne_eq, eq_self, OPK_, KEY_, hlt, hge, hg, hz', hpl, indexAddrL, h16', hw, Nat.mul_one, hi16, hps]
          exact ih (i + 1) _ _ _ (by omega) ⟨by omega, fun j hj hj' => by
            rcases Nat.lt_or_ge j i with h | h
            · exact hall j h hj'
            · have : j = i := by omega
              subst this; exact hz⟩ rfl (app_take_add _ _ _) rfl
      · have hlt : ¬ ((i : Int) < (s.length : Int)) := by omega
        have hnb : ¬ badT s := by
          rintro (h | h | h)
          · rw [h] at h0; exact h0 (by simp)
          · exact h1 h
          · obtain ⟨j, hj, e⟩ := List.getElem_of_mem h
            exact hall j (by omega) hj e
        have hp : padB (s.take i) = padB s := by rw [List.take_of_length_le (by omega)]
        rw [show keyOf s = (padK s, 0) from if_neg hnb] at hK
        have e2 : (bs (padB s)).take 16 = bs (padB s) := List.take_of_length_le (by rw [hpl]; omega)
        simp only [RUN_, u_C_hourglassref10_Of_k1, u_C_hourglassref10_Of_k2, u_C_hourglassref10_Of_k3, u_C_hourglassref10_Of_k4, u_C_hourglassref10_Of_k5, u_C_hourglassref10_Of_k6, u_C_hourglassref10_Of_k7, u_C_hourglassref10_Of_k8, u_C_hourglassref10_Of_k9, u_C_hourglassref10_Of_k10, FR_, Nat.reducePow, Int.reducePow, Nat.reduceAdd, Nat.reduceSub, Nat.reduceMul, Int.reduceToNat, Nat.reduceLeDiff, Nat.reduceEqDiff, Nat.reduceLT, Nat.reduceGT, Int.reduceGT, Int.reduceGE, Int.reduceLT, Int.reduceLE, Int.reduceEq, Int.reduceAdd, Int.reduceSub, Int.reduceNeg, reduceCtorEq, if_true, if_false, ite_true, ite_false, ne_eq, eq_self, OPK_, KEY_, hlt, hp, hpl, e2]
        exact hK

def kS (C : CallW) (f : FuncId) : Prop := ∀ (s : List UInt8) (S : List (List AV)) (H : List HObj) (K : AV → St → Prop), K (.agg (bs (keyOf s).1.b)) ⟨S, H⟩ → C (.fn f) [.s (.str s)] ⟨S, H⟩ K

end Go.AM
namespace Go.AM
open Go
set_option maxRecDepth 20000
set_option linter.unusedSimpArgs false
set_option linter.unusedVariables false

theorem law24_k_spec {C : CallW} (P : Program) {c : Nat → FuncId} (hf : OfR C (c 0)) : ∀ (s : List UInt8) (S : List (List AV)) (H : List HObj) (K : AV → St → Prop), K (.agg (bs (keyOf s).1.b)) ⟨S, H⟩ → runL C P (C_hourglasslaw24_k c) [.s (.str s)] ⟨S, H⟩ K := by
  intro s S H K hK
  simp only [C_hourglasslaw24_k, RUN_, U_hourglasslaw24_k, FR_, Nat.reducePow, Int.reducePow, Nat.reduceAdd, Nat.reduceSub, Nat.reduceMul, Int.reduceToNat, Nat.reduceLeDiff, Nat.reduceEqDiff, Nat.reduceLT, Nat.reduceGT, Int.reduceGT, Int.reduceGE, Int.reduceLT, Int.reduceLE, Int.reduceEq, Int.reduceAdd, Int.reduceSub, Int.reduceNeg, reduceCtorEq, if_true, if_false, ite_true, ite_false, ne_eq, eq_self, OPK_, KEY_, WR_, CHK_, Nat.reduceBEq, K4_, K5_, K6_, K7_]
  refine hf _ _ _ _ ?_
  simp only [RUN_, U_hourglasslaw24_k, FR_, Nat.reducePow, Int.reducePow, Nat.reduceAdd, Nat.reduceSub, Nat.reduceMul, Int.reduceToNat, Nat.reduceLeDiff, Nat.reduceEqDiff, Nat.reduceLT, Nat.reduceGT, Int.reduceGT, Int.reduceGE, Int.reduceLT, Int.reduceLE, Int.reduceEq, Int.reduceAdd, Int.reduceSub, Int.reduceNeg, reduceCtorEq, if_true, if_false, ite_true, ite_false, ne_eq, eq_self, OPK_, KEY_, WR_, CHK_, Nat.reduceBEq, K4_, K5_, K6_, K7_]
  exact hK
def AtS (C : CallW) (f : FuncId) : Prop := ∀ t : Int, FnS C f [.s (.int .i64 t)] (.agg (stc ⟨t, 0⟩))
theorem law24_at_spec {C : CallW} (P : Program) : ∀ (t : Int) S H (K : AV → St → Prop), K (.agg (stc ⟨t, 0⟩)) ⟨S, H⟩ → runL C P C_hourglasslaw24_at [.s (.int .i64 t)] ⟨S, H⟩ K := by
  intro t S H K hK
  simp only [C_hourglasslaw24_at, RUN_, U_hourglasslaw24_at, FR_, Nat.reducePow, Int.reducePow, Nat.reduceAdd, Nat.reduceSub, Nat.reduceMul, Int.reduceToNat, Nat.reduceLeDiff, Nat.reduceEqDiff, Nat.reduceLT, Nat.reduceGT, Int.reduceGT, Int.reduceGE, Int.reduceLT, Int.reduceLE, Int.reduceEq, Int.reduceAdd, Int.reduceSub, Int.reduceNeg, reduceCtorEq, if_true, if_false, ite_true, ite_false, ne_eq, eq_self, OPK_, KEY_, WR_, CHK_, Nat.reduceBEq, K4_, K5_, K6_, K7_]
  exact hK
def ofT (id snap t : Int) (s v : List UInt8) : Tx := ⟨id, ⟨snap, 0⟩, ⟨t, 0⟩, true, [], [⟨(keyOf s).1, v, false⟩]⟩
def ofV (id snap t : Int) (s v : List UInt8) : AV := .agg [.s (.int .i64 id), .s (.int .i64 snap), u8 0, .s (.int .i64 t), u8 0, .s (.bool true), .s .nilS, .list .full 18 [.agg (wc ⟨(keyOf s).1, v, false⟩)]]
theorem law24_of_spec {C : CallW} (P : Program) {c : Nat → FuncId} (h0 : AtS C (c 0)) (h1 : kS C (c 1)) : ∀ (id snap t : Int) (s v : List UInt8) S H (K : AV → St → Prop), K (ofV id snap t s v) ⟨S, H⟩ → runL C P (C_hourglasslaw24_of c) [.s (.int .i64 id), .s (.int .i64 snap), .s (.int .i64 t), .s (.str s), .s (.str v)] ⟨S, H⟩ K := by
  intro id snap t s v S H K hK
  simp only [C_hourglasslaw24_of, RUN_, U_hourglasslaw24_of, FR_, Nat.reducePow, Int.reducePow, Nat.reduceAdd, Nat.reduceSub, Nat.reduceMul, Int.reduceToNat, Nat.reduceLeDiff, Nat.reduceEqDiff, Nat.reduceLT, Nat.reduceGT, Int.reduceGT, Int.reduceGE, Int.reduceLT, Int.reduceLE, Int.reduceEq, Int.reduceAdd, Int.reduceSub, Int.reduceNeg, reduceCtorEq, if_true, if_false, ite_true, ite_false, ne_eq, eq_self, OPK_, KEY_, WR_, CHK_, Nat.reduceBEq, K4_, K5_, K6_, K7_]
  refine h0 _ _ _ _ ?_
  simp only [RUN_, U_hourglasslaw24_of, FR_, Nat.reducePow, Int.reducePow, Nat.reduceAdd, Nat.reduceSub, Nat.reduceMul, Int.reduceToNat, Nat.reduceLeDiff, Nat.reduceEqDiff, Nat.reduceLT, Nat.reduceGT, Int.reduceGT, Int.reduceGE, Int.reduceLT, Int.reduceLE, Int.reduceEq, Int.reduceAdd, Int.reduceSub, Int.reduceNeg, reduceCtorEq, if_true, if_false, ite_true, ite_false, ne_eq, eq_self, OPK_, KEY_, WR_, CHK_, Nat.reduceBEq, K4_, K5_, K6_, K7_]
  refine h0 _ _ _ _ ?_
  simp only [RUN_, U_hourglasslaw24_of, FR_, Nat.reducePow, Int.reducePow, Nat.reduceAdd, Nat.reduceSub, Nat.reduceMul, Int.reduceToNat, Nat.reduceLeDiff, Nat.reduceEqDiff, Nat.reduceLT, Nat.reduceGT, Int.reduceGT, Int.reduceGE, Int.reduceLT, Int.reduceLE, Int.reduceEq, Int.reduceAdd, Int.reduceSub, Int.reduceNeg, reduceCtorEq, if_true, if_false, ite_true, ite_false, ne_eq, eq_self, OPK_, KEY_, WR_, CHK_, Nat.reduceBEq, K4_, K5_, K6_, K7_]
  refine h1 _ _ _ _ ?_
  simp only [RUN_, U_hourglasslaw24_of, FR_, Nat.reducePow, Int.reducePow, Nat.reduceAdd, Nat.reduceSub, Nat.reduceMul, Int.reduceToNat, Nat.reduceLeDiff, Nat.reduceEqDiff, Nat.reduceLT, Nat.reduceGT, Int.reduceGT, Int.reduceGE, Int.reduceLT, Int.reduceLE, Int.reduceEq, Int.reduceAdd, Int.reduceSub, Int.reduceNeg, reduceCtorEq, if_true, if_false, ite_true, ite_false, ne_eq, eq_self, OPK_, KEY_, WR_, CHK_, Nat.reduceBEq, K4_, K5_, K6_, K7_, stc]
  exact hK
def OfTS (C : CallW) (f : FuncId) : Prop := ∀ (id snap t : Int) (s v : List UInt8), FnS C f [.s (.int .i64 id), .s (.int .i64 snap), .s (.int .i64 t), .s (.str s), .s (.str v)] (.agg (txc (ofT id snap t s v)))
theorem ofV_wk (id snap t : Int) (s v : List UInt8) : WkL [(ofV id snap t s v).sh] [.agg (txc (ofT id snap t s v))] := by
  refine .agg (.same (.same (.same (.same (.same (.same (.nilS (by omega) (.full .nil)))))))) ?_ .nil
  intro c hc
  simp only [txc, List.mem_cons, List.not_mem_nil, or_false] at hc
  rcases hc with rfl | rfl | rfl | rfl | rfl | rfl | rfl | rfl <;> rfl

def CheckS (C : CallW) (f : FuncId) : Prop := ∀ (l : List Tx) S H (K : AV → St → Prop), l.length < 9223372036854775807 → okT l → (∀ G, K (fltA (checkT l).1 (checkT l).2.1 (checkT l).2.2) ⟨S, H ++ G⟩) → C (.fn f) [lstT l] ⟨S, H⟩ K
set_option maxHeartbeats 4000000 in
theorem awake24_spec {C : CallW} (hW : WkC C) (P : Program) {c : Nat → FuncId} (h0 : OfTS C (c 0)) (h1 : CheckS C (c 1)) : ∀ S H (K : AV → St → Prop), (∀ G, K (.bool true) ⟨S, H ++ G⟩) → runL C P (C_hourglasslaw24_awake c) [] ⟨S, H⟩ K := by
  intro S H K hK
  have e1 : checkT [ofT 1 0 1 [97] [120], ofT 2 0 2 [97] [121]] = (3, 0, 1) := by decide
  have e2 : checkT [ofT 1 0 1 [97] [120], ofT 2 1 2 [97] [121]] = (0, -1, -1) := by decide
  have hok : ∀ a b c d e a' b' c' d' e', okT [ofT a b c d e, ofT a' b' c' d' e'] := by
    intro a b c d e a' b' c' d' e' x hx
    simp only [List.mem_cons, List.not_mem_nil, or_false] at hx
    rcases hx with rfl | rfl <;> simp [ofT]
  have h0' : ∀ (id snap t : Int) (s v : List UInt8) S H (K : AV → St → Prop), K (.agg (txc (ofT id snap t s v))) ⟨S, H⟩ → C (.fn (c 0)) [.s (.int .i64 id), .s (.int .i64 snap), .s (.int .i64 t), .s (.str s), .s (.str v)] ⟨S, H⟩ K := h0
  have ht : ∀ x : Tx, AV.agg (txc x) = txA x := fun x => rfl
  have sh : ∀ x : Tx, (txA x).sh = txA x ∧ (txA x).look = txA x ∧ (txA x).left = txA x ∧ (txA x).calm = txA x ∧ (txA x).fit = true ∧ (txA x).cells = txc x := fun x => ⟨rfl, rfl, rfl, rfl, rfl, rfl⟩
  have hbsl : ∀ x y : Tx, bslL ⟨8, true, 96, (.agg [(.s (.int .i64 0)), (.s (.int .i64 0)), (.s (.int .u8 0)), (.s (.int .i64 0)), (.s (.int .u8 0)), (.s (.bool false)), (.s .nilS), (.s .nilS)])⟩ 2 [(0, .agg (txc x)), (1, .agg (txc y))] = some (.list .full 8 ([x, y].map txA)) := fun x y => rfl
  simp only [C_hourglasslaw24_awake, RUN_, U_hourglasslaw24_awake, FR_, Nat.reducePow, Int.reducePow, Nat.reduceAdd, Nat.reduceSub, Nat.reduceMul, Int.reduceToNat, Nat.reduceLeDiff, Nat.reduceEqDiff, Nat.reduceLT, Nat.reduceGT, Int.reduceGT, Int.reduceGE, Int.reduceLT, Int.reduceLE, Int.reduceEq, Int.reduceAdd, Int.reduceSub, Int.reduceNeg, reduceCtorEq, if_true, if_false, ite_true, ite_false, ne_eq, eq_self, OPK_, KEY_, WR_, CHK_, Nat.reduceBEq, K4_, K5_, K6_, K7_]
  refine h0' 1 0 1 [97] [120] _ _ _ ?_
  simp only [RUN_, U_hourglasslaw24_awake, FR_, Nat.reducePow, Int.reducePow, Nat.reduceAdd, Nat.reduceSub, Nat.reduceMul, Int.reduceToNat, Nat.reduceLeDiff, Nat.reduceEqDiff, Nat.reduceLT, Nat.reduceGT, Int.reduceGT, Int.reduceGE, Int.reduceLT, Int.reduceLE, Int.reduceEq, Int.reduceAdd, Int.reduceSub, Int.reduceNeg, reduceCtorEq, if_true, if_false, ite_true, ite_false, ne_eq, eq_self, OPK_, K5_]
  refine h0' 2 0 2 [97] [121] _ _ _ ?_
  simp only [RUN_, U_hourglasslaw24_awake, FR_, Nat.reducePow, Int.reducePow, Nat.reduceAdd, Nat.reduceSub, Nat.reduceMul, Int.reduceToNat, Nat.reduceLeDiff, Nat.reduceEqDiff, Nat.reduceLT, Nat.reduceGT, Int.reduceGT, Int.reduceGE, Int.reduceLT, Int.reduceLE, Int.reduceEq, Int.reduceAdd, Int.reduceSub, Int.reduceNeg, reduceCtorEq, if_true, if_false, ite_true, ite_false, ne_eq, eq_self, OPK_, K5_, hbsl]
  refine hW _ _ [lstT [_, _]] _ _ (.full .nil) ?_
  refine h1 _ _ _ _ (by simp) (hok _ _ _ _ _ _ _ _ _ _) fun G => ?_
  rw [e1]
  simp only [fltA, RUN_, U_hourglasslaw24_awake, FR_, Nat.reducePow, Int.reducePow, Nat.reduceAdd, Nat.reduceSub, Nat.reduceMul, Int.reduceToNat, Nat.reduceLeDiff, Nat.reduceEqDiff, Nat.reduceLT, Nat.reduceGT, Int.reduceGT, Int.reduceGE, Int.reduceLT, Int.reduceLE, Int.reduceEq, Int.reduceAdd, Int.reduceSub, Int.reduceNeg, reduceCtorEq, if_true, if_false, ite_true, ite_false, ne_eq, eq_self, OPK_, KEY_, WR_, CHK_, Nat.reduceBEq, K4_, K5_, K6_, K7_]
  refine h0' 1 0 1 [97] [120] _ _ _ ?_
  simp only [RUN_, U_hourglasslaw24_awake, FR_, Nat.reducePow, Int.reducePow, Nat.reduceAdd, Nat.reduceSub, Nat.reduceMul, Int.reduceToNat, Nat.reduceLeDiff, Nat.reduceEqDiff, Nat.reduceLT, Nat.reduceGT, Int.reduceGT, Int.reduceGE, Int.reduceLT, Int.reduceLE, Int.reduceEq, Int.reduceAdd, Int.reduceSub, Int.reduceNeg, reduceCtorEq, if_true, if_false, ite_true, ite_false, ne_eq, eq_self, OPK_, K5_]
  refine h0' 2 1 2 [97] [121] _ _ _ ?_
  simp only [RUN_, U_hourglasslaw24_awake, FR_, Nat.reducePow, Int.reducePow, Nat.reduceAdd, Nat.reduceSub, Nat.reduceMul, Int.reduceToNat, Nat.reduceLeDiff, Nat.reduceEqDiff, Nat.reduceLT, Nat.reduceGT, Int.reduceGT, Int.reduceGE, Int.reduceLT, Int.reduceLE, Int.reduceEq, Int.reduceAdd, Int.reduceSub, Int.reduceNeg, reduceCtorEq, if_true, if_false, ite_true, ite_false, ne_eq, eq_self, OPK_, K5_, hbsl]
  refine hW _ _ [lstT [_, _]] _ _ (.full .nil) ?_
  refine h1 _ _ _ _ (by simp) (hok _ _ _ _ _ _ _ _ _ _) fun G => ?_
  rw [e2]
  simp only [fltA, RUN_, U_hourglasslaw24_awake, FR_, Nat.reducePow, Int.reducePow, Nat.reduceAdd, Nat.reduceSub, Nat.reduceMul, Int.reduceToNat, Nat.reduceLeDiff, Nat.reduceEqDiff, Nat.reduceLT, Nat.reduceGT, Int.reduceGT, Int.reduceGE, Int.reduceLT, Int.reduceLE, Int.reduceEq, Int.reduceAdd, Int.reduceSub, Int.reduceNeg, reduceCtorEq, if_true, if_false, ite_true, ite_false, ne_eq, eq_self, OPK_, KEY_, WR_, CHK_, Nat.reduceBEq, K4_, K5_, K6_, K7_]
  exact hK _
end Go.AM
namespace Go.AM
open Go
set_option maxRecDepth 20000
set_option linter.unusedSimpArgs false
set_option linter.unusedVariables false

def greatT (l : List Tx) : Bool := decide (15 < l.length) || l.any fun x => decide (10 < x.reads.length) || decide (10 < x.writes.length)
def GreatS (C : CallW) (f : FuncId) : Prop := ∀ (l : List Tx) S H (K : AV → St → Prop), l.length ≤ 9223372036854775807 → K (.bool (greatT l)) ⟨S, H⟩ → C (.fn f) [lstT l] ⟨S, H⟩ K
set_option maxHeartbeats 2000000 in
theorem great_spec {C : CallW} (hC : LeC C C) (P : Program) : ∀ (l : List Tx) S H (K : AV → St → Prop), l.length ≤ 9223372036854775807 → K (.bool (greatT l)) ⟨S, H⟩ → runL C P C_hourglasslaw24_great [lstT l] ⟨S, H⟩ K := by
  intro l S H K hl hK
  by_cases h15 : 15 < l.length
  · have h15' : (15 : Int) < (l.length : Int) := by omega
    rw [show greatT l = true by simp [greatT, h15]] at hK
    simp only [lstT, C_hourglasslaw24_great, RUN_, U_hourglasslaw24_great, FR_, Nat.reducePow, Int.reducePow, Nat.reduceAdd, Nat.reduceSub, Nat.reduceMul, Int.reduceToNat, Nat.reduceLeDiff, Nat.reduceEqDiff, Nat.reduceLT, Nat.reduceGT, Int.reduceGT, Int.reduceGE, Int.reduceLT, Int.reduceLE, Int.reduceEq, Int.reduceAdd, Int.reduceSub, Int.reduceNeg, reduceCtorEq, if_true, if_false, ite_true, ite_false, ne_eq, eq_self, OPK_, KEY_, WR_, CHK_, Nat.reduceBEq, K4_, K5_, K6_, K7_, h15']
    exact hK
  · have h15' : ¬ ((15 : Int) < (l.length : Int)) := by omega
    rw [show greatT l = l.any fun x => decide (10 < x.reads.length) || decide (10 < x.writes.length) by simp [greatT, h15]] at hK
    simp only [lstT, C_hourglasslaw24_great, RUN_, U_hourglasslaw24_great, FR_, Nat.reducePow, Int.reducePow, Nat.reduceAdd, Nat.reduceSub, Nat.reduceMul, Int.reduceToNat, Nat.reduceLeDiff, Nat.reduceEqDiff, Nat.reduceLT, Nat.reduceGT, Int.reduceGT, Int.reduceGE, Int.reduceLT, Int.reduceLE, Int.reduceEq, Int.reduceAdd, Int.reduceSub, Int.reduceNeg, reduceCtorEq, if_true, if_false, ite_true, ite_false, ne_eq, eq_self, OPK_, KEY_, WR_, CHK_, Nat.reduceBEq, K4_, K5_, K6_, K7_, h15']
    refine loop_rule hC (α := Nat) (fun a => l.length - a) (fun a => [.list .sh 8 (l.map txA), .undef, .undef, .s (.int .i64 a), .undef, .undef, .undef, .undef, .undef, .undef, .undef, .undef, .undef, .undef, .undef, .undef, .undef, .undef, .undef, .undef, .undef, .undef, .undef, .undef, .undef, .undef, .undef, .undef, .undef]) (fun a => S) (fun a => H) (fun a => a ≤ l.length ∧ (l.any fun x => decide (10 < x.reads.length) || decide (10 < x.writes.length)) = (l.drop a).any fun x => decide (10 < x.reads.length) || decide (10 < x.writes.length)) 0 ⟨by simp, rfl⟩ rfl (by simp) rfl (fun a _ => by simp [AV.under, AV.under.go]) ?_
    rintro i ⟨hi, hinv⟩ ih
    by_cases h16 : i < l.length
    · have hlt : ((i : Int) < (l.length : Int)) := by omega
      have hw : IntKind.i64.wrap ((i : Int) + 1) = (i : Int) + 1 := wrap_i64 (by omega) (by omega)
      rw [List.drop_eq_getElem_cons h16, List.any_cons] at hinv
      by_cases h1 : 10 < (l[i]).reads.length
      · have h1' : (10 : Int) < ((l[i]).reads.length : Int) := by omega
        rw [decide_eq_true h1, Bool.true_or, Bool.true_or] at hinv
        rw [hinv] at hK
        simp only [RUN_, U_hourglasslaw24_great, FR_, Nat.reducePow, Int.reducePow, Nat.reduceAdd, Nat.reduceSub, Nat.reduceMul, Int.reduceToNat, Nat.reduceLeDiff, Nat.reduceEqDiff, Nat.reduceLT, Nat.reduceGT, Int.reduceGT, Int.reduceGE, Int.reduceLT, Int.reduceLE, Int.reduceEq, Int.reduceAdd, Int.reduceSub, Int.reduceNeg, reduceCtorEq, if_true, if_false, ite_true, ite_false, ne_eq, eq_self, OPK_, KEY_, WR_, CHK_, Nat.reduceBEq, K4_, K5_, K6_, K7_, hlt, h16, h1']
        exact hK
      · have h1' : ¬ ((10 : Int) < ((l[i]).reads.length : Int)) := by omega
        rw [decide_eq_false h1, Bool.false_or] at hinv
        by_cases h2 : 10 < (l[i]).writes.length
        · have h2' : (10 : Int) < ((l[i]).writes.length : Int) := by omega
          rw [decide_eq_true h2, Bool.true_or] at hinv
          rw [hinv] at hK
          simp only [RUN_, U_hourglasslaw24_great, FR_, Nat.reducePow, Int.reducePow, Nat.reduceAdd, Nat.reduceSub, Nat.reduceMul, Int.reduceToNat, Nat.reduceLeDiff, Nat.reduceEqDiff, Nat.reduceLT, Nat.reduceGT, Int.reduceGT, Int.reduceGE, Int.reduceLT, Int.reduceLE, Int.reduceEq, Int.reduceAdd, Int.reduceSub, Int.reduceNeg, reduceCtorEq, if_true, if_false, ite_true, ite_false, ne_eq, eq_self, OPK_, KEY_, WR_, CHK_, Nat.reduceBEq, K4_, K5_, K6_, K7_, hlt, h16, h1', h2']
          exact hK
        · have h2' : ¬ ((10 : Int) < ((l[i]).writes.length : Int)) := by omega
          rw [decide_eq_false h2, Bool.false_or] at hinv
          simp only [RUN_, U_hourglasslaw24_great, FR_, Nat.reducePow, Int.reducePow, Nat.reduceAdd, Nat.reduceSub, Nat.reduceMul, Int.reduceToNat, Nat.reduceLeDiff, Nat.reduceEqDiff, Nat.reduceLT, Nat.reduceGT, Int.reduceGT, Int.reduceGE, Int.reduceLT, Int.reduceLE, Int.reduceEq, Int.reduceAdd, Int.reduceSub, Int.reduceNeg, reduceCtorEq, if_true, if_false, ite_true, ite_false, ne_eq, eq_self, OPK_, KEY_, WR_, CHK_, Nat.reduceBEq, K4_, K5_, K6_, K7_, hlt, h16, h1', h2', hw]
          exact ih (i + 1) _ _ _ (by omega) ⟨by omega, hinv⟩ rfl (by simp) rfl
    · have hlt : ¬ ((i : Int) < (l.length : Int)) := by omega
      rw [List.drop_of_length_le (by omega)] at hinv
      rw [hinv] at hK
      simp only [RUN_, U_hourglasslaw24_great, FR_, Nat.reducePow, Int.reducePow, Nat.reduceAdd, Nat.reduceSub, Nat.reduceMul, Int.reduceToNat, Nat.reduceLeDiff, Nat.reduceEqDiff, Nat.reduceLT, Nat.reduceGT, Int.reduceGT, Int.reduceGE, Int.reduceLT, Int.reduceLE, Int.reduceEq, Int.reduceAdd, Int.reduceSub, Int.reduceNeg, reduceCtorEq, if_true, if_false, ite_true, ite_false, ne_eq, eq_self, OPK_, KEY_, WR_, CHK_, Nat.reduceBEq, K4_, K5_, K6_, K7_, hlt]
      exact hK
theorem great_false {l : List Tx} (h : greatT l = false) : l.length ≤ 15 ∧ okT l := by
  unfold greatT at h
  rw [Bool.or_eq_false_iff] at h
  refine ⟨by simpa using h.1, fun x hx => ?_⟩
  have := List.any_eq_false.1 h.2 x hx
  simp only [Bool.or_eq_true, decide_eq_true_eq] at this
  omega
theorem txA_low {n : Nat} : ∀ {l : List Tx}, AV.under.go n (l.map txA) = true
  | [] => rfl
  | k :: l => by
    simp only [List.map_cons, AV.under.go, txA_low (l := l), Bool.and_true]
    show AV.under.go n (txc k) = true
    simp [txc, AV.under.go, AV.under, under_u8]
def AwakeS (C : CallW) (f : FuncId) : Prop := ∀ S H (K : AV → St → Prop), (∀ G, K (.bool true) ⟨S, H ++ G⟩) → C (.fn f) [] ⟨S, H⟩ K
end Go.AM
namespace Go.AM
open Go
set_option maxRecDepth 20000
set_option linter.unusedSimpArgs false
set_option linter.unusedVariables false

end Go.AM
namespace Go.AM
open Go
set_option maxRecDepth 20000
set_option linter.unusedSimpArgs false
set_option linter.unusedVariables false

def LastRS (C : CallW) (f : FuncId) : Prop := ∀ (l : List Wr) (k : Key) S H (K : AV → St → Prop), l.length ≤ 9223372036854775807 → K (.tup [.agg (wc (lastR k l).1), .bool (lastR k l).2]) ⟨S, H⟩ → C (.fn f) [lstW l, .agg (bs k.b)] ⟨S, H⟩ K
set_option maxHeartbeats 4000000 in
theorem ref23_last_spec {C : CallW} (hC : LeC C C) (P : Program) : ∀ (l : List Wr) (k : Key) S H (K : AV → St → Prop), l.length ≤ 9223372036854775807 → K (.tup [.agg (wc (lastR k l).1), .bool (lastR k l).2]) ⟨S, H⟩ → runL C P C_hourglassref23_last [lstW l, .agg (bs k.b)] ⟨S, H⟩ K := by
  intro l k S H K hl hK
  obtain ⟨m, hm, hpass, hfin⟩ := lastR_at k l
  have hwl := wrap_pred hl
  simp only [lstW, C_hourglassref23_last, RUN_, U_hourglassref23_last, FR_, Nat.reducePow, Int.reducePow, Nat.reduceAdd, Nat.reduceSub, Nat.reduceMul, Int.reduceToNat, Nat.reduceLeDiff, Nat.reduceEqDiff, Nat.reduceLT, Nat.reduceGT, Int.reduceGT, Int.reduceGE, Int.reduceLT, Int.reduceLE, Int.reduceEq, Int.reduceAdd, Int.reduceSub, Int.reduceNeg, reduceCtorEq, if_true, if_false, ite_true, ite_false, ne_eq, eq_self, OPK_, KEY_, WR_, CHK_, Nat.reduceBEq, K4_, K5_, K6_, K7_, hwl]
  refine loop_rule hC (α := Nat) (fun a => a) (fun a => [.list .sh 18 (l.map wA), .undef, .undef, .ptr (.stk S.length) 0, .ptr (.stk (S.length + 1)) 0, .undef, .s (.int .i64 ((a : Int) - 1)), .undef, .undef, .undef, .undef, .undef, .undef, .undef, .undef, .undef, .undef, .undef, .undef, .undef, .undef, .undef, .undef, .undef, .undef, .undef]) (fun _ => S ++ [bs k.b, wc zW]) (fun _ => H) (fun a => m ≤ a ∧ a ≤ l.length) l.length ⟨hm, Nat.le_refl _⟩ rfl (by rw [app_take_add]; rfl) rfl (fun a _ => by simp [AV.under, AV.under.go]) ?_
  rintro a ⟨ha, hal⟩ ih
  by_cases h0 : a = 0
  · subst h0
    have hn : ¬ ((0 : Int) ≤ ((0 : Nat) : Int) - 1) := by omega
    have hm0 : m = 0 := by omega
    rcases hfin with ⟨_, hfin⟩ | ⟨_, h1, _, _⟩
    · rw [hfin] at hK
      simp only [RUN_, U_hourglassref23_last, FR_, Nat.reducePow, Int.reducePow, Nat.reduceAdd, Nat.reduceSub, Nat.reduceMul, Int.reduceToNat, Nat.reduceLeDiff, Nat.reduceEqDiff, Nat.reduceLT, Nat.reduceGT, Int.reduceGT, Int.reduceGE, Int.reduceLT, Int.reduceLE, Int.reduceEq, Int.reduceAdd, Int.reduceSub, Int.reduceNeg, reduceCtorEq, if_true, if_false, ite_true, ite_false, ne_eq, eq_self, OPK_, KEY_, WR_, CHK_, Nat.reduceBEq, K4_, K5_, K6_, K7_, hn]
      exact hK
    · omega
  · have hp : ((0 : Int) ≤ (a : Int) - 1) := by omega
    have e : ((a : Int) - 1) = ((a - 1 : Nat) : Int) := by omega
    have hlt : a - 1 < l.length := by omega
    have hw := wrap_pred (i := a - 1) (by omega)
    rw [e] at hp
    by_cases hma : m ≤ a - 1
    · have hne : ¬ ((l[a - 1]).key = k) := hpass _ hma hlt
      simp only [RUN_, U_hourglassref23_last, FR_, Nat.reducePow, Int.reducePow, Nat.reduceAdd, Nat.reduceSub, Nat.reduceMul, Int.reduceToNat, Nat.reduceLeDiff, Nat.reduceEqDiff, Nat.reduceLT, Nat.reduceGT, Int.reduceGT, Int.reduceGE, Int.reduceLT, Int.reduceLE, Int.reduceEq, Int.reduceAdd, Int.reduceSub, Int.reduceNeg, reduceCtorEq, if_true, if_false, ite_true, ite_false, ne_eq, eq_self, OPK_, KEY_, WR_, CHK_, Nat.reduceBEq, K4_, K5_, K6_, K7_, hp, e, hlt, hne, hw]
      exact ih (a - 1) _ _ _ (by omega) ⟨hma, by omega⟩ rfl (by rw [app_take_add]; rfl) rfl
    · have hma' : m = a := by omega
      rcases hfin with ⟨h1, _⟩ | ⟨_, _, hkey, hfin⟩
      · omega
      · subst hma'
        have hkey' := eq_true hkey
        rw [hfin] at hK
        simp only [RUN_, U_hourglassref23_last, FR_, Nat.reducePow, Int.reducePow, Nat.reduceAdd, Nat.reduceSub, Nat.reduceMul, Int.reduceToNat, Nat.reduceLeDiff, Nat.reduceEqDiff, Nat.reduceLT, Nat.reduceGT, Int.reduceGT, Int.reduceGE, Int.reduceLT, Int.reduceLE, Int.reduceEq, Int.reduceAdd, Int.reduceSub, Int.reduceNeg, reduceCtorEq, if_true, if_false, ite_true, ite_false, ne_eq, eq_self, OPK_, KEY_, WR_, CHK_, Nat.reduceBEq, K4_, K5_, K6_, K7_, hp, e, hlt, hkey']
        exact hK
theorem ref23_common_spec {C : CallW} (hC : LeC C C) (P : Program) {c : Nat → FuncId} (h0 : LastRS C (c 0)) : ∀ (a b : List Wr) S H (K : AV → St → Prop), a.length ≤ 9223372036854775807 → b.length ≤ 9223372036854775807 → K (.bool (a.any fun w => (lastR w.key b).2)) ⟨S, H⟩ → runL C P (C_hourglassref23_common c) [lstW a, lstW b] ⟨S, H⟩ K := by
  intro a b S H K hla hlb hK
  have h0' := h0 b
  unfold lstW at h0'
  simp only [lstW, C_hourglassref23_common, RUN_, U_hourglassref23_common, FR_, Nat.reducePow, Int.reducePow, Nat.reduceAdd, Nat.reduceSub, Nat.reduceMul, Int.reduceToNat, Nat.reduceLeDiff, Nat.reduceEqDiff, Nat.reduceLT, Nat.reduceGT, Int.reduceGT, Int.reduceGE, Int.reduceLT, Int.reduceLE, Int.reduceEq, Int.reduceAdd, Int.reduceSub, Int.reduceNeg, reduceCtorEq, if_true, if_false, ite_true, ite_false, ne_eq, eq_self, OPK_, KEY_, WR_, CHK_, Nat.reduceBEq, K4_, K5_, K6_, K7_]
  refine loop_rule hC (α := Nat) (fun i => a.length - i) (fun i => [.list .sh 18 (a.map wA), .list .sh 18 (b.map wA), .undef, .undef, .undef, .s (.int .i64 i), .undef, .undef, .undef, .undef, .undef, .undef, .undef, .undef, .undef, .undef, .undef, .undef, .undef, .undef, .undef, .undef, .undef, .undef, .undef]) (fun _ => S) (fun _ => H) (fun i => i ≤ a.length ∧ (a.any fun w => (lastR w.key b).2) = (a.drop i).any fun w => (lastR w.key b).2) 0 ⟨by simp, rfl⟩ rfl (by simp) rfl (fun a _ => by simp [AV.under, AV.under.go]) ?_
  rintro i ⟨hi, hinv⟩ ih
  by_cases h16 : i < a.length
  · have hlt : ((i : Int) < (a.length : Int)) := by omega
    have hw : IntKind.i64.wrap ((i : Int) + 1) = (i : Int) + 1 := wrap_i64 (by omega) (by omega)
    rw [List.drop_eq_getElem_cons h16, List.any_cons] at hinv
    simp only [RUN_, U_hourglassref23_common, FR_, Nat.reducePow, Int.reducePow, Nat.reduceAdd, Nat.reduceSub, Nat.reduceMul, Int.reduceToNat, Nat.reduceLeDiff, Nat.reduceEqDiff, Nat.reduceLT, Nat.reduceGT, Int.reduceGT, Int.reduceGE, Int.reduceLT, Int.reduceLE, Int.reduceEq, Int.reduceAdd, Int.reduceSub, Int.reduceNeg, reduceCtorEq, if_true, if_false, ite_true, ite_false, ne_eq, eq_self, OPK_, KEY_, WR_, CHK_, Nat.reduceBEq, K4_, K5_, K6_, K7_, hlt, h16]
    refine h0' _ _ _ _ hlb ?_
    cases e1 : (lastR (a[i]).key b).2 with
    | true =>
      rw [e1, Bool.true_or] at hinv
      rw [hinv] at hK
      simp only [RUN_, U_hourglassref23_common, FR_, Nat.reducePow, Int.reducePow, Nat.reduceAdd, Nat.reduceSub, Nat.reduceMul, Int.reduceToNat, Nat.reduceLeDiff, Nat.reduceEqDiff, Nat.reduceLT, Nat.reduceGT, Int.reduceGT, Int.reduceGE, Int.reduceLT, Int.reduceLE, Int.reduceEq, Int.reduceAdd, Int.reduceSub, Int.reduceNeg, reduceCtorEq, if_true, if_false, ite_true, ite_false, ne_eq, eq_self, OPK_, KEY_, WR_, CHK_, Nat.reduceBEq, K4_, K5_, K6_, K7_]
      exact hK
    | false =>
      rw [e1, Bool.false_or] at hinv
      simp only [RUN_, U_hourglassref23_common, FR_, Nat.reducePow, Int.reducePow, Nat.reduceAdd, Nat.reduceSub, Nat.reduceMul, Int.reduceToNat, Nat.reduceLeDiff, Nat.reduceEqDiff, Nat.reduceLT, Nat.reduceGT, Int.reduceGT, Int.reduceGE, Int.reduceLT, Int.reduceLE, Int.reduceEq, Int.reduceAdd, Int.reduceSub, Int.reduceNeg, reduceCtorEq, if_true, if_false, ite_true, ite_false, ne_eq, eq_self, OPK_, KEY_, WR_, CHK_, Nat.reduceBEq, K4_, K5_, K6_, K7_, hw]
      exact ih (i + 1) _ _ _ (by omega) ⟨by omega, hinv⟩ rfl (by simp) rfl
  · have hlt : ¬ ((i : Int) < (a.length : Int)) := by omega
    rw [List.drop_of_length_le (by omega)] at hinv
    rw [hinv] at hK
    simp only [RUN_, U_hourglassref23_common, FR_, Nat.reducePow, Int.reducePow, Nat.reduceAdd, Nat.reduceSub, Nat.reduceMul, Int.reduceToNat, Nat.reduceLeDiff, Nat.reduceEqDiff, Nat.reduceLT, Nat.reduceGT, Int.reduceGT, Int.reduceGE, Int.reduceLT, Int.reduceLE, Int.reduceEq, Int.reduceAdd, Int.reduceSub, Int.reduceNeg, reduceCtorEq, if_true, if_false, ite_true, ite_false, ne_eq, eq_self, OPK_, KEY_, WR_, CHK_, Nat.reduceBEq, K4_, K5_, K6_, K7_, hlt]
    exact hK
def CommonS (C : CallW) (f : FuncId) : Prop := ∀ (a b : List Wr) S H (K : AV → St → Prop), a.length ≤ 9223372036854775807 → b.length ≤ 9223372036854775807 → K (.bool (a.any fun w => (lastR w.key b).2)) ⟨S, H⟩ → C (.fn f) [lstW a, lstW b] ⟨S, H⟩ K

def ValueRS (C : CallW) (f : FuncId) : Prop := ∀ (l : List Tx) (k : Key) (at_ : Stp) S H (K : AV → St → Prop), l.length ≤ 9223372036854775807 → okT l → K (.tup [.s (.str (valueT l k at_).1), .bool (valueT l k at_).2]) ⟨S, H⟩ → C (.fn f) [lstT l, .agg (bs k.b), .agg (stc at_)] ⟨S, H⟩ K
set_option maxHeartbeats 8000000 in
theorem ref23_Value_spec {C : CallW} (hC : LeC C C) (P : Program) {c : Nat → FuncId} (h0 : LastRS C (c 0)) (h1 : CmpSS C (c 1)) : ∀ (l : List Tx) (k : Key) (at_ : Stp) S H (K : AV → St → Prop), l.length ≤ 9223372036854775807 → okT l → K (.tup [.s (.str (valueT l k at_).1), .bool (valueT l k at_).2]) ⟨S, H⟩ →
    runL C P (C_hourglassref23_Value c) [lstT l, .agg (bs k.b), .agg (stc at_)] ⟨S, H⟩ K := by
  intro l k at_ S H K hl hok hK
  have h1' : ∀ (a b : Stp) S H (K : AV → St → Prop), K (.i (cmpS a b)) ⟨S, H⟩ → C (.fn (c 1)) [.agg [.s (.int .i64 a.t), u8 a.n], .agg (stc b)] ⟨S, H⟩ K := h1
  simp only [lstT, C_hourglassref23_Value, RUN_, U_hourglassref23_Value, FR_, Nat.reducePow, Int.reducePow, Nat.reduceAdd, Nat.reduceSub, Nat.reduceMul, Int.reduceToNat, Nat.reduceLeDiff, Nat.reduceEqDiff, Nat.reduceLT, Nat.reduceGT, Int.reduceGT, Int.reduceGE, Int.reduceLT, Int.reduceLE, Int.reduceEq, Int.reduceAdd, Int.reduceSub, Int.reduceNeg, reduceCtorEq, if_true, if_false, ite_true, ite_false, ne_eq, eq_self, OPK_, KEY_, WR_, CHK_, Nat.reduceBEq, K4_, K5_, K6_, K7_]
  refine loop_rule hC (α := Nat × VSt) (fun a => l.length - a.1) (fun a => [.list .sh 8 (l.map txA), .undef, .undef, .undef, .ptr (.stk S.length) 0, .ptr (.stk (S.length + 1)) 0, .undef, .undef, .ptr (.stk (S.length + 2)) 0, .s (.bool a.2.found), .ptr (.stk (S.length + 3)) 0, .s (.int .i64 a.1), .undef, .undef, .undef, .undef, .undef, .undef, .undef, .undef, .undef, .undef, .undef, .undef, .undef, .undef, .undef, .undef, .undef, .undef, .undef, .undef, .undef, .undef, .undef, .undef, .undef, .undef, .undef, .undef, .undef, .undef, .undef, .undef, .undef, .undef, .undef, .undef, .undef, .undef, .undef, .undef, .undef, .undef, .undef, .undef, .undef, .undef, .undef, .undef, .undef, .undef, .undef, .undef, .undef, .undef, .undef, .undef, .undef, .undef, .undef, .undef, .undef, .undef, .undef, .undef, .undef, .undef, .undef]) (fun a => S ++ [bs k.b, stc at_, wc a.2.best, stc a.2.top]) (fun a => H) (fun a => a.1 ≤ l.length ∧ l.foldl (valStep k at_) vSt0 = (l.drop a.1).foldl (valStep k at_) a.2) (0, vSt0) ⟨by simp, rfl⟩ rfl (by rw [app_take_add]; rfl) rfl (fun a _ => by simp [AV.under, AV.under.go]) ?_
  rintro ⟨i, st⟩ ⟨hi, hinv⟩ ih
  dsimp only at hi hinv ih ⊢
  by_cases h16 : i < l.length
  · have hlt : ((i : Int) < (l.length : Int)) := by omega
    have hw : IntKind.i64.wrap ((i : Int) + 1) = (i : Int) + 1 := wrap_i64 (by omega) (by omega)
    rw [List.drop_eq_getElem_cons h16, List.foldl_cons, valStep] at hinv
    have hx := hok l[i] (List.getElem_mem h16)
    have h0' := h0 (l[i]).writes
    unfold lstW at h0'
    simp only [RUN_, U_hourglassref23_Value, FR_, Nat.reducePow, Int.reducePow, Nat.reduceAdd, Nat.reduceSub, Nat.reduceMul, Int.reduceToNat, Nat.reduceLeDiff, Nat.reduceEqDiff, Nat.reduceLT, Nat.reduceGT, Int.reduceGT, Int.reduceGE, Int.reduceLT, Int.reduceLE, Int.reduceEq, Int.reduceAdd, Int.reduceSub, Int.reduceNeg, reduceCtorEq, if_true, if_false, ite_true, ite_false, ne_eq, eq_self, OPK_, KEY_, WR_, CHK_, Nat.reduceBEq, K4_, K5_, K6_, K7_, hlt, h16]
    refine ⟨?_, ?_⟩
    · refine h0' _ _ _ _ hx.1 ?_
      cases e1 : (lastR k (l[i]).writes).2 with
      | false =>
        rw [e1, if_pos rfl] at hinv
        simp only [RUN_, U_hourglassref23_Value, FR_, Nat.reducePow, Int.reducePow, Nat.reduceAdd, Nat.reduceSub, Nat.reduceMul, Int.reduceToNat, Nat.reduceLeDiff, Nat.reduceEqDiff, Nat.reduceLT, Nat.reduceGT, Int.reduceGT, Int.reduceGE, Int.reduceLT, Int.reduceLE, Int.reduceEq, Int.reduceAdd, Int.reduceSub, Int.reduceNeg, reduceCtorEq, if_true, if_false, ite_true, ite_false, ne_eq, eq_self, OPK_, KEY_, WR_, CHK_, Nat.reduceBEq, K4_, K5_, K6_, K7_, e1, hw]
        exact ih (i + 1, st) _ _ _ (by simp; omega) ⟨by simp; omega, hinv⟩ rfl (by rw [app_take_add]; rfl) rfl
      | true =>
        rw [e1, if_neg (by simp)] at hinv
        cases e2 : (l[i]).done with
        | false =>
          rw [e2, if_pos rfl] at hinv
          simp only [RUN_, U_hourglassref23_Value, FR_, Nat.reducePow, Int.reducePow, Nat.reduceAdd, Nat.reduceSub, Nat.reduceMul, Int.reduceToNat, Nat.reduceLeDiff, Nat.reduceEqDiff, Nat.reduceLT, Nat.reduceGT, Int.reduceGT, Int.reduceGE, Int.reduceLT, Int.reduceLE, Int.reduceEq, Int.reduceAdd, Int.reduceSub, Int.reduceNeg, reduceCtorEq, if_true, if_false, ite_true, ite_false, ne_eq, eq_self, OPK_, KEY_, WR_, CHK_, Nat.reduceBEq, K4_, K5_, K6_, K7_, e1, e2, h16, hw]
          exact ih (i + 1, st) _ _ _ (by simp; omega) ⟨by simp; omega, hinv⟩ rfl (by rw [app_take_add]; rfl) rfl
        | true =>
          rw [e2, if_neg (by simp)] at hinv
          simp only [RUN_, U_hourglassref23_Value, FR_, Nat.reducePow, Int.reducePow, Nat.reduceAdd, Nat.reduceSub, Nat.reduceMul, Int.reduceToNat, Nat.reduceLeDiff, Nat.reduceEqDiff, Nat.reduceLT, Nat.reduceGT, Int.reduceGT, Int.reduceGE, Int.reduceLT, Int.reduceLE, Int.reduceEq, Int.reduceAdd, Int.reduceSub, Int.reduceNeg, reduceCtorEq, if_true, if_false, ite_true, ite_false, ne_eq, eq_self, OPK_, KEY_, WR_, CHK_, Nat.reduceBEq, K4_, K5_, K6_, K7_, e1, e2, h16, hw]
          refine h1' (l[i]).stamp at_ _ _ _ ?_
          by_cases e3 : 0 < cmpS (l[i]).stamp at_
          · rw [if_pos e3] at hinv
            simp only [RUN_, U_hourglassref23_Value, FR_, Nat.reducePow, Int.reducePow, Nat.reduceAdd, Nat.reduceSub, Nat.reduceMul, Int.reduceToNat, Nat.reduceLeDiff, Nat.reduceEqDiff, Nat.reduceLT, Nat.reduceGT, Int.reduceGT, Int.reduceGE, Int.reduceLT, Int.reduceLE, Int.reduceEq, Int.reduceAdd, Int.reduceSub, Int.reduceNeg, reduceCtorEq, if_true, if_false, ite_true, ite_false, ne_eq, eq_self, OPK_, KEY_, WR_, CHK_, Nat.reduceBEq, K4_, K5_, K6_, K7_, e1, e2, e3, hw]
            exact ih (i + 1, st) _ _ _ (by simp; omega) ⟨by simp; omega, hinv⟩ rfl (by rw [app_take_add]; rfl) rfl
          · rw [if_neg e3] at hinv
            obtain ⟨best, top, fd⟩ := st
            cases fd with
            | false =>
              rw [if_neg (by simp)] at hinv
              simp only [RUN_, U_hourglassref23_Value, FR_, Nat.reducePow, Int.reducePow, Nat.reduceAdd, Nat.reduceSub, Nat.reduceMul, Int.reduceToNat, Nat.reduceLeDiff, Nat.reduceEqDiff, Nat.reduceLT, Nat.reduceGT, Int.reduceGT, Int.reduceGE, Int.reduceLT, Int.reduceLE, Int.reduceEq, Int.reduceAdd, Int.reduceSub, Int.reduceNeg, reduceCtorEq, if_true, if_false, ite_true, ite_false, ne_eq, eq_self, OPK_, KEY_, WR_, CHK_, Nat.reduceBEq, K4_, K5_, K6_, K7_, e1, e2, e3, h16, hw]
              exact ih (i + 1, _) _ _ _ (by simp; omega) ⟨by simp; omega, hinv⟩ rfl (by rw [app_take_add]; rfl) rfl
            | true =>
              simp only [RUN_, U_hourglassref23_Value, FR_, Nat.reducePow, Int.reducePow, Nat.reduceAdd, Nat.reduceSub, Nat.reduceMul, Int.reduceToNat, Nat.reduceLeDiff, Nat.reduceEqDiff, Nat.reduceLT, Nat.reduceGT, Int.reduceGT, Int.reduceGE, Int.reduceLT, Int.reduceLE, Int.reduceEq, Int.reduceAdd, Int.reduceSub, Int.reduceNeg, reduceCtorEq, if_true, if_false, ite_true, ite_false, ne_eq, eq_self, OPK_, KEY_, WR_, CHK_, Nat.reduceBEq, K4_, K5_, K6_, K7_, e1, e2, e3, h16, hw]
              refine h1' (l[i]).stamp top _ _ _ ?_
              by_cases e5 : cmpS (l[i]).stamp top ≤ 0
              · rw [if_pos ⟨rfl, e5⟩] at hinv
                simp only [RUN_, U_hourglassref23_Value, FR_, Nat.reducePow, Int.reducePow, Nat.reduceAdd, Nat.reduceSub, Nat.reduceMul, Int.reduceToNat, Nat.reduceLeDiff, Nat.reduceEqDiff, Nat.reduceLT, Nat.reduceGT, Int.reduceGT, Int.reduceGE, Int.reduceLT, Int.reduceLE, Int.reduceEq, Int.reduceAdd, Int.reduceSub, Int.reduceNeg, reduceCtorEq, if_true, if_false, ite_true, ite_false, ne_eq, eq_self, OPK_, KEY_, WR_, CHK_, Nat.reduceBEq, K4_, K5_, K6_, K7_, e1, e2, e3, e5, hw]
                exact ih (i + 1, ⟨best, top, true⟩) _ _ _ (by simp; omega) ⟨by simp; omega, hinv⟩ rfl (by rw [app_take_add]; rfl) rfl
              · rw [if_neg (by simp; omega)] at hinv
                simp only [RUN_, U_hourglassref23_Value, FR_, Nat.reducePow, Int.reducePow, Nat.reduceAdd, Nat.reduceSub, Nat.reduceMul, Int.reduceToNat, Nat.reduceLeDiff, Nat.reduceEqDiff, Nat.reduceLT, Nat.reduceGT, Int.reduceGT, Int.reduceGE, Int.reduceLT, Int.reduceLE, Int.reduceEq, Int.reduceAdd, Int.reduceSub, Int.reduceNeg, reduceCtorEq, if_true, if_false, ite_true, ite_false, ne_eq, eq_self, OPK_, KEY_, WR_, CHK_, Nat.reduceBEq, K4_, K5_, K6_, K7_, e1, e2, e3, e5, h16, hw]
                exact ih (i + 1, _) _ _ _ (by simp; omega) ⟨by simp; omega, hinv⟩ rfl (by rw [app_take_add]; rfl) rfl
    · refine h0' _ _ _ _ hx.1 ?_
      cases e1 : (lastR k (l[i]).writes).2 with
      | false =>
        rw [e1, if_pos rfl] at hinv
        simp only [RUN_, U_hourglassref23_Value, FR_, Nat.reducePow, Int.reducePow, Nat.reduceAdd, Nat.reduceSub, Nat.reduceMul, Int.reduceToNat, Nat.reduceLeDiff, Nat.reduceEqDiff, Nat.reduceLT, Nat.reduceGT, Int.reduceGT, Int.reduceGE, Int.reduceLT, Int.reduceLE, Int.reduceEq, Int.reduceAdd, Int.reduceSub, Int.reduceNeg, reduceCtorEq, if_true, if_false, ite_true, ite_false, ne_eq, eq_self, OPK_, KEY_, WR_, CHK_, Nat.reduceBEq, K4_, K5_, K6_, K7_, e1, hw]
        exact ih (i + 1, st) _ _ _ (by simp; omega) ⟨by simp; omega, hinv⟩ rfl (by rw [app_take_add]; rfl) rfl
      | true =>
        rw [e1, if_neg (by simp)] at hinv
        cases e2 : (l[i]).done with
        | false =>
          rw [e2, if_pos rfl] at hinv
          simp only [RUN_, U_hourglassref23_Value, FR_, Nat.reducePow, Int.reducePow, Nat.reduceAdd, Nat.reduceSub, Nat.reduceMul, Int.reduceToNat, Nat.reduceLeDiff, Nat.reduceEqDiff, Nat.reduceLT, Nat.reduceGT, Int.reduceGT, Int.reduceGE, Int.reduceLT, Int.reduceLE, Int.reduceEq, Int.reduceAdd, Int.reduceSub, Int.reduceNeg, reduceCtorEq, if_true, if_false, ite_true, ite_false, ne_eq, eq_self, OPK_, KEY_, WR_, CHK_, Nat.reduceBEq, K4_, K5_, K6_, K7_, e1, e2, h16, hw]
          exact ih (i + 1, st) _ _ _ (by simp; omega) ⟨by simp; omega, hinv⟩ rfl (by rw [app_take_add]; rfl) rfl
        | true =>
          rw [e2, if_neg (by simp)] at hinv
          simp only [RUN_, U_hourglassref23_Value, FR_, Nat.reducePow, Int.reducePow, Nat.reduceAdd, Nat.reduceSub, Nat.reduceMul, Int.reduceToNat, Nat.reduceLeDiff, Nat.reduceEqDiff, Nat.reduceLT, Nat.reduceGT, Int.reduceGT, Int.reduceGE, Int.reduceLT, Int.reduceLE, Int.reduceEq, Int.reduceAdd, Int.reduceSub, Int.reduceNeg, reduceCtorEq, if_true, if_false, ite_true, ite_false, ne_eq, eq_self, OPK_, KEY_, WR_, CHK_, Nat.reduceBEq, K4_, K5_, K6_, K7_, e1, e2, h16, hw]
          refine h1' (l[i]).stamp at_ _ _ _ ?_
          by_cases e3 : 0 < cmpS (l[i]).stamp at_
          · rw [if_pos e3] at hinv
            simp only [RUN_, U_hourglassref23_Value, FR_, Nat.reducePow, Int.reducePow, Nat.reduceAdd, Nat.reduceSub, Nat.reduceMul, Int.reduceToNat, Nat.reduceLeDiff, Nat.reduceEqDiff, Nat.reduceLT, Nat.reduceGT, Int.reduceGT, Int.reduceGE, Int.reduceLT, Int.reduceLE, Int.reduceEq, Int.reduceAdd, Int.reduceSub, Int.reduceNeg, reduceCtorEq, if_true, if_false, ite_true, ite_false, ne_eq, eq_self, OPK_, KEY_, WR_, CHK_, Nat.reduceBEq, K4_, K5_, K6_, K7_, e1, e2, e3, hw]
            exact ih (i + 1, st) _ _ _ (by simp; omega) ⟨by simp; omega, hinv⟩ rfl (by rw [app_take_add]; rfl) rfl
          · rw [if_neg e3] at hinv
            obtain ⟨best, top, fd⟩ := st
            cases fd with
            | false =>
              rw [if_neg (by simp)] at hinv
              simp only [RUN_, U_hourglassref23_Value, FR_, Nat.reducePow, Int.reducePow, Nat.reduceAdd, Nat.reduceSub, Nat.reduceMul, Int.reduceToNat, Nat.reduceLeDiff, Nat.reduceEqDiff, Nat.reduceLT, Nat.reduceGT, Int.reduceGT, Int.reduceGE, Int.reduceLT, Int.reduceLE, Int.reduceEq, Int.reduceAdd, Int.reduceSub, Int.reduceNeg, reduceCtorEq, if_true, if_false, ite_true, ite_false, ne_eq, eq_self, OPK_, KEY_, WR_, CHK_, Nat.reduceBEq, K4_, K5_, K6_, K7_, e1, e2, e3, h16, hw]
              exact ih (i + 1, _) _ _ _ (by simp; omega) ⟨by simp; omega, hinv⟩ rfl (by rw [app_take_add]; rfl) rfl
            | true =>
              simp only [RUN_, U_hourglassref23_Value, FR_, Nat.reducePow, Int.reducePow, Nat.reduceAdd, Nat.reduceSub, Nat.reduceMul, Int.reduceToNat, Nat.reduceLeDiff, Nat.reduceEqDiff, Nat.reduceLT, Nat.reduceGT, Int.reduceGT, Int.reduceGE, Int.reduceLT, Int.reduceLE, Int.reduceEq, Int.reduceAdd, Int.reduceSub, Int.reduceNeg, reduceCtorEq, if_true, if_false, ite_true, ite_false, ne_eq, eq_self, OPK_, KEY_, WR_, CHK_, Nat.reduceBEq, K4_, K5_, K6_, K7_, e1, e2, e3, h16, hw]
              refine h1' (l[i]).stamp top _ _ _ ?_
              by_cases e5 : cmpS (l[i]).stamp top ≤ 0
              · rw [if_pos ⟨rfl, e5⟩] at hinv
                simp only [RUN_, U_hourglassref23_Value, FR_, Nat.reducePow, Int.reducePow, Nat.reduceAdd, Nat.reduceSub, Nat.reduceMul, Int.reduceToNat, Nat.reduceLeDiff, Nat.reduceEqDiff, Nat.reduceLT, Nat.reduceGT, Int.reduceGT, Int.reduceGE, Int.reduceLT, Int.reduceLE, Int.reduceEq, Int.reduceAdd, Int.reduceSub, Int.reduceNeg, reduceCtorEq, if_true, if_false, ite_true, ite_false, ne_eq, eq_self, OPK_, KEY_, WR_, CHK_, Nat.reduceBEq, K4_, K5_, K6_, K7_, e1, e2, e3, e5, hw]
                exact ih (i + 1, ⟨best, top, true⟩) _ _ _ (by simp; omega) ⟨by simp; omega, hinv⟩ rfl (by rw [app_take_add]; rfl) rfl
              · rw [if_neg (by simp; omega)] at hinv
                simp only [RUN_, U_hourglassref23_Value, FR_, Nat.reducePow, Int.reducePow, Nat.reduceAdd, Nat.reduceSub, Nat.reduceMul, Int.reduceToNat, Nat.reduceLeDiff, Nat.reduceEqDiff, Nat.reduceLT, Nat.reduceGT, Int.reduceGT, Int.reduceGE, Int.reduceLT, Int.reduceLE, Int.reduceEq, Int.reduceAdd, Int.reduceSub, Int.reduceNeg, reduceCtorEq, if_true, if_false, ite_true, ite_false, ne_eq, eq_self, OPK_, KEY_, WR_, CHK_, Nat.reduceBEq, K4_, K5_, K6_, K7_, e1, e2, e3, e5, h16, hw]
                exact ih (i + 1, _) _ _ _ (by simp; omega) ⟨by simp; omega, hinv⟩ rfl (by rw [app_take_add]; rfl) rfl
  · have hlt : ¬ ((i : Int) < (l.length : Int)) := by omega
    rw [List.drop_of_length_le (by omega)] at hinv
    have hv : valueT l k at_ = valR st := by unfold valueT; rw [hinv]; rfl
    rw [hv] at hK
    unfold valR at hK
    obtain ⟨best, top, fd⟩ := st
    cases fd with
    | false =>
      rw [if_pos (.inl rfl)] at hK
      simp only [RUN_, U_hourglassref23_Value, FR_, Nat.reducePow, Int.reducePow, Nat.reduceAdd, Nat.reduceSub, Nat.reduceMul, Int.reduceToNat, Nat.reduceLeDiff, Nat.reduceEqDiff, Nat.reduceLT, Nat.reduceGT, Int.reduceGT, Int.reduceGE, Int.reduceLT, Int.reduceLE, Int.reduceEq, Int.reduceAdd, Int.reduceSub, Int.reduceNeg, reduceCtorEq, if_true, if_false, ite_true, ite_false, ne_eq, eq_self, OPK_, KEY_, WR_, CHK_, Nat.reduceBEq, K4_, K5_, K6_, K7_, hlt]
      exact hK
    | true =>
      cases e5 : best.gone with
      | true =>
        rw [if_pos (.inr e5)] at hK
        simp only [RUN_, U_hourglassref23_Value, FR_, Nat.reducePow, Int.reducePow, Nat.reduceAdd, Nat.reduceSub, Nat.reduceMul, Int.reduceToNat, Nat.reduceLeDiff, Nat.reduceEqDiff, Nat.reduceLT, Nat.reduceGT, Int.reduceGT, Int.reduceGE, Int.reduceLT, Int.reduceLE, Int.reduceEq, Int.reduceAdd, Int.reduceSub, Int.reduceNeg, reduceCtorEq, if_true, if_false, ite_true, ite_false, ne_eq, eq_self, OPK_, KEY_, WR_, CHK_, Nat.reduceBEq, K4_, K5_, K6_, K7_, hlt, e5]
        exact hK
      | false =>
        rw [if_neg (by simp [e5])] at hK
        simp only [RUN_, U_hourglassref23_Value, FR_, Nat.reducePow, Int.reducePow, Nat.reduceAdd, Nat.reduceSub, Nat.reduceMul, Int.reduceToNat, Nat.reduceLeDiff, Nat.reduceEqDiff, Nat.reduceLT, Nat.reduceGT, Int.reduceGT, Int.reduceGE, Int.reduceLT, Int.reduceLE, Int.reduceEq, Int.reduceAdd, Int.reduceSub, Int.reduceNeg, reduceCtorEq, if_true, if_false, ite_true, ite_false, ne_eq, eq_self, OPK_, KEY_, WR_, CHK_, Nat.reduceBEq, K4_, K5_, K6_, K7_, hlt, e5]
        exact hK
end Go.AM
