import Derived.Test.YtokgblddddfhnaaM10
/-! Functions, lowered. -/
namespace Go.AM
open Go
set_option linter.unusedVariables false
set_option maxRecDepth 20000
-- hourglasslaw14_RecBytes: 0=hourglasslaw14_awake 1=hourglasslaw14_great 2=rec_Get 3=hourglassref14_Get 4=rec_Put 5=hourglasslaw14_rcd 6=hourglassref14_Put 7=hourglassref14_Same 8=rec_Same 9=rec_Good 10=hourglassref14_Good
-- hourglasslaw14_RecBack: 0=hourglasslaw14_awake 1=hourglasslaw14_great 2=rec_Good 3=rec_Put 4=rec_Get 5=rec_Same
-- hourglasslaw14_RecWrites: 0=hourglasslaw14_awake 1=hourglasslaw14_long 2=rec_GetWrites 3=hourglassref14_GetWrites 4=rec_PutWrites 5=hourglassref14_PutWrites 6=hourglassref10_Writes
def hourglasslaw14_RecWrites_k1 (c : Nat → FuncId) : LCode := (.seq (.tree (.rd ⟨some 32, none, .mv false (.t 0)⟩ 0 false (.rd ⟨some 35, none, .mv false (.t 0)⟩ 3 true (.mv ⟨some 33, none, .call (.f (c 4)) [(.c .nilS), (.t 32)]⟩ [0] (.rd ⟨some 34, none, .conv .ofBytes (.t 33)⟩ 2 true (.mv ⟨some 36, none, .call (.f (c 5)) [(.c .nilS), (.t 35)]⟩ [0, 1, 3] (.rd ⟨some 37, none, .conv .ofBytes (.t 36)⟩ 5 false (.rd ⟨some 38, none, .bin .eql .sc (.t 34) (.t 37)⟩ 6 false (.rd ⟨some 39, none, .mv false (.t 38)⟩ 7 false (.rd ⟨some 40, some (39, true), .mv false (.t 7)⟩ 8 false (.rd ⟨some 41, some (39, true), .bin .eql .sc (.t 40) (.c (.int .i64 0))⟩ 9 false (.rd ⟨some 42, some (39, true), .mv false (.t 10)⟩ 10 false (.rd ⟨some 43, some (39, true), .bin .eql .bl (.t 41) (.t 42)⟩ 11 false (.rd ⟨some 44, none, .pick (.t 39) (.t 43) (.c (.bool false))⟩ 12 false (.rd ⟨some 45, none, .mv false (.t 44)⟩ 13 false (.rd ⟨some 46, some (45, true), .mv false (.t 10)⟩ 14 false (.rd ⟨some 47, some (45, true), .mv false (.t 46)⟩ 15 false (.rd ⟨some 48, some (47, false), .mv false (.t 7)⟩ 16 false (.rd ⟨some 49, some (47, false), .bin .eql .sc (.t 48) (.c (.int .i64 3))⟩ 17 false (.rd ⟨some 50, some (45, true), .pick (.t 47) (.c (.bool true)) (.t 49)⟩ 18 false (.rd ⟨some 51, none, .pick (.t 45) (.t 50) (.c (.bool false))⟩ 19 false (.rd ⟨some 52, none, .mv false (.t 51)⟩ 20 false (.rd ⟨some 53, some (52, true), .mv false (.t 6)⟩ 21 false (.rd ⟨some 54, some (52, true), .mv false (.t 9)⟩ 22 false (.rd ⟨some 55, some (52, true), .bin .eql .sc (.t 53) (.t 54)⟩ 23 false (.rd ⟨some 56, none, .pick (.t 52) (.t 55) (.c (.bool false))⟩ 24 false (.rd ⟨some 57, none, .mv false (.t 56)⟩ 25 false (.rd ⟨some 58, some (57, true), .mv false (.t 5)⟩ 26 false (.rd ⟨some 59, some (57, true), .mv false (.t 8)⟩ 27 false (.mv ⟨some 60, some (57, true), .call (.f (c 6)) [(.t 58), (.t 59)]⟩ [0, 1, 2, 3, 4, 5, 6, 7, 8, 9, 10, 11, 12, 13, 14, 15, 16, 17, 18, 19, 20, 21, 22, 23, 24, 25, 26, 27] (.rd ⟨some 61, none, .pick (.t 57) (.t 60) (.c (.bool false))⟩ 29 false (.mv ⟨some 4, none, .mv true (.t 61)⟩ [0, 1, 2, 3, 4, 5, 6, 7, 8, 9, 10, 11, 12, 13, 14, 15, 16, 17, 18, 19, 20, 21, 22, 23, 24, 25, 26, 27, 28, 29] .done .stop)) .stop)))))))))))))))))))))))) .stop)) .stop)))) .ret)
def hourglasslaw14_RecWrites_k2 (c : Nat → FuncId) : LCode := (.seq (.sq [⟨some 27, none, .mv true (.t 1)⟩, ⟨some 28, none, .call (.f (c 3)) [(.t 27)]⟩, ⟨some 26, none, .mv false (.t 28)⟩, ⟨some 29, none, .ext (.t 26) 0⟩, ⟨some 30, none, .ext (.t 26) 1⟩, ⟨some 31, none, .ext (.t 26) 2⟩, ⟨some 8, none, .mv true (.t 29)⟩, ⟨some 9, none, .mv true (.t 30)⟩, ⟨some 10, none, .mv true (.t 31)⟩]) (hourglasslaw14_RecWrites_k1 c))
def hourglasslaw14_RecWrites_k3 (c : Nat → FuncId) : LCode := (.seq (.sq [⟨some 21, none, .mv false (.t 1)⟩, ⟨some 22, none, .call (.f (c 2)) [(.t 21)]⟩, ⟨some 20, none, .mv false (.t 22)⟩, ⟨some 23, none, .ext (.t 20) 0⟩, ⟨some 24, none, .ext (.t 20) 1⟩, ⟨some 25, none, .ext (.t 20) 2⟩, ⟨some 5, none, .mv true (.t 23)⟩, ⟨some 6, none, .mv true (.t 24)⟩, ⟨some 7, none, .mv true (.t 25)⟩]) (hourglasslaw14_RecWrites_k2 c))
def hourglasslaw14_RecWrites_k4 (c : Nat → FuncId) : LCode := (.seq (.seq (.sq [⟨some 13, none, .mv false (.t 0)⟩, ⟨some 14, none, .call (.f (c 1)) [(.t 13)]⟩, ⟨some 15, none, .mv false (.t 14)⟩, ⟨some 16, some (15, false), .mv false (.t 1)⟩, ⟨some 17, some (15, false), .len .sl (.t 16)⟩, ⟨some 18, some (15, false), .bin .gtr .sc (.t 17) (.c (.int .i64 3000))⟩, ⟨some 19, none, .pick (.t 15) (.c (.bool true)) (.t 18)⟩]) (.cond (.t 19) (.seq (.sq [⟨some 4, none, .mv true (.c (.bool true))⟩]) .ret) .skip)) (hourglasslaw14_RecWrites_k3 c))
def hourglasslaw14_RecWrites_k5 (c : Nat → FuncId) : LCode := (.seq (.seq (.sq [⟨some 11, none, .call (.f (c 0)) []⟩, ⟨some 12, none, .un .not (.t 11)⟩]) (.cond (.t 12) (.seq (.sq [⟨some 4, none, .mv true (.c (.bool false))⟩]) .ret) .skip)) (hourglasslaw14_RecWrites_k4 c))
theorem U_hourglasslaw14_RecWrites (c : Nat → FuncId) : ((type_of% (@unfC _ _ (hourglasslaw14_RecWrites_k1.eq_1 c)) ∧ type_of% (@unfC _ _ (hourglasslaw14_RecWrites_k2.eq_1 c))) ∧ (type_of% (@unfC _ _ (hourglasslaw14_RecWrites_k3.eq_1 c)) ∧ (type_of% (@unfC _ _ (hourglasslaw14_RecWrites_k4.eq_1 c)) ∧ type_of% (@unfC _ _ (hourglasslaw14_RecWrites_k5.eq_1 c))))) := ⟨⟨@unfC _ _ (hourglasslaw14_RecWrites_k1.eq_1 c), @unfC _ _ (hourglasslaw14_RecWrites_k2.eq_1 c)⟩, ⟨@unfC _ _ (hourglasslaw14_RecWrites_k3.eq_1 c), ⟨@unfC _ _ (hourglasslaw14_RecWrites_k4.eq_1 c), @unfC _ _ (hourglasslaw14_RecWrites_k5.eq_1 c)⟩⟩⟩
def C_hourglasslaw14_RecWrites (c : Nat → FuncId) : LFn := ⟨62, [.t 4], (.seq (.sq [⟨some 4, none, .mv true (.c (.bool false))⟩]) (hourglasslaw14_RecWrites_k5 c))⟩

-- hourglasslaw14_awake: 0=rec_Get 1=rec_Put 2=rec_Same 3=rec_Good
def hourglasslaw14_awake_k1 (c : Nat → FuncId) : LCode := (.seq (.sq [⟨some 10, none, .loadA 9 (.t 1)⟩, ⟨some 11, none, .call (.f (c 1)) [(.t 10)]⟩, ⟨some 12, none, .conv .ofBytes (.t 11)⟩, ⟨some 13, none, .bin .eql .sc (.t 12) (.c (.str [3, 2]))⟩, ⟨some 14, none, .mv false (.t 13)⟩, ⟨some 15, some (14, true), .mv false (.t 3)⟩, ⟨some 16, some (14, true), .bin .eql .sc (.t 15) (.c (.int .i64 0))⟩, ⟨some 17, none, .pick (.t 14) (.t 16) (.c (.bool false))⟩, ⟨some 18, none, .mv false (.t 17)⟩, ⟨some 19, some (18, true), .loadA 9 (.t 2)⟩, ⟨some 20, some (18, true), .loadA 9 (.t 1)⟩, ⟨some 21, some (18, true), .call (.f (c 2)) [(.t 19), (.t 20)]⟩, ⟨some 22, none, .pick (.t 18) (.t 21) (.c (.bool false))⟩, ⟨some 23, none, .mv false (.t 22)⟩, ⟨some 24, some (23, true), .loadA 9 (.t 1)⟩, ⟨some 25, some (23, true), .call (.f (c 3)) [(.t 24)]⟩, ⟨some 26, none, .pick (.t 23) (.t 25) (.c (.bool false))⟩, ⟨some 0, none, .mv true (.t 26)⟩]) .ret)
def hourglasslaw14_awake_k2 (c : Nat → FuncId) : LCode := (.seq (.sq [⟨some 6, none, .bsl ⟨1, false, 1, (.s (.int .u8 0))⟩ 2 [(0, (.c (.int .u8 3))), (1, (.c (.int .u8 2)))]⟩, ⟨some 7, none, .call (.f (c 0)) [(.t 6)]⟩, ⟨some 5, none, .mv false (.t 7)⟩, ⟨some 8, none, .ext (.t 5) 0⟩, ⟨some 9, none, .ext (.t 5) 1⟩, ⟨some 2, none, .alloc false [(.s (.int .i64 0)), (.s (.int .i64 0)), (.s (.int .i64 0)), (.s (.int .u8 0)), (.s (.int .i64 0)), (.s (.int .u8 0)), (.s .nilS), (.s (.bool false)), (.s .nilS)]⟩, ⟨none, none, .store 9 (.t 2) (.t 8)⟩, ⟨some 3, none, .mv true (.t 9)⟩]) (hourglasslaw14_awake_k1 c))
def hourglasslaw14_awake_k3 (c : Nat → FuncId) : LCode := (.seq (.sq [⟨some 4, none, .build [(.s (.int .i64 0)), (.s (.int .i64 0)), (.s (.int .i64 0)), (.s (.int .u8 0)), (.s (.int .i64 0)), (.s (.int .u8 0)), (.s .nilS), (.s (.bool false)), (.s .nilS)] [(0, 1, (.c (.int .i64 3))), (1, 1, (.c (.int .i64 1)))]⟩, ⟨some 1, none, .alloc false [(.s (.int .i64 0)), (.s (.int .i64 0)), (.s (.int .i64 0)), (.s (.int .u8 0)), (.s (.int .i64 0)), (.s (.int .u8 0)), (.s .nilS), (.s (.bool false)), (.s .nilS)]⟩, ⟨none, none, .store 9 (.t 1) (.t 4)⟩]) (hourglasslaw14_awake_k2 c))
theorem U_hourglasslaw14_awake (c : Nat → FuncId) : (type_of% (@unfC _ _ (hourglasslaw14_awake_k1.eq_1 c)) ∧ (type_of% (@unfC _ _ (hourglasslaw14_awake_k2.eq_1 c)) ∧ type_of% (@unfC _ _ (hourglasslaw14_awake_k3.eq_1 c)))) := ⟨@unfC _ _ (hourglasslaw14_awake_k1.eq_1 c), ⟨@unfC _ _ (hourglasslaw14_awake_k2.eq_1 c), @unfC _ _ (hourglasslaw14_awake_k3.eq_1 c)⟩⟩
def C_hourglasslaw14_awake (c : Nat → FuncId) : LFn := ⟨27, [.t 0], (.seq (.sq [⟨some 0, none, .mv true (.c (.bool false))⟩]) (hourglasslaw14_awake_k3 c))⟩

-- hourglasslaw14_great: 0=hourglasslaw14_long
-- rec_Get: 0=rec_Reader_Most 1=rec_Reader_Num 2=bits_Zag 3=rec_Reader_Stamp 4=rec_Reader_Writes 5=rec_Good
def rec_Get_k1 (c : Nat → FuncId) : LCode := (.sq [⟨some 26, none, .mv false (.t 4)⟩, ⟨some 27, none, .call (.f (c 4)) [(.t 26)]⟩, ⟨some 28, none, .shift 6 (.t 5)⟩, ⟨none, none, .store 1 (.t 28) (.t 27)⟩])
def rec_Get_k2 (c : Nat → FuncId) : LCode := (.seq (.sq [⟨some 23, none, .mv false (.t 4)⟩, ⟨some 24, none, .call (.f (c 3)) [(.t 23)]⟩, ⟨some 25, none, .shift 4 (.t 5)⟩, ⟨none, none, .store 2 (.t 25) (.t 24)⟩]) (rec_Get_k1 c))
def rec_Get_k3 (c : Nat → FuncId) : LCode := (.seq (.sq [⟨some 20, none, .mv false (.t 4)⟩, ⟨some 21, none, .call (.f (c 3)) [(.t 20)]⟩, ⟨some 22, none, .shift 2 (.t 5)⟩, ⟨none, none, .store 2 (.t 22) (.t 21)⟩]) (rec_Get_k2 c))
def rec_Get_k4 (c : Nat → FuncId) : LCode := (.cond (.t 29) .skip (.sq [⟨some 31, none, .bin .eql .sc (.t 17) (.c (.int .i64 5))⟩, ⟨some 29, none, .mv true (.t 31)⟩]))
def rec_Get_k5 (c : Nat → FuncId) : LCode := (.sq [⟨some 32, none, .mv false (.t 4)⟩, ⟨some 33, none, .call (.f (c 3)) [(.t 32)]⟩, ⟨some 34, none, .shift 4 (.t 5)⟩, ⟨none, none, .store 2 (.t 34) (.t 33)⟩])
def rec_Get_k6 (c : Nat → FuncId) : LCode := (.seq (.block 2 (.tree (.rd ⟨some 48, none, .shift 8 (.t 5)⟩ 0 true (.rd ⟨some 50, none, .mv false (.t 4)⟩ 2 true (.mv ⟨some 49, none, .load1 true (.t 48)⟩ [0] (.mv ⟨some 51, none, .call (.f (c 0)) [(.t 50), (.c (.int .i64 8))]⟩ [2] (.rd ⟨some 52, none, .bsl ⟨1, false, 8, (.s (.int .i64 0))⟩ 1 [(0, (.t 51))]⟩ 4 false (.mv ⟨some 53, none, .app ⟨1, false, 8, (.s (.int .i64 0))⟩ false (.t 49) (.t 52)⟩ [0, 1, 2, 3, 4] (.rd ⟨some 54, none, .shift 8 (.t 5)⟩ 6 false (.mv ⟨none, none, .store 1 (.t 54) (.t 53)⟩ [0, 1, 2, 3, 4, 5, 6] .done .stop)) .stop)) .stop) (.mv ⟨some 51, none, .call (.f (c 0)) [(.t 50), (.c (.int .i64 8))]⟩ [2] (.rd ⟨some 52, none, .bsl ⟨1, false, 8, (.s (.int .i64 0))⟩ 1 [(0, (.t 51))]⟩ 4 true (.mv ⟨some 49, none, .load1 true (.t 48)⟩ [0] (.mv ⟨some 53, none, .app ⟨1, false, 8, (.s (.int .i64 0))⟩ false (.t 49) (.t 52)⟩ [0, 1, 2, 3, 4] (.rd ⟨some 54, none, .shift 8 (.t 5)⟩ 6 false (.mv ⟨none, none, .store 1 (.t 54) (.t 53)⟩ [0, 1, 2, 3, 4, 5, 6] .done .stop)) .stop) .stop)) .stop)))))) (.sq [⟨some 55, none, .bin .add .sc (.t 46) (.c (.int .i64 1))⟩, ⟨some 46, none, .mv false (.t 55)⟩]))
def rec_Get_k7 (c : Nat → FuncId) : LCode := (.block 1 (.loop [false, false, true, false, true, true, false, false, false, false, false, false, false, false, false, false, false, false, false, false, false, false, false, false, false, false, false, false, false, false, false, false, false, false, false, false, false, false, false, false, false, false, false, false, false, true, true, false, false, false, false, false, false, false, false, false, false, false, false, false, false, false, false, false, false, false, false, false, false, false, false, false, false, false, false] (.seq (.sq [⟨some 47, none, .bin .lss .sc (.t 46) (.t 45)⟩]) (.seq (.cond (.t 47) .skip (.exit 1)) (rec_Get_k6 c)))))
def rec_Get_k8 (c : Nat → FuncId) : LCode := (.seq (.sq [⟨some 44, none, .mv false (.t 4)⟩, ⟨some 45, none, .call (.f (c 0)) [(.t 44), (.c (.int .i64 8))]⟩, ⟨some 46, none, .mv false (.c (.int .i64 0))⟩]) (rec_Get_k7 c))
def rec_Get_k9 (c : Nat → FuncId) : LCode := (.seq (.sq [⟨some 41, none, .mv false (.t 4)⟩, ⟨some 42, none, .call (.f (c 3)) [(.t 41)]⟩, ⟨some 43, none, .shift 4 (.t 5)⟩, ⟨none, none, .store 2 (.t 43) (.t 42)⟩]) (rec_Get_k8 c))
def rec_Get_k10 (c : Nat → FuncId) : LCode := (.seq (.sq [⟨some 37, none, .mv false (.t 4)⟩, ⟨some 38, none, .call (.f (c 0)) [(.t 37), (.c (.int .i64 1))]⟩, ⟨some 39, none, .bin .eql .sc (.t 38) (.c (.int .i64 1))⟩, ⟨some 40, none, .shift 7 (.t 5)⟩, ⟨none, none, .store 1 (.t 40) (.t 39)⟩]) (rec_Get_k9 c))
def rec_Get_k11 (c : Nat → FuncId) : LCode := (.seq (.sq [⟨some 36, none, .bin .eql .sc (.t 17) (.c (.int .i64 4))⟩, ⟨some 35, none, .mv true (.t 36)⟩]) (.cond (.t 35) (rec_Get_k10 c) .skip))
def rec_Get_k12 (c : Nat → FuncId) : LCode := (.seq (.seq (.sq [⟨some 30, none, .bin .eql .sc (.t 17) (.c (.int .i64 2))⟩, ⟨some 29, none, .mv true (.t 30)⟩]) (rec_Get_k4 c)) (.cond (.t 29) (rec_Get_k5 c) (rec_Get_k11 c)))
def rec_Get_k13 (c : Nat → FuncId) : LCode := (.block 0 (.seq (.sq [⟨some 19, none, .bin .eql .sc (.t 17) (.c (.int .i64 1))⟩, ⟨some 18, none, .mv true (.t 19)⟩]) (.cond (.t 18) (rec_Get_k3 c) (rec_Get_k12 c))))
def rec_Get_k14 (c : Nat → FuncId) : LCode := (.seq (.sq [⟨some 73, none, .build [(.s (.int .i64 0)), (.s (.int .i64 0)), (.s (.int .i64 0)), (.s (.int .u8 0)), (.s (.int .i64 0)), (.s (.int .u8 0)), (.s .nilS), (.s (.bool false)), (.s .nilS)] []⟩, ⟨none, none, .store 9 (.t 2) (.t 73)⟩, ⟨some 3, none, .mv true (.c (.int .i64 3))⟩]) .ret)
def rec_Get_k15 (c : Nat → FuncId) : LCode := (.seq (.sq [⟨some 74, none, .loadA 9 (.t 5)⟩, ⟨none, none, .store 9 (.t 2) (.t 74)⟩, ⟨some 3, none, .mv true (.c (.int .i64 0))⟩]) .ret)
def rec_Get_k16 (c : Nat → FuncId) : LCode := (.seq (.seq (.sq [⟨some 56, none, .mv false (.t 4)⟩, ⟨some 57, none, .nilc (.t 56)⟩, ⟨some 58, none, .shift 1 (.t 57)⟩, ⟨some 59, none, .load1 false (.t 58)⟩, ⟨some 60, none, .mv false (.t 59)⟩, ⟨some 61, some (60, false), .mv false (.t 4)⟩, ⟨some 62, some (60, false), .nilc (.t 61)⟩, ⟨some 63, some (60, false), .shift 0 (.t 62)⟩, ⟨some 64, some (60, false), .load1 false (.t 63)⟩, ⟨some 65, some (60, false), .len .sl (.t 64)⟩, ⟨some 66, some (60, false), .bin .gtr .sc (.t 65) (.c (.int .i64 0))⟩, ⟨some 67, none, .pick (.t 60) (.c (.bool true)) (.t 66)⟩, ⟨some 68, none, .mv false (.t 67)⟩, ⟨some 69, some (68, false), .loadA 9 (.t 5)⟩, ⟨some 70, some (68, false), .call (.f (c 5)) [(.t 69)]⟩, ⟨some 71, some (68, false), .un .not (.t 70)⟩, ⟨some 72, none, .pick (.t 68) (.c (.bool true)) (.t 71)⟩]) (.cond (.t 72) (rec_Get_k14 c) .skip)) (rec_Get_k15 c))
def rec_Get_k17 (c : Nat → FuncId) : LCode := (.seq (.seq (.sq [⟨some 16, none, .shift 0 (.t 5)⟩, ⟨some 17, none, .load1 false (.t 16)⟩]) (rec_Get_k13 c)) (rec_Get_k16 c))
def rec_Get_k18 (c : Nat → FuncId) : LCode := (.seq (.sq [⟨some 12, none, .mv false (.t 4)⟩, ⟨some 13, none, .call (.f (c 1)) [(.t 12)]⟩, ⟨some 14, none, .call (.f (c 2)) [(.t 13)]⟩, ⟨some 15, none, .shift 1 (.t 5)⟩, ⟨none, none, .store 1 (.t 15) (.t 14)⟩]) (rec_Get_k17 c))
def rec_Get_k19 (c : Nat → FuncId) : LCode := (.seq (.sq [⟨some 9, none, .mv false (.t 4)⟩, ⟨some 10, none, .call (.f (c 0)) [(.t 9), (.c (.int .i64 5))]⟩, ⟨some 11, none, .build [(.s (.int .i64 0)), (.s (.int .i64 0)), (.s (.int .i64 0)), (.s (.int .u8 0)), (.s (.int .i64 0)), (.s (.int .u8 0)), (.s .nilS), (.s (.bool false)), (.s .nilS)] [(0, 1, (.t 10))]⟩, ⟨some 5, none, .alloc false [(.s (.int .i64 0)), (.s (.int .i64 0)), (.s (.int .i64 0)), (.s (.int .u8 0)), (.s (.int .i64 0)), (.s (.int .u8 0)), (.s .nilS), (.s (.bool false)), (.s .nilS)]⟩, ⟨none, none, .store 9 (.t 5) (.t 11)⟩]) (rec_Get_k18 c))
def rec_Get_k20 (c : Nat → FuncId) : LCode := (.seq (.sq [⟨some 6, none, .mv false (.t 0)⟩, ⟨some 7, none, .build [(.s .nilS), (.s (.bool false))] [(0, 1, (.t 6))]⟩, ⟨some 8, none, .box false false (.t 7)⟩, ⟨some 4, none, .mv true (.t 8)⟩]) (rec_Get_k19 c))
theorem U_rec_Get (c : Nat → FuncId) : ((((type_of% (@unfC _ _ (rec_Get_k1.eq_1 c)) ∧ type_of% (@unfC _ _ (rec_Get_k2.eq_1 c))) ∧ (type_of% (@unfC _ _ (rec_Get_k3.eq_1 c)) ∧ (type_of% (@unfC _ _ (rec_Get_k4.eq_1 c)) ∧ type_of% (@unfC _ _ (rec_Get_k5.eq_1 c))))) ∧ ((type_of% (@unfC _ _ (rec_Get_k6.eq_1 c)) ∧ type_of% (@unfC _ _ (rec_Get_k7.eq_1 c))) ∧ (type_of% (@unfC _ _ (rec_Get_k8.eq_1 c)) ∧ (type_of% (@unfC _ _ (rec_Get_k9.eq_1 c)) ∧ type_of% (@unfC _ _ (rec_Get_k10.eq_1 c)))))) ∧ (((type_of% (@unfC _ _ (rec_Get_k11.eq_1 c)) ∧ type_of% (@unfC _ _ (rec_Get_k12.eq_1 c))) ∧ (type_of% (@unfC _ _ (rec_Get_k13.eq_1 c)) ∧ (type_of% (@unfC _ _ (rec_Get_k14.eq_1 c)) ∧ type_of% (@unfC _ _ (rec_Get_k15.eq_1 c))))) ∧ ((type_of% (@unfC _ _ (rec_Get_k16.eq_1 c)) ∧ type_of% (@unfC _ _ (rec_Get_k17.eq_1 c))) ∧ (type_of% (@unfC _ _ (rec_Get_k18.eq_1 c)) ∧ (type_of% (@unfC _ _ (rec_Get_k19.eq_1 c)) ∧ type_of% (@unfC _ _ (rec_Get_k20.eq_1 c))))))) := ⟨⟨⟨⟨@unfC _ _ (rec_Get_k1.eq_1 c), @unfC _ _ (rec_Get_k2.eq_1 c)⟩, ⟨@unfC _ _ (rec_Get_k3.eq_1 c), ⟨@unfC _ _ (rec_Get_k4.eq_1 c), @unfC _ _ (rec_Get_k5.eq_1 c)⟩⟩⟩, ⟨⟨@unfC _ _ (rec_Get_k6.eq_1 c), @unfC _ _ (rec_Get_k7.eq_1 c)⟩, ⟨@unfC _ _ (rec_Get_k8.eq_1 c), ⟨@unfC _ _ (rec_Get_k9.eq_1 c), @unfC _ _ (rec_Get_k10.eq_1 c)⟩⟩⟩⟩, ⟨⟨⟨@unfC _ _ (rec_Get_k11.eq_1 c), @unfC _ _ (rec_Get_k12.eq_1 c)⟩, ⟨@unfC _ _ (rec_Get_k13.eq_1 c), ⟨@unfC _ _ (rec_Get_k14.eq_1 c), @unfC _ _ (rec_Get_k15.eq_1 c)⟩⟩⟩, ⟨⟨@unfC _ _ (rec_Get_k16.eq_1 c), @unfC _ _ (rec_Get_k17.eq_1 c)⟩, ⟨@unfC _ _ (rec_Get_k18.eq_1 c), ⟨@unfC _ _ (rec_Get_k19.eq_1 c), @unfC _ _ (rec_Get_k20.eq_1 c)⟩⟩⟩⟩⟩
def C_rec_Get (c : Nat → FuncId) : LFn := ⟨75, [.many 2 9, .t 3], (.seq (.sq [⟨some 2, none, .alloc false [(.s (.int .i64 0)), (.s (.int .i64 0)), (.s (.int .i64 0)), (.s (.int .u8 0)), (.s (.int .i64 0)), (.s (.int .u8 0)), (.s .nilS), (.s (.bool false)), (.s .nilS)]⟩, ⟨some 3, none, .mv true (.c (.int .i64 0))⟩]) (rec_Get_k20 c))⟩

-- hourglassref14_Get: 0=hourglassref14_Count 1=hourglassref1_Reader_Num 2=hourglassref1_Zag 3=hourglassref14_Stamp 4=hourglassref14_Writes 5=hourglassref14_Bool 6=hourglassref1_Reader_End 7=hourglassref14_Good
-- rec_Put: 0=rec_Good 1=rec_num 2=bits_Zig 3=bits_Put 4=rec_putStamp 5=rec_PutWrites
def rec_Put_k1 (c : Nat → FuncId) : LCode := (.tree (.rd ⟨some 22, none, .shift 2 (.t 1)⟩ 1 true (.rd ⟨some 23, none, .loadA 2 (.t 22)⟩ 2 true (.rd ⟨some 25, none, .shift 4 (.t 1)⟩ 4 true (.rd ⟨some 26, none, .loadA 2 (.t 25)⟩ 5 true (.rd ⟨some 28, none, .shift 6 (.t 1)⟩ 7 true (.rd ⟨some 29, none, .load1 false (.t 28)⟩ 8 true (.mv ⟨some 21, none, .mv true (.t 3)⟩ [] (.mv ⟨some 24, none, .call (.f (c 4)) [(.t 21), (.t 23)]⟩ [0, 1, 2] (.mv ⟨some 27, none, .call (.f (c 4)) [(.t 24), (.t 26)]⟩ [0, 1, 2, 3, 4, 5] (.mv ⟨some 30, none, .call (.f (c 5)) [(.t 27), (.t 29)]⟩ [0, 1, 2, 3, 4, 5, 6, 7, 8] (.mv ⟨some 3, none, .mv true (.t 30)⟩ [0, 1, 2, 3, 4, 5, 6, 7, 8, 9] .done .stop) .stop) .stop) .stop) .stop))))))))
def rec_Put_k2 (c : Nat → FuncId) : LCode := (.cond (.t 31) .skip (.sq [⟨some 33, none, .bin .eql .sc (.t 18) (.c (.int .i64 5))⟩, ⟨some 31, none, .mv true (.t 33)⟩]))
def rec_Put_k3 (c : Nat → FuncId) : LCode := (.sq [⟨some 34, none, .mv true (.t 3)⟩, ⟨some 35, none, .shift 4 (.t 1)⟩, ⟨some 36, none, .loadA 2 (.t 35)⟩, ⟨some 37, none, .call (.f (c 4)) [(.t 34), (.t 36)]⟩, ⟨some 3, none, .mv true (.t 37)⟩])
def rec_Put_k4 (c : Nat → FuncId) : LCode := (.sq [⟨some 59, none, .mv true (.t 3)⟩, ⟨some 60, none, .mv false (.t 6)⟩, ⟨some 61, none, .call (.f (c 1)) [(.t 59), (.t 60)]⟩, ⟨some 3, none, .mv true (.t 61)⟩])
def rec_Put_k5 (c : Nat → FuncId) : LCode := (.seq (.block 2 (.seq (.sq [⟨some 57, none, .ixa (.sl 1) (.t 53) (.t 55)⟩, ⟨some 58, none, .load1 false (.t 57)⟩, ⟨some 6, none, .mv true (.t 58)⟩]) (rec_Put_k4 c))) (.sq [⟨some 62, none, .bin .add .sc (.t 55) (.c (.int .i64 1))⟩, ⟨some 55, none, .mv false (.t 62)⟩]))
def rec_Put_k6 (c : Nat → FuncId) : LCode := (.block 1 (.loop [false, false, false, true, false, false, false, false, false, false, false, false, false, false, false, false, false, false, false, false, false, false, false, false, false, false, false, false, false, false, false, false, false, false, false, false, false, false, false, false, false, false, false, false, false, false, false, false, false, false, false, false, false, true, true, true, false, false, false, false, false, false, false, false] (.seq (.sq [⟨some 56, none, .bin .lss .sc (.t 55) (.t 54)⟩]) (.seq (.cond (.t 56) .skip (.exit 1)) (rec_Put_k5 c)))))
def rec_Put_k7 (c : Nat → FuncId) : LCode := (.seq (.sq [⟨some 52, none, .shift 8 (.t 1)⟩, ⟨some 53, none, .load1 false (.t 52)⟩, ⟨some 54, none, .len .sl (.t 53)⟩, ⟨some 55, none, .mv false (.c (.int .i64 0))⟩]) (rec_Put_k6 c))
def rec_Put_k8 (c : Nat → FuncId) : LCode := (.seq (.tree (.rd ⟨some 43, none, .mv false (.t 4)⟩ 1 true (.rd ⟨some 45, none, .shift 4 (.t 1)⟩ 3 true (.rd ⟨some 46, none, .loadA 2 (.t 45)⟩ 4 true (.rd ⟨some 48, none, .shift 8 (.t 1)⟩ 6 true (.rd ⟨some 49, none, .load1 false (.t 48)⟩ 7 true (.rd ⟨some 50, none, .len .sl (.t 49)⟩ 8 true (.mv ⟨some 42, none, .mv true (.t 3)⟩ [] (.mv ⟨some 44, none, .call (.f (c 1)) [(.t 42), (.t 43)]⟩ [0, 1] (.mv ⟨some 47, none, .call (.f (c 4)) [(.t 44), (.t 46)]⟩ [0, 1, 2, 3, 4] (.mv ⟨some 51, none, .call (.f (c 1)) [(.t 47), (.t 50)]⟩ [0, 1, 2, 3, 4, 5, 6, 7, 8] (.mv ⟨some 3, none, .mv true (.t 51)⟩ [0, 1, 2, 3, 4, 5, 6, 7, 8, 9] .done .stop) .stop) .stop) .stop) .stop)))))))) (rec_Put_k7 c))
def rec_Put_k9 (c : Nat → FuncId) : LCode := (.seq (.seq (.sq [⟨some 40, none, .shift 7 (.t 1)⟩, ⟨some 41, none, .load1 false (.t 40)⟩]) (.cond (.t 41) (.sq [⟨some 4, none, .mv true (.c (.int .i64 1))⟩]) .skip)) (rec_Put_k8 c))
def rec_Put_k10 (c : Nat → FuncId) : LCode := (.seq (.sq [⟨some 39, none, .bin .eql .sc (.t 18) (.c (.int .i64 4))⟩, ⟨some 38, none, .mv true (.t 39)⟩]) (.cond (.t 38) (.seq (.sq [⟨some 4, none, .mv true (.c (.int .i64 0))⟩]) (rec_Put_k9 c)) .skip))
def rec_Put_k11 (c : Nat → FuncId) : LCode := (.seq (.seq (.sq [⟨some 32, none, .bin .eql .sc (.t 18) (.c (.int .i64 2))⟩, ⟨some 31, none, .mv true (.t 32)⟩]) (rec_Put_k2 c)) (.cond (.t 31) (rec_Put_k3 c) (rec_Put_k10 c)))
def rec_Put_k12 (c : Nat → FuncId) : LCode := (.block 0 (.seq (.sq [⟨some 20, none, .bin .eql .sc (.t 18) (.c (.int .i64 1))⟩, ⟨some 19, none, .mv true (.t 20)⟩]) (.cond (.t 19) (rec_Put_k1 c) (rec_Put_k11 c))))
def rec_Put_k13 (c : Nat → FuncId) : LCode := (.seq (.seq (.sq [⟨some 17, none, .shift 0 (.t 1)⟩, ⟨some 18, none, .load1 false (.t 17)⟩]) (rec_Put_k12 c)) (.seq (.sq [⟨some 63, none, .mv true (.t 3)⟩, ⟨some 2, none, .mv true (.t 63)⟩]) .ret))
def rec_Put_k14 (c : Nat → FuncId) : LCode := (.seq (.tree (.rd ⟨some 10, none, .shift 0 (.t 1)⟩ 0 false (.rd ⟨some 11, none, .load1 false (.t 10)⟩ 1 false (.rd ⟨some 13, none, .shift 1 (.t 1)⟩ 3 true (.rd ⟨some 14, none, .load1 false (.t 13)⟩ 4 true (.mv ⟨some 12, none, .call (.f (c 1)) [(.c .nilS), (.t 11)]⟩ [0, 1] (.mv ⟨some 15, none, .call (.f (c 2)) [(.t 14)]⟩ [0, 1, 2, 3, 4] (.mv ⟨some 16, none, .call (.f (c 3)) [(.t 12), (.t 15)]⟩ [0, 1, 2, 3, 4, 5] (.mv ⟨some 3, none, .mv true (.t 16)⟩ [0, 1, 2, 3, 4, 5, 6] .done .stop) .stop) .stop) .stop)))))) (rec_Put_k13 c))
def rec_Put_k15 (c : Nat → FuncId) : LCode := (.seq (.seq (.sq [⟨some 7, none, .loadA 9 (.t 1)⟩, ⟨some 8, none, .call (.f (c 0)) [(.t 7)]⟩, ⟨some 9, none, .un .not (.t 8)⟩]) (.cond (.t 9) (.seq (.sq [⟨some 2, none, .mv true (.c .nilS)⟩]) .ret) .skip)) (rec_Put_k14 c))
theorem U_rec_Put (c : Nat → FuncId) : (((type_of% (@unfC _ _ (rec_Put_k1.eq_1 c)) ∧ (type_of% (@unfC _ _ (rec_Put_k2.eq_1 c)) ∧ type_of% (@unfC _ _ (rec_Put_k3.eq_1 c)))) ∧ ((type_of% (@unfC _ _ (rec_Put_k4.eq_1 c)) ∧ type_of% (@unfC _ _ (rec_Put_k5.eq_1 c))) ∧ (type_of% (@unfC _ _ (rec_Put_k6.eq_1 c)) ∧ type_of% (@unfC _ _ (rec_Put_k7.eq_1 c))))) ∧ (((type_of% (@unfC _ _ (rec_Put_k8.eq_1 c)) ∧ type_of% (@unfC _ _ (rec_Put_k9.eq_1 c))) ∧ (type_of% (@unfC _ _ (rec_Put_k10.eq_1 c)) ∧ type_of% (@unfC _ _ (rec_Put_k11.eq_1 c)))) ∧ ((type_of% (@unfC _ _ (rec_Put_k12.eq_1 c)) ∧ type_of% (@unfC _ _ (rec_Put_k13.eq_1 c))) ∧ (type_of% (@unfC _ _ (rec_Put_k14.eq_1 c)) ∧ type_of% (@unfC _ _ (rec_Put_k15.eq_1 c)))))) := ⟨⟨⟨@unfC _ _ (rec_Put_k1.eq_1 c), ⟨@unfC _ _ (rec_Put_k2.eq_1 c), @unfC _ _ (rec_Put_k3.eq_1 c)⟩⟩, ⟨⟨@unfC _ _ (rec_Put_k4.eq_1 c), @unfC _ _ (rec_Put_k5.eq_1 c)⟩, ⟨@unfC _ _ (rec_Put_k6.eq_1 c), @unfC _ _ (rec_Put_k7.eq_1 c)⟩⟩⟩, ⟨⟨⟨@unfC _ _ (rec_Put_k8.eq_1 c), @unfC _ _ (rec_Put_k9.eq_1 c)⟩, ⟨@unfC _ _ (rec_Put_k10.eq_1 c), @unfC _ _ (rec_Put_k11.eq_1 c)⟩⟩, ⟨⟨@unfC _ _ (rec_Put_k12.eq_1 c), @unfC _ _ (rec_Put_k13.eq_1 c)⟩, ⟨@unfC _ _ (rec_Put_k14.eq_1 c), @unfC _ _ (rec_Put_k15.eq_1 c)⟩⟩⟩⟩
def C_rec_Put (c : Nat → FuncId) : LFn := ⟨64, [.t 2], (.seq (.sq [⟨some 1, none, .box false false (.t 0)⟩, ⟨some 2, none, .mv true (.c .nilS)⟩]) (rec_Put_k15 c))⟩

-- hourglassref14_Put: 0=hourglassref14_Good 1=hourglassref14_Num 2=hourglassref1_Zig 3=hourglassref14_Stp 4=hourglassref14_PutWrites 5=hourglassref14_flag
-- hourglasslaw14_rcd: 
-- hourglassref14_Same: 0=hourglassref10_Writes
-- rec_Same: 0=slices_Equal_Write 1=slices_Equal_int
def rec_Same_k1 (c : Nat → FuncId) : LCode := (.seq (.sq [⟨some 5, none, .shift 0 (.t 2)⟩, ⟨some 6, none, .load1 false (.t 5)⟩, ⟨some 7, none, .shift 0 (.t 3)⟩, ⟨some 8, none, .load1 false (.t 7)⟩, ⟨some 9, none, .bin .eql .sc (.t 6) (.t 8)⟩, ⟨some 10, none, .mv false (.t 9)⟩, ⟨some 11, some (10, true), .shift 1 (.t 2)⟩, ⟨some 12, some (10, true), .load1 false (.t 11)⟩, ⟨some 13, some (10, true), .shift 1 (.t 3)⟩, ⟨some 14, some (10, true), .load1 false (.t 13)⟩, ⟨some 15, some (10, true), .bin .eql .sc (.t 12) (.t 14)⟩, ⟨some 16, none, .pick (.t 10) (.t 15) (.c (.bool false))⟩, ⟨some 17, none, .mv false (.t 16)⟩, ⟨some 18, some (17, true), .shift 2 (.t 2)⟩, ⟨some 19, some (17, true), .loadA 2 (.t 18)⟩, ⟨some 20, some (17, true), .shift 2 (.t 3)⟩, ⟨some 21, some (17, true), .loadA 2 (.t 20)⟩, ⟨some 22, some (17, true), .bin .eql (.leaf [.int .i64, .int .u8]) (.t 19) (.t 21)⟩, ⟨some 23, none, .pick (.t 17) (.t 22) (.c (.bool false))⟩, ⟨some 24, none, .mv false (.t 23)⟩, ⟨some 25, some (24, true), .shift 4 (.t 2)⟩, ⟨some 26, some (24, true), .loadA 2 (.t 25)⟩, ⟨some 27, some (24, true), .shift 4 (.t 3)⟩, ⟨some 28, some (24, true), .loadA 2 (.t 27)⟩, ⟨some 29, some (24, true), .bin .eql (.leaf [.int .i64, .int .u8]) (.t 26) (.t 28)⟩, ⟨some 30, none, .pick (.t 24) (.t 29) (.c (.bool false))⟩, ⟨some 31, none, .mv false (.t 30)⟩, ⟨some 32, some (31, true), .shift 7 (.t 2)⟩, ⟨some 33, some (31, true), .load1 false (.t 32)⟩, ⟨some 34, some (31, true), .shift 7 (.t 3)⟩, ⟨some 35, some (31, true), .load1 false (.t 34)⟩, ⟨some 36, some (31, true), .bin .eql .bl (.t 33) (.t 35)⟩, ⟨some 37, none, .pick (.t 31) (.t 36) (.c (.bool false))⟩, ⟨some 38, none, .mv false (.t 37)⟩, ⟨some 39, some (38, true), .shift 6 (.t 2)⟩, ⟨some 40, some (38, true), .load1 false (.t 39)⟩, ⟨some 41, some (38, true), .shift 6 (.t 3)⟩, ⟨some 42, some (38, true), .load1 false (.t 41)⟩, ⟨some 43, some (38, true), .call (.f (c 0)) [(.t 40), (.t 42)]⟩, ⟨some 44, none, .pick (.t 38) (.t 43) (.c (.bool false))⟩, ⟨some 45, none, .mv false (.t 44)⟩, ⟨some 46, some (45, true), .shift 8 (.t 2)⟩, ⟨some 47, some (45, true), .load1 false (.t 46)⟩, ⟨some 48, some (45, true), .shift 8 (.t 3)⟩, ⟨some 49, some (45, true), .load1 false (.t 48)⟩, ⟨some 50, some (45, true), .call (.f (c 1)) [(.t 47), (.t 49)]⟩, ⟨some 51, none, .pick (.t 45) (.t 50) (.c (.bool false))⟩, ⟨some 4, none, .mv true (.t 51)⟩]) .ret)
theorem U_rec_Same (c : Nat → FuncId) : type_of% (@unfC _ _ (rec_Same_k1.eq_1 c)) := @unfC _ _ (rec_Same_k1.eq_1 c)
def C_rec_Same (c : Nat → FuncId) : LFn := ⟨52, [.t 4], (.seq (.sq [⟨some 2, none, .box false false (.t 0)⟩, ⟨some 3, none, .box false false (.t 1)⟩, ⟨some 4, none, .mv true (.c (.bool false))⟩]) (rec_Same_k1 c))⟩

-- rec_Good: 0=rec_only 1=rec_Same 2=prep_Good 3=stamp_Good 4=rec_GoodParts
def rec_Good_k1 (c : Nat → FuncId) : LCode := (.seq (.sq [⟨some 12, none, .shift 1 (.t 1)⟩, ⟨some 13, none, .load1 false (.t 12)⟩, ⟨some 14, none, .shift 2 (.t 1)⟩, ⟨some 15, none, .loadA 2 (.t 14)⟩, ⟨some 16, none, .shift 4 (.t 1)⟩, ⟨some 17, none, .loadA 2 (.t 16)⟩, ⟨some 18, none, .shift 6 (.t 1)⟩, ⟨some 19, none, .load1 false (.t 18)⟩, ⟨some 20, none, .build [(.s (.int .i64 0)), (.s (.int .i64 0)), (.s (.int .u8 0)), (.s (.int .i64 0)), (.s (.int .u8 0)), (.s .nilS)] [(0, 1, (.t 13)), (1, 2, (.t 15)), (3, 2, (.t 17)), (5, 1, (.t 19))]⟩, ⟨some 21, none, .call (.f (c 2)) [(.t 20)]⟩, ⟨some 2, none, .mv true (.t 21)⟩]) .ret)
def rec_Good_k2 (c : Nat → FuncId) : LCode := (.seq (.sq [⟨some 24, none, .shift 1 (.t 1)⟩, ⟨some 25, none, .load1 false (.t 24)⟩, ⟨some 26, none, .bin .geq .sc (.t 25) (.c (.int .i64 1))⟩, ⟨some 27, none, .mv false (.t 26)⟩, ⟨some 28, some (27, true), .shift 4 (.t 1)⟩, ⟨some 29, some (27, true), .loadA 2 (.t 28)⟩, ⟨some 30, some (27, true), .call (.f (c 3)) [(.t 29)]⟩, ⟨some 31, none, .pick (.t 27) (.t 30) (.c (.bool false))⟩, ⟨some 2, none, .mv true (.t 31)⟩]) .ret)
def rec_Good_k3 (c : Nat → FuncId) : LCode := (.seq (.sq [⟨some 34, none, .shift 1 (.t 1)⟩, ⟨some 35, none, .load1 false (.t 34)⟩, ⟨some 36, none, .bin .geq .sc (.t 35) (.c (.int .i64 1))⟩, ⟨some 2, none, .mv true (.t 36)⟩]) .ret)
def rec_Good_k4 (c : Nat → FuncId) : LCode := (.seq (.sq [⟨some 39, none, .shift 1 (.t 1)⟩, ⟨some 40, none, .load1 false (.t 39)⟩, ⟨some 41, none, .bin .geq .sc (.t 40) (.c (.int .i64 1))⟩, ⟨some 42, none, .mv false (.t 41)⟩, ⟨some 43, some (42, true), .shift 4 (.t 1)⟩, ⟨some 44, some (42, true), .loadA 2 (.t 43)⟩, ⟨some 45, some (42, true), .call (.f (c 3)) [(.t 44)]⟩, ⟨some 46, none, .pick (.t 42) (.t 45) (.c (.bool false))⟩, ⟨some 47, none, .mv false (.t 46)⟩, ⟨some 48, some (47, true), .shift 8 (.t 1)⟩, ⟨some 49, some (47, true), .load1 false (.t 48)⟩, ⟨some 50, some (47, true), .call (.f (c 4)) [(.t 49)]⟩, ⟨some 51, none, .pick (.t 47) (.t 50) (.c (.bool false))⟩, ⟨some 2, none, .mv true (.t 51)⟩]) .ret)
def rec_Good_k5 (c : Nat → FuncId) : LCode := (.seq (.sq [⟨some 54, none, .shift 1 (.t 1)⟩, ⟨some 55, none, .load1 false (.t 54)⟩, ⟨some 56, none, .bin .eql .sc (.t 55) (.c (.int .i64 0))⟩, ⟨some 57, none, .mv false (.t 56)⟩, ⟨some 58, some (57, true), .shift 4 (.t 1)⟩, ⟨some 59, some (57, true), .loadA 2 (.t 58)⟩, ⟨some 60, some (57, true), .call (.f (c 3)) [(.t 59)]⟩, ⟨some 61, none, .pick (.t 57) (.t 60) (.c (.bool false))⟩, ⟨some 62, none, .mv false (.t 61)⟩, ⟨some 63, some (62, true), .shift 4 (.t 1)⟩, ⟨some 64, some (62, true), .shift 1 (.t 63)⟩, ⟨some 65, some (62, true), .load1 false (.t 64)⟩, ⟨some 66, some (62, true), .bin .eql .sc (.t 65) (.c (.int .u8 0))⟩, ⟨some 67, none, .pick (.t 62) (.t 66) (.c (.bool false))⟩, ⟨some 2, none, .mv true (.t 67)⟩]) .ret)
def rec_Good_k6 (c : Nat → FuncId) : LCode := (.seq (.sq [⟨some 53, none, .bin .eql .sc (.t 9) (.c (.int .i64 5))⟩, ⟨some 52, none, .mv true (.t 53)⟩]) (.cond (.t 52) (rec_Good_k5 c) .skip))
def rec_Good_k7 (c : Nat → FuncId) : LCode := (.seq (.sq [⟨some 38, none, .bin .eql .sc (.t 9) (.c (.int .i64 4))⟩, ⟨some 37, none, .mv true (.t 38)⟩]) (.cond (.t 37) (rec_Good_k4 c) (rec_Good_k6 c)))
def rec_Good_k8 (c : Nat → FuncId) : LCode := (.seq (.sq [⟨some 33, none, .bin .eql .sc (.t 9) (.c (.int .i64 3))⟩, ⟨some 32, none, .mv true (.t 33)⟩]) (.cond (.t 32) (rec_Good_k3 c) (rec_Good_k7 c)))
def rec_Good_k9 (c : Nat → FuncId) : LCode := (.seq (.sq [⟨some 23, none, .bin .eql .sc (.t 9) (.c (.int .i64 2))⟩, ⟨some 22, none, .mv true (.t 23)⟩]) (.cond (.t 22) (rec_Good_k2 c) (rec_Good_k8 c)))
def rec_Good_k10 (c : Nat → FuncId) : LCode := (.block 0 (.seq (.sq [⟨some 11, none, .bin .eql .sc (.t 9) (.c (.int .i64 1))⟩, ⟨some 10, none, .mv true (.t 11)⟩]) (.cond (.t 10) (rec_Good_k1 c) (rec_Good_k9 c))))
def rec_Good_k11 (c : Nat → FuncId) : LCode := (.seq (.seq (.sq [⟨some 8, none, .shift 0 (.t 1)⟩, ⟨some 9, none, .load1 false (.t 8)⟩]) (rec_Good_k10 c)) (.seq (.sq [⟨some 2, none, .mv true (.c (.bool false))⟩]) .ret))
def rec_Good_k12 (c : Nat → FuncId) : LCode := (.seq (.seq (.tree (.rd ⟨some 3, none, .loadA 9 (.t 1)⟩ 0 true (.rd ⟨some 4, none, .loadA 9 (.t 1)⟩ 1 false (.mv ⟨some 5, none, .call (.f (c 0)) [(.t 4)]⟩ [1] (.mv ⟨some 6, none, .call (.f (c 1)) [(.t 3), (.t 5)]⟩ [0, 1, 2] (.rd ⟨some 7, none, .un .not (.t 6)⟩ 4 false .done) .stop) .stop)))) (.cond (.t 7) (.seq (.sq [⟨some 2, none, .mv true (.c (.bool false))⟩]) .ret) .skip)) (rec_Good_k11 c))
theorem U_rec_Good (c : Nat → FuncId) : (((type_of% (@unfC _ _ (rec_Good_k1.eq_1 c)) ∧ (type_of% (@unfC _ _ (rec_Good_k2.eq_1 c)) ∧ type_of% (@unfC _ _ (rec_Good_k3.eq_1 c)))) ∧ (type_of% (@unfC _ _ (rec_Good_k4.eq_1 c)) ∧ (type_of% (@unfC _ _ (rec_Good_k5.eq_1 c)) ∧ type_of% (@unfC _ _ (rec_Good_k6.eq_1 c))))) ∧ ((type_of% (@unfC _ _ (rec_Good_k7.eq_1 c)) ∧ (type_of% (@unfC _ _ (rec_Good_k8.eq_1 c)) ∧ type_of% (@unfC _ _ (rec_Good_k9.eq_1 c)))) ∧ (type_of% (@unfC _ _ (rec_Good_k10.eq_1 c)) ∧ (type_of% (@unfC _ _ (rec_Good_k11.eq_1 c)) ∧ type_of% (@unfC _ _ (rec_Good_k12.eq_1 c)))))) := ⟨⟨⟨@unfC _ _ (rec_Good_k1.eq_1 c), ⟨@unfC _ _ (rec_Good_k2.eq_1 c), @unfC _ _ (rec_Good_k3.eq_1 c)⟩⟩, ⟨@unfC _ _ (rec_Good_k4.eq_1 c), ⟨@unfC _ _ (rec_Good_k5.eq_1 c), @unfC _ _ (rec_Good_k6.eq_1 c)⟩⟩⟩, ⟨⟨@unfC _ _ (rec_Good_k7.eq_1 c), ⟨@unfC _ _ (rec_Good_k8.eq_1 c), @unfC _ _ (rec_Good_k9.eq_1 c)⟩⟩, ⟨@unfC _ _ (rec_Good_k10.eq_1 c), ⟨@unfC _ _ (rec_Good_k11.eq_1 c), @unfC _ _ (rec_Good_k12.eq_1 c)⟩⟩⟩⟩
def C_rec_Good (c : Nat → FuncId) : LFn := ⟨68, [.t 2], (.seq (.sq [⟨some 1, none, .box false false (.t 0)⟩, ⟨some 2, none, .mv true (.c (.bool false))⟩]) (rec_Good_k12 c))⟩

-- hourglassref14_Good: 0=hourglassref10_GoodEntry 1=hourglassref6_Good 2=hourglassref14_parts
-- rec_PutWrites: 0=rec_num
def rec_PutWrites_k1 (c : Nat → FuncId) : LCode := (.sq [⟨some 23, none, .mv true (.t 0)⟩, ⟨some 24, none, .call (.f (c 0)) [(.t 23), (.c (.int .i64 1))]⟩, ⟨some 0, none, .mv true (.t 24)⟩])
def rec_PutWrites_k2 (c : Nat → FuncId) : LCode := (.sq [⟨some 25, none, .mv true (.t 0)⟩, ⟨some 26, none, .call (.f (c 0)) [(.t 25), (.c (.int .i64 0))]⟩, ⟨some 0, none, .mv true (.t 26)⟩])
def rec_PutWrites_k3 (c : Nat → FuncId) : LCode := (.tree (.rd ⟨some 28, none, .shift 16 (.t 6)⟩ 1 true (.rd ⟨some 29, none, .load1 false (.t 28)⟩ 2 true (.rd ⟨some 30, none, .len .str (.t 29)⟩ 3 true (.rd ⟨some 32, none, .shift 16 (.t 6)⟩ 5 true (.rd ⟨some 33, none, .load1 false (.t 32)⟩ 6 true (.mv ⟨some 27, none, .mv true (.t 0)⟩ [] (.mv ⟨some 31, none, .call (.f (c 0)) [(.t 27), (.t 30)]⟩ [0, 1, 2, 3] (.mv ⟨some 34, none, .app ⟨1, false, 1, (.s (.int .u8 0))⟩ true (.t 31) (.t 33)⟩ [0, 1, 2, 3, 4, 5, 6] (.mv ⟨some 0, none, .mv true (.t 34)⟩ [0, 1, 2, 3, 4, 5, 6, 7] .done .stop) .stop) .stop) .stop)))))))
def rec_PutWrites_k4 (c : Nat → FuncId) : LCode := (.seq (.seq (.sq [⟨some 21, none, .shift 17 (.t 6)⟩, ⟨some 22, none, .load1 false (.t 21)⟩]) (.cond (.t 22) (rec_PutWrites_k1 c) (rec_PutWrites_k2 c))) (rec_PutWrites_k3 c))
def rec_PutWrites_k5 (c : Nat → FuncId) : LCode := (.seq (.sq [⟨some 17, none, .mv true (.t 0)⟩, ⟨some 18, none, .shift 0 (.t 6)⟩, ⟨some 19, none, .slc (.arr 16 1) (.t 18) none none none⟩, ⟨some 20, none, .app ⟨1, false, 1, (.s (.int .u8 0))⟩ false (.t 17) (.t 19)⟩, ⟨some 0, none, .mv true (.t 20)⟩]) (rec_PutWrites_k4 c))
def rec_PutWrites_k6 (c : Nat → FuncId) : LCode := (.seq (.block 1 (.seq (.sq [⟨some 15, none, .ixa (.sl 18) (.t 11) (.t 13)⟩, ⟨some 16, none, .loadA 18 (.t 15)⟩, ⟨some 6, none, .alloc true (zk ++ [(.s (.str [])), (.s (.bool false))])⟩, ⟨none, none, .store 18 (.t 6) (.t 16)⟩]) (rec_PutWrites_k5 c))) (.sq [⟨some 35, none, .bin .add .sc (.t 13) (.c (.int .i64 1))⟩, ⟨some 13, none, .mv false (.t 35)⟩]))
def rec_PutWrites_k7 (c : Nat → FuncId) : LCode := (.seq (.sq [⟨some 14, none, .bin .lss .sc (.t 13) (.t 12)⟩]) (.seq (.cond (.t 14) .skip (.exit 0)) (rec_PutWrites_k6 c)))
def rec_PutWrites_k8 (c : Nat → FuncId) : LCode := (.block 0 (.loop [true, false, false, false, false, false, false, false, false, false, false, true, true, true, false, false, false, false, false, false, false, false, false, false, false, false, false, false, false, false, false, false, false, false, false, false, false] (rec_PutWrites_k7 c)))
def rec_PutWrites_k9 (c : Nat → FuncId) : LCode := (.seq (.seq (.sq [⟨some 11, none, .mv false (.t 1)⟩, ⟨some 12, none, .len .sl (.t 11)⟩, ⟨some 13, none, .mv false (.c (.int .i64 0))⟩]) (rec_PutWrites_k8 c)) (.seq (.sq [⟨some 36, none, .mv true (.t 0)⟩, ⟨some 4, none, .mv true (.t 36)⟩]) .ret))
def rec_PutWrites_k10 (c : Nat → FuncId) : LCode := (.seq (.sq [⟨some 7, none, .mv true (.t 0)⟩, ⟨some 8, none, .mv false (.t 1)⟩, ⟨some 9, none, .len .sl (.t 8)⟩, ⟨some 10, none, .call (.f (c 0)) [(.t 7), (.t 9)]⟩, ⟨some 0, none, .mv true (.t 10)⟩]) (rec_PutWrites_k9 c))
theorem U_rec_PutWrites (c : Nat → FuncId) : (((type_of% (@unfC _ _ (rec_PutWrites_k1.eq_1 c)) ∧ type_of% (@unfC _ _ (rec_PutWrites_k2.eq_1 c))) ∧ (type_of% (@unfC _ _ (rec_PutWrites_k3.eq_1 c)) ∧ (type_of% (@unfC _ _ (rec_PutWrites_k4.eq_1 c)) ∧ type_of% (@unfC _ _ (rec_PutWrites_k5.eq_1 c))))) ∧ ((type_of% (@unfC _ _ (rec_PutWrites_k6.eq_1 c)) ∧ type_of% (@unfC _ _ (rec_PutWrites_k7.eq_1 c))) ∧ (type_of% (@unfC _ _ (rec_PutWrites_k8.eq_1 c)) ∧ (type_of% (@unfC _ _ (rec_PutWrites_k9.eq_1 c)) ∧ type_of% (@unfC _ _ (rec_PutWrites_k10.eq_1 c)))))) := ⟨⟨⟨@unfC _ _ (rec_PutWrites_k1.eq_1 c), @unfC _ _ (rec_PutWrites_k2.eq_1 c)⟩, ⟨@unfC _ _ (rec_PutWrites_k3.eq_1 c), ⟨@unfC _ _ (rec_PutWrites_k4.eq_1 c), @unfC _ _ (rec_PutWrites_k5.eq_1 c)⟩⟩⟩, ⟨⟨@unfC _ _ (rec_PutWrites_k6.eq_1 c), @unfC _ _ (rec_PutWrites_k7.eq_1 c)⟩, ⟨@unfC _ _ (rec_PutWrites_k8.eq_1 c), ⟨@unfC _ _ (rec_PutWrites_k9.eq_1 c), @unfC _ _ (rec_PutWrites_k10.eq_1 c)⟩⟩⟩⟩
def C_rec_PutWrites (c : Nat → FuncId) : LFn := ⟨37, [.t 4], (.seq (.sq [⟨some 4, none, .mv true (.c .nilS)⟩]) (rec_PutWrites_k10 c))⟩

-- rec_GetWrites: 0=rec_Reader_Writes
def rec_GetWrites_k1 (c : Nat → FuncId) : LCode := (.seq (.sq [⟨some 2, none, .mv true (.c .nilS)⟩, ⟨some 3, none, .mv true (.c (.int .i64 0))⟩, ⟨some 4, none, .mv true (.c (.int .i64 3))⟩]) .ret)
def rec_GetWrites_k2 (c : Nat → FuncId) : LCode := (.seq (.tree (.rd ⟨some 16, none, .mv false (.t 0)⟩ 1 true (.rd ⟨some 17, none, .len .sl (.t 16)⟩ 2 true (.rd ⟨some 18, none, .mv false (.t 5)⟩ 3 true (.rd ⟨some 19, none, .nilc (.t 18)⟩ 4 true (.rd ⟨some 20, none, .shift 0 (.t 19)⟩ 5 true (.rd ⟨some 21, none, .load1 false (.t 20)⟩ 6 true (.rd ⟨some 22, none, .len .sl (.t 21)⟩ 7 true (.rd ⟨some 23, none, .bin .sub .sc (.t 17) (.t 22)⟩ 8 true (.mv ⟨some 15, none, .mv true (.t 2)⟩ [] (.mv ⟨some 2, none, .mv true (.t 15)⟩ [0] (.mv ⟨some 3, none, .mv true (.t 23)⟩ [0, 1, 2, 3, 4, 5, 6, 7, 8, 9] (.mv ⟨some 4, none, .mv true (.c (.int .i64 0))⟩ [0, 1, 2, 3, 4, 5, 6, 7, 8, 9, 10] .done .stop) .stop) .stop) .stop)))))))))) .ret)
def rec_GetWrites_k3 (c : Nat → FuncId) : LCode := (.seq (.seq (.sq [⟨some 11, none, .mv false (.t 5)⟩, ⟨some 12, none, .nilc (.t 11)⟩, ⟨some 13, none, .shift 1 (.t 12)⟩, ⟨some 14, none, .load1 false (.t 13)⟩]) (.cond (.t 14) (rec_GetWrites_k1 c) .skip)) (rec_GetWrites_k2 c))
def rec_GetWrites_k4 (c : Nat → FuncId) : LCode := (.seq (.sq [⟨some 9, none, .mv false (.t 5)⟩, ⟨some 10, none, .call (.f (c 0)) [(.t 9)]⟩, ⟨some 2, none, .mv true (.t 10)⟩]) (rec_GetWrites_k3 c))
def rec_GetWrites_k5 (c : Nat → FuncId) : LCode := (.seq (.sq [⟨some 6, none, .mv false (.t 0)⟩, ⟨some 7, none, .build [(.s .nilS), (.s (.bool false))] [(0, 1, (.t 6))]⟩, ⟨some 8, none, .box false false (.t 7)⟩, ⟨some 5, none, .mv true (.t 8)⟩]) (rec_GetWrites_k4 c))
theorem U_rec_GetWrites (c : Nat → FuncId) : ((type_of% (@unfC _ _ (rec_GetWrites_k1.eq_1 c)) ∧ type_of% (@unfC _ _ (rec_GetWrites_k2.eq_1 c))) ∧ (type_of% (@unfC _ _ (rec_GetWrites_k3.eq_1 c)) ∧ (type_of% (@unfC _ _ (rec_GetWrites_k4.eq_1 c)) ∧ type_of% (@unfC _ _ (rec_GetWrites_k5.eq_1 c))))) := ⟨⟨@unfC _ _ (rec_GetWrites_k1.eq_1 c), @unfC _ _ (rec_GetWrites_k2.eq_1 c)⟩, ⟨@unfC _ _ (rec_GetWrites_k3.eq_1 c), ⟨@unfC _ _ (rec_GetWrites_k4.eq_1 c), @unfC _ _ (rec_GetWrites_k5.eq_1 c)⟩⟩⟩
def C_rec_GetWrites (c : Nat → FuncId) : LFn := ⟨24, [.t 2, .t 3, .t 4], (.seq (.sq [⟨some 2, none, .mv true (.c .nilS)⟩, ⟨some 3, none, .mv true (.c (.int .i64 0))⟩, ⟨some 4, none, .mv true (.c (.int .i64 0))⟩]) (rec_GetWrites_k5 c))⟩

-- hourglassref10_Writes: 
def hourglassref10_Writes_k1 : LCode := (.sq [⟨some 15, none, .mv false (.t 5)⟩, ⟨some 16, none, .bin .add .sc (.t 15) (.c (.int .i64 1))⟩, ⟨some 5, none, .mv true (.t 16)⟩])
def hourglassref10_Writes_k2 : LCode := (.seq (.block 1 (.seq (.tree (.rd ⟨some 17, none, .mv false (.t 0)⟩ 0 false (.rd ⟨some 18, none, .mv false (.t 5)⟩ 1 false (.rd ⟨some 19, none, .ixa (.sl 18) (.t 17) (.t 18)⟩ 2 false (.rd ⟨some 20, none, .loadA 18 (.t 19)⟩ 3 false (.rd ⟨some 21, none, .mv false (.t 1)⟩ 4 false (.rd ⟨some 22, none, .mv false (.t 5)⟩ 5 false (.rd ⟨some 23, none, .ixa (.sl 18) (.t 21) (.t 22)⟩ 6 false (.rd ⟨some 24, none, .loadA 18 (.t 23)⟩ 7 false (.rd ⟨some 25, none, .bin .neq (.leaf (lk ++ [.str, .bool])) (.t 20) (.t 24)⟩ 8 false .done)))))))))) (.cond (.t 25) (.seq (.sq [⟨some 4, none, .mv true (.c (.bool false))⟩]) .ret) .skip))) hourglassref10_Writes_k1)
def hourglassref10_Writes_k3 : LCode := (.seq (.seq (.sq [⟨some 11, none, .mv false (.t 5)⟩, ⟨some 12, none, .mv false (.t 0)⟩, ⟨some 13, none, .len .sl (.t 12)⟩, ⟨some 14, none, .bin .lss .sc (.t 11) (.t 13)⟩]) (.cond (.t 14) .skip (.exit 0))) hourglassref10_Writes_k2)
def hourglassref10_Writes_k4 : LCode := (.block 0 (.loop [true, true, false, false, false, true, false, false, false, false, false, false, false, false, false, false, false, false, false, false, false, false, false, false, false, false] hourglassref10_Writes_k3))
def hourglassref10_Writes_k5 : LCode := (.seq (.seq (.sq [⟨some 5, none, .mv true (.c (.int .i64 0))⟩]) hourglassref10_Writes_k4) (.seq (.sq [⟨some 4, none, .mv true (.c (.bool true))⟩]) .ret))
def hourglassref10_Writes_k6 : LCode := (.seq (.seq (.sq [⟨some 6, none, .mv false (.t 0)⟩, ⟨some 7, none, .len .sl (.t 6)⟩, ⟨some 8, none, .mv false (.t 1)⟩, ⟨some 9, none, .len .sl (.t 8)⟩, ⟨some 10, none, .bin .neq .sc (.t 7) (.t 9)⟩]) (.cond (.t 10) (.seq (.sq [⟨some 4, none, .mv true (.c (.bool false))⟩]) .ret) .skip)) hourglassref10_Writes_k5)
theorem U_hourglassref10_Writes : ((type_of% (@unfC _ _ (hourglassref10_Writes_k1.eq_1)) ∧ (type_of% (@unfC _ _ (hourglassref10_Writes_k2.eq_1)) ∧ type_of% (@unfC _ _ (hourglassref10_Writes_k3.eq_1)))) ∧ (type_of% (@unfC _ _ (hourglassref10_Writes_k4.eq_1)) ∧ (type_of% (@unfC _ _ (hourglassref10_Writes_k5.eq_1)) ∧ type_of% (@unfC _ _ (hourglassref10_Writes_k6.eq_1))))) := ⟨⟨@unfC _ _ (hourglassref10_Writes_k1.eq_1), ⟨@unfC _ _ (hourglassref10_Writes_k2.eq_1), @unfC _ _ (hourglassref10_Writes_k3.eq_1)⟩⟩, ⟨@unfC _ _ (hourglassref10_Writes_k4.eq_1), ⟨@unfC _ _ (hourglassref10_Writes_k5.eq_1), @unfC _ _ (hourglassref10_Writes_k6.eq_1)⟩⟩⟩
def C_hourglassref10_Writes : LFn := ⟨26, [.t 4], (.seq (.sq [⟨some 4, none, .mv true (.c (.bool false))⟩]) hourglassref10_Writes_k6)⟩

-- hourglasslaw14_long: 
def hourglasslaw14_long_k1 : LCode := (.sq [⟨some 11, none, .mv false (.t 3)⟩, ⟨some 12, none, .bin .add .sc (.t 11) (.c (.int .i64 1))⟩, ⟨some 3, none, .mv true (.t 12)⟩])
def hourglasslaw14_long_k2 : LCode := (.seq (.block 1 (.seq (.sq [⟨some 13, none, .mv false (.t 0)⟩, ⟨some 14, none, .mv false (.t 3)⟩, ⟨some 15, none, .ixa (.sl 18) (.t 13) (.t 14)⟩, ⟨some 16, none, .shift 16 (.t 15)⟩, ⟨some 17, none, .load1 false (.t 16)⟩, ⟨some 18, none, .len .str (.t 17)⟩, ⟨some 19, none, .bin .gtr .sc (.t 18) (.c (.int .i64 250))⟩]) (.cond (.t 19) (.seq (.sq [⟨some 2, none, .mv true (.c (.bool true))⟩]) .ret) .skip))) hourglasslaw14_long_k1)
def hourglasslaw14_long_k3 : LCode := (.seq (.seq (.sq [⟨some 7, none, .mv false (.t 3)⟩, ⟨some 8, none, .mv false (.t 0)⟩, ⟨some 9, none, .len .sl (.t 8)⟩, ⟨some 10, none, .bin .lss .sc (.t 7) (.t 9)⟩]) (.cond (.t 10) .skip (.exit 0))) hourglasslaw14_long_k2)
def hourglasslaw14_long_k4 : LCode := (.block 0 (.loop [true, false, false, true, false, false, false, false, false, false, false, false, false, false, false, false, false, false, false, false] hourglasslaw14_long_k3))
def hourglasslaw14_long_k5 : LCode := (.seq (.seq (.sq [⟨some 3, none, .mv true (.c (.int .i64 0))⟩]) hourglasslaw14_long_k4) (.seq (.sq [⟨some 2, none, .mv true (.c (.bool false))⟩]) .ret))
def hourglasslaw14_long_k6 : LCode := (.seq (.seq (.sq [⟨some 4, none, .mv false (.t 0)⟩, ⟨some 5, none, .len .sl (.t 4)⟩, ⟨some 6, none, .bin .gtr .sc (.t 5) (.c (.int .i64 20))⟩]) (.cond (.t 6) (.seq (.sq [⟨some 2, none, .mv true (.c (.bool true))⟩]) .ret) .skip)) hourglasslaw14_long_k5)
theorem U_hourglasslaw14_long : ((type_of% (@unfC _ _ (hourglasslaw14_long_k1.eq_1)) ∧ (type_of% (@unfC _ _ (hourglasslaw14_long_k2.eq_1)) ∧ type_of% (@unfC _ _ (hourglasslaw14_long_k3.eq_1)))) ∧ (type_of% (@unfC _ _ (hourglasslaw14_long_k4.eq_1)) ∧ (type_of% (@unfC _ _ (hourglasslaw14_long_k5.eq_1)) ∧ type_of% (@unfC _ _ (hourglasslaw14_long_k6.eq_1))))) := ⟨⟨@unfC _ _ (hourglasslaw14_long_k1.eq_1), ⟨@unfC _ _ (hourglasslaw14_long_k2.eq_1), @unfC _ _ (hourglasslaw14_long_k3.eq_1)⟩⟩, ⟨@unfC _ _ (hourglasslaw14_long_k4.eq_1), ⟨@unfC _ _ (hourglasslaw14_long_k5.eq_1), @unfC _ _ (hourglasslaw14_long_k6.eq_1)⟩⟩⟩
def C_hourglasslaw14_long : LFn := ⟨20, [.t 2], (.seq (.sq [⟨some 2, none, .mv true (.c (.bool false))⟩]) hourglasslaw14_long_k6)⟩

-- hourglassref14_GetWrites: 0=hourglassref14_Writes
def hourglassref14_GetWrites_k1 (c : Nat → FuncId) : LCode := (.seq (.sq [⟨some 2, none, .mv true (.c .nilS)⟩, ⟨some 3, none, .mv true (.c (.int .i64 0))⟩, ⟨some 4, none, .mv true (.c (.bool false))⟩]) .ret)
def hourglassref14_GetWrites_k2 (c : Nat → FuncId) : LCode := (.seq (.tree (.rd ⟨some 17, none, .mv false (.t 5)⟩ 1 true (.rd ⟨some 18, none, .nilc (.t 17)⟩ 2 true (.rd ⟨some 19, none, .shift 1 (.t 18)⟩ 3 true (.rd ⟨some 20, none, .load1 false (.t 19)⟩ 4 true (.mv ⟨some 16, none, .mv true (.t 6)⟩ [] (.mv ⟨some 2, none, .mv true (.t 16)⟩ [0] (.mv ⟨some 3, none, .mv true (.t 20)⟩ [0, 1, 2, 3, 4, 5] (.mv ⟨some 4, none, .mv true (.c (.bool true))⟩ [0, 1, 2, 3, 4, 5, 6] .done .stop) .stop) .stop) .stop)))))) .ret)
def hourglassref14_GetWrites_k3 (c : Nat → FuncId) : LCode := (.seq (.seq (.sq [⟨some 12, none, .mv false (.t 5)⟩, ⟨some 13, none, .nilc (.t 12)⟩, ⟨some 14, none, .shift 2 (.t 13)⟩, ⟨some 15, none, .load1 false (.t 14)⟩]) (.cond (.t 15) (hourglassref14_GetWrites_k1 c) .skip)) (hourglassref14_GetWrites_k2 c))
def hourglassref14_GetWrites_k4 (c : Nat → FuncId) : LCode := (.seq (.sq [⟨some 10, none, .mv false (.t 5)⟩, ⟨some 11, none, .call (.f (c 0)) [(.t 10)]⟩, ⟨some 6, none, .mv true (.t 11)⟩]) (hourglassref14_GetWrites_k3 c))
def hourglassref14_GetWrites_k5 (c : Nat → FuncId) : LCode := (.seq (.sq [⟨some 7, none, .mv false (.t 0)⟩, ⟨some 8, none, .build [(.s .nilS), (.s (.int .i64 0)), (.s (.bool false))] [(0, 1, (.t 7))]⟩, ⟨some 9, none, .box false false (.t 8)⟩, ⟨some 5, none, .mv true (.t 9)⟩]) (hourglassref14_GetWrites_k4 c))
theorem U_hourglassref14_GetWrites (c : Nat → FuncId) : ((type_of% (@unfC _ _ (hourglassref14_GetWrites_k1.eq_1 c)) ∧ type_of% (@unfC _ _ (hourglassref14_GetWrites_k2.eq_1 c))) ∧ (type_of% (@unfC _ _ (hourglassref14_GetWrites_k3.eq_1 c)) ∧ (type_of% (@unfC _ _ (hourglassref14_GetWrites_k4.eq_1 c)) ∧ type_of% (@unfC _ _ (hourglassref14_GetWrites_k5.eq_1 c))))) := ⟨⟨@unfC _ _ (hourglassref14_GetWrites_k1.eq_1 c), @unfC _ _ (hourglassref14_GetWrites_k2.eq_1 c)⟩, ⟨@unfC _ _ (hourglassref14_GetWrites_k3.eq_1 c), ⟨@unfC _ _ (hourglassref14_GetWrites_k4.eq_1 c), @unfC _ _ (hourglassref14_GetWrites_k5.eq_1 c)⟩⟩⟩
def C_hourglassref14_GetWrites (c : Nat → FuncId) : LFn := ⟨21, [.t 2, .t 3, .t 4], (.seq (.sq [⟨some 2, none, .mv true (.c .nilS)⟩, ⟨some 3, none, .mv true (.c (.int .i64 0))⟩, ⟨some 4, none, .mv true (.c (.bool false))⟩]) (hourglassref14_GetWrites_k5 c))⟩

-- hourglassref14_PutWrites: 0=hourglassref14_Num 1=hourglassref14_flag 2=hourglassref14_Txt
def hourglassref14_PutWrites_k1 (c : Nat → FuncId) : LCode := (.sq [⟨some 32, none, .mv true (.t 0)⟩, ⟨some 33, none, .mv false (.t 1)⟩, ⟨some 34, none, .mv false (.t 5)⟩, ⟨some 35, none, .ixa (.sl 18) (.t 33) (.t 34)⟩, ⟨some 36, none, .shift 16 (.t 35)⟩, ⟨some 37, none, .load1 false (.t 36)⟩, ⟨some 38, none, .call (.f (c 2)) [(.t 32), (.t 37)]⟩, ⟨some 0, none, .mv true (.t 38)⟩])
def hourglassref14_PutWrites_k2 (c : Nat → FuncId) : LCode := (.sq [⟨some 15, none, .mv false (.t 5)⟩, ⟨some 16, none, .bin .add .sc (.t 15) (.c (.int .i64 1))⟩, ⟨some 5, none, .mv true (.t 16)⟩])
def hourglassref14_PutWrites_k3 (c : Nat → FuncId) : LCode := (.seq (.block 1 (.seq (.tree (.rd ⟨some 18, none, .mv false (.t 1)⟩ 1 true (.rd ⟨some 19, none, .mv false (.t 5)⟩ 2 true (.rd ⟨some 20, none, .ixa (.sl 18) (.t 18) (.t 19)⟩ 3 true (.rd ⟨some 21, none, .shift 0 (.t 20)⟩ 4 true (.rd ⟨some 22, none, .slc (.arr 16 1) (.t 21) none none none⟩ 5 true (.rd ⟨some 24, none, .mv false (.t 1)⟩ 7 true (.rd ⟨some 25, none, .mv false (.t 5)⟩ 8 true (.rd ⟨some 26, none, .ixa (.sl 18) (.t 24) (.t 25)⟩ 9 true (.rd ⟨some 27, none, .shift 17 (.t 26)⟩ 10 true (.rd ⟨some 28, none, .load1 false (.t 27)⟩ 11 true (.mv ⟨some 17, none, .mv true (.t 0)⟩ [] (.mv ⟨some 23, none, .app ⟨1, false, 1, (.s (.int .u8 0))⟩ false (.t 17) (.t 22)⟩ [0, 1, 2, 3, 4, 5] (.mv ⟨some 29, none, .call (.f (c 1)) [(.t 28)]⟩ [0, 1, 2, 3, 4, 5, 6, 7, 8, 9, 10, 11] (.rd ⟨some 30, none, .bsl ⟨1, false, 1, (.s (.int .u8 0))⟩ 1 [(0, (.t 29))]⟩ 13 false (.mv ⟨some 31, none, .app ⟨1, false, 1, (.s (.int .u8 0))⟩ false (.t 23) (.t 30)⟩ [0, 1, 2, 3, 4, 5, 6, 7, 8, 9, 10, 11, 12, 13] (.mv ⟨some 0, none, .mv true (.t 31)⟩ [0, 1, 2, 3, 4, 5, 6, 7, 8, 9, 10, 11, 12, 13, 14] .done .stop) .stop)) .stop) .stop) .stop)))))))))))) (hourglassref14_PutWrites_k1 c))) (hourglassref14_PutWrites_k2 c))
def hourglassref14_PutWrites_k4 (c : Nat → FuncId) : LCode := (.seq (.seq (.sq [⟨some 11, none, .mv false (.t 5)⟩, ⟨some 12, none, .mv false (.t 1)⟩, ⟨some 13, none, .len .sl (.t 12)⟩, ⟨some 14, none, .bin .lss .sc (.t 11) (.t 13)⟩]) (.cond (.t 14) .skip (.exit 0))) (hourglassref14_PutWrites_k3 c))
def hourglassref14_PutWrites_k5 (c : Nat → FuncId) : LCode := (.block 0 (.loop [true, true, false, false, false, true, false, false, false, false, false, false, false, false, false, false, false, false, false, false, false, false, false, false, false, false, false, false, false, false, false, false, false, false, false, false, false, false, false, false] (hourglassref14_PutWrites_k4 c)))
def hourglassref14_PutWrites_k6 (c : Nat → FuncId) : LCode := (.seq (.seq (.sq [⟨some 5, none, .mv true (.c (.int .i64 0))⟩]) (hourglassref14_PutWrites_k5 c)) (.seq (.sq [⟨some 39, none, .mv true (.t 0)⟩, ⟨some 4, none, .mv true (.t 39)⟩]) .ret))
def hourglassref14_PutWrites_k7 (c : Nat → FuncId) : LCode := (.seq (.sq [⟨some 6, none, .mv true (.t 0)⟩, ⟨some 7, none, .mv false (.t 1)⟩, ⟨some 8, none, .len .sl (.t 7)⟩, ⟨some 9, none, .conv (.int .u64) (.t 8)⟩, ⟨some 10, none, .call (.f (c 0)) [(.t 6), (.t 9)]⟩, ⟨some 0, none, .mv true (.t 10)⟩]) (hourglassref14_PutWrites_k6 c))
theorem U_hourglassref14_PutWrites (c : Nat → FuncId) : ((type_of% (@unfC _ _ (hourglassref14_PutWrites_k1.eq_1 c)) ∧ (type_of% (@unfC _ _ (hourglassref14_PutWrites_k2.eq_1 c)) ∧ type_of% (@unfC _ _ (hourglassref14_PutWrites_k3.eq_1 c)))) ∧ ((type_of% (@unfC _ _ (hourglassref14_PutWrites_k4.eq_1 c)) ∧ type_of% (@unfC _ _ (hourglassref14_PutWrites_k5.eq_1 c))) ∧ (type_of% (@unfC _ _ (hourglassref14_PutWrites_k6.eq_1 c)) ∧ type_of% (@unfC _ _ (hourglassref14_PutWrites_k7.eq_1 c))))) := ⟨⟨@unfC _ _ (hourglassref14_PutWrites_k1.eq_1 c), ⟨@unfC _ _ (hourglassref14_PutWrites_k2.eq_1 c), @unfC _ _ (hourglassref14_PutWrites_k3.eq_1 c)⟩⟩, ⟨⟨@unfC _ _ (hourglassref14_PutWrites_k4.eq_1 c), @unfC _ _ (hourglassref14_PutWrites_k5.eq_1 c)⟩, ⟨@unfC _ _ (hourglassref14_PutWrites_k6.eq_1 c), @unfC _ _ (hourglassref14_PutWrites_k7.eq_1 c)⟩⟩⟩
def C_hourglassref14_PutWrites (c : Nat → FuncId) : LFn := ⟨40, [.t 4], (.seq (.sq [⟨some 4, none, .mv true (.c .nilS)⟩]) (hourglassref14_PutWrites_k7 c))⟩

-- rec_Reader_Most: 0=rec_Reader_Num 1=rec_Reader_spoil
def rec_Reader_Most_k1 (c : Nat → FuncId) : LCode := (.seq (.sq [⟨some 12, none, .mv false (.t 0)⟩, ⟨some 13, none, .call (.f (c 1)) [(.t 12)]⟩]) (.seq (.sq [⟨some 4, none, .mv true (.c (.int .i64 0))⟩]) .ret))
def rec_Reader_Most_k2 (c : Nat → FuncId) : LCode := (.seq (.sq [⟨some 14, none, .mv false (.t 5)⟩, ⟨some 15, none, .conv (.int .i64) (.t 14)⟩, ⟨some 4, none, .mv true (.t 15)⟩]) .ret)
def rec_Reader_Most_k3 (c : Nat → FuncId) : LCode := (.seq (.seq (.sq [⟨some 8, none, .mv false (.t 5)⟩, ⟨some 9, none, .mv false (.t 1)⟩, ⟨some 10, none, .conv (.int .u64) (.t 9)⟩, ⟨some 11, none, .bin .gtr .sc (.t 8) (.t 10)⟩]) (.cond (.t 11) (rec_Reader_Most_k1 c) .skip)) (rec_Reader_Most_k2 c))
def rec_Reader_Most_k4 (c : Nat → FuncId) : LCode := (.seq (.sq [⟨some 6, none, .mv false (.t 0)⟩, ⟨some 7, none, .call (.f (c 0)) [(.t 6)]⟩, ⟨some 5, none, .mv true (.t 7)⟩]) (rec_Reader_Most_k3 c))
theorem U_rec_Reader_Most (c : Nat → FuncId) : ((type_of% (@unfC _ _ (rec_Reader_Most_k1.eq_1 c)) ∧ type_of% (@unfC _ _ (rec_Reader_Most_k2.eq_1 c))) ∧ (type_of% (@unfC _ _ (rec_Reader_Most_k3.eq_1 c)) ∧ type_of% (@unfC _ _ (rec_Reader_Most_k4.eq_1 c)))) := ⟨⟨@unfC _ _ (rec_Reader_Most_k1.eq_1 c), @unfC _ _ (rec_Reader_Most_k2.eq_1 c)⟩, ⟨@unfC _ _ (rec_Reader_Most_k3.eq_1 c), @unfC _ _ (rec_Reader_Most_k4.eq_1 c)⟩⟩
def C_rec_Reader_Most (c : Nat → FuncId) : LFn := ⟨16, [.t 4], (.seq (.sq [⟨some 4, none, .mv true (.c (.int .i64 0))⟩]) (rec_Reader_Most_k4 c))⟩

-- bits_Zag: 
def bits_Zag_k1 : LCode := (.seq (.sq [⟨some 3, none, .mv false (.t 0)⟩, ⟨some 4, none, .bin .shr .sc (.t 3) (.c (.int .u64 1))⟩, ⟨some 5, none, .conv (.int .i64) (.t 4)⟩, ⟨some 6, none, .mv false (.t 0)⟩, ⟨some 7, none, .bin .and .sc (.t 6) (.c (.int .u64 1))⟩, ⟨some 8, none, .conv (.int .i64) (.t 7)⟩, ⟨some 9, none, .un .neg (.t 8)⟩, ⟨some 10, none, .bin .xor .sc (.t 5) (.t 9)⟩, ⟨some 2, none, .mv true (.t 10)⟩]) .ret)
theorem U_bits_Zag : type_of% (@unfC _ _ (bits_Zag_k1.eq_1)) := @unfC _ _ (bits_Zag_k1.eq_1)
def C_bits_Zag : LFn := ⟨11, [.t 2], (.seq (.sq [⟨some 2, none, .mv true (.c (.int .i64 0))⟩]) bits_Zag_k1)⟩

-- rec_Reader_Num: 0=bits_Get 1=rec_Reader_spoil
def rec_Reader_Num_k1 (c : Nat → FuncId) : LCode := (.seq (.sq [⟨some 17, none, .mv false (.t 0)⟩, ⟨some 18, none, .call (.f (c 1)) [(.t 17)]⟩]) (.seq (.sq [⟨some 2, none, .mv true (.c (.int .u64 0))⟩]) .ret))
def rec_Reader_Num_k2 (c : Nat → FuncId) : LCode := (.seq (.sq [⟨some 19, none, .mv false (.t 0)⟩, ⟨some 20, none, .mv false (.t 0)⟩, ⟨some 21, none, .nilc (.t 20)⟩, ⟨some 22, none, .shift 0 (.t 21)⟩, ⟨some 23, none, .load1 false (.t 22)⟩, ⟨some 24, none, .mv false (.t 4)⟩, ⟨some 25, none, .slc (.sl 1) (.t 23) (some (.t 24)) none none⟩, ⟨some 26, none, .nilc (.t 19)⟩, ⟨some 27, none, .shift 0 (.t 26)⟩, ⟨none, none, .store 1 (.t 27) (.t 25)⟩]) (.seq (.sq [⟨some 28, none, .mv false (.t 3)⟩, ⟨some 2, none, .mv true (.t 28)⟩]) .ret))
def rec_Reader_Num_k3 (c : Nat → FuncId) : LCode := (.seq (.seq (.sq [⟨some 15, none, .mv false (.t 5)⟩, ⟨some 16, none, .bin .neq .sc (.t 15) (.c (.int .i64 0))⟩]) (.cond (.t 16) (rec_Reader_Num_k1 c) .skip)) (rec_Reader_Num_k2 c))
def rec_Reader_Num_k4 (c : Nat → FuncId) : LCode := (.seq (.sq [⟨some 7, none, .mv false (.t 0)⟩, ⟨some 8, none, .nilc (.t 7)⟩, ⟨some 9, none, .shift 0 (.t 8)⟩, ⟨some 10, none, .load1 false (.t 9)⟩, ⟨some 11, none, .call (.f (c 0)) [(.t 10)]⟩, ⟨some 6, none, .mv false (.t 11)⟩, ⟨some 12, none, .ext (.t 6) 0⟩, ⟨some 13, none, .ext (.t 6) 1⟩, ⟨some 14, none, .ext (.t 6) 2⟩, ⟨some 3, none, .mv true (.t 12)⟩, ⟨some 4, none, .mv true (.t 13)⟩, ⟨some 5, none, .mv true (.t 14)⟩]) (rec_Reader_Num_k3 c))
theorem U_rec_Reader_Num (c : Nat → FuncId) : ((type_of% (@unfC _ _ (rec_Reader_Num_k1.eq_1 c)) ∧ type_of% (@unfC _ _ (rec_Reader_Num_k2.eq_1 c))) ∧ (type_of% (@unfC _ _ (rec_Reader_Num_k3.eq_1 c)) ∧ type_of% (@unfC _ _ (rec_Reader_Num_k4.eq_1 c)))) := ⟨⟨@unfC _ _ (rec_Reader_Num_k1.eq_1 c), @unfC _ _ (rec_Reader_Num_k2.eq_1 c)⟩, ⟨@unfC _ _ (rec_Reader_Num_k3.eq_1 c), @unfC _ _ (rec_Reader_Num_k4.eq_1 c)⟩⟩
def C_rec_Reader_Num (c : Nat → FuncId) : LFn := ⟨29, [.t 2], (.seq (.sq [⟨some 2, none, .mv true (.c (.int .u64 0))⟩]) (rec_Reader_Num_k4 c))⟩

-- rec_Reader_Stamp: 0=rec_Reader_Num 1=stamp_Unpack 2=rec_Reader_spoil
def rec_Reader_Stamp_k1 (c : Nat → FuncId) : LCode := (.seq (.seq (.sq [⟨some 11, none, .mv false (.t 4)⟩, ⟨some 12, none, .bin .neq .sc (.t 11) (.c (.int .i64 0))⟩]) (.cond (.t 12) (.sq [⟨some 13, none, .mv false (.t 0)⟩, ⟨some 14, none, .call (.f (c 2)) [(.t 13)]⟩]) .skip)) (.seq (.sq [⟨some 15, none, .loadA 2 (.t 3)⟩, ⟨none, none, .store 2 (.t 2) (.t 15)⟩]) .ret))
def rec_Reader_Stamp_k2 (c : Nat → FuncId) : LCode := (.seq (.sq [⟨some 6, none, .mv false (.t 0)⟩, ⟨some 7, none, .call (.f (c 0)) [(.t 6)]⟩, ⟨some 8, none, .call (.f (c 1)) [(.t 7)]⟩, ⟨some 5, none, .mv false (.t 8)⟩, ⟨some 9, none, .ext (.t 5) 0⟩, ⟨some 10, none, .ext (.t 5) 1⟩, ⟨some 3, none, .alloc false [(.s (.int .i64 0)), (.s (.int .u8 0))]⟩, ⟨none, none, .store 2 (.t 3) (.t 9)⟩, ⟨some 4, none, .mv true (.t 10)⟩]) (rec_Reader_Stamp_k1 c))
theorem U_rec_Reader_Stamp (c : Nat → FuncId) : (type_of% (@unfC _ _ (rec_Reader_Stamp_k1.eq_1 c)) ∧ type_of% (@unfC _ _ (rec_Reader_Stamp_k2.eq_1 c))) := ⟨@unfC _ _ (rec_Reader_Stamp_k1.eq_1 c), @unfC _ _ (rec_Reader_Stamp_k2.eq_1 c)⟩
def C_rec_Reader_Stamp (c : Nat → FuncId) : LFn := ⟨16, [.many 2 2], (.seq (.sq [⟨some 2, none, .alloc false [(.s (.int .i64 0)), (.s (.int .u8 0))]⟩]) (rec_Reader_Stamp_k2 c))⟩

-- rec_Reader_Writes: 0=rec_Reader_Most 1=rec_Reader_Key 2=rec_Reader_Text 3=store_Good 4=rec_Reader_spoil
def rec_Reader_Writes_k1 (c : Nat → FuncId) : LCode := (.sq [⟨some 21, none, .mv true (.t 3)⟩, ⟨some 22, none, .loadA 18 (.t 4)⟩, ⟨some 23, none, .bsl ⟨18, true, 40, (.agg (zk ++ [(.s (.str [])), (.s (.bool false))]))⟩ 1 [(0, (.t 22))]⟩, ⟨some 24, none, .app ⟨18, true, 40, (.agg (zk ++ [(.s (.str [])), (.s (.bool false))]))⟩ false (.t 21) (.t 23)⟩, ⟨some 3, none, .mv true (.t 24)⟩])
def rec_Reader_Writes_k2 (c : Nat → FuncId) : LCode := (.seq (.sq [⟨some 16, none, .mv false (.t 0)⟩, ⟨some 17, none, .mv false (.t 0)⟩, ⟨some 18, none, .call (.f (c 0)) [(.t 17), (.c (.int .i64 200))]⟩, ⟨some 19, none, .call (.f (c 2)) [(.t 16), (.t 18)]⟩, ⟨some 20, none, .shift 16 (.t 4)⟩, ⟨none, none, .store 1 (.t 20) (.t 19)⟩]) (rec_Reader_Writes_k1 c))
def rec_Reader_Writes_k3 (c : Nat → FuncId) : LCode := (.seq (.sq [⟨some 12, none, .mv false (.t 0)⟩, ⟨some 13, none, .call (.f (c 0)) [(.t 12), (.c (.int .i64 1))]⟩, ⟨some 14, none, .bin .eql .sc (.t 13) (.c (.int .i64 1))⟩, ⟨some 15, none, .shift 17 (.t 4)⟩, ⟨none, none, .store 1 (.t 15) (.t 14)⟩]) (rec_Reader_Writes_k2 c))
def rec_Reader_Writes_k4 (c : Nat → FuncId) : LCode := (.seq (.block 1 (.seq (.sq [⟨some 9, none, .mv false (.t 0)⟩, ⟨some 10, none, .call (.f (c 1)) [(.t 9)]⟩, ⟨some 11, none, .build (zk ++ [(.s (.str [])), (.s (.bool false))]) [(0, 16, (.t 10))]⟩, ⟨some 4, none, .alloc false (zk ++ [(.s (.str [])), (.s (.bool false))])⟩, ⟨none, none, .store 18 (.t 4) (.t 11)⟩]) (rec_Reader_Writes_k3 c))) (.sq [⟨some 25, none, .bin .add .sc (.t 7) (.c (.int .i64 1))⟩, ⟨some 7, none, .mv false (.t 25)⟩]))
def rec_Reader_Writes_k5 (c : Nat → FuncId) : LCode := (.seq (.sq [⟨some 8, none, .bin .lss .sc (.t 7) (.t 6)⟩]) (.seq (.cond (.t 8) .skip (.exit 0)) (rec_Reader_Writes_k4 c)))
def rec_Reader_Writes_k6 (c : Nat → FuncId) : LCode := (.block 0 (.loop [true, false, false, true, false, false, true, true, false, false, false, false, false, false, false, false, false, false, false, false, false, false, false, false, false, false, false, false, false, false, false, false] (rec_Reader_Writes_k5 c)))
def rec_Reader_Writes_k7 (c : Nat → FuncId) : LCode := (.seq (.seq (.sq [⟨some 26, none, .mv false (.t 3)⟩, ⟨some 27, none, .call (.f (c 3)) [(.t 26)]⟩, ⟨some 28, none, .un .not (.t 27)⟩]) (.cond (.t 28) (.sq [⟨some 29, none, .mv false (.t 0)⟩, ⟨some 30, none, .call (.f (c 4)) [(.t 29)]⟩]) .skip)) (.seq (.sq [⟨some 31, none, .mv true (.t 3)⟩, ⟨some 2, none, .mv true (.t 31)⟩]) .ret))
def rec_Reader_Writes_k8 (c : Nat → FuncId) : LCode := (.seq (.seq (.sq [⟨some 5, none, .mv false (.t 0)⟩, ⟨some 6, none, .call (.f (c 0)) [(.t 5), (.c (.int .i64 16))]⟩, ⟨some 7, none, .mv false (.c (.int .i64 0))⟩]) (rec_Reader_Writes_k6 c)) (rec_Reader_Writes_k7 c))
theorem U_rec_Reader_Writes (c : Nat → FuncId) : (((type_of% (@unfC _ _ (rec_Reader_Writes_k1.eq_1 c)) ∧ type_of% (@unfC _ _ (rec_Reader_Writes_k2.eq_1 c))) ∧ (type_of% (@unfC _ _ (rec_Reader_Writes_k3.eq_1 c)) ∧ type_of% (@unfC _ _ (rec_Reader_Writes_k4.eq_1 c)))) ∧ ((type_of% (@unfC _ _ (rec_Reader_Writes_k5.eq_1 c)) ∧ type_of% (@unfC _ _ (rec_Reader_Writes_k6.eq_1 c))) ∧ (type_of% (@unfC _ _ (rec_Reader_Writes_k7.eq_1 c)) ∧ type_of% (@unfC _ _ (rec_Reader_Writes_k8.eq_1 c))))) := ⟨⟨⟨@unfC _ _ (rec_Reader_Writes_k1.eq_1 c), @unfC _ _ (rec_Reader_Writes_k2.eq_1 c)⟩, ⟨@unfC _ _ (rec_Reader_Writes_k3.eq_1 c), @unfC _ _ (rec_Reader_Writes_k4.eq_1 c)⟩⟩, ⟨⟨@unfC _ _ (rec_Reader_Writes_k5.eq_1 c), @unfC _ _ (rec_Reader_Writes_k6.eq_1 c)⟩, ⟨@unfC _ _ (rec_Reader_Writes_k7.eq_1 c), @unfC _ _ (rec_Reader_Writes_k8.eq_1 c)⟩⟩⟩
def C_rec_Reader_Writes (c : Nat → FuncId) : LFn := ⟨32, [.t 2], (.seq (.sq [⟨some 2, none, .mv true (.c .nilS)⟩]) (.seq (.sq [⟨some 3, none, .mv true (.c .nilS)⟩]) (rec_Reader_Writes_k8 c)))⟩

-- hourglassref14_Count: 0=hourglassref1_Reader_Num
def hourglassref14_Count_k1 (c : Nat → FuncId) : LCode := (.seq (.sq [⟨some 11, none, .mv false (.t 0)⟩, ⟨some 12, none, .nilc (.t 11)⟩, ⟨some 13, none, .shift 2 (.t 12)⟩, ⟨none, none, .store 1 (.t 13) (.c (.bool true))⟩]) (.seq (.sq [⟨some 4, none, .mv true (.c (.int .i64 0))⟩]) .ret))
def hourglassref14_Count_k2 (c : Nat → FuncId) : LCode := (.seq (.sq [⟨some 14, none, .mv false (.t 5)⟩, ⟨some 15, none, .conv (.int .i64) (.t 14)⟩, ⟨some 4, none, .mv true (.t 15)⟩]) .ret)
def hourglassref14_Count_k3 (c : Nat → FuncId) : LCode := (.seq (.seq (.sq [⟨some 8, none, .mv false (.t 5)⟩, ⟨some 9, none, .mv false (.t 1)⟩, ⟨some 10, none, .bin .gtr .sc (.t 8) (.t 9)⟩]) (.cond (.t 10) (hourglassref14_Count_k1 c) .skip)) (hourglassref14_Count_k2 c))
def hourglassref14_Count_k4 (c : Nat → FuncId) : LCode := (.seq (.sq [⟨some 6, none, .mv false (.t 0)⟩, ⟨some 7, none, .call (.f (c 0)) [(.t 6)]⟩, ⟨some 5, none, .mv true (.t 7)⟩]) (hourglassref14_Count_k3 c))
theorem U_hourglassref14_Count (c : Nat → FuncId) : ((type_of% (@unfC _ _ (hourglassref14_Count_k1.eq_1 c)) ∧ type_of% (@unfC _ _ (hourglassref14_Count_k2.eq_1 c))) ∧ (type_of% (@unfC _ _ (hourglassref14_Count_k3.eq_1 c)) ∧ type_of% (@unfC _ _ (hourglassref14_Count_k4.eq_1 c)))) := ⟨⟨@unfC _ _ (hourglassref14_Count_k1.eq_1 c), @unfC _ _ (hourglassref14_Count_k2.eq_1 c)⟩, ⟨@unfC _ _ (hourglassref14_Count_k3.eq_1 c), @unfC _ _ (hourglassref14_Count_k4.eq_1 c)⟩⟩
def C_hourglassref14_Count (c : Nat → FuncId) : LFn := ⟨16, [.t 4], (.seq (.sq [⟨some 4, none, .mv true (.c (.int .i64 0))⟩]) (hourglassref14_Count_k4 c))⟩

-- hourglassref1_Zag: 
-- hourglassref1_Reader_Num: 0=hourglassref1_Get
def hourglassref1_Reader_Num_k1 (c : Nat → FuncId) : LCode := (.seq (.sq [⟨some 24, none, .mv false (.t 0)⟩, ⟨some 25, none, .nilc (.t 24)⟩, ⟨some 26, none, .shift 2 (.t 25)⟩, ⟨none, none, .store 1 (.t 26) (.c (.bool true))⟩]) (.seq (.sq [⟨some 2, none, .mv true (.c (.int .u64 0))⟩]) .ret))
def hourglassref1_Reader_Num_k2 (c : Nat → FuncId) : LCode := (.seq (.sq [⟨some 27, none, .mv false (.t 0)⟩, ⟨some 28, none, .mv false (.t 0)⟩, ⟨some 29, none, .nilc (.t 28)⟩, ⟨some 30, none, .shift 1 (.t 29)⟩, ⟨some 31, none, .load1 false (.t 30)⟩, ⟨some 32, none, .mv false (.t 4)⟩, ⟨some 33, none, .bin .add .sc (.t 31) (.t 32)⟩, ⟨some 34, none, .nilc (.t 27)⟩, ⟨some 35, none, .shift 1 (.t 34)⟩, ⟨none, none, .store 1 (.t 35) (.t 33)⟩]) (.seq (.sq [⟨some 36, none, .mv false (.t 3)⟩, ⟨some 2, none, .mv true (.t 36)⟩]) .ret))
def hourglassref1_Reader_Num_k3 (c : Nat → FuncId) : LCode := (.seq (.seq (.sq [⟨some 22, none, .mv false (.t 4)⟩, ⟨some 23, none, .bin .eql .sc (.t 22) (.c (.int .i64 0))⟩]) (.cond (.t 23) (hourglassref1_Reader_Num_k1 c) .skip)) (hourglassref1_Reader_Num_k2 c))
def hourglassref1_Reader_Num_k4 (c : Nat → FuncId) : LCode := (.seq (.tree (.rd ⟨some 10, none, .mv false (.t 0)⟩ 0 false (.rd ⟨some 11, none, .nilc (.t 10)⟩ 1 false (.rd ⟨some 12, none, .shift 0 (.t 11)⟩ 2 false (.rd ⟨some 13, none, .load1 false (.t 12)⟩ 3 false (.rd ⟨some 14, none, .mv false (.t 0)⟩ 4 false (.rd ⟨some 15, none, .nilc (.t 14)⟩ 5 false (.rd ⟨some 16, none, .shift 1 (.t 15)⟩ 6 false (.rd ⟨some 17, none, .load1 false (.t 16)⟩ 7 false (.rd ⟨some 18, none, .slc (.sl 1) (.t 13) (some (.t 17)) none none⟩ 8 false (.mv ⟨some 19, none, .call (.f (c 0)) [(.t 18)]⟩ [0, 1, 2, 3, 4, 5, 6, 7, 8] (.rd ⟨some 9, none, .mv false (.t 19)⟩ 10 false (.rd ⟨some 20, none, .ext (.t 9) 0⟩ 11 false (.rd ⟨some 21, none, .ext (.t 9) 1⟩ 12 true (.mv ⟨some 3, none, .mv true (.t 20)⟩ [0, 1, 2, 3, 4, 5, 6, 7, 8, 9, 10, 11] (.mv ⟨some 4, none, .mv true (.t 21)⟩ [0, 1, 2, 3, 4, 5, 6, 7, 8, 9, 10, 11, 12, 13] .done .stop) .stop)))) .stop))))))))))) (hourglassref1_Reader_Num_k3 c))
def hourglassref1_Reader_Num_k5 (c : Nat → FuncId) : LCode := (.seq (.seq (.sq [⟨some 5, none, .mv false (.t 0)⟩, ⟨some 6, none, .nilc (.t 5)⟩, ⟨some 7, none, .shift 2 (.t 6)⟩, ⟨some 8, none, .load1 false (.t 7)⟩]) (.cond (.t 8) (.seq (.sq [⟨some 2, none, .mv true (.c (.int .u64 0))⟩]) .ret) .skip)) (hourglassref1_Reader_Num_k4 c))
theorem U_hourglassref1_Reader_Num (c : Nat → FuncId) : ((type_of% (@unfC _ _ (hourglassref1_Reader_Num_k1.eq_1 c)) ∧ type_of% (@unfC _ _ (hourglassref1_Reader_Num_k2.eq_1 c))) ∧ (type_of% (@unfC _ _ (hourglassref1_Reader_Num_k3.eq_1 c)) ∧ (type_of% (@unfC _ _ (hourglassref1_Reader_Num_k4.eq_1 c)) ∧ type_of% (@unfC _ _ (hourglassref1_Reader_Num_k5.eq_1 c))))) := ⟨⟨@unfC _ _ (hourglassref1_Reader_Num_k1.eq_1 c), @unfC _ _ (hourglassref1_Reader_Num_k2.eq_1 c)⟩, ⟨@unfC _ _ (hourglassref1_Reader_Num_k3.eq_1 c), ⟨@unfC _ _ (hourglassref1_Reader_Num_k4.eq_1 c), @unfC _ _ (hourglassref1_Reader_Num_k5.eq_1 c)⟩⟩⟩
def C_hourglassref1_Reader_Num (c : Nat → FuncId) : LFn := ⟨37, [.t 2], (.seq (.sq [⟨some 2, none, .mv true (.c (.int .u64 0))⟩]) (hourglassref1_Reader_Num_k5 c))⟩

-- hourglassref14_Stamp: 0=hourglassref1_Reader_Num 1=hourglassref6_Unpack
-- hourglassref14_Writes: 0=hourglassref14_Count 1=hourglassref14_Key 2=hourglassref14_Bool 3=hourglassref14_Text 4=hourglassref10_MayWrites
def hourglassref14_Writes_k1 (c : Nat → FuncId) : LCode := (.sq [⟨some 29, none, .mv true (.t 4)⟩, ⟨some 30, none, .loadA 18 (.t 6)⟩, ⟨some 31, none, .bsl ⟨18, true, 40, (.agg (zk ++ [(.s (.str [])), (.s (.bool false))]))⟩ 1 [(0, (.t 30))]⟩, ⟨some 32, none, .app ⟨18, true, 40, (.agg (zk ++ [(.s (.str [])), (.s (.bool false))]))⟩ false (.t 29) (.t 31)⟩, ⟨some 4, none, .mv true (.t 32)⟩])
def hourglassref14_Writes_k2 (c : Nat → FuncId) : LCode := (.seq (.sq [⟨some 26, none, .mv false (.t 0)⟩, ⟨some 27, none, .call (.f (c 3)) [(.t 26)]⟩, ⟨some 28, none, .shift 16 (.t 6)⟩, ⟨none, none, .store 1 (.t 28) (.t 27)⟩]) (hourglassref14_Writes_k1 c))
def hourglassref14_Writes_k3 (c : Nat → FuncId) : LCode := (.sq [⟨some 19, none, .mv false (.t 5)⟩, ⟨some 20, none, .bin .add .sc (.t 19) (.c (.int .i64 1))⟩, ⟨some 5, none, .mv true (.t 20)⟩])
def hourglassref14_Writes_k4 (c : Nat → FuncId) : LCode := (.seq (.block 1 (.seq (.sq [⟨some 21, none, .mv false (.t 0)⟩, ⟨some 22, none, .call (.f (c 1)) [(.t 21)]⟩, ⟨some 23, none, .mv false (.t 0)⟩, ⟨some 24, none, .call (.f (c 2)) [(.t 23)]⟩, ⟨some 25, none, .build (zk ++ [(.s (.str [])), (.s (.bool false))]) [(0, 16, (.t 22)), (17, 1, (.t 24))]⟩, ⟨some 6, none, .alloc false (zk ++ [(.s (.str [])), (.s (.bool false))])⟩, ⟨none, none, .store 18 (.t 6) (.t 25)⟩]) (hourglassref14_Writes_k2 c))) (hourglassref14_Writes_k3 c))
def hourglassref14_Writes_k5 (c : Nat → FuncId) : LCode := (.seq (.seq (.sq [⟨some 9, none, .mv false (.t 5)⟩, ⟨some 10, none, .mv false (.t 3)⟩, ⟨some 11, none, .bin .lss .sc (.t 9) (.t 10)⟩, ⟨some 12, none, .mv false (.t 11)⟩, ⟨some 13, some (12, true), .mv false (.t 0)⟩, ⟨some 14, some (12, true), .nilc (.t 13)⟩, ⟨some 15, some (12, true), .shift 2 (.t 14)⟩, ⟨some 16, some (12, true), .load1 false (.t 15)⟩, ⟨some 17, some (12, true), .un .not (.t 16)⟩, ⟨some 18, none, .pick (.t 12) (.t 17) (.c (.bool false))⟩]) (.cond (.t 18) .skip (.exit 0))) (hourglassref14_Writes_k4 c))
def hourglassref14_Writes_k6 (c : Nat → FuncId) : LCode := (.block 0 (.loop [true, false, false, true, true, true, false, false, false, false, false, false, false, false, false, false, false, false, false, false, false, false, false, false, false, false, false, false, false, false, false, false, false, false, false, false, false, false, false, false] (hourglassref14_Writes_k5 c)))
def hourglassref14_Writes_k7 (c : Nat → FuncId) : LCode := (.sq [⟨some 36, none, .mv false (.t 0)⟩, ⟨some 37, none, .nilc (.t 36)⟩, ⟨some 38, none, .shift 2 (.t 37)⟩, ⟨none, none, .store 1 (.t 38) (.c (.bool true))⟩])
def hourglassref14_Writes_k8 (c : Nat → FuncId) : LCode := (.seq (.seq (.sq [⟨some 33, none, .mv false (.t 4)⟩, ⟨some 34, none, .call (.f (c 4)) [(.t 33), (.c (.int .i64 0))]⟩, ⟨some 35, none, .un .not (.t 34)⟩]) (.cond (.t 35) (hourglassref14_Writes_k7 c) .skip)) (.seq (.sq [⟨some 39, none, .mv true (.t 4)⟩, ⟨some 2, none, .mv true (.t 39)⟩]) .ret))
def hourglassref14_Writes_k9 (c : Nat → FuncId) : LCode := (.seq (.seq (.sq [⟨some 5, none, .mv true (.c (.int .i64 0))⟩]) (hourglassref14_Writes_k6 c)) (hourglassref14_Writes_k8 c))
def hourglassref14_Writes_k10 (c : Nat → FuncId) : LCode := (.seq (.sq [⟨some 7, none, .mv false (.t 0)⟩, ⟨some 8, none, .call (.f (c 0)) [(.t 7), (.c (.int .u64 16))]⟩, ⟨some 3, none, .mv true (.t 8)⟩]) (.seq (.sq [⟨some 4, none, .mv true (.c .nilS)⟩]) (hourglassref14_Writes_k9 c)))
theorem U_hourglassref14_Writes (c : Nat → FuncId) : (((type_of% (@unfC _ _ (hourglassref14_Writes_k1.eq_1 c)) ∧ type_of% (@unfC _ _ (hourglassref14_Writes_k2.eq_1 c))) ∧ (type_of% (@unfC _ _ (hourglassref14_Writes_k3.eq_1 c)) ∧ (type_of% (@unfC _ _ (hourglassref14_Writes_k4.eq_1 c)) ∧ type_of% (@unfC _ _ (hourglassref14_Writes_k5.eq_1 c))))) ∧ ((type_of% (@unfC _ _ (hourglassref14_Writes_k6.eq_1 c)) ∧ type_of% (@unfC _ _ (hourglassref14_Writes_k7.eq_1 c))) ∧ (type_of% (@unfC _ _ (hourglassref14_Writes_k8.eq_1 c)) ∧ (type_of% (@unfC _ _ (hourglassref14_Writes_k9.eq_1 c)) ∧ type_of% (@unfC _ _ (hourglassref14_Writes_k10.eq_1 c)))))) := ⟨⟨⟨@unfC _ _ (hourglassref14_Writes_k1.eq_1 c), @unfC _ _ (hourglassref14_Writes_k2.eq_1 c)⟩, ⟨@unfC _ _ (hourglassref14_Writes_k3.eq_1 c), ⟨@unfC _ _ (hourglassref14_Writes_k4.eq_1 c), @unfC _ _ (hourglassref14_Writes_k5.eq_1 c)⟩⟩⟩, ⟨⟨@unfC _ _ (hourglassref14_Writes_k6.eq_1 c), @unfC _ _ (hourglassref14_Writes_k7.eq_1 c)⟩, ⟨@unfC _ _ (hourglassref14_Writes_k8.eq_1 c), ⟨@unfC _ _ (hourglassref14_Writes_k9.eq_1 c), @unfC _ _ (hourglassref14_Writes_k10.eq_1 c)⟩⟩⟩⟩
def C_hourglassref14_Writes (c : Nat → FuncId) : LFn := ⟨40, [.t 2], (.seq (.sq [⟨some 2, none, .mv true (.c .nilS)⟩]) (hourglassref14_Writes_k10 c))⟩

-- hourglassref14_Bool: 0=hourglassref1_Reader_Byte
def hourglassref14_Bool_k1 (c : Nat → FuncId) : LCode := (.sq [⟨some 8, none, .mv false (.t 0)⟩, ⟨some 9, none, .nilc (.t 8)⟩, ⟨some 10, none, .shift 2 (.t 9)⟩, ⟨none, none, .store 1 (.t 10) (.c (.bool true))⟩])
def hourglassref14_Bool_k2 (c : Nat → FuncId) : LCode := (.seq (.sq [⟨some 11, none, .mv false (.t 3)⟩, ⟨some 12, none, .bin .eql .sc (.t 11) (.c (.int .u8 1))⟩, ⟨some 2, none, .mv true (.t 12)⟩]) .ret)
def hourglassref14_Bool_k3 (c : Nat → FuncId) : LCode := (.seq (.seq (.sq [⟨some 6, none, .mv false (.t 3)⟩, ⟨some 7, none, .bin .gtr .sc (.t 6) (.c (.int .u8 1))⟩]) (.cond (.t 7) (hourglassref14_Bool_k1 c) .skip)) (hourglassref14_Bool_k2 c))
def hourglassref14_Bool_k4 (c : Nat → FuncId) : LCode := (.seq (.sq [⟨some 4, none, .mv false (.t 0)⟩, ⟨some 5, none, .call (.f (c 0)) [(.t 4)]⟩, ⟨some 3, none, .mv true (.t 5)⟩]) (hourglassref14_Bool_k3 c))
theorem U_hourglassref14_Bool (c : Nat → FuncId) : ((type_of% (@unfC _ _ (hourglassref14_Bool_k1.eq_1 c)) ∧ type_of% (@unfC _ _ (hourglassref14_Bool_k2.eq_1 c))) ∧ (type_of% (@unfC _ _ (hourglassref14_Bool_k3.eq_1 c)) ∧ type_of% (@unfC _ _ (hourglassref14_Bool_k4.eq_1 c)))) := ⟨⟨@unfC _ _ (hourglassref14_Bool_k1.eq_1 c), @unfC _ _ (hourglassref14_Bool_k2.eq_1 c)⟩, ⟨@unfC _ _ (hourglassref14_Bool_k3.eq_1 c), @unfC _ _ (hourglassref14_Bool_k4.eq_1 c)⟩⟩
def C_hourglassref14_Bool (c : Nat → FuncId) : LFn := ⟨13, [.t 2], (.seq (.sq [⟨some 2, none, .mv true (.c (.bool false))⟩]) (hourglassref14_Bool_k4 c))⟩

-- hourglassref1_Reader_End: 
-- bits_Put: 
def bits_Put_k1 : LCode := (.sq [⟨some 17, none, .mv false (.t 1)⟩, ⟨some 18, none, .bin .shr .sc (.t 17) (.c (.int .u64 7))⟩, ⟨some 1, none, .mv true (.t 18)⟩])
def bits_Put_k2 : LCode := (.block 1 (.seq (.sq [⟨some 11, none, .mv true (.t 5)⟩, ⟨some 12, none, .mv false (.t 1)⟩, ⟨some 13, none, .conv (.int .u8) (.t 12)⟩, ⟨some 14, none, .bin .or .sc (.t 13) (.c (.int .u8 128))⟩, ⟨some 15, none, .bsl ⟨1, false, 1, (.s (.int .u8 0))⟩ 1 [(0, (.t 14))]⟩, ⟨some 16, none, .app ⟨1, false, 1, (.s (.int .u8 0))⟩ false (.t 11) (.t 15)⟩, ⟨some 5, none, .mv true (.t 16)⟩]) bits_Put_k1))
def bits_Put_k3 : LCode := (.seq (.seq (.sq [⟨some 9, none, .mv false (.t 1)⟩, ⟨some 10, none, .bin .gtr .sc (.t 9) (.c (.int .u64 127))⟩]) (.cond (.t 10) .skip (.exit 0))) bits_Put_k2)
def bits_Put_k4 : LCode := (.seq (.sq [⟨some 19, none, .mv true (.t 5)⟩, ⟨some 20, none, .mv false (.t 1)⟩, ⟨some 21, none, .conv (.int .u8) (.t 20)⟩, ⟨some 22, none, .bsl ⟨1, false, 1, (.s (.int .u8 0))⟩ 1 [(0, (.t 21))]⟩, ⟨some 23, none, .app ⟨1, false, 1, (.s (.int .u8 0))⟩ false (.t 19) (.t 22)⟩, ⟨some 4, none, .mv true (.t 23)⟩]) .ret)
def bits_Put_k5 : LCode := (.seq (.block 0 (.loop [false, true, false, false, false, true, false, false, false, false, false, false, false, false, false, false, false, false, false, false, false, false, false, false] bits_Put_k3)) bits_Put_k4)
def bits_Put_k6 : LCode := (.seq (.sq [⟨some 6, none, .bsl ⟨1, false, 1, (.s (.int .u8 0))⟩ 0 []⟩, ⟨some 7, none, .mv false (.t 0)⟩, ⟨some 8, none, .app ⟨1, false, 1, (.s (.int .u8 0))⟩ false (.t 6) (.t 7)⟩, ⟨some 5, none, .mv true (.t 8)⟩]) bits_Put_k5)
theorem U_bits_Put : ((type_of% (@unfC _ _ (bits_Put_k1.eq_1)) ∧ (type_of% (@unfC _ _ (bits_Put_k2.eq_1)) ∧ type_of% (@unfC _ _ (bits_Put_k3.eq_1)))) ∧ (type_of% (@unfC _ _ (bits_Put_k4.eq_1)) ∧ (type_of% (@unfC _ _ (bits_Put_k5.eq_1)) ∧ type_of% (@unfC _ _ (bits_Put_k6.eq_1))))) := ⟨⟨@unfC _ _ (bits_Put_k1.eq_1), ⟨@unfC _ _ (bits_Put_k2.eq_1), @unfC _ _ (bits_Put_k3.eq_1)⟩⟩, ⟨@unfC _ _ (bits_Put_k4.eq_1), ⟨@unfC _ _ (bits_Put_k5.eq_1), @unfC _ _ (bits_Put_k6.eq_1)⟩⟩⟩
def C_bits_Put : LFn := ⟨24, [.t 4], (.seq (.sq [⟨some 4, none, .mv true (.c .nilS)⟩]) bits_Put_k6)⟩

-- rec_num: 0=bits_Put
def rec_num_k1 (c : Nat → FuncId) : LCode := (.seq (.sq [⟨some 5, none, .mv true (.t 0)⟩, ⟨some 6, none, .mv false (.t 1)⟩, ⟨some 7, none, .conv (.int .u64) (.t 6)⟩, ⟨some 8, none, .call (.f (c 0)) [(.t 5), (.t 7)]⟩, ⟨some 4, none, .mv true (.t 8)⟩]) .ret)
theorem U_rec_num (c : Nat → FuncId) : type_of% (@unfC _ _ (rec_num_k1.eq_1 c)) := @unfC _ _ (rec_num_k1.eq_1 c)
def C_rec_num (c : Nat → FuncId) : LFn := ⟨9, [.t 4], (.seq (.sq [⟨some 4, none, .mv true (.c .nilS)⟩]) (rec_num_k1 c))⟩

-- bits_Zig: 
def bits_Zig_k1 : LCode := (.seq (.sq [⟨some 3, none, .mv false (.t 0)⟩, ⟨some 4, none, .conv (.int .u64) (.t 3)⟩, ⟨some 5, none, .bin .shl .sc (.t 4) (.c (.int .u64 1))⟩, ⟨some 6, none, .mv false (.t 0)⟩, ⟨some 7, none, .bin .shr .sc (.t 6) (.c (.int .u64 63))⟩, ⟨some 8, none, .conv (.int .u64) (.t 7)⟩, ⟨some 9, none, .bin .xor .sc (.t 5) (.t 8)⟩, ⟨some 2, none, .mv true (.t 9)⟩]) .ret)
theorem U_bits_Zig : type_of% (@unfC _ _ (bits_Zig_k1.eq_1)) := @unfC _ _ (bits_Zig_k1.eq_1)
def C_bits_Zig : LFn := ⟨10, [.t 2], (.seq (.sq [⟨some 2, none, .mv true (.c (.int .u64 0))⟩]) bits_Zig_k1)⟩

-- rec_putStamp: 0=stamp_Pack 1=bits_Put
def rec_putStamp_k1 (c : Nat → FuncId) : LCode := (.seq (.sq [⟨some 12, none, .mv true (.t 0)⟩, ⟨some 13, none, .mv false (.t 5)⟩, ⟨some 14, none, .call (.f (c 1)) [(.t 12), (.t 13)]⟩, ⟨some 4, none, .mv true (.t 14)⟩]) .ret)
def rec_putStamp_k2 (c : Nat → FuncId) : LCode := (.seq (.sq [⟨some 8, none, .loadA 2 (.t 3)⟩, ⟨some 9, none, .call (.f (c 0)) [(.t 8)]⟩, ⟨some 7, none, .mv false (.t 9)⟩, ⟨some 10, none, .ext (.t 7) 0⟩, ⟨some 11, none, .ext (.t 7) 1⟩, ⟨some 5, none, .mv true (.t 10)⟩, ⟨some 6, none, .mv true (.t 11)⟩]) (rec_putStamp_k1 c))
theorem U_rec_putStamp (c : Nat → FuncId) : (type_of% (@unfC _ _ (rec_putStamp_k1.eq_1 c)) ∧ type_of% (@unfC _ _ (rec_putStamp_k2.eq_1 c))) := ⟨@unfC _ _ (rec_putStamp_k1.eq_1 c), @unfC _ _ (rec_putStamp_k2.eq_1 c)⟩
def C_rec_putStamp (c : Nat → FuncId) : LFn := ⟨15, [.t 4], (.seq (.sq [⟨some 3, none, .box false false (.t 1)⟩, ⟨some 4, none, .mv true (.c .nilS)⟩]) (rec_putStamp_k2 c))⟩

-- hourglassref14_Num: 0=hourglassref1_Put
def hourglassref14_Num_k1 (c : Nat → FuncId) : LCode := (.seq (.sq [⟨some 5, none, .bsl ⟨1, false, 1, (.s (.int .u8 0))⟩ 0 []⟩, ⟨some 6, none, .mv false (.t 0)⟩, ⟨some 7, none, .app ⟨1, false, 1, (.s (.int .u8 0))⟩ false (.t 5) (.t 6)⟩, ⟨some 8, none, .mv false (.t 1)⟩, ⟨some 9, none, .call (.f (c 0)) [(.t 8)]⟩, ⟨some 10, none, .app ⟨1, false, 1, (.s (.int .u8 0))⟩ false (.t 7) (.t 9)⟩, ⟨some 4, none, .mv true (.t 10)⟩]) .ret)
theorem U_hourglassref14_Num (c : Nat → FuncId) : type_of% (@unfC _ _ (hourglassref14_Num_k1.eq_1 c)) := @unfC _ _ (hourglassref14_Num_k1.eq_1 c)
def C_hourglassref14_Num (c : Nat → FuncId) : LFn := ⟨11, [.t 4], (.seq (.sq [⟨some 4, none, .mv true (.c .nilS)⟩]) (hourglassref14_Num_k1 c))⟩

-- hourglassref1_Zig: 
-- hourglassref14_Stp: 0=hourglassref6_Pack 1=hourglassref14_Num
-- hourglassref14_flag: 
def hourglassref14_flag_k1 : LCode := (.seq (.seq (.sq [⟨some 3, none, .mv false (.t 0)⟩]) (.cond (.t 3) (.seq (.sq [⟨some 2, none, .mv true (.c (.int .u8 1))⟩]) .ret) .skip)) (.seq (.sq [⟨some 2, none, .mv true (.c (.int .u8 0))⟩]) .ret))
theorem U_hourglassref14_flag : type_of% (@unfC _ _ (hourglassref14_flag_k1.eq_1)) := @unfC _ _ (hourglassref14_flag_k1.eq_1)
def C_hourglassref14_flag : LFn := ⟨4, [.t 2], (.seq (.sq [⟨some 2, none, .mv true (.c (.int .u8 0))⟩]) hourglassref14_flag_k1)⟩

-- slices_Equal_Write: 
def slices_Equal_Write_k1 : LCode := (.seq (.tree (.rd ⟨some 16, none, .mv false (.t 0)⟩ 0 false (.rd ⟨some 17, none, .mv false (.t 5)⟩ 1 false (.rd ⟨some 18, none, .ixa (.sl 18) (.t 16) (.t 17)⟩ 2 false (.rd ⟨some 19, none, .loadA 18 (.t 18)⟩ 3 false (.rd ⟨some 20, none, .mv false (.t 1)⟩ 4 false (.rd ⟨some 21, none, .mv false (.t 5)⟩ 5 false (.rd ⟨some 22, none, .ixa (.sl 18) (.t 20) (.t 21)⟩ 6 false (.rd ⟨some 23, none, .loadA 18 (.t 22)⟩ 7 false (.rd ⟨some 24, none, .bin .neq (.leaf (lk ++ [.str, .bool])) (.t 19) (.t 23)⟩ 8 false .done)))))))))) (.cond (.t 24) (.seq (.sq [⟨some 4, none, .mv true (.c (.bool false))⟩]) .ret) .skip))
def slices_Equal_Write_k2 : LCode := (.seq (.block 1 (.seq (.sq [⟨some 15, none, .mv false (.t 13)⟩, ⟨some 5, none, .mv true (.t 15)⟩]) slices_Equal_Write_k1)) (.sq [⟨some 25, none, .bin .add .sc (.t 13) (.c (.int .i64 1))⟩, ⟨some 13, none, .mv false (.t 25)⟩]))
def slices_Equal_Write_k3 : LCode := (.seq (.sq [⟨some 14, none, .bin .lss .sc (.t 13) (.t 12)⟩]) (.seq (.cond (.t 14) .skip (.exit 0)) slices_Equal_Write_k2))
def slices_Equal_Write_k4 : LCode := (.block 0 (.loop [true, true, false, false, false, false, false, false, false, false, false, false, true, true, false, false, false, false, false, false, false, false, false, false, false, false] slices_Equal_Write_k3))
def slices_Equal_Write_k5 : LCode := (.seq (.seq (.sq [⟨some 11, none, .mv false (.t 0)⟩, ⟨some 12, none, .len .sl (.t 11)⟩, ⟨some 13, none, .mv false (.c (.int .i64 0))⟩]) slices_Equal_Write_k4) (.seq (.sq [⟨some 4, none, .mv true (.c (.bool true))⟩]) .ret))
def slices_Equal_Write_k6 : LCode := (.seq (.seq (.sq [⟨some 6, none, .mv false (.t 0)⟩, ⟨some 7, none, .len .sl (.t 6)⟩, ⟨some 8, none, .mv false (.t 1)⟩, ⟨some 9, none, .len .sl (.t 8)⟩, ⟨some 10, none, .bin .neq .sc (.t 7) (.t 9)⟩]) (.cond (.t 10) (.seq (.sq [⟨some 4, none, .mv true (.c (.bool false))⟩]) .ret) .skip)) slices_Equal_Write_k5)
theorem U_slices_Equal_Write : ((type_of% (@unfC _ _ (slices_Equal_Write_k1.eq_1)) ∧ (type_of% (@unfC _ _ (slices_Equal_Write_k2.eq_1)) ∧ type_of% (@unfC _ _ (slices_Equal_Write_k3.eq_1)))) ∧ (type_of% (@unfC _ _ (slices_Equal_Write_k4.eq_1)) ∧ (type_of% (@unfC _ _ (slices_Equal_Write_k5.eq_1)) ∧ type_of% (@unfC _ _ (slices_Equal_Write_k6.eq_1))))) := ⟨⟨@unfC _ _ (slices_Equal_Write_k1.eq_1), ⟨@unfC _ _ (slices_Equal_Write_k2.eq_1), @unfC _ _ (slices_Equal_Write_k3.eq_1)⟩⟩, ⟨@unfC _ _ (slices_Equal_Write_k4.eq_1), ⟨@unfC _ _ (slices_Equal_Write_k5.eq_1), @unfC _ _ (slices_Equal_Write_k6.eq_1)⟩⟩⟩
def C_slices_Equal_Write : LFn := ⟨26, [.t 4], (.seq (.sq [⟨some 4, none, .mv true (.c (.bool false))⟩]) slices_Equal_Write_k6)⟩

-- slices_Equal_int: 
def slices_Equal_int_k1 : LCode := (.seq (.tree (.rd ⟨some 16, none, .mv false (.t 0)⟩ 0 false (.rd ⟨some 17, none, .mv false (.t 5)⟩ 1 false (.rd ⟨some 18, none, .ixa (.sl 1) (.t 16) (.t 17)⟩ 2 false (.rd ⟨some 19, none, .load1 false (.t 18)⟩ 3 false (.rd ⟨some 20, none, .mv false (.t 1)⟩ 4 false (.rd ⟨some 21, none, .mv false (.t 5)⟩ 5 false (.rd ⟨some 22, none, .ixa (.sl 1) (.t 20) (.t 21)⟩ 6 false (.rd ⟨some 23, none, .load1 false (.t 22)⟩ 7 false (.rd ⟨some 24, none, .bin .neq .sc (.t 19) (.t 23)⟩ 8 false .done)))))))))) (.cond (.t 24) (.seq (.sq [⟨some 4, none, .mv true (.c (.bool false))⟩]) .ret) .skip))
def slices_Equal_int_k2 : LCode := (.seq (.block 1 (.seq (.sq [⟨some 15, none, .mv false (.t 13)⟩, ⟨some 5, none, .mv true (.t 15)⟩]) slices_Equal_int_k1)) (.sq [⟨some 25, none, .bin .add .sc (.t 13) (.c (.int .i64 1))⟩, ⟨some 13, none, .mv false (.t 25)⟩]))
def slices_Equal_int_k3 : LCode := (.seq (.sq [⟨some 14, none, .bin .lss .sc (.t 13) (.t 12)⟩]) (.seq (.cond (.t 14) .skip (.exit 0)) slices_Equal_int_k2))
def slices_Equal_int_k4 : LCode := (.block 0 (.loop [true, true, false, false, false, false, false, false, false, false, false, false, true, true, false, false, false, false, false, false, false, false, false, false, false, false] slices_Equal_int_k3))
def slices_Equal_int_k5 : LCode := (.seq (.seq (.sq [⟨some 11, none, .mv false (.t 0)⟩, ⟨some 12, none, .len .sl (.t 11)⟩, ⟨some 13, none, .mv false (.c (.int .i64 0))⟩]) slices_Equal_int_k4) (.seq (.sq [⟨some 4, none, .mv true (.c (.bool true))⟩]) .ret))
def slices_Equal_int_k6 : LCode := (.seq (.seq (.sq [⟨some 6, none, .mv false (.t 0)⟩, ⟨some 7, none, .len .sl (.t 6)⟩, ⟨some 8, none, .mv false (.t 1)⟩, ⟨some 9, none, .len .sl (.t 8)⟩, ⟨some 10, none, .bin .neq .sc (.t 7) (.t 9)⟩]) (.cond (.t 10) (.seq (.sq [⟨some 4, none, .mv true (.c (.bool false))⟩]) .ret) .skip)) slices_Equal_int_k5)
theorem U_slices_Equal_int : ((type_of% (@unfC _ _ (slices_Equal_int_k1.eq_1)) ∧ (type_of% (@unfC _ _ (slices_Equal_int_k2.eq_1)) ∧ type_of% (@unfC _ _ (slices_Equal_int_k3.eq_1)))) ∧ (type_of% (@unfC _ _ (slices_Equal_int_k4.eq_1)) ∧ (type_of% (@unfC _ _ (slices_Equal_int_k5.eq_1)) ∧ type_of% (@unfC _ _ (slices_Equal_int_k6.eq_1))))) := ⟨⟨@unfC _ _ (slices_Equal_int_k1.eq_1), ⟨@unfC _ _ (slices_Equal_int_k2.eq_1), @unfC _ _ (slices_Equal_int_k3.eq_1)⟩⟩, ⟨@unfC _ _ (slices_Equal_int_k4.eq_1), ⟨@unfC _ _ (slices_Equal_int_k5.eq_1), @unfC _ _ (slices_Equal_int_k6.eq_1)⟩⟩⟩
def C_slices_Equal_int : LFn := ⟨26, [.t 4], (.seq (.sq [⟨some 4, none, .mv true (.c (.bool false))⟩]) slices_Equal_int_k6)⟩

-- rec_only: 
def rec_only_k1 : LCode := (.tree (.rd ⟨some 13, none, .shift 2 (.t 1)⟩ 0 false (.rd ⟨some 14, none, .loadA 2 (.t 13)⟩ 1 false (.rd ⟨some 15, none, .shift 4 (.t 1)⟩ 2 true (.rd ⟨some 16, none, .loadA 2 (.t 15)⟩ 3 true (.rd ⟨some 17, none, .shift 6 (.t 1)⟩ 4 true (.rd ⟨some 18, none, .load1 false (.t 17)⟩ 5 true (.rd ⟨some 19, none, .shift 2 (.t 3)⟩ 6 false (.mv ⟨none, none, .store 2 (.t 19) (.t 14)⟩ [0, 1, 6] (.rd ⟨some 20, none, .shift 4 (.t 3)⟩ 8 false (.mv ⟨none, none, .store 2 (.t 20) (.t 16)⟩ [0, 1, 2, 3, 6, 7, 8] (.rd ⟨some 21, none, .shift 6 (.t 3)⟩ 10 false (.mv ⟨none, none, .store 1 (.t 21) (.t 18)⟩ [0, 1, 2, 3, 4, 5, 6, 7, 8, 9, 10] .done .stop)) .stop)) .stop)))))))))
def rec_only_k2 : LCode := (.cond (.t 22) .skip (.sq [⟨some 24, none, .bin .eql .sc (.t 10) (.c (.int .i64 5))⟩, ⟨some 22, none, .mv true (.t 24)⟩]))
def rec_only_k3 : LCode := (.sq [⟨some 25, none, .shift 4 (.t 1)⟩, ⟨some 26, none, .loadA 2 (.t 25)⟩, ⟨some 27, none, .shift 4 (.t 3)⟩, ⟨none, none, .store 2 (.t 27) (.t 26)⟩])
def rec_only_k4 : LCode := (.sq [⟨some 38, none, .shift 4 (.t 1)⟩, ⟨some 39, none, .loadA 2 (.t 38)⟩, ⟨some 40, none, .shift 4 (.t 3)⟩, ⟨none, none, .store 2 (.t 40) (.t 39)⟩])
def rec_only_k5 : LCode := (.seq (.sq [⟨some 36, none, .shift 7 (.t 1)⟩, ⟨some 37, none, .load1 false (.t 36)⟩]) (.cond (.t 37) rec_only_k4 .skip))
def rec_only_k6 : LCode := (.seq (.tree (.rd ⟨some 30, none, .shift 7 (.t 1)⟩ 0 false (.rd ⟨some 31, none, .load1 false (.t 30)⟩ 1 false (.rd ⟨some 32, none, .shift 8 (.t 1)⟩ 2 true (.rd ⟨some 33, none, .load1 false (.t 32)⟩ 3 true (.rd ⟨some 34, none, .shift 7 (.t 3)⟩ 4 false (.mv ⟨none, none, .store 1 (.t 34) (.t 31)⟩ [0, 1, 4] (.rd ⟨some 35, none, .shift 8 (.t 3)⟩ 6 false (.mv ⟨none, none, .store 1 (.t 35) (.t 33)⟩ [0, 1, 2, 3, 4, 5, 6] .done .stop)) .stop))))))) rec_only_k5)
def rec_only_k7 : LCode := (.seq (.sq [⟨some 29, none, .bin .eql .sc (.t 10) (.c (.int .i64 4))⟩, ⟨some 28, none, .mv true (.t 29)⟩]) (.cond (.t 28) rec_only_k6 .skip))
def rec_only_k8 : LCode := (.seq (.seq (.sq [⟨some 23, none, .bin .eql .sc (.t 10) (.c (.int .i64 2))⟩, ⟨some 22, none, .mv true (.t 23)⟩]) rec_only_k2) (.cond (.t 22) rec_only_k3 rec_only_k7))
def rec_only_k9 : LCode := (.block 0 (.seq (.sq [⟨some 12, none, .bin .eql .sc (.t 10) (.c (.int .i64 1))⟩, ⟨some 11, none, .mv true (.t 12)⟩]) (.cond (.t 11) rec_only_k1 rec_only_k8)))
def rec_only_k10 : LCode := (.seq (.seq (.sq [⟨some 9, none, .shift 0 (.t 1)⟩, ⟨some 10, none, .load1 false (.t 9)⟩]) rec_only_k9) (.seq (.sq [⟨some 41, none, .loadA 9 (.t 3)⟩, ⟨none, none, .store 9 (.t 2) (.t 41)⟩]) .ret))
def rec_only_k11 : LCode := (.seq (.sq [⟨some 4, none, .shift 0 (.t 1)⟩, ⟨some 5, none, .load1 false (.t 4)⟩, ⟨some 6, none, .shift 1 (.t 1)⟩, ⟨some 7, none, .load1 false (.t 6)⟩, ⟨some 8, none, .build [(.s (.int .i64 0)), (.s (.int .i64 0)), (.s (.int .i64 0)), (.s (.int .u8 0)), (.s (.int .i64 0)), (.s (.int .u8 0)), (.s .nilS), (.s (.bool false)), (.s .nilS)] [(0, 1, (.t 5)), (1, 1, (.t 7))]⟩, ⟨some 3, none, .alloc false [(.s (.int .i64 0)), (.s (.int .i64 0)), (.s (.int .i64 0)), (.s (.int .u8 0)), (.s (.int .i64 0)), (.s (.int .u8 0)), (.s .nilS), (.s (.bool false)), (.s .nilS)]⟩, ⟨none, none, .store 9 (.t 3) (.t 8)⟩]) rec_only_k10)
theorem U_rec_only : (((type_of% (@unfC _ _ (rec_only_k1.eq_1)) ∧ type_of% (@unfC _ _ (rec_only_k2.eq_1))) ∧ (type_of% (@unfC _ _ (rec_only_k3.eq_1)) ∧ (type_of% (@unfC _ _ (rec_only_k4.eq_1)) ∧ type_of% (@unfC _ _ (rec_only_k5.eq_1))))) ∧ ((type_of% (@unfC _ _ (rec_only_k6.eq_1)) ∧ (type_of% (@unfC _ _ (rec_only_k7.eq_1)) ∧ type_of% (@unfC _ _ (rec_only_k8.eq_1)))) ∧ (type_of% (@unfC _ _ (rec_only_k9.eq_1)) ∧ (type_of% (@unfC _ _ (rec_only_k10.eq_1)) ∧ type_of% (@unfC _ _ (rec_only_k11.eq_1)))))) := ⟨⟨⟨@unfC _ _ (rec_only_k1.eq_1), @unfC _ _ (rec_only_k2.eq_1)⟩, ⟨@unfC _ _ (rec_only_k3.eq_1), ⟨@unfC _ _ (rec_only_k4.eq_1), @unfC _ _ (rec_only_k5.eq_1)⟩⟩⟩, ⟨⟨@unfC _ _ (rec_only_k6.eq_1), ⟨@unfC _ _ (rec_only_k7.eq_1), @unfC _ _ (rec_only_k8.eq_1)⟩⟩, ⟨@unfC _ _ (rec_only_k9.eq_1), ⟨@unfC _ _ (rec_only_k10.eq_1), @unfC _ _ (rec_only_k11.eq_1)⟩⟩⟩⟩
def C_rec_only : LFn := ⟨42, [.many 2 9], (.seq (.sq [⟨some 1, none, .box false false (.t 0)⟩, ⟨some 2, none, .alloc false [(.s (.int .i64 0)), (.s (.int .i64 0)), (.s (.int .i64 0)), (.s (.int .u8 0)), (.s (.int .i64 0)), (.s (.int .u8 0)), (.s .nilS), (.s (.bool false)), (.s .nilS)]⟩]) rec_only_k11)⟩

-- prep_Good: 0=prep_May 1=stamp_Good 2=stamp_Cmp
def prep_Good_k1 (c : Nat → FuncId) : LCode := (.seq (.sq [⟨some 3, none, .loadA 6 (.t 1)⟩, ⟨some 4, none, .call (.f (c 0)) [(.t 3)]⟩, ⟨some 5, none, .mv false (.t 4)⟩, ⟨some 6, some (5, true), .shift 3 (.t 1)⟩, ⟨some 7, some (5, true), .loadA 2 (.t 6)⟩, ⟨some 8, some (5, true), .call (.f (c 1)) [(.t 7)]⟩, ⟨some 9, none, .pick (.t 5) (.t 8) (.c (.bool false))⟩, ⟨some 10, none, .mv false (.t 9)⟩, ⟨some 11, some (10, true), .shift 3 (.t 1)⟩, ⟨some 12, some (10, true), .loadA 2 (.t 11)⟩, ⟨some 13, some (10, true), .shift 1 (.t 1)⟩, ⟨some 14, some (10, true), .loadA 2 (.t 13)⟩, ⟨some 15, some (10, true), .call (.f (c 2)) [(.t 12), (.t 14)]⟩, ⟨some 16, some (10, true), .bin .gtr .sc (.t 15) (.c (.int .i64 0))⟩, ⟨some 17, none, .pick (.t 10) (.t 16) (.c (.bool false))⟩, ⟨some 2, none, .mv true (.t 17)⟩]) .ret)
theorem U_prep_Good (c : Nat → FuncId) : type_of% (@unfC _ _ (prep_Good_k1.eq_1 c)) := @unfC _ _ (prep_Good_k1.eq_1 c)
def C_prep_Good (c : Nat → FuncId) : LFn := ⟨18, [.t 2], (.seq (.sq [⟨some 1, none, .box false false (.t 0)⟩, ⟨some 2, none, .mv true (.c (.bool false))⟩]) (prep_Good_k1 c))⟩

-- stamp_Good: 
def stamp_Good_k1 : LCode := (.seq (.sq [⟨some 3, none, .shift 0 (.t 1)⟩, ⟨some 4, none, .load1 false (.t 3)⟩, ⟨some 5, none, .bin .geq .sc (.t 4) (.c (.int .i64 0))⟩, ⟨some 6, none, .mv false (.t 5)⟩, ⟨some 7, some (6, true), .shift 0 (.t 1)⟩, ⟨some 8, some (6, true), .load1 false (.t 7)⟩, ⟨some 9, some (6, true), .bin .leq .sc (.t 8) (.c (.int .i64 36028797018963967))⟩, ⟨some 10, none, .pick (.t 6) (.t 9) (.c (.bool false))⟩, ⟨some 2, none, .mv true (.t 10)⟩]) .ret)
theorem U_stamp_Good : type_of% (@unfC _ _ (stamp_Good_k1.eq_1)) := @unfC _ _ (stamp_Good_k1.eq_1)
def C_stamp_Good : LFn := ⟨11, [.t 2], (.seq (.sq [⟨some 1, none, .box false false (.t 0)⟩, ⟨some 2, none, .mv true (.c (.bool false))⟩]) stamp_Good_k1)⟩

-- rec_GoodParts: 
def rec_GoodParts_k1 : LCode := (.seq (.sq [⟨some 12, none, .mv false (.t 4)⟩, ⟨some 13, none, .bin .lss .sc (.t 12) (.c (.int .i64 0))⟩, ⟨some 14, none, .mv false (.t 13)⟩, ⟨some 15, some (14, false), .mv false (.t 4)⟩, ⟨some 16, some (14, false), .bin .geq .sc (.t 15) (.c (.int .i64 8))⟩, ⟨some 17, none, .pick (.t 14) (.c (.bool true)) (.t 16)⟩, ⟨some 18, none, .mv false (.t 17)⟩, ⟨some 19, some (18, false), .mv false (.t 3)⟩, ⟨some 20, some (18, false), .bin .gtr .sc (.t 19) (.c (.int .i64 0))⟩, ⟨some 21, some (18, false), .mv false (.t 20)⟩, ⟨some 22, some (21, true), .mv false (.t 4)⟩, ⟨some 23, some (21, true), .mv false (.t 0)⟩, ⟨some 24, some (21, true), .mv false (.t 3)⟩, ⟨some 25, some (21, true), .bin .sub .sc (.t 24) (.c (.int .i64 1))⟩, ⟨some 26, some (21, true), .ixa (.sl 1) (.t 23) (.t 25)⟩, ⟨some 27, some (21, true), .load1 false (.t 26)⟩, ⟨some 28, some (21, true), .bin .leq .sc (.t 22) (.t 27)⟩, ⟨some 29, some (18, false), .pick (.t 21) (.t 28) (.c (.bool false))⟩, ⟨some 30, none, .pick (.t 18) (.c (.bool true)) (.t 29)⟩]) (.cond (.t 30) (.seq (.sq [⟨some 2, none, .mv true (.c (.bool false))⟩]) .ret) .skip))
def rec_GoodParts_k2 : LCode := (.seq (.block 1 (.seq (.sq [⟨some 9, none, .mv false (.t 7)⟩, ⟨some 10, none, .ixa (.sl 1) (.t 5) (.t 7)⟩, ⟨some 11, none, .load1 false (.t 10)⟩, ⟨some 3, none, .mv true (.t 9)⟩, ⟨some 4, none, .mv true (.t 11)⟩]) rec_GoodParts_k1)) (.sq [⟨some 31, none, .bin .add .sc (.t 7) (.c (.int .i64 1))⟩, ⟨some 7, none, .mv false (.t 31)⟩]))
def rec_GoodParts_k3 : LCode := (.block 0 (.loop [true, false, false, false, false, true, true, true, false, false, false, false, false, false, false, false, false, false, false, false, false, false, false, false, false, false, false, false, false, false, false, false, false, false, false] (.seq (.sq [⟨some 8, none, .bin .lss .sc (.t 7) (.t 6)⟩]) (.seq (.cond (.t 8) .skip (.exit 0)) rec_GoodParts_k2))))
def rec_GoodParts_k4 : LCode := (.seq (.sq [⟨some 32, none, .mv false (.t 0)⟩, ⟨some 33, none, .len .sl (.t 32)⟩, ⟨some 34, none, .bin .geq .sc (.t 33) (.c (.int .i64 1))⟩, ⟨some 2, none, .mv true (.t 34)⟩]) .ret)
def rec_GoodParts_k5 : LCode := (.seq (.seq (.sq [⟨some 5, none, .mv false (.t 0)⟩, ⟨some 6, none, .len .sl (.t 5)⟩, ⟨some 7, none, .mv false (.c (.int .i64 0))⟩]) rec_GoodParts_k3) rec_GoodParts_k4)
theorem U_rec_GoodParts : ((type_of% (@unfC _ _ (rec_GoodParts_k1.eq_1)) ∧ type_of% (@unfC _ _ (rec_GoodParts_k2.eq_1))) ∧ (type_of% (@unfC _ _ (rec_GoodParts_k3.eq_1)) ∧ (type_of% (@unfC _ _ (rec_GoodParts_k4.eq_1)) ∧ type_of% (@unfC _ _ (rec_GoodParts_k5.eq_1))))) := ⟨⟨@unfC _ _ (rec_GoodParts_k1.eq_1), @unfC _ _ (rec_GoodParts_k2.eq_1)⟩, ⟨@unfC _ _ (rec_GoodParts_k3.eq_1), ⟨@unfC _ _ (rec_GoodParts_k4.eq_1), @unfC _ _ (rec_GoodParts_k5.eq_1)⟩⟩⟩
def C_rec_GoodParts : LFn := ⟨35, [.t 2], (.seq (.sq [⟨some 2, none, .mv true (.c (.bool false))⟩]) rec_GoodParts_k5)⟩

-- hourglassref10_GoodEntry: 0=hourglassref6_Good 1=hourglassref6_Cmp 2=hourglassref10_MayWrites
-- hourglassref14_parts: 
-- hourglassref14_Txt: 0=hourglassref14_Num
def hourglassref14_Txt_k1 (c : Nat → FuncId) : LCode := (.seq (.sq [⟨some 5, none, .mv true (.t 0)⟩, ⟨some 6, none, .mv false (.t 1)⟩, ⟨some 7, none, .len .str (.t 6)⟩, ⟨some 8, none, .conv (.int .u64) (.t 7)⟩, ⟨some 9, none, .call (.f (c 0)) [(.t 5), (.t 8)]⟩, ⟨some 10, none, .mv false (.t 1)⟩, ⟨some 11, none, .app ⟨1, false, 1, (.s (.int .u8 0))⟩ true (.t 9) (.t 10)⟩, ⟨some 4, none, .mv true (.t 11)⟩]) .ret)
theorem U_hourglassref14_Txt (c : Nat → FuncId) : type_of% (@unfC _ _ (hourglassref14_Txt_k1.eq_1 c)) := @unfC _ _ (hourglassref14_Txt_k1.eq_1 c)
def C_hourglassref14_Txt (c : Nat → FuncId) : LFn := ⟨12, [.t 4], (.seq (.sq [⟨some 4, none, .mv true (.c .nilS)⟩]) (hourglassref14_Txt_k1 c))⟩

-- rec_Reader_Key: 0=rec_Reader_Text
def rec_Reader_Key_k1 (c : Nat → FuncId) : LCode := (.seq (.tree (.rd ⟨some 4, none, .slc (.arr 16 1) (.t 3) none none none⟩ 0 true (.rd ⟨some 5, none, .mv false (.t 0)⟩ 1 false (.mv ⟨some 6, none, .call (.f (c 0)) [(.t 5), (.c (.int .i64 16))]⟩ [1] (.mv ⟨some 7, none, .cpy ⟨1, false, 1, (.s (.int .u8 0))⟩ true (.t 4) (.t 6)⟩ [0, 1, 2] .done .stop) .stop)))) (.seq (.sq [⟨some 8, none, .loadA 16 (.t 3)⟩, ⟨none, none, .store 16 (.t 2) (.t 8)⟩]) .ret))
theorem U_rec_Reader_Key (c : Nat → FuncId) : type_of% (@unfC _ _ (rec_Reader_Key_k1.eq_1 c)) := @unfC _ _ (rec_Reader_Key_k1.eq_1 c)
def C_rec_Reader_Key (c : Nat → FuncId) : LFn := ⟨9, [.many 2 16], (.seq (.sq [⟨some 2, none, .alloc false zk⟩]) (.seq (.sq [⟨some 3, none, .alloc false zk⟩]) (rec_Reader_Key_k1 c)))⟩

-- rec_Reader_Text: 0=rec_Reader_spoil
def rec_Reader_Text_k1 (c : Nat → FuncId) : LCode := (.seq (.sq [⟨some 13, none, .mv false (.t 0)⟩, ⟨some 14, none, .call (.f (c 0)) [(.t 13)]⟩]) (.seq (.sq [⟨some 4, none, .mv true (.c (.str []))⟩]) .ret))
def rec_Reader_Text_k2 (c : Nat → FuncId) : LCode := (.seq (.sq [⟨some 22, none, .mv false (.t 0)⟩, ⟨some 23, none, .mv false (.t 0)⟩, ⟨some 24, none, .nilc (.t 23)⟩, ⟨some 25, none, .shift 0 (.t 24)⟩, ⟨some 26, none, .load1 false (.t 25)⟩, ⟨some 27, none, .mv false (.t 1)⟩, ⟨some 28, none, .slc (.sl 1) (.t 26) (some (.t 27)) none none⟩, ⟨some 29, none, .nilc (.t 22)⟩, ⟨some 30, none, .shift 0 (.t 29)⟩, ⟨none, none, .store 1 (.t 30) (.t 28)⟩]) (.seq (.sq [⟨some 31, none, .mv false (.t 5)⟩, ⟨some 4, none, .mv true (.t 31)⟩]) .ret))
def rec_Reader_Text_k3 (c : Nat → FuncId) : LCode := (.seq (.sq [⟨some 15, none, .mv false (.t 0)⟩, ⟨some 16, none, .nilc (.t 15)⟩, ⟨some 17, none, .shift 0 (.t 16)⟩, ⟨some 18, none, .load1 false (.t 17)⟩, ⟨some 19, none, .mv false (.t 1)⟩, ⟨some 20, none, .slc (.sl 1) (.t 18) none (some (.t 19)) none⟩, ⟨some 21, none, .conv .ofBytes (.t 20)⟩, ⟨some 5, none, .mv true (.t 21)⟩]) (rec_Reader_Text_k2 c))
def rec_Reader_Text_k4 (c : Nat → FuncId) : LCode := (.seq (.seq (.sq [⟨some 6, none, .mv false (.t 1)⟩, ⟨some 7, none, .mv false (.t 0)⟩, ⟨some 8, none, .nilc (.t 7)⟩, ⟨some 9, none, .shift 0 (.t 8)⟩, ⟨some 10, none, .load1 false (.t 9)⟩, ⟨some 11, none, .len .sl (.t 10)⟩, ⟨some 12, none, .bin .gtr .sc (.t 6) (.t 11)⟩]) (.cond (.t 12) (rec_Reader_Text_k1 c) .skip)) (rec_Reader_Text_k3 c))
theorem U_rec_Reader_Text (c : Nat → FuncId) : ((type_of% (@unfC _ _ (rec_Reader_Text_k1.eq_1 c)) ∧ type_of% (@unfC _ _ (rec_Reader_Text_k2.eq_1 c))) ∧ (type_of% (@unfC _ _ (rec_Reader_Text_k3.eq_1 c)) ∧ type_of% (@unfC _ _ (rec_Reader_Text_k4.eq_1 c)))) := ⟨⟨@unfC _ _ (rec_Reader_Text_k1.eq_1 c), @unfC _ _ (rec_Reader_Text_k2.eq_1 c)⟩, ⟨@unfC _ _ (rec_Reader_Text_k3.eq_1 c), @unfC _ _ (rec_Reader_Text_k4.eq_1 c)⟩⟩
def C_rec_Reader_Text (c : Nat → FuncId) : LFn := ⟨32, [.t 4], (.seq (.sq [⟨some 4, none, .mv true (.c (.str []))⟩]) (rec_Reader_Text_k4 c))⟩

-- store_Good: 0=key_Good
def store_Good_k1 (c : Nat → FuncId) : LCode := (.sq [⟨some 38, none, .mv false (.t 3)⟩, ⟨some 39, none, .shift 0 (.t 5)⟩, ⟨some 40, none, .loadA 16 (.t 39)⟩, ⟨none, none, .upd (.leaf lk) (.t 38) (.t 40) (.c (.bool true))⟩])
def store_Good_k2 (c : Nat → FuncId) : LCode := (.seq (.seq (.sq [⟨some 13, none, .shift 0 (.t 5)⟩, ⟨some 14, none, .loadA 16 (.t 13)⟩, ⟨some 15, none, .call (.f (c 0)) [(.t 14)]⟩, ⟨some 16, none, .un .not (.t 15)⟩, ⟨some 17, none, .mv false (.t 16)⟩, ⟨some 18, some (17, false), .mv false (.t 3)⟩, ⟨some 19, some (17, false), .shift 0 (.t 5)⟩, ⟨some 20, some (17, false), .loadA 16 (.t 19)⟩, ⟨some 21, some (17, false), .look (.leaf lk) (.s (.bool false)) false (.t 18) (.t 20)⟩, ⟨some 22, none, .pick (.t 17) (.c (.bool true)) (.t 21)⟩, ⟨some 23, none, .mv false (.t 22)⟩, ⟨some 24, some (23, false), .shift 16 (.t 5)⟩, ⟨some 25, some (23, false), .load1 false (.t 24)⟩, ⟨some 26, some (23, false), .len .str (.t 25)⟩, ⟨some 27, some (23, false), .bin .gtr .sc (.t 26) (.c (.int .i64 200))⟩, ⟨some 28, none, .pick (.t 23) (.c (.bool true)) (.t 27)⟩, ⟨some 29, none, .mv false (.t 28)⟩, ⟨some 30, some (29, false), .shift 17 (.t 5)⟩, ⟨some 31, some (29, false), .load1 false (.t 30)⟩, ⟨some 32, some (29, false), .mv false (.t 31)⟩, ⟨some 33, some (32, true), .shift 16 (.t 5)⟩, ⟨some 34, some (32, true), .load1 false (.t 33)⟩, ⟨some 35, some (32, true), .bin .neq .sc (.t 34) (.c (.str []))⟩, ⟨some 36, some (29, false), .pick (.t 32) (.t 35) (.c (.bool false))⟩, ⟨some 37, none, .pick (.t 29) (.c (.bool true)) (.t 36)⟩]) (.cond (.t 37) (.seq (.sq [⟨some 2, none, .mv true (.c (.bool false))⟩]) .ret) .skip)) (store_Good_k1 c))
def store_Good_k3 (c : Nat → FuncId) : LCode := (.seq (.block 1 (.seq (.sq [⟨some 11, none, .ixa (.sl 18) (.t 7) (.t 9)⟩, ⟨some 12, none, .loadA 18 (.t 11)⟩, ⟨some 5, none, .alloc false (zk ++ [(.s (.str [])), (.s (.bool false))])⟩, ⟨none, none, .store 18 (.t 5) (.t 12)⟩]) (store_Good_k2 c))) (.sq [⟨some 41, none, .bin .add .sc (.t 9) (.c (.int .i64 1))⟩, ⟨some 9, none, .mv false (.t 41)⟩]))
def store_Good_k4 (c : Nat → FuncId) : LCode := (.block 0 (.loop [false, false, false, true, false, false, false, true, true, true, false, false, false, false, false, false, false, false, false, false, false, false, false, false, false, false, false, false, false, false, false, false, false, false, false, false, false, false, false, false, false, false] (.seq (.sq [⟨some 10, none, .bin .lss .sc (.t 9) (.t 8)⟩]) (.seq (.cond (.t 10) .skip (.exit 0)) (store_Good_k3 c)))))
def store_Good_k5 (c : Nat → FuncId) : LCode := (.seq (.seq (.sq [⟨some 7, none, .mv false (.t 0)⟩, ⟨some 8, none, .len .sl (.t 7)⟩, ⟨some 9, none, .mv false (.c (.int .i64 0))⟩]) (store_Good_k4 c)) (.seq (.sq [⟨some 2, none, .mv true (.c (.bool true))⟩]) .ret))
theorem U_store_Good (c : Nat → FuncId) : ((type_of% (@unfC _ _ (store_Good_k1.eq_1 c)) ∧ type_of% (@unfC _ _ (store_Good_k2.eq_1 c))) ∧ (type_of% (@unfC _ _ (store_Good_k3.eq_1 c)) ∧ (type_of% (@unfC _ _ (store_Good_k4.eq_1 c)) ∧ type_of% (@unfC _ _ (store_Good_k5.eq_1 c))))) := ⟨⟨@unfC _ _ (store_Good_k1.eq_1 c), @unfC _ _ (store_Good_k2.eq_1 c)⟩, ⟨@unfC _ _ (store_Good_k3.eq_1 c), ⟨@unfC _ _ (store_Good_k4.eq_1 c), @unfC _ _ (store_Good_k5.eq_1 c)⟩⟩⟩
def C_store_Good (c : Nat → FuncId) : LFn := ⟨42, [.t 2], (.seq (.sq [⟨some 2, none, .mv true (.c (.bool false))⟩]) (.seq (.sq [⟨some 6, none, .mkmap none⟩, ⟨some 3, none, .mv true (.t 6)⟩]) (store_Good_k5 c)))⟩

-- stamp_Pack: 0=stamp_Good
def stamp_Pack_k1 (c : Nat → FuncId) : LCode := (.cond (.t 6) (.seq (.sq [⟨some 2, none, .mv true (.c (.int .u64 0))⟩, ⟨some 3, none, .mv true (.c (.int .i64 1))⟩]) .ret) .skip)
def stamp_Pack_k2 (c : Nat → FuncId) : LCode := (.seq (.sq [⟨some 7, none, .shift 0 (.t 1)⟩, ⟨some 8, none, .load1 false (.t 7)⟩, ⟨some 9, none, .conv (.int .u64) (.t 8)⟩, ⟨some 10, none, .bin .shl .sc (.t 9) (.c (.int .u64 8))⟩, ⟨some 11, none, .shift 1 (.t 1)⟩, ⟨some 12, none, .load1 false (.t 11)⟩, ⟨some 13, none, .conv (.int .u64) (.t 12)⟩, ⟨some 14, none, .bin .or .sc (.t 10) (.t 13)⟩, ⟨some 2, none, .mv true (.t 14)⟩, ⟨some 3, none, .mv true (.c (.int .i64 0))⟩]) .ret)
def stamp_Pack_k3 (c : Nat → FuncId) : LCode := (.seq (.seq (.sq [⟨some 4, none, .loadA 2 (.t 1)⟩, ⟨some 5, none, .call (.f (c 0)) [(.t 4)]⟩, ⟨some 6, none, .un .not (.t 5)⟩]) (stamp_Pack_k1 c)) (stamp_Pack_k2 c))
theorem U_stamp_Pack (c : Nat → FuncId) : (type_of% (@unfC _ _ (stamp_Pack_k1.eq_1 c)) ∧ (type_of% (@unfC _ _ (stamp_Pack_k2.eq_1 c)) ∧ type_of% (@unfC _ _ (stamp_Pack_k3.eq_1 c)))) := ⟨@unfC _ _ (stamp_Pack_k1.eq_1 c), ⟨@unfC _ _ (stamp_Pack_k2.eq_1 c), @unfC _ _ (stamp_Pack_k3.eq_1 c)⟩⟩
def C_stamp_Pack (c : Nat → FuncId) : LFn := ⟨15, [.t 2, .t 3], (.seq (.sq [⟨some 1, none, .box false false (.t 0)⟩, ⟨some 2, none, .mv true (.c (.int .u64 0))⟩, ⟨some 3, none, .mv true (.c (.int .i64 0))⟩]) (stamp_Pack_k3 c))⟩

-- hourglassref14_Key: 0=hourglassref1_Reader_Bytes
def hourglassref14_Key_k1 (c : Nat → FuncId) : LCode := (.seq (.tree (.rd ⟨some 5, none, .slc (.arr 16 1) (.t 3) none none none⟩ 0 true (.rd ⟨some 6, none, .mv false (.t 0)⟩ 1 false (.mv ⟨some 7, none, .call (.f (c 0)) [(.t 6), (.c (.int .u64 16))]⟩ [1] (.mv ⟨some 8, none, .cpy ⟨1, false, 1, (.s (.int .u8 0))⟩ true (.t 5) (.t 7)⟩ [0, 1, 2] .done .stop) .stop)))) (.seq (.sq [⟨some 9, none, .loadA 16 (.t 3)⟩, ⟨none, none, .store 16 (.t 2) (.t 9)⟩]) .ret))
def hourglassref14_Key_k2 (c : Nat → FuncId) : LCode := (.seq (.sq [⟨some 4, none, .build zk []⟩, ⟨some 3, none, .alloc false zk⟩, ⟨none, none, .store 16 (.t 3) (.t 4)⟩]) (hourglassref14_Key_k1 c))
theorem U_hourglassref14_Key (c : Nat → FuncId) : (type_of% (@unfC _ _ (hourglassref14_Key_k1.eq_1 c)) ∧ type_of% (@unfC _ _ (hourglassref14_Key_k2.eq_1 c))) := ⟨@unfC _ _ (hourglassref14_Key_k1.eq_1 c), @unfC _ _ (hourglassref14_Key_k2.eq_1 c)⟩
def C_hourglassref14_Key (c : Nat → FuncId) : LFn := ⟨10, [.many 2 16], (.seq (.sq [⟨some 2, none, .alloc false zk⟩]) (hourglassref14_Key_k2 c))⟩

-- hourglassref14_Text: 0=hourglassref1_Reader_Num 1=hourglassref1_Reader_Bytes
def hourglassref14_Text_k1 (c : Nat → FuncId) : LCode := (.seq (.sq [⟨some 3, none, .mv false (.t 0)⟩, ⟨some 4, none, .mv false (.t 0)⟩, ⟨some 5, none, .call (.f (c 0)) [(.t 4)]⟩, ⟨some 6, none, .call (.f (c 1)) [(.t 3), (.t 5)]⟩, ⟨some 2, none, .mv true (.t 6)⟩]) .ret)
theorem U_hourglassref14_Text (c : Nat → FuncId) : type_of% (@unfC _ _ (hourglassref14_Text_k1.eq_1 c)) := @unfC _ _ (hourglassref14_Text_k1.eq_1 c)
def C_hourglassref14_Text (c : Nat → FuncId) : LFn := ⟨7, [.t 2], (.seq (.sq [⟨some 2, none, .mv true (.c (.str []))⟩]) (hourglassref14_Text_k1 c))⟩

-- hourglassref1_Reader_Byte: 
def hourglassref1_Reader_Byte_k1 : LCode := (.seq (.sq [⟨some 19, none, .mv false (.t 0)⟩, ⟨some 20, none, .nilc (.t 19)⟩, ⟨some 21, none, .shift 2 (.t 20)⟩, ⟨none, none, .store 1 (.t 21) (.c (.bool true))⟩]) (.seq (.sq [⟨some 2, none, .mv true (.c (.int .u8 0))⟩]) .ret))
def hourglassref1_Reader_Byte_k2 : LCode := (.seq (.tree (.rd ⟨some 29, none, .mv false (.t 0)⟩ 0 false (.rd ⟨some 30, none, .nilc (.t 29)⟩ 1 false (.rd ⟨some 31, none, .shift 0 (.t 30)⟩ 2 false (.rd ⟨some 32, none, .load1 false (.t 31)⟩ 3 false (.rd ⟨some 33, none, .mv false (.t 0)⟩ 4 false (.rd ⟨some 34, none, .nilc (.t 33)⟩ 5 false (.rd ⟨some 35, none, .shift 1 (.t 34)⟩ 6 false (.rd ⟨some 36, none, .load1 false (.t 35)⟩ 7 false (.rd ⟨some 37, none, .bin .sub .sc (.t 36) (.c (.int .i64 1))⟩ 8 false (.rd ⟨some 38, none, .ixa (.sl 1) (.t 32) (.t 37)⟩ 9 false (.rd ⟨some 39, none, .load1 false (.t 38)⟩ 10 false (.mv ⟨some 2, none, .mv true (.t 39)⟩ [0, 1, 2, 3, 4, 5, 6, 7, 8, 9, 10] .done .stop))))))))))))) .ret)
def hourglassref1_Reader_Byte_k3 : LCode := (.seq (.sq [⟨some 22, none, .mv false (.t 0)⟩, ⟨some 23, none, .nilc (.t 22)⟩, ⟨some 24, none, .shift 1 (.t 23)⟩, ⟨some 25, none, .load1 false (.t 24)⟩, ⟨some 26, none, .bin .add .sc (.t 25) (.c (.int .i64 1))⟩, ⟨some 27, none, .nilc (.t 22)⟩, ⟨some 28, none, .shift 1 (.t 27)⟩, ⟨none, none, .store 1 (.t 28) (.t 26)⟩]) hourglassref1_Reader_Byte_k2)
def hourglassref1_Reader_Byte_k4 : LCode := (.seq (.seq (.tree (.rd ⟨some 3, none, .mv false (.t 0)⟩ 0 false (.rd ⟨some 4, none, .nilc (.t 3)⟩ 1 false (.rd ⟨some 5, none, .shift 2 (.t 4)⟩ 2 false (.rd ⟨some 6, none, .load1 false (.t 5)⟩ 3 false (.rd ⟨some 7, none, .mv false (.t 6)⟩ 4 false (.rd ⟨some 8, some (7, false), .mv false (.t 0)⟩ 5 false (.rd ⟨some 9, some (7, false), .nilc (.t 8)⟩ 6 false (.rd ⟨some 10, some (7, false), .shift 1 (.t 9)⟩ 7 false (.rd ⟨some 11, some (7, false), .load1 false (.t 10)⟩ 8 false (.rd ⟨some 12, some (7, false), .mv false (.t 0)⟩ 9 false (.rd ⟨some 13, some (7, false), .nilc (.t 12)⟩ 10 false (.rd ⟨some 14, some (7, false), .shift 0 (.t 13)⟩ 11 false (.rd ⟨some 15, some (7, false), .load1 false (.t 14)⟩ 12 false (.rd ⟨some 16, some (7, false), .len .sl (.t 15)⟩ 13 false (.rd ⟨some 17, some (7, false), .bin .geq .sc (.t 11) (.t 16)⟩ 14 false (.rd ⟨some 18, none, .pick (.t 7) (.c (.bool true)) (.t 17)⟩ 15 false .done))))))))))))))))) (.cond (.t 18) hourglassref1_Reader_Byte_k1 .skip)) hourglassref1_Reader_Byte_k3)
theorem U_hourglassref1_Reader_Byte : ((type_of% (@unfC _ _ (hourglassref1_Reader_Byte_k1.eq_1)) ∧ type_of% (@unfC _ _ (hourglassref1_Reader_Byte_k2.eq_1))) ∧ (type_of% (@unfC _ _ (hourglassref1_Reader_Byte_k3.eq_1)) ∧ type_of% (@unfC _ _ (hourglassref1_Reader_Byte_k4.eq_1)))) := ⟨⟨@unfC _ _ (hourglassref1_Reader_Byte_k1.eq_1), @unfC _ _ (hourglassref1_Reader_Byte_k2.eq_1)⟩, ⟨@unfC _ _ (hourglassref1_Reader_Byte_k3.eq_1), @unfC _ _ (hourglassref1_Reader_Byte_k4.eq_1)⟩⟩
def C_hourglassref1_Reader_Byte : LFn := ⟨40, [.t 2], (.seq (.sq [⟨some 2, none, .mv true (.c (.int .u8 0))⟩]) hourglassref1_Reader_Byte_k4)⟩

-- hourglassref10_MayWrites: 0=hourglassref10_Good
def hourglassref10_MayWrites_k1 (c : Nat → FuncId) : LCode := (.sq [⟨some 56, none, .mv false (.t 6)⟩, ⟨some 57, none, .bin .add .sc (.t 56) (.c (.int .i64 1))⟩, ⟨some 6, none, .mv true (.t 57)⟩])
def hourglassref10_MayWrites_k2 (c : Nat → FuncId) : LCode := (.seq (.block 3 (.seq (.tree (.rd ⟨some 58, none, .mv false (.t 0)⟩ 0 false (.rd ⟨some 59, none, .mv false (.t 6)⟩ 1 false (.rd ⟨some 60, none, .ixa (.sl 18) (.t 58) (.t 59)⟩ 2 false (.rd ⟨some 61, none, .shift 0 (.t 60)⟩ 3 false (.rd ⟨some 62, none, .loadA 16 (.t 61)⟩ 4 false (.rd ⟨some 63, none, .mv false (.t 0)⟩ 5 false (.rd ⟨some 64, none, .mv false (.t 5)⟩ 6 false (.rd ⟨some 65, none, .ixa (.sl 18) (.t 63) (.t 64)⟩ 7 false (.rd ⟨some 66, none, .shift 0 (.t 65)⟩ 8 false (.rd ⟨some 67, none, .loadA 16 (.t 66)⟩ 9 false (.rd ⟨some 68, none, .bin .eql (.leaf lk) (.t 62) (.t 67)⟩ 10 false .done)))))))))))) (.cond (.t 68) (.seq (.sq [⟨some 4, none, .mv true (.c (.bool false))⟩]) .ret) .skip))) (hourglassref10_MayWrites_k1 c))
def hourglassref10_MayWrites_k3 (c : Nat → FuncId) : LCode := (.seq (.seq (.sq [⟨some 53, none, .mv false (.t 6)⟩, ⟨some 54, none, .mv false (.t 5)⟩, ⟨some 55, none, .bin .lss .sc (.t 53) (.t 54)⟩]) (.cond (.t 55) .skip (.exit 2))) (hourglassref10_MayWrites_k2 c))
def hourglassref10_MayWrites_k4 (c : Nat → FuncId) : LCode := (.block 2 (.loop [true, false, false, false, false, true, true, false, false, false, false, false, false, false, false, false, false, false, false, false, false, false, false, false, false, false, false, false, false, false, false, false, false, false, false, false, false, false, false, false, false, false, false, false, false, false, false, false, false, false, false, false, false, false, false, false, false, false, false, false, false, false, false, false, false, false, false, false, false] (hourglassref10_MayWrites_k3 c)))
def hourglassref10_MayWrites_k5 (c : Nat → FuncId) : LCode := (.sq [⟨some 20, none, .mv false (.t 5)⟩, ⟨some 21, none, .bin .add .sc (.t 20) (.c (.int .i64 1))⟩, ⟨some 5, none, .mv true (.t 21)⟩])
def hourglassref10_MayWrites_k6 (c : Nat → FuncId) : LCode := (.seq (.block 1 (.seq (.seq (.sq [⟨some 22, none, .mv false (.t 0)⟩, ⟨some 23, none, .mv false (.t 5)⟩, ⟨some 24, none, .ixa (.sl 18) (.t 22) (.t 23)⟩, ⟨some 25, none, .shift 0 (.t 24)⟩, ⟨some 26, none, .loadA 16 (.t 25)⟩, ⟨some 27, none, .call (.f (c 0)) [(.t 26)]⟩, ⟨some 28, none, .un .not (.t 27)⟩, ⟨some 29, none, .mv false (.t 28)⟩, ⟨some 30, some (29, false), .mv false (.t 0)⟩, ⟨some 31, some (29, false), .mv false (.t 5)⟩, ⟨some 32, some (29, false), .ixa (.sl 18) (.t 30) (.t 31)⟩, ⟨some 33, some (29, false), .shift 16 (.t 32)⟩, ⟨some 34, some (29, false), .load1 false (.t 33)⟩, ⟨some 35, some (29, false), .len .str (.t 34)⟩, ⟨some 36, some (29, false), .bin .gtr .sc (.t 35) (.c (.int .i64 200))⟩, ⟨some 37, none, .pick (.t 29) (.c (.bool true)) (.t 36)⟩, ⟨some 38, none, .mv false (.t 37)⟩, ⟨some 39, some (38, false), .mv false (.t 0)⟩, ⟨some 40, some (38, false), .mv false (.t 5)⟩, ⟨some 41, some (38, false), .ixa (.sl 18) (.t 39) (.t 40)⟩, ⟨some 42, some (38, false), .shift 17 (.t 41)⟩, ⟨some 43, some (38, false), .load1 false (.t 42)⟩, ⟨some 44, some (38, false), .mv false (.t 43)⟩, ⟨some 45, some (44, true), .mv false (.t 0)⟩, ⟨some 46, some (44, true), .mv false (.t 5)⟩, ⟨some 47, some (44, true), .ixa (.sl 18) (.t 45) (.t 46)⟩, ⟨some 48, some (44, true), .shift 16 (.t 47)⟩, ⟨some 49, some (44, true), .load1 false (.t 48)⟩, ⟨some 50, some (44, true), .bin .neq .sc (.t 49) (.c (.str []))⟩, ⟨some 51, some (38, false), .pick (.t 44) (.t 50) (.c (.bool false))⟩, ⟨some 52, none, .pick (.t 38) (.c (.bool true)) (.t 51)⟩]) (.cond (.t 52) (.seq (.sq [⟨some 4, none, .mv true (.c (.bool false))⟩]) .ret) .skip)) (.seq (.sq [⟨some 6, none, .mv true (.c (.int .i64 0))⟩]) (hourglassref10_MayWrites_k4 c)))) (hourglassref10_MayWrites_k5 c))
def hourglassref10_MayWrites_k7 (c : Nat → FuncId) : LCode := (.seq (.seq (.sq [⟨some 16, none, .mv false (.t 5)⟩, ⟨some 17, none, .mv false (.t 0)⟩, ⟨some 18, none, .len .sl (.t 17)⟩, ⟨some 19, none, .bin .lss .sc (.t 16) (.t 18)⟩]) (.cond (.t 19) .skip (.exit 0))) (hourglassref10_MayWrites_k6 c))
def hourglassref10_MayWrites_k8 (c : Nat → FuncId) : LCode := (.block 0 (.loop [true, false, false, false, false, true, false, false, false, false, false, false, false, false, false, false, false, false, false, false, false, false, false, false, false, false, false, false, false, false, false, false, false, false, false, false, false, false, false, false, false, false, false, false, false, false, false, false, false, false, false, false, false, false, false, false, false, false, false, false, false, false, false, false, false, false, false, false, false] (hourglassref10_MayWrites_k7 c)))
def hourglassref10_MayWrites_k9 (c : Nat → FuncId) : LCode := (.seq (.seq (.sq [⟨some 5, none, .mv true (.c (.int .i64 0))⟩]) (hourglassref10_MayWrites_k8 c)) (.seq (.sq [⟨some 4, none, .mv true (.c (.bool true))⟩]) .ret))
def hourglassref10_MayWrites_k10 (c : Nat → FuncId) : LCode := (.seq (.seq (.sq [⟨some 7, none, .mv false (.t 0)⟩, ⟨some 8, none, .len .sl (.t 7)⟩, ⟨some 9, none, .mv false (.t 1)⟩, ⟨some 10, none, .bin .lss .sc (.t 8) (.t 9)⟩, ⟨some 11, none, .mv false (.t 10)⟩, ⟨some 12, some (11, false), .mv false (.t 0)⟩, ⟨some 13, some (11, false), .len .sl (.t 12)⟩, ⟨some 14, some (11, false), .bin .gtr .sc (.t 13) (.c (.int .i64 16))⟩, ⟨some 15, none, .pick (.t 11) (.c (.bool true)) (.t 14)⟩]) (.cond (.t 15) (.seq (.sq [⟨some 4, none, .mv true (.c (.bool false))⟩]) .ret) .skip)) (hourglassref10_MayWrites_k9 c))
theorem U_hourglassref10_MayWrites (c : Nat → FuncId) : (((type_of% (@unfC _ _ (hourglassref10_MayWrites_k1.eq_1 c)) ∧ type_of% (@unfC _ _ (hourglassref10_MayWrites_k2.eq_1 c))) ∧ (type_of% (@unfC _ _ (hourglassref10_MayWrites_k3.eq_1 c)) ∧ (type_of% (@unfC _ _ (hourglassref10_MayWrites_k4.eq_1 c)) ∧ type_of% (@unfC _ _ (hourglassref10_MayWrites_k5.eq_1 c))))) ∧ ((type_of% (@unfC _ _ (hourglassref10_MayWrites_k6.eq_1 c)) ∧ type_of% (@unfC _ _ (hourglassref10_MayWrites_k7.eq_1 c))) ∧ (type_of% (@unfC _ _ (hourglassref10_MayWrites_k8.eq_1 c)) ∧ (type_of% (@unfC _ _ (hourglassref10_MayWrites_k9.eq_1 c)) ∧ type_of% (@unfC _ _ (hourglassref10_MayWrites_k10.eq_1 c)))))) := ⟨⟨⟨@unfC _ _ (hourglassref10_MayWrites_k1.eq_1 c), @unfC _ _ (hourglassref10_MayWrites_k2.eq_1 c)⟩, ⟨@unfC _ _ (hourglassref10_MayWrites_k3.eq_1 c), ⟨@unfC _ _ (hourglassref10_MayWrites_k4.eq_1 c), @unfC _ _ (hourglassref10_MayWrites_k5.eq_1 c)⟩⟩⟩, ⟨⟨@unfC _ _ (hourglassref10_MayWrites_k6.eq_1 c), @unfC _ _ (hourglassref10_MayWrites_k7.eq_1 c)⟩, ⟨@unfC _ _ (hourglassref10_MayWrites_k8.eq_1 c), ⟨@unfC _ _ (hourglassref10_MayWrites_k9.eq_1 c), @unfC _ _ (hourglassref10_MayWrites_k10.eq_1 c)⟩⟩⟩⟩
def C_hourglassref10_MayWrites (c : Nat → FuncId) : LFn := ⟨69, [.t 4], (.seq (.sq [⟨some 4, none, .mv true (.c (.bool false))⟩]) (hourglassref10_MayWrites_k10 c))⟩

-- rec_Reader_spoil: 
def C_rec_Reader_spoil : LFn := ⟨8, [], (.sq [⟨some 2, none, .mv false (.t 0)⟩, ⟨some 3, none, .mv false (.t 0)⟩, ⟨some 4, none, .nilc (.t 2)⟩, ⟨some 5, none, .shift 0 (.t 4)⟩, ⟨none, none, .store 1 (.t 5) (.c .nilS)⟩, ⟨some 6, none, .nilc (.t 3)⟩, ⟨some 7, none, .shift 1 (.t 6)⟩, ⟨none, none, .store 1 (.t 7) (.c (.bool true))⟩])⟩

-- bits_Get: 
def bits_Get_k1 : LCode := (.seq (.sq [⟨some 2, none, .mv true (.c (.int .u64 0))⟩, ⟨some 3, none, .mv true (.c (.int .i64 0))⟩, ⟨some 4, none, .mv true (.c (.int .i64 3))⟩]) .ret)
def bits_Get_k2 : LCode := (.seq (.sq [⟨some 2, none, .mv true (.c (.int .u64 0))⟩, ⟨some 3, none, .mv true (.c (.int .i64 0))⟩, ⟨some 4, none, .mv true (.c (.int .i64 3))⟩]) .ret)
def bits_Get_k3 : LCode := (.seq (.sq [⟨some 40, none, .mv false (.t 2)⟩, ⟨some 41, none, .mv false (.t 5)⟩, ⟨some 42, none, .bin .add .sc (.t 41) (.c (.int .i64 1))⟩, ⟨some 2, none, .mv true (.t 40)⟩, ⟨some 3, none, .mv true (.t 42)⟩, ⟨some 4, none, .mv true (.c (.int .i64 0))⟩]) .ret)
def bits_Get_k4 : LCode := (.seq (.seq (.sq [⟨some 34, none, .mv false (.t 6)⟩, ⟨some 35, none, .bin .eql .sc (.t 34) (.c (.int .u8 0))⟩, ⟨some 36, none, .mv false (.t 35)⟩, ⟨some 37, some (36, true), .mv false (.t 5)⟩, ⟨some 38, some (36, true), .bin .gtr .sc (.t 37) (.c (.int .i64 0))⟩, ⟨some 39, none, .pick (.t 36) (.t 38) (.c (.bool false))⟩]) (.cond (.t 39) bits_Get_k2 .skip)) bits_Get_k3)
def bits_Get_k5 : LCode := (.seq (.sq [⟨some 32, none, .mv false (.t 6)⟩, ⟨some 33, none, .bin .lss .sc (.t 32) (.c (.int .u8 128))⟩]) (.cond (.t 33) bits_Get_k4 .skip))
def bits_Get_k6 : LCode := (.seq (.sq [⟨some 24, none, .mv false (.t 2)⟩, ⟨some 25, none, .mv false (.t 6)⟩, ⟨some 26, none, .bin .and .sc (.t 25) (.c (.int .u8 127))⟩, ⟨some 27, none, .conv (.int .u64) (.t 26)⟩, ⟨some 28, none, .mv false (.t 5)⟩, ⟨some 29, none, .bin .mul .sc (.c (.int .i64 7)) (.t 28)⟩, ⟨some 30, none, .bin .shl .sc (.t 27) (.t 29)⟩, ⟨some 31, none, .bin .or .sc (.t 24) (.t 30)⟩, ⟨some 2, none, .mv true (.t 31)⟩]) bits_Get_k5)
def bits_Get_k7 : LCode := (.seq (.seq (.sq [⟨some 14, none, .mv false (.t 5)⟩, ⟨some 15, none, .bin .eql .sc (.t 14) (.c (.int .i64 10))⟩, ⟨some 16, none, .mv false (.t 15)⟩, ⟨some 17, some (16, false), .mv false (.t 5)⟩, ⟨some 18, some (16, false), .bin .eql .sc (.t 17) (.c (.int .i64 9))⟩, ⟨some 19, some (16, false), .mv false (.t 18)⟩, ⟨some 20, some (19, true), .mv false (.t 6)⟩, ⟨some 21, some (19, true), .bin .gtr .sc (.t 20) (.c (.int .u8 1))⟩, ⟨some 22, some (16, false), .pick (.t 19) (.t 21) (.c (.bool false))⟩, ⟨some 23, none, .pick (.t 16) (.c (.bool true)) (.t 22)⟩]) (.cond (.t 23) bits_Get_k1 .skip)) bits_Get_k6)
def bits_Get_k8 : LCode := (.seq (.block 1 (.seq (.sq [⟨some 11, none, .mv false (.t 9)⟩, ⟨some 12, none, .ixa (.sl 1) (.t 7) (.t 9)⟩, ⟨some 13, none, .load1 false (.t 12)⟩, ⟨some 5, none, .mv true (.t 11)⟩, ⟨some 6, none, .mv true (.t 13)⟩]) bits_Get_k7)) (.sq [⟨some 43, none, .bin .add .sc (.t 9) (.c (.int .i64 1))⟩, ⟨some 9, none, .mv false (.t 43)⟩]))
def bits_Get_k9 : LCode := (.block 0 (.loop [false, false, true, false, false, false, false, true, true, true, false, false, false, false, false, false, false, false, false, false, false, false, false, false, false, false, false, false, false, false, false, false, false, false, false, false, false, false, false, false, false, false, false, false] (.seq (.sq [⟨some 10, none, .bin .lss .sc (.t 9) (.t 8)⟩]) (.seq (.cond (.t 10) .skip (.exit 0)) bits_Get_k8))))
def bits_Get_k10 : LCode := (.seq (.sq [⟨some 2, none, .mv true (.c (.int .u64 0))⟩, ⟨some 3, none, .mv true (.c (.int .i64 0))⟩, ⟨some 4, none, .mv true (.c (.int .i64 3))⟩]) .ret)
def bits_Get_k11 : LCode := (.seq (.seq (.sq [⟨some 7, none, .mv false (.t 0)⟩, ⟨some 8, none, .len .sl (.t 7)⟩, ⟨some 9, none, .mv false (.c (.int .i64 0))⟩]) bits_Get_k9) bits_Get_k10)
theorem U_bits_Get : (((type_of% (@unfC _ _ (bits_Get_k1.eq_1)) ∧ type_of% (@unfC _ _ (bits_Get_k2.eq_1))) ∧ (type_of% (@unfC _ _ (bits_Get_k3.eq_1)) ∧ (type_of% (@unfC _ _ (bits_Get_k4.eq_1)) ∧ type_of% (@unfC _ _ (bits_Get_k5.eq_1))))) ∧ ((type_of% (@unfC _ _ (bits_Get_k6.eq_1)) ∧ (type_of% (@unfC _ _ (bits_Get_k7.eq_1)) ∧ type_of% (@unfC _ _ (bits_Get_k8.eq_1)))) ∧ (type_of% (@unfC _ _ (bits_Get_k9.eq_1)) ∧ (type_of% (@unfC _ _ (bits_Get_k10.eq_1)) ∧ type_of% (@unfC _ _ (bits_Get_k11.eq_1)))))) := ⟨⟨⟨@unfC _ _ (bits_Get_k1.eq_1), @unfC _ _ (bits_Get_k2.eq_1)⟩, ⟨@unfC _ _ (bits_Get_k3.eq_1), ⟨@unfC _ _ (bits_Get_k4.eq_1), @unfC _ _ (bits_Get_k5.eq_1)⟩⟩⟩, ⟨⟨@unfC _ _ (bits_Get_k6.eq_1), ⟨@unfC _ _ (bits_Get_k7.eq_1), @unfC _ _ (bits_Get_k8.eq_1)⟩⟩, ⟨@unfC _ _ (bits_Get_k9.eq_1), ⟨@unfC _ _ (bits_Get_k10.eq_1), @unfC _ _ (bits_Get_k11.eq_1)⟩⟩⟩⟩
def C_bits_Get : LFn := ⟨44, [.t 2, .t 3, .t 4], (.seq (.sq [⟨some 2, none, .mv true (.c (.int .u64 0))⟩, ⟨some 3, none, .mv true (.c (.int .i64 0))⟩, ⟨some 4, none, .mv true (.c (.int .i64 0))⟩]) bits_Get_k11)⟩

-- stamp_Unpack: 
def stamp_Unpack_k1 : LCode := (.seq (.sq [⟨some 7, none, .build [(.s (.int .i64 0)), (.s (.int .u8 0))] []⟩, ⟨none, none, .store 2 (.t 2) (.t 7)⟩, ⟨some 3, none, .mv true (.c (.int .i64 1))⟩]) .ret)
def stamp_Unpack_k2 : LCode := (.seq (.sq [⟨some 8, none, .mv false (.t 0)⟩, ⟨some 9, none, .bin .shr .sc (.t 8) (.c (.int .u64 8))⟩, ⟨some 10, none, .conv (.int .i64) (.t 9)⟩, ⟨some 11, none, .mv false (.t 0)⟩, ⟨some 12, none, .conv (.int .u8) (.t 11)⟩, ⟨some 13, none, .build [(.s (.int .i64 0)), (.s (.int .u8 0))] [(0, 1, (.t 10)), (1, 1, (.t 12))]⟩, ⟨none, none, .store 2 (.t 2) (.t 13)⟩, ⟨some 3, none, .mv true (.c (.int .i64 0))⟩]) .ret)
def stamp_Unpack_k3 : LCode := (.seq (.seq (.sq [⟨some 4, none, .mv false (.t 0)⟩, ⟨some 5, none, .bin .and .sc (.t 4) (.c (.int .u64 9223372036854775808))⟩, ⟨some 6, none, .bin .neq .sc (.t 5) (.c (.int .u64 0))⟩]) (.cond (.t 6) stamp_Unpack_k1 .skip)) stamp_Unpack_k2)
theorem U_stamp_Unpack : (type_of% (@unfC _ _ (stamp_Unpack_k1.eq_1)) ∧ (type_of% (@unfC _ _ (stamp_Unpack_k2.eq_1)) ∧ type_of% (@unfC _ _ (stamp_Unpack_k3.eq_1)))) := ⟨@unfC _ _ (stamp_Unpack_k1.eq_1), ⟨@unfC _ _ (stamp_Unpack_k2.eq_1), @unfC _ _ (stamp_Unpack_k3.eq_1)⟩⟩
def C_stamp_Unpack : LFn := ⟨14, [.many 2 2, .t 3], (.seq (.sq [⟨some 2, none, .alloc false [(.s (.int .i64 0)), (.s (.int .u8 0))]⟩, ⟨some 3, none, .mv true (.c (.int .i64 0))⟩]) stamp_Unpack_k3)⟩

-- hourglassref1_Get: 
def hourglassref1_Get_k1 : LCode := (.seq (.sq [⟨some 2, none, .mv true (.c (.int .u64 0))⟩, ⟨some 3, none, .mv true (.c (.int .i64 0))⟩]) .ret)
def hourglassref1_Get_k2 : LCode := (.seq (.sq [⟨some 2, none, .mv true (.c (.int .u64 0))⟩, ⟨some 3, none, .mv true (.c (.int .i64 0))⟩]) .ret)
def hourglassref1_Get_k3 : LCode := (.seq (.sq [⟨some 50, none, .mv false (.t 4)⟩, ⟨some 51, none, .mv false (.t 5)⟩, ⟨some 52, none, .bin .add .sc (.t 51) (.c (.int .i64 1))⟩, ⟨some 2, none, .mv true (.t 50)⟩, ⟨some 3, none, .mv true (.t 52)⟩]) .ret)
def hourglassref1_Get_k4 : LCode := (.seq (.seq (.sq [⟨some 41, none, .mv false (.t 0)⟩, ⟨some 42, none, .mv false (.t 5)⟩, ⟨some 43, none, .ixa (.sl 1) (.t 41) (.t 42)⟩, ⟨some 44, none, .load1 false (.t 43)⟩, ⟨some 45, none, .bin .eql .sc (.t 44) (.c (.int .u8 0))⟩, ⟨some 46, none, .mv false (.t 45)⟩, ⟨some 47, some (46, true), .mv false (.t 5)⟩, ⟨some 48, some (46, true), .bin .gtr .sc (.t 47) (.c (.int .i64 0))⟩, ⟨some 49, none, .pick (.t 46) (.t 48) (.c (.bool false))⟩]) (.cond (.t 49) hourglassref1_Get_k2 .skip)) hourglassref1_Get_k3)
def hourglassref1_Get_k5 : LCode := (.seq (.sq [⟨some 36, none, .mv false (.t 0)⟩, ⟨some 37, none, .mv false (.t 5)⟩, ⟨some 38, none, .ixa (.sl 1) (.t 36) (.t 37)⟩, ⟨some 39, none, .load1 false (.t 38)⟩, ⟨some 40, none, .bin .lss .sc (.t 39) (.c (.int .u8 128))⟩]) (.cond (.t 40) hourglassref1_Get_k4 .skip))
def hourglassref1_Get_k6 : LCode := (.seq (.sq [⟨some 29, none, .mv false (.t 4)⟩, ⟨some 30, none, .mv false (.t 6)⟩, ⟨some 31, none, .mv false (.t 5)⟩, ⟨some 32, none, .bin .mul .sc (.c (.int .i64 7)) (.t 31)⟩, ⟨some 33, none, .conv (.int .u64) (.t 32)⟩, ⟨some 34, none, .bin .shl .sc (.t 30) (.t 33)⟩, ⟨some 35, none, .bin .or .sc (.t 29) (.t 34)⟩, ⟨some 4, none, .mv true (.t 35)⟩]) hourglassref1_Get_k5)
def hourglassref1_Get_k7 : LCode := (.seq (.seq (.sq [⟨some 23, none, .mv false (.t 5)⟩, ⟨some 24, none, .bin .eql .sc (.t 23) (.c (.int .i64 9))⟩, ⟨some 25, none, .mv false (.t 24)⟩, ⟨some 26, some (25, true), .mv false (.t 6)⟩, ⟨some 27, some (25, true), .bin .gtr .sc (.t 26) (.c (.int .u64 1))⟩, ⟨some 28, none, .pick (.t 25) (.t 27) (.c (.bool false))⟩]) (.cond (.t 28) hourglassref1_Get_k1 .skip)) hourglassref1_Get_k6)
def hourglassref1_Get_k8 : LCode := (.sq [⟨some 15, none, .mv false (.t 5)⟩, ⟨some 16, none, .bin .add .sc (.t 15) (.c (.int .i64 1))⟩, ⟨some 5, none, .mv true (.t 16)⟩])
def hourglassref1_Get_k9 : LCode := (.seq (.block 1 (.seq (.sq [⟨some 17, none, .mv false (.t 0)⟩, ⟨some 18, none, .mv false (.t 5)⟩, ⟨some 19, none, .ixa (.sl 1) (.t 17) (.t 18)⟩, ⟨some 20, none, .load1 false (.t 19)⟩, ⟨some 21, none, .bin .and .sc (.t 20) (.c (.int .u8 127))⟩, ⟨some 22, none, .conv (.int .u64) (.t 21)⟩, ⟨some 6, none, .mv true (.t 22)⟩]) hourglassref1_Get_k7)) hourglassref1_Get_k8)
def hourglassref1_Get_k10 : LCode := (.seq (.seq (.sq [⟨some 7, none, .mv false (.t 5)⟩, ⟨some 8, none, .mv false (.t 0)⟩, ⟨some 9, none, .len .sl (.t 8)⟩, ⟨some 10, none, .bin .lss .sc (.t 7) (.t 9)⟩, ⟨some 11, none, .mv false (.t 10)⟩, ⟨some 12, some (11, true), .mv false (.t 5)⟩, ⟨some 13, some (11, true), .bin .lss .sc (.t 12) (.c (.int .i64 10))⟩, ⟨some 14, none, .pick (.t 11) (.t 13) (.c (.bool false))⟩]) (.cond (.t 14) .skip (.exit 0))) hourglassref1_Get_k9)
def hourglassref1_Get_k11 : LCode := (.block 0 (.loop [true, false, false, false, true, true, false, false, false, false, false, false, false, false, false, false, false, false, false, false, false, false, false, false, false, false, false, false, false, false, false, false, false, false, false, false, false, false, false, false, false, false, false, false, false, false, false, false, false, false, false, false, false] hourglassref1_Get_k10))
def hourglassref1_Get_k12 : LCode := (.seq (.seq (.sq [⟨some 5, none, .mv true (.c (.int .i64 0))⟩]) hourglassref1_Get_k11) (.seq (.sq [⟨some 2, none, .mv true (.c (.int .u64 0))⟩, ⟨some 3, none, .mv true (.c (.int .i64 0))⟩]) .ret))
theorem U_hourglassref1_Get : (((type_of% (@unfC _ _ (hourglassref1_Get_k1.eq_1)) ∧ (type_of% (@unfC _ _ (hourglassref1_Get_k2.eq_1)) ∧ type_of% (@unfC _ _ (hourglassref1_Get_k3.eq_1)))) ∧ (type_of% (@unfC _ _ (hourglassref1_Get_k4.eq_1)) ∧ (type_of% (@unfC _ _ (hourglassref1_Get_k5.eq_1)) ∧ type_of% (@unfC _ _ (hourglassref1_Get_k6.eq_1))))) ∧ ((type_of% (@unfC _ _ (hourglassref1_Get_k7.eq_1)) ∧ (type_of% (@unfC _ _ (hourglassref1_Get_k8.eq_1)) ∧ type_of% (@unfC _ _ (hourglassref1_Get_k9.eq_1)))) ∧ (type_of% (@unfC _ _ (hourglassref1_Get_k10.eq_1)) ∧ (type_of% (@unfC _ _ (hourglassref1_Get_k11.eq_1)) ∧ type_of% (@unfC _ _ (hourglassref1_Get_k12.eq_1)))))) := ⟨⟨⟨@unfC _ _ (hourglassref1_Get_k1.eq_1), ⟨@unfC _ _ (hourglassref1_Get_k2.eq_1), @unfC _ _ (hourglassref1_Get_k3.eq_1)⟩⟩, ⟨@unfC _ _ (hourglassref1_Get_k4.eq_1), ⟨@unfC _ _ (hourglassref1_Get_k5.eq_1), @unfC _ _ (hourglassref1_Get_k6.eq_1)⟩⟩⟩, ⟨⟨@unfC _ _ (hourglassref1_Get_k7.eq_1), ⟨@unfC _ _ (hourglassref1_Get_k8.eq_1), @unfC _ _ (hourglassref1_Get_k9.eq_1)⟩⟩, ⟨@unfC _ _ (hourglassref1_Get_k10.eq_1), ⟨@unfC _ _ (hourglassref1_Get_k11.eq_1), @unfC _ _ (hourglassref1_Get_k12.eq_1)⟩⟩⟩⟩
def C_hourglassref1_Get : LFn := ⟨53, [.t 2, .t 3], (.seq (.sq [⟨some 2, none, .mv true (.c (.int .u64 0))⟩, ⟨some 3, none, .mv true (.c (.int .i64 0))⟩]) (.seq (.sq [⟨some 4, none, .mv true (.c (.int .u64 0))⟩]) hourglassref1_Get_k12))⟩

-- hourglassref6_Unpack: 
-- hourglassref1_Put: 0=hourglassref1_Put
def hourglassref1_Put_k1 (c : Nat → FuncId) : LCode := (.seq (.sq [⟨some 5, none, .mv false (.t 0)⟩, ⟨some 6, none, .conv (.int .u8) (.t 5)⟩, ⟨some 7, none, .bsl ⟨1, false, 1, (.s (.int .u8 0))⟩ 1 [(0, (.t 6))]⟩, ⟨some 2, none, .mv true (.t 7)⟩]) .ret)
def hourglassref1_Put_k2 (c : Nat → FuncId) : LCode := (.seq (.sq [⟨some 8, none, .mv false (.t 0)⟩, ⟨some 9, none, .bin .rem .sc (.t 8) (.c (.int .u64 128))⟩, ⟨some 10, none, .conv (.int .u8) (.t 9)⟩, ⟨some 11, none, .bin .add .sc (.t 10) (.c (.int .u8 128))⟩, ⟨some 12, none, .bsl ⟨1, false, 1, (.s (.int .u8 0))⟩ 1 [(0, (.t 11))]⟩, ⟨some 13, none, .mv false (.t 0)⟩, ⟨some 14, none, .bin .quo .sc (.t 13) (.c (.int .u64 128))⟩, ⟨some 15, none, .call (.f (c 0)) [(.t 14)]⟩, ⟨some 16, none, .app ⟨1, false, 1, (.s (.int .u8 0))⟩ false (.t 12) (.t 15)⟩, ⟨some 2, none, .mv true (.t 16)⟩]) .ret)
def hourglassref1_Put_k3 (c : Nat → FuncId) : LCode := (.seq (.seq (.sq [⟨some 3, none, .mv false (.t 0)⟩, ⟨some 4, none, .bin .lss .sc (.t 3) (.c (.int .u64 128))⟩]) (.cond (.t 4) (hourglassref1_Put_k1 c) .skip)) (hourglassref1_Put_k2 c))
theorem U_hourglassref1_Put (c : Nat → FuncId) : (type_of% (@unfC _ _ (hourglassref1_Put_k1.eq_1 c)) ∧ (type_of% (@unfC _ _ (hourglassref1_Put_k2.eq_1 c)) ∧ type_of% (@unfC _ _ (hourglassref1_Put_k3.eq_1 c)))) := ⟨@unfC _ _ (hourglassref1_Put_k1.eq_1 c), ⟨@unfC _ _ (hourglassref1_Put_k2.eq_1 c), @unfC _ _ (hourglassref1_Put_k3.eq_1 c)⟩⟩
def C_hourglassref1_Put (c : Nat → FuncId) : LFn := ⟨17, [.t 2], (.seq (.sq [⟨some 2, none, .mv true (.c .nilS)⟩]) (hourglassref1_Put_k3 c))⟩

-- hourglassref6_Pack: 0=hourglassref6_Good
-- prep_May: 0=stamp_Good 1=store_Many 2=store_Good
def prep_May_k1 (c : Nat → FuncId) : LCode := (.seq (.sq [⟨some 3, none, .shift 0 (.t 1)⟩, ⟨some 4, none, .load1 false (.t 3)⟩, ⟨some 5, none, .bin .geq .sc (.t 4) (.c (.int .i64 1))⟩, ⟨some 6, none, .mv false (.t 5)⟩, ⟨some 7, some (6, true), .shift 1 (.t 1)⟩, ⟨some 8, some (6, true), .loadA 2 (.t 7)⟩, ⟨some 9, some (6, true), .call (.f (c 0)) [(.t 8)]⟩, ⟨some 10, none, .pick (.t 6) (.t 9) (.c (.bool false))⟩, ⟨some 11, none, .mv false (.t 10)⟩, ⟨some 12, some (11, true), .shift 5 (.t 1)⟩, ⟨some 13, some (11, true), .load1 false (.t 12)⟩, ⟨some 14, some (11, true), .call (.f (c 1)) [(.t 13)]⟩, ⟨some 15, none, .pick (.t 11) (.t 14) (.c (.bool false))⟩, ⟨some 16, none, .mv false (.t 15)⟩, ⟨some 17, some (16, true), .shift 5 (.t 1)⟩, ⟨some 18, some (16, true), .load1 false (.t 17)⟩, ⟨some 19, some (16, true), .call (.f (c 2)) [(.t 18)]⟩, ⟨some 20, none, .pick (.t 16) (.t 19) (.c (.bool false))⟩, ⟨some 2, none, .mv true (.t 20)⟩]) .ret)
theorem U_prep_May (c : Nat → FuncId) : type_of% (@unfC _ _ (prep_May_k1.eq_1 c)) := @unfC _ _ (prep_May_k1.eq_1 c)
def C_prep_May (c : Nat → FuncId) : LFn := ⟨21, [.t 2], (.seq (.sq [⟨some 1, none, .box false false (.t 0)⟩, ⟨some 2, none, .mv true (.c (.bool false))⟩]) (prep_May_k1 c))⟩

-- hourglassref1_Reader_Bytes: 
def hourglassref1_Reader_Bytes_k1 : LCode := (.seq (.sq [⟨some 25, none, .mv false (.t 0)⟩, ⟨some 26, none, .nilc (.t 25)⟩, ⟨some 27, none, .shift 2 (.t 26)⟩, ⟨none, none, .store 1 (.t 27) (.c (.bool true))⟩]) (.seq (.sq [⟨some 4, none, .mv true (.c (.str []))⟩]) .ret))
def hourglassref1_Reader_Bytes_k2 : LCode := (.seq (.sq [⟨some 45, none, .mv false (.t 0)⟩, ⟨some 46, none, .mv false (.t 0)⟩, ⟨some 47, none, .nilc (.t 46)⟩, ⟨some 48, none, .shift 1 (.t 47)⟩, ⟨some 49, none, .load1 false (.t 48)⟩, ⟨some 50, none, .mv false (.t 1)⟩, ⟨some 51, none, .conv (.int .i64) (.t 50)⟩, ⟨some 52, none, .bin .add .sc (.t 49) (.t 51)⟩, ⟨some 53, none, .nilc (.t 45)⟩, ⟨some 54, none, .shift 1 (.t 53)⟩, ⟨none, none, .store 1 (.t 54) (.t 52)⟩]) (.seq (.sq [⟨some 55, none, .mv false (.t 5)⟩, ⟨some 4, none, .mv true (.t 55)⟩]) .ret))
def hourglassref1_Reader_Bytes_k3 : LCode := (.seq (.tree (.rd ⟨some 28, none, .mv false (.t 0)⟩ 0 false (.rd ⟨some 29, none, .nilc (.t 28)⟩ 1 false (.rd ⟨some 30, none, .shift 0 (.t 29)⟩ 2 false (.rd ⟨some 31, none, .load1 false (.t 30)⟩ 3 false (.rd ⟨some 32, none, .mv false (.t 0)⟩ 4 false (.rd ⟨some 33, none, .nilc (.t 32)⟩ 5 false (.rd ⟨some 34, none, .shift 1 (.t 33)⟩ 6 false (.rd ⟨some 35, none, .load1 false (.t 34)⟩ 7 false (.rd ⟨some 36, none, .mv false (.t 0)⟩ 8 false (.rd ⟨some 37, none, .nilc (.t 36)⟩ 9 false (.rd ⟨some 38, none, .shift 1 (.t 37)⟩ 10 false (.rd ⟨some 39, none, .load1 false (.t 38)⟩ 11 false (.rd ⟨some 40, none, .mv false (.t 1)⟩ 12 false (.rd ⟨some 41, none, .conv (.int .i64) (.t 40)⟩ 13 false (.rd ⟨some 42, none, .bin .add .sc (.t 39) (.t 41)⟩ 14 false (.rd ⟨some 43, none, .slc (.sl 1) (.t 31) (some (.t 35)) (some (.t 42)) none⟩ 15 false (.rd ⟨some 44, none, .conv .ofBytes (.t 43)⟩ 16 false (.mv ⟨some 5, none, .mv true (.t 44)⟩ [0, 1, 2, 3, 4, 5, 6, 7, 8, 9, 10, 11, 12, 13, 14, 15, 16] .done .stop))))))))))))))))))) hourglassref1_Reader_Bytes_k2)
def hourglassref1_Reader_Bytes_k4 : LCode := (.seq (.seq (.tree (.rd ⟨some 6, none, .mv false (.t 0)⟩ 0 false (.rd ⟨some 7, none, .nilc (.t 6)⟩ 1 false (.rd ⟨some 8, none, .shift 2 (.t 7)⟩ 2 false (.rd ⟨some 9, none, .load1 false (.t 8)⟩ 3 false (.rd ⟨some 10, none, .mv false (.t 9)⟩ 4 false (.rd ⟨some 11, some (10, false), .mv false (.t 0)⟩ 5 false (.rd ⟨some 12, some (10, false), .nilc (.t 11)⟩ 6 false (.rd ⟨some 13, some (10, false), .shift 0 (.t 12)⟩ 7 false (.rd ⟨some 14, some (10, false), .load1 false (.t 13)⟩ 8 false (.rd ⟨some 15, some (10, false), .len .sl (.t 14)⟩ 9 false (.rd ⟨some 16, some (10, false), .mv false (.t 0)⟩ 10 false (.rd ⟨some 17, some (10, false), .nilc (.t 16)⟩ 11 false (.rd ⟨some 18, some (10, false), .shift 1 (.t 17)⟩ 12 false (.rd ⟨some 19, some (10, false), .load1 false (.t 18)⟩ 13 false (.rd ⟨some 20, some (10, false), .bin .sub .sc (.t 15) (.t 19)⟩ 14 false (.rd ⟨some 21, some (10, false), .conv (.int .u64) (.t 20)⟩ 15 false (.rd ⟨some 22, some (10, false), .mv false (.t 1)⟩ 16 false (.rd ⟨some 23, some (10, false), .bin .lss .sc (.t 21) (.t 22)⟩ 17 false (.rd ⟨some 24, none, .pick (.t 10) (.c (.bool true)) (.t 23)⟩ 18 false .done)))))))))))))))))))) (.cond (.t 24) hourglassref1_Reader_Bytes_k1 .skip)) hourglassref1_Reader_Bytes_k3)
theorem U_hourglassref1_Reader_Bytes : ((type_of% (@unfC _ _ (hourglassref1_Reader_Bytes_k1.eq_1)) ∧ type_of% (@unfC _ _ (hourglassref1_Reader_Bytes_k2.eq_1))) ∧ (type_of% (@unfC _ _ (hourglassref1_Reader_Bytes_k3.eq_1)) ∧ type_of% (@unfC _ _ (hourglassref1_Reader_Bytes_k4.eq_1)))) := ⟨⟨@unfC _ _ (hourglassref1_Reader_Bytes_k1.eq_1), @unfC _ _ (hourglassref1_Reader_Bytes_k2.eq_1)⟩, ⟨@unfC _ _ (hourglassref1_Reader_Bytes_k3.eq_1), @unfC _ _ (hourglassref1_Reader_Bytes_k4.eq_1)⟩⟩
def C_hourglassref1_Reader_Bytes : LFn := ⟨56, [.t 4], (.seq (.sq [⟨some 4, none, .mv true (.c (.str []))⟩]) hourglassref1_Reader_Bytes_k4)⟩

-- store_Many: 
def store_Many_k1 : LCode := (.seq (.sq [⟨some 3, none, .mv false (.t 0)⟩, ⟨some 4, none, .len .sl (.t 3)⟩, ⟨some 5, none, .bin .geq .sc (.t 4) (.c (.int .i64 1))⟩, ⟨some 6, none, .mv false (.t 5)⟩, ⟨some 7, some (6, true), .mv false (.t 0)⟩, ⟨some 8, some (6, true), .len .sl (.t 7)⟩, ⟨some 9, some (6, true), .bin .leq .sc (.t 8) (.c (.int .i64 16))⟩, ⟨some 10, none, .pick (.t 6) (.t 9) (.c (.bool false))⟩, ⟨some 2, none, .mv true (.t 10)⟩]) .ret)
theorem U_store_Many : type_of% (@unfC _ _ (store_Many_k1.eq_1)) := @unfC _ _ (store_Many_k1.eq_1)
def C_store_Many : LFn := ⟨11, [.t 2], (.seq (.sq [⟨some 2, none, .mv true (.c (.bool false))⟩]) store_Many_k1)⟩

end Go.AM
/-! Functions, lowered. -/
namespace Go.AM
open Go
set_option linter.unusedVariables false
set_option maxRecDepth 20000
-- cmp_isNaN_int64: 
def cmp_isNaN_int64_k1 : LCode := (.seq (.sq [⟨some 3, none, .mv false (.t 0)⟩, ⟨some 4, none, .mv false (.t 0)⟩, ⟨some 5, none, .bin .neq .sc (.t 3) (.t 4)⟩, ⟨some 2, none, .mv true (.t 5)⟩]) .ret)
theorem U_cmp_isNaN_int64 : type_of% (@unfC _ _ (cmp_isNaN_int64_k1.eq_1)) := @unfC _ _ (cmp_isNaN_int64_k1.eq_1)
def C_cmp_isNaN_int64 : LFn := ⟨6, [.t 2], (.seq (.sq [⟨some 2, none, .mv true (.c (.bool false))⟩]) cmp_isNaN_int64_k1)⟩

-- cmp_isNaN_uint8: 
def cmp_isNaN_uint8_k1 : LCode := (.seq (.sq [⟨some 3, none, .mv false (.t 0)⟩, ⟨some 4, none, .mv false (.t 0)⟩, ⟨some 5, none, .bin .neq .sc (.t 3) (.t 4)⟩, ⟨some 2, none, .mv true (.t 5)⟩]) .ret)
theorem U_cmp_isNaN_uint8 : type_of% (@unfC _ _ (cmp_isNaN_uint8_k1.eq_1)) := @unfC _ _ (cmp_isNaN_uint8_k1.eq_1)
def C_cmp_isNaN_uint8 : LFn := ⟨6, [.t 2], (.seq (.sq [⟨some 2, none, .mv true (.c (.bool false))⟩]) cmp_isNaN_uint8_k1)⟩

-- cmp_Compare_int64: 0=cmp_isNaN_int64
def cmp_Compare_int64_k1 (c : Nat → FuncId) : LCode := (.seq (.seq (.sq [⟨some 12, none, .mv false (.t 6)⟩]) (.cond (.t 12) (.seq (.sq [⟨some 4, none, .mv true (.c (.int .i64 0))⟩]) .ret) .skip)) (.seq (.sq [⟨some 4, none, .mv true (.c (.int .i64 (-1)))⟩]) .ret))
def cmp_Compare_int64_k2 (c : Nat → FuncId) : LCode := (.seq (.seq (.sq [⟨some 17, none, .mv false (.t 0)⟩, ⟨some 18, none, .mv false (.t 1)⟩, ⟨some 19, none, .bin .gtr .sc (.t 17) (.t 18)⟩]) (.cond (.t 19) (.seq (.sq [⟨some 4, none, .mv true (.c (.int .i64 1))⟩]) .ret) .skip)) (.seq (.sq [⟨some 4, none, .mv true (.c (.int .i64 0))⟩]) .ret))
def cmp_Compare_int64_k3 (c : Nat → FuncId) : LCode := (.seq (.seq (.sq [⟨some 14, none, .mv false (.t 0)⟩, ⟨some 15, none, .mv false (.t 1)⟩, ⟨some 16, none, .bin .lss .sc (.t 14) (.t 15)⟩]) (.cond (.t 16) (.seq (.sq [⟨some 4, none, .mv true (.c (.int .i64 (-1)))⟩]) .ret) .skip)) (cmp_Compare_int64_k2 c))
def cmp_Compare_int64_k4 (c : Nat → FuncId) : LCode := (.seq (.seq (.sq [⟨some 13, none, .mv false (.t 6)⟩]) (.cond (.t 13) (.seq (.sq [⟨some 4, none, .mv true (.c (.int .i64 1))⟩]) .ret) .skip)) (cmp_Compare_int64_k3 c))
def cmp_Compare_int64_k5 (c : Nat → FuncId) : LCode := (.seq (.seq (.sq [⟨some 11, none, .mv false (.t 5)⟩]) (.cond (.t 11) (cmp_Compare_int64_k1 c) .skip)) (cmp_Compare_int64_k4 c))
def cmp_Compare_int64_k6 (c : Nat → FuncId) : LCode := (.seq (.sq [⟨some 9, none, .mv false (.t 1)⟩, ⟨some 10, none, .call (.f (c 0)) [(.t 9)]⟩, ⟨some 6, none, .mv true (.t 10)⟩]) (cmp_Compare_int64_k5 c))
def cmp_Compare_int64_k7 (c : Nat → FuncId) : LCode := (.seq (.sq [⟨some 7, none, .mv false (.t 0)⟩, ⟨some 8, none, .call (.f (c 0)) [(.t 7)]⟩, ⟨some 5, none, .mv true (.t 8)⟩]) (cmp_Compare_int64_k6 c))
theorem U_cmp_Compare_int64 (c : Nat → FuncId) : ((type_of% (@unfC _ _ (cmp_Compare_int64_k1.eq_1 c)) ∧ (type_of% (@unfC _ _ (cmp_Compare_int64_k2.eq_1 c)) ∧ type_of% (@unfC _ _ (cmp_Compare_int64_k3.eq_1 c)))) ∧ ((type_of% (@unfC _ _ (cmp_Compare_int64_k4.eq_1 c)) ∧ type_of% (@unfC _ _ (cmp_Compare_int64_k5.eq_1 c))) ∧ (type_of% (@unfC _ _ (cmp_Compare_int64_k6.eq_1 c)) ∧ type_of% (@unfC _ _ (cmp_Compare_int64_k7.eq_1 c))))) := ⟨⟨@unfC _ _ (cmp_Compare_int64_k1.eq_1 c), ⟨@unfC _ _ (cmp_Compare_int64_k2.eq_1 c), @unfC _ _ (cmp_Compare_int64_k3.eq_1 c)⟩⟩, ⟨⟨@unfC _ _ (cmp_Compare_int64_k4.eq_1 c), @unfC _ _ (cmp_Compare_int64_k5.eq_1 c)⟩, ⟨@unfC _ _ (cmp_Compare_int64_k6.eq_1 c), @unfC _ _ (cmp_Compare_int64_k7.eq_1 c)⟩⟩⟩
def C_cmp_Compare_int64 (c : Nat → FuncId) : LFn := ⟨20, [.t 4], (.seq (.sq [⟨some 4, none, .mv true (.c (.int .i64 0))⟩]) (cmp_Compare_int64_k7 c))⟩

-- cmp_Compare_uint8: 0=cmp_isNaN_uint8
def cmp_Compare_uint8_k1 (c : Nat → FuncId) : LCode := (.seq (.seq (.sq [⟨some 12, none, .mv false (.t 6)⟩]) (.cond (.t 12) (.seq (.sq [⟨some 4, none, .mv true (.c (.int .i64 0))⟩]) .ret) .skip)) (.seq (.sq [⟨some 4, none, .mv true (.c (.int .i64 (-1)))⟩]) .ret))
def cmp_Compare_uint8_k2 (c : Nat → FuncId) : LCode := (.seq (.seq (.sq [⟨some 17, none, .mv false (.t 0)⟩, ⟨some 18, none, .mv false (.t 1)⟩, ⟨some 19, none, .bin .gtr .sc (.t 17) (.t 18)⟩]) (.cond (.t 19) (.seq (.sq [⟨some 4, none, .mv true (.c (.int .i64 1))⟩]) .ret) .skip)) (.seq (.sq [⟨some 4, none, .mv true (.c (.int .i64 0))⟩]) .ret))
def cmp_Compare_uint8_k3 (c : Nat → FuncId) : LCode := (.seq (.seq (.sq [⟨some 14, none, .mv false (.t 0)⟩, ⟨some 15, none, .mv false (.t 1)⟩, ⟨some 16, none, .bin .lss .sc (.t 14) (.t 15)⟩]) (.cond (.t 16) (.seq (.sq [⟨some 4, none, .mv true (.c (.int .i64 (-1)))⟩]) .ret) .skip)) (cmp_Compare_uint8_k2 c))
def cmp_Compare_uint8_k4 (c : Nat → FuncId) : LCode := (.seq (.seq (.sq [⟨some 13, none, .mv false (.t 6)⟩]) (.cond (.t 13) (.seq (.sq [⟨some 4, none, .mv true (.c (.int .i64 1))⟩]) .ret) .skip)) (cmp_Compare_uint8_k3 c))
def cmp_Compare_uint8_k5 (c : Nat → FuncId) : LCode := (.seq (.seq (.sq [⟨some 11, none, .mv false (.t 5)⟩]) (.cond (.t 11) (cmp_Compare_uint8_k1 c) .skip)) (cmp_Compare_uint8_k4 c))
def cmp_Compare_uint8_k6 (c : Nat → FuncId) : LCode := (.seq (.sq [⟨some 9, none, .mv false (.t 1)⟩, ⟨some 10, none, .call (.f (c 0)) [(.t 9)]⟩, ⟨some 6, none, .mv true (.t 10)⟩]) (cmp_Compare_uint8_k5 c))
def cmp_Compare_uint8_k7 (c : Nat → FuncId) : LCode := (.seq (.sq [⟨some 7, none, .mv false (.t 0)⟩, ⟨some 8, none, .call (.f (c 0)) [(.t 7)]⟩, ⟨some 5, none, .mv true (.t 8)⟩]) (cmp_Compare_uint8_k6 c))
theorem U_cmp_Compare_uint8 (c : Nat → FuncId) : ((type_of% (@unfC _ _ (cmp_Compare_uint8_k1.eq_1 c)) ∧ (type_of% (@unfC _ _ (cmp_Compare_uint8_k2.eq_1 c)) ∧ type_of% (@unfC _ _ (cmp_Compare_uint8_k3.eq_1 c)))) ∧ ((type_of% (@unfC _ _ (cmp_Compare_uint8_k4.eq_1 c)) ∧ type_of% (@unfC _ _ (cmp_Compare_uint8_k5.eq_1 c))) ∧ (type_of% (@unfC _ _ (cmp_Compare_uint8_k6.eq_1 c)) ∧ type_of% (@unfC _ _ (cmp_Compare_uint8_k7.eq_1 c))))) := ⟨⟨@unfC _ _ (cmp_Compare_uint8_k1.eq_1 c), ⟨@unfC _ _ (cmp_Compare_uint8_k2.eq_1 c), @unfC _ _ (cmp_Compare_uint8_k3.eq_1 c)⟩⟩, ⟨⟨@unfC _ _ (cmp_Compare_uint8_k4.eq_1 c), @unfC _ _ (cmp_Compare_uint8_k5.eq_1 c)⟩, ⟨@unfC _ _ (cmp_Compare_uint8_k6.eq_1 c), @unfC _ _ (cmp_Compare_uint8_k7.eq_1 c)⟩⟩⟩
def C_cmp_Compare_uint8 (c : Nat → FuncId) : LFn := ⟨20, [.t 4], (.seq (.sq [⟨some 4, none, .mv true (.c (.int .i64 0))⟩]) (cmp_Compare_uint8_k7 c))⟩

-- cmp_Or_int: 
def cmp_Or_int_k1 : LCode := (.cond (.t 14) (.seq (.sq [⟨some 15, none, .mv false (.t 5)⟩, ⟨some 2, none, .mv true (.t 15)⟩]) .ret) .skip)
def cmp_Or_int_k2 : LCode := (.seq (.sq [⟨some 12, none, .mv false (.t 5)⟩, ⟨some 13, none, .mv false (.t 3)⟩, ⟨some 14, none, .bin .neq .sc (.t 12) (.t 13)⟩]) cmp_Or_int_k1)
def cmp_Or_int_k3 : LCode := (.seq (.block 1 (.seq (.sq [⟨some 10, none, .ixa (.sl 1) (.t 6) (.t 8)⟩, ⟨some 11, none, .load1 false (.t 10)⟩, ⟨some 5, none, .mv true (.t 11)⟩]) cmp_Or_int_k2)) (.sq [⟨some 16, none, .bin .add .sc (.t 8) (.c (.int .i64 1))⟩, ⟨some 8, none, .mv false (.t 16)⟩]))
def cmp_Or_int_k4 : LCode := (.block 0 (.loop [false, false, false, true, false, false, true, true, true, false, false, false, false, false, false, false, false, false] (.seq (.sq [⟨some 9, none, .bin .lss .sc (.t 8) (.t 7)⟩]) (.seq (.cond (.t 9) .skip (.exit 0)) cmp_Or_int_k3))))
def cmp_Or_int_k5 : LCode := (.seq (.seq (.sq [⟨some 6, none, .mv false (.t 0)⟩, ⟨some 7, none, .len .sl (.t 6)⟩, ⟨some 8, none, .mv false (.c (.int .i64 0))⟩]) cmp_Or_int_k4) (.seq (.sq [⟨some 17, none, .mv false (.t 3)⟩, ⟨some 2, none, .mv true (.t 17)⟩]) .ret))
theorem U_cmp_Or_int : ((type_of% (@unfC _ _ (cmp_Or_int_k1.eq_1)) ∧ type_of% (@unfC _ _ (cmp_Or_int_k2.eq_1))) ∧ (type_of% (@unfC _ _ (cmp_Or_int_k3.eq_1)) ∧ (type_of% (@unfC _ _ (cmp_Or_int_k4.eq_1)) ∧ type_of% (@unfC _ _ (cmp_Or_int_k5.eq_1))))) := ⟨⟨@unfC _ _ (cmp_Or_int_k1.eq_1), @unfC _ _ (cmp_Or_int_k2.eq_1)⟩, ⟨@unfC _ _ (cmp_Or_int_k3.eq_1), ⟨@unfC _ _ (cmp_Or_int_k4.eq_1), @unfC _ _ (cmp_Or_int_k5.eq_1)⟩⟩⟩
def C_cmp_Or_int : LFn := ⟨18, [.t 2], (.seq (.sq [⟨some 2, none, .mv true (.c (.int .i64 0))⟩]) (.seq (.sq [⟨some 3, none, .mv true (.c (.int .i64 0))⟩]) cmp_Or_int_k5))⟩

-- stamp_Cmp: 0=cmp_Compare_int64 1=cmp_Compare_uint8 2=cmp_Or_int
def stamp_Cmp_k1 (c : Nat → FuncId) : LCode := (.seq (.tree (.rd ⟨some 5, none, .shift 0 (.t 2)⟩ 0 false (.rd ⟨some 6, none, .load1 false (.t 5)⟩ 1 false (.rd ⟨some 7, none, .shift 0 (.t 3)⟩ 2 false (.rd ⟨some 8, none, .load1 false (.t 7)⟩ 3 false (.rd ⟨some 10, none, .shift 1 (.t 2)⟩ 5 true (.rd ⟨some 11, none, .load1 false (.t 10)⟩ 6 true (.rd ⟨some 12, none, .shift 1 (.t 3)⟩ 7 true (.rd ⟨some 13, none, .load1 false (.t 12)⟩ 8 true (.mv ⟨some 9, none, .call (.f (c 0)) [(.t 6), (.t 8)]⟩ [0, 1, 2, 3] (.mv ⟨some 14, none, .call (.f (c 1)) [(.t 11), (.t 13)]⟩ [0, 1, 2, 3, 4, 5, 6, 7, 8] (.rd ⟨some 15, none, .bsl ⟨1, false, 8, (.s (.int .i64 0))⟩ 2 [(0, (.t 9)), (1, (.t 14))]⟩ 10 false (.mv ⟨some 16, none, .call (.f (c 2)) [(.t 15)]⟩ [0, 1, 2, 3, 4, 5, 6, 7, 8, 9, 10] (.mv ⟨some 4, none, .mv true (.t 16)⟩ [0, 1, 2, 3, 4, 5, 6, 7, 8, 9, 10, 11] .done .stop) .stop)) .stop) .stop)))))))))) .ret)
theorem U_stamp_Cmp (c : Nat → FuncId) : type_of% (@unfC _ _ (stamp_Cmp_k1.eq_1 c)) := @unfC _ _ (stamp_Cmp_k1.eq_1 c)
def C_stamp_Cmp (c : Nat → FuncId) : LFn := ⟨17, [.t 4], (.seq (.sq [⟨some 2, none, .box false false (.t 0)⟩, ⟨some 3, none, .box false false (.t 1)⟩, ⟨some 4, none, .mv true (.c (.int .i64 0))⟩]) (stamp_Cmp_k1 c))⟩

-- hourglassref6_Cmp: 
-- hourglassref6_Good: 
-- hist_Txn_last: 0=slices_Backward_Write 1=hist_Txn_last
-- hist_Txn_last_a0: 
-- hist_Txn_last_b0: 
-- hist_Value: 0=hist_Txn_last 1=stamp_Cmp
-- hist_alone: 0=hist_Txn_wrote 1=stamp_Cmp
-- hist_pair: 0=hist_Txn_wrote
-- hist_Check_1: 
-- hist_Check_2: 0=hist_shares 1=hist_before
-- hist_shares: 0=hist_shares_1 1=slices_ContainsFunc_Write
-- hist_before: 0=stamp_Cmp
-- hist_reads: 0=hist_Txn_last 1=hist_Value
-- hist_Txn_wrote: 
-- hist_shares_1: 0=hist_Txn_last
-- hist_Check: 0=hist_alone 1=hist_pair 2=hist_Check_1 3=hist_Check_2 4=hist_reads
-- slices_ContainsFunc_Write: 0=slices_IndexFunc_Write
-- slices_IndexFunc_Write: 
-- slices_Backward_Write: 0=slices_Backward_Write_1
-- slices_Backward_Write_1: 
-- hourglassref23_common: 0=hourglassref23_last
-- hourglassref23_last: 
-- hourglassref23_Check: 0=hourglassref6_Cmp 1=hourglassref23_common 2=hourglassref23_last 3=hourglassref23_Value
-- hourglassref23_Value: 0=hourglassref23_last 1=hourglassref6_Cmp
-- hourglasslaw24_txns: 
-- hourglasslaw24_great: 
-- hourglasslaw24_at: 
-- hourglasslaw24_k: 0=hourglassref10_Of
-- hourglasslaw24_of: 0=hourglasslaw24_at 1=hourglasslaw24_k
-- hourglasslaw24_awake: 0=hourglasslaw24_of 1=hist_Check
-- hourglasslaw24_HistSays: 0=hourglasslaw24_awake 1=hourglasslaw24_great 2=hist_Check 3=hourglasslaw24_txns 4=hourglassref23_Check 5=hist_Value 6=hourglassref23_Value
-- hourglasslaw24_HistOrder: 0=hourglasslaw24_awake 1=hourglasslaw24_great 2=hist_Check
-- hourglasslaw24_HistLess: 0=hourglasslaw24_awake 1=hourglasslaw24_great 2=hist_Check 3=hourglasslaw24_at 4=hourglassref6_Good
end Go.AM
/-! Functions, lowered. -/
namespace Go.AM
open Go
set_option linter.unusedVariables false
set_option maxRecDepth 20000
def C_key_text_k1 : LCode := (.block 1 (.sq [⟨some 12, none, .mv false (.t 3)⟩,
          ⟨some 13, none, .bin .add .sc (.t 12) (.c (.int .i64 1))⟩,
          ⟨some 3, none, .mv true (.t 13)⟩]))
theorem u_C_key_text_k1 {C : CallW} {P : Program} {rd : Bool} {is : List Item} {fr : Fr} {σ : St} {K : KC} : runC C P rd C_key_text_k1 is fr σ K = runC C P rd (.block 1 (.sq [⟨some 12, none, .mv false (.t 3)⟩,
          ⟨some 13, none, .bin .add .sc (.t 12) (.c (.int .i64 1))⟩,
          ⟨some 3, none, .mv true (.t 13)⟩])) is fr σ K := (rfl)
def C_key_text_k2 : LCode := (.seq (.seq (.sq [⟨some 4, none, .mv false (.t 3)⟩,
        ⟨some 5, none, .bin .lss .sc (.t 4) (.c (.int .i64 16))⟩,
        ⟨some 6, none, .mv false (.t 5)⟩,
        ⟨some 7, some (6, true), .mv false (.t 3)⟩,
        ⟨some 8, some (6, true), .ixa (.arr 16 1) (.t 1) (.t 7)⟩,
        ⟨some 9, some (6, true), .load1 false (.t 8)⟩,
        ⟨some 10, some (6, true), .bin .neq .sc (.t 9) (.c (.int .u8 0))⟩,
        ⟨some 11, none, .pick (.t 6) (.t 10) (.c (.bool false))⟩]) (.cond (.t 11) .skip (.exit 0))) C_key_text_k1)
theorem u_C_key_text_k2 {C : CallW} {P : Program} {rd : Bool} {is : List Item} {fr : Fr} {σ : St} {K : KC} : runC C P rd C_key_text_k2 is fr σ K = runC C P rd (.seq (.seq (.sq [⟨some 4, none, .mv false (.t 3)⟩,
        ⟨some 5, none, .bin .lss .sc (.t 4) (.c (.int .i64 16))⟩,
        ⟨some 6, none, .mv false (.t 5)⟩,
        ⟨some 7, some (6, true), .mv false (.t 3)⟩,
        ⟨some 8, some (6, true), .ixa (.arr 16 1) (.t 1) (.t 7)⟩,
        ⟨some 9, some (6, true), .load1 false (.t 8)⟩,
        ⟨some 10, some (6, true), .bin .neq .sc (.t 9) (.c (.int .u8 0))⟩,
        ⟨some 11, none, .pick (.t 6) (.t 10) (.c (.bool false))⟩]) (.cond (.t 11) .skip (.exit 0))) C_key_text_k1) is fr σ K := (rfl)
def C_key_text_k3 : LCode := (.seq (.sq [⟨some 14, none, .mv false (.t 3)⟩,
    ⟨some 15, none, .slc (.arr 16 1) (.t 1) none (some (.t 14)) none⟩,
    ⟨some 16, none, .conv .ofBytes (.t 15)⟩,
    ⟨some 2, none, .mv true (.t 16)⟩]) .ret)
theorem u_C_key_text_k3 {C : CallW} {P : Program} {rd : Bool} {is : List Item} {fr : Fr} {σ : St} {K : KC} : runC C P rd C_key_text_k3 is fr σ K = runC C P rd (.seq (.sq [⟨some 14, none, .mv false (.t 3)⟩,
    ⟨some 15, none, .slc (.arr 16 1) (.t 1) none (some (.t 14)) none⟩,
    ⟨some 16, none, .conv .ofBytes (.t 15)⟩,
    ⟨some 2, none, .mv true (.t 16)⟩]) .ret) is fr σ K := (rfl)
def C_key_text_k4 : LCode := (.seq (.block 0 (.loop [false, true, false, true, false, false, false, false, false, false, false, false, false, false, false, false, false] C_key_text_k2)) C_key_text_k3)
theorem u_C_key_text_k4 {C : CallW} {P : Program} {rd : Bool} {is : List Item} {fr : Fr} {σ : St} {K : KC} : runC C P rd C_key_text_k4 is fr σ K = runC C P rd (.seq (.block 0 (.loop [false, true, false, true, false, false, false, false, false, false, false, false, false, false, false, false, false] C_key_text_k2)) C_key_text_k3) is fr σ K := (rfl)
def C_key_text : LFn :=
  ⟨17, [.t 2], (.seq (.sq [⟨some 1, none, .box false false (.t 0)⟩,
    ⟨some 2, none, .mv true (.c (.str []))⟩]) (.seq (.sq [⟨some 3, none, .mv true (.c (.int .i64 0))⟩]) C_key_text_k4))⟩

def C_key_Of_k1 (f_strings_IndexByte : FuncId) : LCode := (.seq (.sq [⟨some 17, none, .loadA 16 (.t 4)⟩,
      ⟨none, none, .store 16 (.t 2) (.t 17)⟩,
      ⟨some 3, none, .mv true (.c (.int .i64 1))⟩]) .ret)
theorem u_C_key_Of_k1 {C : CallW} {P : Program} {rd : Bool} {is : List Item} {fr : Fr} {σ : St} {K : KC} (f_strings_IndexByte : FuncId) : runC C P rd (C_key_Of_k1 f_strings_IndexByte) is fr σ K = runC C P rd (.seq (.sq [⟨some 17, none, .loadA 16 (.t 4)⟩,
      ⟨none, none, .store 16 (.t 2) (.t 17)⟩,
      ⟨some 3, none, .mv true (.c (.int .i64 1))⟩]) .ret) is fr σ K := (rfl)
def C_key_Of_k2 (f_strings_IndexByte : FuncId) : LCode := (.seq (.sq [⟨some 21, none, .loadA 16 (.t 4)⟩,
    ⟨none, none, .store 16 (.t 2) (.t 21)⟩,
    ⟨some 3, none, .mv true (.c (.int .i64 0))⟩]) .ret)
theorem u_C_key_Of_k2 {C : CallW} {P : Program} {rd : Bool} {is : List Item} {fr : Fr} {σ : St} {K : KC} (f_strings_IndexByte : FuncId) : runC C P rd (C_key_Of_k2 f_strings_IndexByte) is fr σ K = runC C P rd (.seq (.sq [⟨some 21, none, .loadA 16 (.t 4)⟩,
    ⟨none, none, .store 16 (.t 2) (.t 21)⟩,
    ⟨some 3, none, .mv true (.c (.int .i64 0))⟩]) .ret) is fr σ K := (rfl)
def C_key_Of_k3 (f_strings_IndexByte : FuncId) : LCode := (.seq (.sq [⟨some 18, none, .slc (.arr 16 1) (.t 4) none none none⟩,
    ⟨some 19, none, .mv false (.t 0)⟩,
    ⟨some 20, none, .cpy ⟨1, false, 1, (.s (.int .u8 0))⟩ true (.t 18) (.t 19)⟩]) (C_key_Of_k2 f_strings_IndexByte))
theorem u_C_key_Of_k3 {C : CallW} {P : Program} {rd : Bool} {is : List Item} {fr : Fr} {σ : St} {K : KC} (f_strings_IndexByte : FuncId) : runC C P rd (C_key_Of_k3 f_strings_IndexByte) is fr σ K = runC C P rd (.seq (.sq [⟨some 18, none, .slc (.arr 16 1) (.t 4) none none none⟩,
    ⟨some 19, none, .mv false (.t 0)⟩,
    ⟨some 20, none, .cpy ⟨1, false, 1, (.s (.int .u8 0))⟩ true (.t 18) (.t 19)⟩]) (C_key_Of_k2 f_strings_IndexByte)) is fr σ K := (rfl)
def C_key_Of_k4 (f_strings_IndexByte : FuncId) : LCode := (.seq (.seq (.sq [⟨some 5, none, .mv false (.t 0)⟩,
    ⟨some 6, none, .bin .eql .sc (.t 5) (.c (.str []))⟩,
    ⟨some 7, none, .mv false (.t 6)⟩,
    ⟨some 8, some (7, false), .mv false (.t 0)⟩,
    ⟨some 9, some (7, false), .len .str (.t 8)⟩,
    ⟨some 10, some (7, false), .bin .gtr .sc (.t 9) (.c (.int .i64 16))⟩,
    ⟨some 11, none, .pick (.t 7) (.c (.bool true)) (.t 10)⟩,
    ⟨some 12, none, .mv false (.t 11)⟩,
    ⟨some 13, some (12, false), .mv false (.t 0)⟩,
    ⟨some 14, some (12, false), .call (.f f_strings_IndexByte) [(.t 13), (.c (.int .u8 0))]⟩,
    ⟨some 15, some (12, false), .bin .geq .sc (.t 14) (.c (.int .i64 0))⟩,
    ⟨some 16, none, .pick (.t 12) (.c (.bool true)) (.t 15)⟩]) (.cond (.t 16) (C_key_Of_k1 f_strings_IndexByte) .skip)) (C_key_Of_k3 f_strings_IndexByte))
theorem u_C_key_Of_k4 {C : CallW} {P : Program} {rd : Bool} {is : List Item} {fr : Fr} {σ : St} {K : KC} (f_strings_IndexByte : FuncId) : runC C P rd (C_key_Of_k4 f_strings_IndexByte) is fr σ K = runC C P rd (.seq (.seq (.sq [⟨some 5, none, .mv false (.t 0)⟩,
    ⟨some 6, none, .bin .eql .sc (.t 5) (.c (.str []))⟩,
    ⟨some 7, none, .mv false (.t 6)⟩,
    ⟨some 8, some (7, false), .mv false (.t 0)⟩,
    ⟨some 9, some (7, false), .len .str (.t 8)⟩,
    ⟨some 10, some (7, false), .bin .gtr .sc (.t 9) (.c (.int .i64 16))⟩,
    ⟨some 11, none, .pick (.t 7) (.c (.bool true)) (.t 10)⟩,
    ⟨some 12, none, .mv false (.t 11)⟩,
    ⟨some 13, some (12, false), .mv false (.t 0)⟩,
    ⟨some 14, some (12, false), .call (.f f_strings_IndexByte) [(.t 13), (.c (.int .u8 0))]⟩,
    ⟨some 15, some (12, false), .bin .geq .sc (.t 14) (.c (.int .i64 0))⟩,
    ⟨some 16, none, .pick (.t 12) (.c (.bool true)) (.t 15)⟩]) (.cond (.t 16) (C_key_Of_k1 f_strings_IndexByte) .skip)) (C_key_Of_k3 f_strings_IndexByte)) is fr σ K := (rfl)
def C_key_Of (f_strings_IndexByte : FuncId) : LFn :=
  ⟨22, [.many 2 16, .t 3], (.seq (.sq [⟨some 2, none, .alloc false zk⟩,
    ⟨some 3, none, .mv true (.c (.int .i64 0))⟩]) (.seq (.sq [⟨some 4, none, .alloc false zk⟩]) (C_key_Of_k4 f_strings_IndexByte)))⟩

def C_key_Good_k1 (f_key_text f_key_Of : FuncId) : LCode := (.seq (.sq [⟨some 11, none, .mv false (.t 4)⟩,
    ⟨some 12, none, .bin .eql .sc (.t 11) (.c (.int .i64 0))⟩,
    ⟨some 13, none, .mv false (.t 12)⟩,
    ⟨some 14, some (13, true), .loadA 16 (.t 3)⟩,
    ⟨some 15, some (13, true), .loadA 16 (.t 1)⟩,
    ⟨some 16, some (13, true), .bin .eql (.leaf lk) (.t 14) (.t 15)⟩,
    ⟨some 17, none, .pick (.t 13) (.t 16) (.c (.bool false))⟩,
    ⟨some 2, none, .mv true (.t 17)⟩]) .ret)
theorem u_C_key_Good_k1 {C : CallW} {P : Program} {rd : Bool} {is : List Item} {fr : Fr} {σ : St} {K : KC} (f_key_text f_key_Of : FuncId) : runC C P rd (C_key_Good_k1 f_key_text f_key_Of) is fr σ K = runC C P rd (.seq (.sq [⟨some 11, none, .mv false (.t 4)⟩,
    ⟨some 12, none, .bin .eql .sc (.t 11) (.c (.int .i64 0))⟩,
    ⟨some 13, none, .mv false (.t 12)⟩,
    ⟨some 14, some (13, true), .loadA 16 (.t 3)⟩,
    ⟨some 15, some (13, true), .loadA 16 (.t 1)⟩,
    ⟨some 16, some (13, true), .bin .eql (.leaf lk) (.t 14) (.t 15)⟩,
    ⟨some 17, none, .pick (.t 13) (.t 16) (.c (.bool false))⟩,
    ⟨some 2, none, .mv true (.t 17)⟩]) .ret) is fr σ K := (rfl)
def C_key_Good_k2 (f_key_text f_key_Of : FuncId) : LCode := (.seq (.sq [⟨some 6, none, .loadA 16 (.t 1)⟩,
    ⟨some 7, none, .call (.f f_key_text) [(.t 6)]⟩,
    ⟨some 8, none, .call (.f f_key_Of) [(.t 7)]⟩,
    ⟨some 5, none, .mv false (.t 8)⟩,
    ⟨some 9, none, .ext (.t 5) 0⟩,
    ⟨some 10, none, .ext (.t 5) 1⟩,
    ⟨some 3, none, .alloc false zk⟩,
    ⟨none, none, .store 16 (.t 3) (.t 9)⟩,
    ⟨some 4, none, .mv true (.t 10)⟩]) (C_key_Good_k1 f_key_text f_key_Of))
theorem u_C_key_Good_k2 {C : CallW} {P : Program} {rd : Bool} {is : List Item} {fr : Fr} {σ : St} {K : KC} (f_key_text f_key_Of : FuncId) : runC C P rd (C_key_Good_k2 f_key_text f_key_Of) is fr σ K = runC C P rd (.seq (.sq [⟨some 6, none, .loadA 16 (.t 1)⟩,
    ⟨some 7, none, .call (.f f_key_text) [(.t 6)]⟩,
    ⟨some 8, none, .call (.f f_key_Of) [(.t 7)]⟩,
    ⟨some 5, none, .mv false (.t 8)⟩,
    ⟨some 9, none, .ext (.t 5) 0⟩,
    ⟨some 10, none, .ext (.t 5) 1⟩,
    ⟨some 3, none, .alloc false zk⟩,
    ⟨none, none, .store 16 (.t 3) (.t 9)⟩,
    ⟨some 4, none, .mv true (.t 10)⟩]) (C_key_Good_k1 f_key_text f_key_Of)) is fr σ K := (rfl)
def C_key_Good (f_key_text f_key_Of : FuncId) : LFn :=
  ⟨18, [.t 2], (.seq (.sq [⟨some 1, none, .box false false (.t 0)⟩,
    ⟨some 2, none, .mv true (.c (.bool false))⟩]) (C_key_Good_k2 f_key_text f_key_Of))⟩

def C_strings_IndexByte_k1 (f_internal_stringslite_IndexByte : FuncId) : LCode := (.seq (.sq [⟨some 5, none, .mv false (.t 0)⟩,
    ⟨some 6, none, .mv false (.t 1)⟩,
    ⟨some 7, none, .call (.f f_internal_stringslite_IndexByte) [(.t 5), (.t 6)]⟩,
    ⟨some 4, none, .mv true (.t 7)⟩]) .ret)
theorem u_C_strings_IndexByte_k1 {C : CallW} {P : Program} {rd : Bool} {is : List Item} {fr : Fr} {σ : St} {K : KC} (f_internal_stringslite_IndexByte : FuncId) : runC C P rd (C_strings_IndexByte_k1 f_internal_stringslite_IndexByte) is fr σ K = runC C P rd (.seq (.sq [⟨some 5, none, .mv false (.t 0)⟩,
    ⟨some 6, none, .mv false (.t 1)⟩,
    ⟨some 7, none, .call (.f f_internal_stringslite_IndexByte) [(.t 5), (.t 6)]⟩,
    ⟨some 4, none, .mv true (.t 7)⟩]) .ret) is fr σ K := (rfl)
def C_strings_IndexByte (f_internal_stringslite_IndexByte : FuncId) : LFn :=
  ⟨8, [.t 4], (.seq (.sq [⟨some 4, none, .mv true (.c (.int .i64 0))⟩]) (C_strings_IndexByte_k1 f_internal_stringslite_IndexByte))⟩

def C_internal_stringslite_IndexByte_k1 (f_internal_bytealg_IndexByteString : FuncId) : LCode := (.seq (.sq [⟨some 5, none, .mv false (.t 0)⟩,
    ⟨some 6, none, .mv false (.t 1)⟩,
    ⟨some 7, none, .call (.f f_internal_bytealg_IndexByteString) [(.t 5), (.t 6)]⟩,
    ⟨some 4, none, .mv true (.t 7)⟩]) .ret)
theorem u_C_internal_stringslite_IndexByte_k1 {C : CallW} {P : Program} {rd : Bool} {is : List Item} {fr : Fr} {σ : St} {K : KC} (f_internal_bytealg_IndexByteString : FuncId) : runC C P rd (C_internal_stringslite_IndexByte_k1 f_internal_bytealg_IndexByteString) is fr σ K = runC C P rd (.seq (.sq [⟨some 5, none, .mv false (.t 0)⟩,
    ⟨some 6, none, .mv false (.t 1)⟩,
    ⟨some 7, none, .call (.f f_internal_bytealg_IndexByteString) [(.t 5), (.t 6)]⟩,
    ⟨some 4, none, .mv true (.t 7)⟩]) .ret) is fr σ K := (rfl)
def C_internal_stringslite_IndexByte (f_internal_bytealg_IndexByteString : FuncId) : LFn :=
  ⟨8, [.t 4], (.seq (.sq [⟨some 4, none, .mv true (.c (.int .i64 0))⟩]) (C_internal_stringslite_IndexByte_k1 f_internal_bytealg_IndexByteString))⟩

def C_hourglassref10_Good_k1 : LCode := (.seq (.sq [⟨some 13, none, .mv false (.t 3)⟩]) (.cond (.t 13) (.seq (.sq [⟨some 2, none, .mv true (.c (.bool false))⟩]) .ret) .skip))
theorem u_C_hourglassref10_Good_k1 {C : CallW} {P : Program} {rd : Bool} {is : List Item} {fr : Fr} {σ : St} {K : KC} : runC C P rd C_hourglassref10_Good_k1 is fr σ K = runC C P rd (.seq (.sq [⟨some 13, none, .mv false (.t 3)⟩]) (.cond (.t 13) (.seq (.sq [⟨some 2, none, .mv true (.c (.bool false))⟩]) .ret) .skip)) is fr σ K := (rfl)
def C_hourglassref10_Good_k2 : LCode := (.sq [⟨some 7, none, .mv false (.t 4)⟩,
        ⟨some 8, none, .bin .add .sc (.t 7) (.c (.int .i64 1))⟩,
        ⟨some 4, none, .mv true (.t 8)⟩])
theorem u_C_hourglassref10_Good_k2 {C : CallW} {P : Program} {rd : Bool} {is : List Item} {fr : Fr} {σ : St} {K : KC} : runC C P rd C_hourglassref10_Good_k2 is fr σ K = runC C P rd (.sq [⟨some 7, none, .mv false (.t 4)⟩,
        ⟨some 8, none, .bin .add .sc (.t 7) (.c (.int .i64 1))⟩,
        ⟨some 4, none, .mv true (.t 8)⟩]) is fr σ K := (rfl)
def C_hourglassref10_Good_k3 : LCode := (.seq (.block 1 (.seq (.sq [⟨some 9, none, .mv false (.t 4)⟩,
          ⟨some 10, none, .ixa (.arr 16 1) (.t 1) (.t 9)⟩,
          ⟨some 11, none, .load1 false (.t 10)⟩,
          ⟨some 12, none, .bin .eql .sc (.t 11) (.c (.int .u8 0))⟩]) (.cond (.t 12) (.sq [⟨some 3, none, .mv true (.c (.bool true))⟩]) C_hourglassref10_Good_k1))) C_hourglassref10_Good_k2)
theorem u_C_hourglassref10_Good_k3 {C : CallW} {P : Program} {rd : Bool} {is : List Item} {fr : Fr} {σ : St} {K : KC} : runC C P rd C_hourglassref10_Good_k3 is fr σ K = runC C P rd (.seq (.block 1 (.seq (.sq [⟨some 9, none, .mv false (.t 4)⟩,
          ⟨some 10, none, .ixa (.arr 16 1) (.t 1) (.t 9)⟩,
          ⟨some 11, none, .load1 false (.t 10)⟩,
          ⟨some 12, none, .bin .eql .sc (.t 11) (.c (.int .u8 0))⟩]) (.cond (.t 12) (.sq [⟨some 3, none, .mv true (.c (.bool true))⟩]) C_hourglassref10_Good_k1))) C_hourglassref10_Good_k2) is fr σ K := (rfl)
def C_hourglassref10_Good_k4 : LCode := (.seq (.seq (.sq [⟨some 5, none, .mv false (.t 4)⟩,
        ⟨some 6, none, .bin .lss .sc (.t 5) (.c (.int .i64 16))⟩]) (.cond (.t 6) .skip (.exit 0))) C_hourglassref10_Good_k3)
theorem u_C_hourglassref10_Good_k4 {C : CallW} {P : Program} {rd : Bool} {is : List Item} {fr : Fr} {σ : St} {K : KC} : runC C P rd C_hourglassref10_Good_k4 is fr σ K = runC C P rd (.seq (.seq (.sq [⟨some 5, none, .mv false (.t 4)⟩,
        ⟨some 6, none, .bin .lss .sc (.t 5) (.c (.int .i64 16))⟩]) (.cond (.t 6) .skip (.exit 0))) C_hourglassref10_Good_k3) is fr σ K := (rfl)
def C_hourglassref10_Good_k5 : LCode := (.block 0 (.loop [false, true, false, true, true, false, false, false, false, false, false, false, false, false, false, false, false] C_hourglassref10_Good_k4))
theorem u_C_hourglassref10_Good_k5 {C : CallW} {P : Program} {rd : Bool} {is : List Item} {fr : Fr} {σ : St} {K : KC} : runC C P rd C_hourglassref10_Good_k5 is fr σ K = runC C P rd (.block 0 (.loop [false, true, false, true, true, false, false, false, false, false, false, false, false, false, false, false, false] C_hourglassref10_Good_k4)) is fr σ K := (rfl)
def C_hourglassref10_Good_k6 : LCode := (.seq (.sq [⟨some 14, none, .ixa (.arr 16 1) (.t 1) (.c (.int .i64 0))⟩,
    ⟨some 15, none, .load1 false (.t 14)⟩,
    ⟨some 16, none, .bin .neq .sc (.t 15) (.c (.int .u8 0))⟩,
    ⟨some 2, none, .mv true (.t 16)⟩]) .ret)
theorem u_C_hourglassref10_Good_k6 {C : CallW} {P : Program} {rd : Bool} {is : List Item} {fr : Fr} {σ : St} {K : KC} : runC C P rd C_hourglassref10_Good_k6 is fr σ K = runC C P rd (.seq (.sq [⟨some 14, none, .ixa (.arr 16 1) (.t 1) (.c (.int .i64 0))⟩,
    ⟨some 15, none, .load1 false (.t 14)⟩,
    ⟨some 16, none, .bin .neq .sc (.t 15) (.c (.int .u8 0))⟩,
    ⟨some 2, none, .mv true (.t 16)⟩]) .ret) is fr σ K := (rfl)
def C_hourglassref10_Good_k7 : LCode := (.seq (.sq [⟨some 3, none, .mv true (.c (.bool false))⟩]) (.seq (.seq (.sq [⟨some 4, none, .mv true (.c (.int .i64 0))⟩]) C_hourglassref10_Good_k5) C_hourglassref10_Good_k6))
theorem u_C_hourglassref10_Good_k7 {C : CallW} {P : Program} {rd : Bool} {is : List Item} {fr : Fr} {σ : St} {K : KC} : runC C P rd C_hourglassref10_Good_k7 is fr σ K = runC C P rd (.seq (.sq [⟨some 3, none, .mv true (.c (.bool false))⟩]) (.seq (.seq (.sq [⟨some 4, none, .mv true (.c (.int .i64 0))⟩]) C_hourglassref10_Good_k5) C_hourglassref10_Good_k6)) is fr σ K := (rfl)
def C_hourglassref10_Good : LFn :=
  ⟨17, [.t 2], (.seq (.sq [⟨some 1, none, .box false false (.t 0)⟩,
    ⟨some 2, none, .mv true (.c (.bool false))⟩]) C_hourglassref10_Good_k7)⟩

end Go.AM
/-! Lists of writes that lie in cells of the heap. -/
namespace Go.AM
open Go
set_option linter.unusedVariables false

end Go.AM
/-! More of what operations yield. -/
namespace Go.AM
open Go
set_option linter.unusedVariables false
theorem lenL_row {σ : St} {r : Ref} {off len cap : Nat} : lenL .sl (.row r off len cap) σ = some len := rfl
theorem lenL_nilS {σ : St} : lenL .sl (.s .nilS) σ = some 0 := rfl
theorem ixr_n {r : Ref} {off len cap i c : Nat} {k : IntKind} (h : i < len) (hc : c ≠ 0) : indexAddrL (.sl c) (.row r off len cap) (.s (.int k (i : Int))) = some (.ptr r (off + i * c)) := by
  have h1 : (0 : Int) ≤ i := by omega
  have h2 : (i : Int) < len := by omega
  simp [indexAddrL, h1, h2, hc]
end Go.AM
/-! The equations of a run, bundled. -/
namespace Go.AM
open Go
set_option linter.unusedVariables false
theorem K4_ :
  (type_of% @Go.AM.lenL_row ∧ (type_of% @Go.AM.lenL_nilS ∧ type_of% @Go.AM.ixr_n)) :=
  ⟨@Go.AM.lenL_row, ⟨@Go.AM.lenL_nilS, @Go.AM.ixr_n⟩⟩
end Go.AM
/-! Ranges over functions, symbolically. -/
namespace Go.AM
open Go
set_option linter.unusedVariables false

def loopO : Option HObj → Option LoopA
  | some (.loop l) => some l
  | _ => none
theorem loopOf_eq {S : List (List AV)} {H : List HObj} {h : Nat} : loopOf ⟨S, H⟩ h = loopO H[h]? := by
  show (match H[h]? with | some (.loop l) => some l | _ => none) = _
  cases H[h]? with
  | none => rfl
  | some o => cases o <;> rfl
theorem loopO_some {l : LoopA} : loopO (some (.loop l)) = some l := rfl

section
variable {C : CallW} {P : Program} {rd : Bool}

/-- Behind a round's body. -/
def rnd2' (h base : Nat) (K : AV → St → Prop) (e : Ex) (S : List (List AV)) (H : List HObj) : Option LoopA → Prop
  | some l => K (.bool (decide (e = .normal))) ⟨S.take base, H.set h (.loop { l with ready := decide (e = .normal), pending := if e = .normal then none else some e })⟩
  | none => False
def rnd2 (h base : Nat) (K : AV → St → Prop) : KC := fun e _ σ => rnd2' h base K e σ.stk σ.heap (loopOf σ h)
/-- Between a round's assignment and its body. -/
def rnd1' (C : CallW) (P : Program) (B : LCode) (h base : Nat) (K : AV → St → Prop) (fr : Fr) (S : List (List AV)) (H : List HObj) : Option LoopA → Prop
  | some l => l.ready = true ∧ l.pending = none ∧ runC C P true B [] fr ⟨S, H.set h (.loop { l with ready := false })⟩ (rnd2 h base K)
  | none => False
def rnd1 (C : CallW) (P : Program) (B : LCode) (h base : Nat) (K : AV → St → Prop) : KC := fun e fr σ => e = .normal ∧ rnd1' C P B h base K fr σ.stk σ.heap (loopOf σ h)
theorem rnd1_n {B h base K fr S H} : rnd1 C P B h base K .normal fr ⟨S, H⟩ = rnd1' C P B h base K fr S H (loopO H[h]?) := by
  unfold rnd1; rw [loopOf_eq]; simp
theorem rnd1_some {B h base K fr S H fid fr0 ps a b} : rnd1' C P B h base K fr S H (some ⟨fid, fr0, ps, a, b, true, none⟩) = runC C P true B [] fr ⟨S, H.set h (.loop ⟨fid, fr0, ps, a, b, false, none⟩)⟩ (rnd2 h base K) := by
  simp [rnd1']
theorem rnd2_e {h base K e fr S H} : rnd2 h base K e fr ⟨S, H⟩ = rnd2' h base K e S H (loopO H[h]?) := by
  unfold rnd2; rw [loopOf_eq]
theorem rnd2_norm {h base K S H fid fr0 ps a b r p} : rnd2' h base K .normal S H (some ⟨fid, fr0, ps, a, b, r, p⟩) = K (.bool true) ⟨S.take base, H.set h (.loop ⟨fid, fr0, ps, a, b, true, none⟩)⟩ := (rfl)
theorem rnd2_ret {h base K S H fid fr0 ps a b r p} : rnd2' h base K .ret S H (some ⟨fid, fr0, ps, a, b, r, p⟩) = K (.bool false) ⟨S.take base, H.set h (.loop ⟨fid, fr0, ps, a, b, false, some .ret⟩)⟩ := (rfl)
theorem rnd2_exit {h base K S H fid fr0 ps a b r p id} : rnd2' h base K (.exit id) S H (some ⟨fid, fr0, ps, a, b, r, p⟩) = K (.bool false) ⟨S.take base, H.set h (.loop ⟨fid, fr0, ps, a, b, false, some (.exit id)⟩)⟩ := (rfl)

/-! A range over a function, from the caller's side -/
def rfE (C : CallW) (P : Program) (rd : Bool) (is : List Item) (K : KC) (fr : Fr) (n : Nat) (S : List (List AV)) (H : List HObj) : Option LoopA → Prop
  | some l => (l.ready || l.pending.isSome) = true ∧ contK C P rd is K (l.pending.getD .normal) fr ⟨S, H.set n .dead⟩
  | none => False
def rfK (C : CallW) (P : Program) (rd : Bool) (is : List Item) (K : KC) (fr : Fr) (n : Nat) : AV → St → Prop := fun _ σ => rfE C P rd is K fr n σ.stk σ.heap (loopO σ.heap[n]?)
theorem rfK_eq {is K fr n v S H} : rfK C P rd is K fr n v ⟨S, H⟩ = rfE C P rd is K fr n S H (loopO H[n]?) := (rfl)
theorem rfE_norm {is K fr n S H fid fr0 ps a b} : rfE C P rd is K fr n S H (some ⟨fid, fr0, ps, a, b, true, none⟩) = nxt C P rd is fr ⟨S, H.set n .dead⟩ K := by simp [rfE, nxt]
theorem rfE_ret {is K fr n S H fid fr0 ps a b r} : rfE C P rd is K fr n S H (some ⟨fid, fr0, ps, a, b, r, some .ret⟩) = rtn C P rd is fr ⟨S, H.set n .dead⟩ K := by simp [rfE, rtn]
theorem rfE_exit {is K fr n S H fid fr0 ps a b r id} : rfE C P rd is K fr n S H (some ⟨fid, fr0, ps, a, b, r, some (.exit id)⟩) = ext C P rd id is fr ⟨S, H.set n .dead⟩ K := by simp [rfE, ext]

def rfn (C : CallW) (P : Program) (rd : Bool) (f : FuncId) (ps : Array Tmp) (a b : Code) (is : List Item) (fr : Fr) (S : List (List AV)) (H : List HObj) (K : KC) : AV → Prop
  | .fn (.func h) first captured => hasBody P h = true ∧ C (.fn h) (first ++ [.yield H.length] ++ captured) ⟨S, H ++ [.loop ⟨f, fr.map lasting, ps.toList, a, b, true, none⟩]⟩ (rfK C P rd is K fr H.length)
  | _ => False
theorem runC_rfun {g f ps a b is fr S H K} : runC C P false (.rfun g f ps a b) is fr ⟨S, H⟩ K = rfn C P false f ps a b is fr S H K (seL fr g) := by
  show (false = false ∧ (match seL fr g with | .fn (.func h) first captured => _ | _ => False)) = _
  simp only [true_and]
  cases hs : seL fr g with
  | fn fn first captured =>
    cases fn with
    | func h =>
      show (_ ∧ _) = (_ ∧ _)
      refine congr (congrArg And rfl) ?_
      refine congrArg (C (.fn h) (first ++ [.yield H.length] ++ captured) ⟨S, H ++ [.loop ⟨f, fr.map lasting, ps.toList, a, b, true, none⟩]⟩) ?_
      funext v σ'
      show (match σ'.heap[H.length]? with | some (.loop l) => _ | _ => False) = rfE C P false is K fr H.length σ'.stk σ'.heap (loopO σ'.heap[H.length]?)
      cases σ'.heap[H.length]? with
      | none => rfl
      | some o => cases o <;> rfl
    | _ => rfl
  | _ => rfl
theorem rfn_fn {f ps a b is fr S H K h first captured} : rfn C P rd f ps a b is fr S H K (.fn (.func h) first captured) = (hasBody P h = true ∧ C (.fn h) (first ++ [.yield H.length] ++ captured) ⟨S, H ++ [.loop ⟨f, fr.map lasting, ps.toList, a, b, true, none⟩]⟩ (rfK C P rd is K fr H.length)) := (rfl)
end

end Go.AM
/-! Stamps. -/
namespace Go.AM
open Go
set_option linter.unusedVariables false

structure Stp where
  t : Int
  n : UInt8
  deriving DecidableEq

def stc (s : Stp) : List AV := [.s (.int .i64 s.t), u8 s.n]
def sA (s : Stp) : AV := .agg (stc s)
theorem stc_length (s : Stp) : (stc s).length = 2 := rfl
theorem stc_under {n : Nat} {s : Stp} : AV.under.go n (stc s) = true := rfl
theorem sA_under {n : Nat} {s : Stp} : AV.under n (sA s) = true := rfl
theorem look_stc (s : Stp) : (stc s).map AV.look = stc s := rfl
theorem fits_stc (s : Stp) : fitsL [.int .i64, .int .u8] (stc s) = true := rfl
theorem beq_stc (a b : Stp) : AV.beq.go (stc a) (stc b) = decide (a = b) := by
  cases a; cases b
  simp only [stc, AV.beq.go, AV.beq, u8_inj, Bool.and_true, Sc.int.injEq, true_and, Stp.mk.injEq, Bool.decide_and]
theorem take_stc (s : Stp) (r : List AV) : (stc s ++ r).take 2 = stc s := rfl
theorem drop_stc (s : Stp) (r : List AV) : (stc s ++ r).drop 2 = r := rfl
theorem stc_get0 (s : Stp) : (stc s)[0]? = some (.s (.int .i64 s.t)) := rfl
theorem stc_get1 (s : Stp) : (stc s)[1]? = some (u8 s.n) := rfl
theorem u8_lt' {x y : UInt8} : ((x.toNat : Int) < (y.toNat : Int)) = (x < y) := by rw [UInt8.lt_iff_toNat_lt]; exact propext (by omega)
/-- Which stamp is less. -/
def cmpS (a b : Stp) : Int := if a.t < b.t then -1 else if b.t < a.t then 1 else if a.n < b.n then -1 else if b.n < a.n then 1 else 0
def goodS (a : Stp) : Bool := decide (0 ≤ a.t) && decide (a.t ≤ 36028797018963967)

/-- A function that only answers. -/
def FnS (C : CallW) (f : FuncId) (args : List AV) (v : AV) : Prop := ∀ S H (K : AV → St → Prop), K v ⟨S, H⟩ → C (.fn f) args ⟨S, H⟩ K
end Go.AM
/-! The equations of a run, bundled. -/
namespace Go.AM
open Go
set_option linter.unusedVariables false
theorem K5_ :
  (((((type_of% @Go.AM.runC_rfun ∧ type_of% @Go.AM.rfn_fn) ∧ (type_of% @Go.AM.rfK_eq ∧ (type_of% @Go.AM.rfE_norm ∧ type_of% @Go.AM.rfE_ret))) ∧ ((type_of% @Go.AM.rfE_exit ∧ type_of% @Go.AM.rnd1_n) ∧ (type_of% @Go.AM.rnd1_some ∧ (type_of% @Go.AM.rnd2_e ∧ type_of% @Go.AM.rnd2_norm)))) ∧ (((type_of% @Go.AM.rnd2_ret ∧ type_of% @Go.AM.rnd2_exit) ∧ (type_of% @Go.AM.loopO_some ∧ (type_of% @Go.AM.setAll.eq_1 ∧ type_of% @Go.AM.setAll.eq_2))) ∧ ((type_of% @Go.AM.lasting.eq_1 ∧ (type_of% @Go.AM.stc_length ∧ type_of% @Go.AM.stc_under)) ∧ (type_of% @Go.AM.sA_under ∧ (type_of% @Go.AM.look_stc ∧ type_of% @Go.AM.fits_stc))))) ∧ ((((type_of% @Go.AM.beq_stc ∧ type_of% @Go.AM.take_stc) ∧ (type_of% @Go.AM.drop_stc ∧ (type_of% @Go.AM.stc_get0 ∧ type_of% @Go.AM.stc_get1))) ∧ ((type_of% @Go.AM.LK.fits.eq_1 ∧ type_of% @Go.AM.LK.fits.eq_2) ∧ (type_of% @Go.AM.LK.fits.eq_3 ∧ (type_of% @Go.AM.LK.fits.eq_4 ∧ type_of% @Go.AM.KK.fits.eq_1)))) ∧ (((type_of% @Go.AM.KK.fits.eq_2 ∧ type_of% @Go.AM.KK.fits.eq_3) ∧ (type_of% @Go.AM.u8_inj ∧ (type_of% @Go.AM.Sc.int.injEq ∧ type_of% @Go.AM.Sc.str.injEq))) ∧ ((type_of% @Go.AM.Sc.bool.injEq ∧ (type_of% @Go.AM.wrap_i64 ∧ type_of% @Bool.false_and)) ∧ (type_of% @Bool.and_false ∧ (type_of% @Nat.not_lt_zero ∧ type_of% @Go.AM.beq_refl)))))) :=
  ⟨⟨⟨⟨⟨@Go.AM.runC_rfun, @Go.AM.rfn_fn⟩, ⟨@Go.AM.rfK_eq, ⟨@Go.AM.rfE_norm, @Go.AM.rfE_ret⟩⟩⟩, ⟨⟨@Go.AM.rfE_exit, @Go.AM.rnd1_n⟩, ⟨@Go.AM.rnd1_some, ⟨@Go.AM.rnd2_e, @Go.AM.rnd2_norm⟩⟩⟩⟩, ⟨⟨⟨@Go.AM.rnd2_ret, @Go.AM.rnd2_exit⟩, ⟨@Go.AM.loopO_some, ⟨@Go.AM.setAll.eq_1, @Go.AM.setAll.eq_2⟩⟩⟩, ⟨⟨@Go.AM.lasting.eq_1, ⟨@Go.AM.stc_length, @Go.AM.stc_under⟩⟩, ⟨@Go.AM.sA_under, ⟨@Go.AM.look_stc, @Go.AM.fits_stc⟩⟩⟩⟩⟩, ⟨⟨⟨⟨@Go.AM.beq_stc, @Go.AM.take_stc⟩, ⟨@Go.AM.drop_stc, ⟨@Go.AM.stc_get0, @Go.AM.stc_get1⟩⟩⟩, ⟨⟨@Go.AM.LK.fits.eq_1, @Go.AM.LK.fits.eq_2⟩, ⟨@Go.AM.LK.fits.eq_3, ⟨@Go.AM.LK.fits.eq_4, @Go.AM.KK.fits.eq_1⟩⟩⟩⟩, ⟨⟨⟨@Go.AM.KK.fits.eq_2, @Go.AM.KK.fits.eq_3⟩, ⟨@Go.AM.u8_inj, ⟨@Go.AM.Sc.int.injEq, @Go.AM.Sc.str.injEq⟩⟩⟩, ⟨⟨@Go.AM.Sc.bool.injEq, ⟨@Go.AM.wrap_i64, @Bool.false_and⟩⟩, ⟨@Bool.and_false, ⟨@Nat.not_lt_zero, @Go.AM.beq_refl⟩⟩⟩⟩⟩⟩
end Go.AM
/-! Transactions; boxes on the heap. -/
namespace Go.AM
open Go
set_option linter.unusedVariables false

structure Tx where
  id : Int
  snap : Stp
  stamp : Stp
  done : Bool
  reads : List Wr
  writes : List Wr

def txc (x : Tx) : List AV := [.s (.int .i64 x.id), .s (.int .i64 x.snap.t), u8 x.snap.n, .s (.int .i64 x.stamp.t), u8 x.stamp.n, .s (.bool x.done), .list .sh 18 (x.reads.map wA), .list .sh 18 (x.writes.map wA)]
def txA (x : Tx) : AV := .agg (txc x)
theorem ixl_t {l : List Tx} {i c : Nat} {k : IntKind} (h : i < l.length) (hc : c ≠ 0) : indexAddrL (.sl c) (.list .sh c (l.map txA)) (.s (.int k (i : Int))) = some (.rop (txc l[i])) := ixl_map h hc
theorem under_yield {n h : Nat} : AV.under n (.yield h) = true := rfl

def hcells : HObj → List AV
  | .cells cs => cs
  | _ => []
theorem storeL_heap {S : List (List AV)} {H l : List HObj} {j n : Nat} {vs : List AV} (hj : j < l.length) (h : (hcells (l.getD j .dead)).length = n) (hv : vs.length = n) (hn : 2 ≤ n) (hu : AV.under.go 0 vs = true) : storeL n (.ptr (.heap (H.length + j)) 0) (.agg vs) ⟨S, H ++ l⟩ = some ⟨S, H ++ l.set j (.cells vs)⟩ := by
  have e : l[j]? = some (l.getD j .dead) := by simp [List.getD, hj]
  cases hb : l.getD j .dead with
  | cells cs =>
    rw [hb] at h e
    have h : cs.length = n := h
    have hs : splice cs 0 vs = vs := by
      unfold splice
      split
      · simp at hv; omega
      · rw [List.take_zero, List.nil_append, Nat.zero_add, hv, List.drop_of_length_le (Nat.le_of_eq h), List.append_nil]
    have h' : cs.length = n := h
    simp only [storeL, AV.cells, AV.fit, hv, writeCells, boxOf_heap, app_get, e, cellsOf?, Option.bind_some, hs, setBox_heap, app_set, mayHold, hu, h', Nat.zero_add, Nat.le_refl, decide_true, Bool.and_self, if_true, true_and]
    rw [if_pos (by simp; omega)]
  | _ => rw [hb] at h; simp [hcells] at h; omega
theorem storeL_heap0 {S : List (List AV)} {H l : List HObj} {n : Nat} {vs : List AV} (hj : 0 < l.length) (h : (hcells (l.getD 0 .dead)).length = n) (hv : vs.length = n) (hn : 2 ≤ n) (hu : AV.under.go 0 vs = true) : storeL n (.ptr (.heap H.length) 0) (.agg vs) ⟨S, H ++ l⟩ = some ⟨S, H ++ l.set 0 (.cells vs)⟩ := storeL_heap (j := 0) hj h hv hn hu
theorem storeS_heap {S : List (List AV)} {H l : List HObj} {j off : Nat} {x : Sc} (hj : j < l.length) (h : off < (hcells (l.getD j .dead)).length) : storeL 1 (.ptr (.heap (H.length + j)) off) (.s x) ⟨S, H ++ l⟩ = some ⟨S, H ++ l.set j (.cells ((hcells (l.getD j .dead)).set off (.s x)))⟩ := by
  have e : l[j]? = some (l.getD j .dead) := by simp [List.getD, hj]
  cases hb : l.getD j .dead with
  | cells cs =>
    rw [hb] at h e
    have h1 : off + 1 ≤ cs.length := h
    simp only [storeL, AV.cells, AV.fit, List.length_cons, List.length_nil, writeCells, boxOf_heap, app_get, e, cellsOf?, Option.bind_some, splice, setBox_heap, app_set, mayHold, AV.under.go, AV.under, Nat.zero_add, h1, decide_true, Bool.and_self, if_true, true_and, and_self, hcells]
    rw [if_pos (by simp)]
  | _ => rw [hb] at h; simp [hcells] at h
theorem storeS_heap0 {S : List (List AV)} {H l : List HObj} {off : Nat} {x : Sc} (hj : 0 < l.length) (h : off < (hcells (l.getD 0 .dead)).length) : storeL 1 (.ptr (.heap H.length) off) (.s x) ⟨S, H ++ l⟩ = some ⟨S, H ++ l.set 0 (.cells ((hcells (l.getD 0 .dead)).set off (.s x)))⟩ := storeS_heap (j := 0) hj h
theorem readA_heap' {S : List (List AV)} {H l : List HObj} {j n off : Nat} (hj : j < l.length) (h : off + n ≤ (hcells (l.getD j .dead)).length) (hn : 0 < n) : readA ⟨S, H ++ l⟩ (.ptr (.heap (H.length + j)) off) n = some (.agg ((((hcells (l.getD j .dead)).drop off).take n).map AV.look)) := by
  have e : l[j]? = some (l.getD j .dead) := by simp [List.getD, hj]
  cases hb : l.getD j .dead with
  | cells cs =>
    rw [hb] at h e
    have h' : off + n ≤ cs.length := h
    simp only [readA, readCells, boxOf_heap, app_get, e, cellsOf?, Option.bind_some, if_pos h', Option.map_some, hcells]
  | _ => rw [hb] at h; simp [hcells] at h; omega
theorem readA_heap0 {S : List (List AV)} {H l : List HObj} {n off : Nat} (hj : 0 < l.length) (h : off + n ≤ (hcells (l.getD 0 .dead)).length) (hn : 0 < n) : readA ⟨S, H ++ l⟩ (.ptr (.heap H.length) off) n = some (.agg ((((hcells (l.getD 0 .dead)).drop off).take n).map AV.look)) := readA_heap' (j := 0) hj h hn
theorem wc_get16 (w : Wr) : (wc w)[16]? = some (.s (.str w.val)) := get_kc16 w.key [.s (.str w.val), .s (.bool w.gone)]
theorem wc_get17 (w : Wr) : (wc w)[17]? = some (.s (.bool w.gone)) := get_kc17 w.key [.s (.str w.val), .s (.bool w.gone)]
theorem fits_u8b {b : UInt8} : (LK.int .u8).fits (u8 b) = true := rfl
theorem wA_eq (w : Wr) : wA w = .agg (wc w) := rfl
end Go.AM
/-! The equations of a run, bundled. -/
namespace Go.AM
open Go
set_option linter.unusedVariables false
theorem K6_ :
  ((((type_of% @Go.AM.ixl_t ∧ type_of% @Go.AM.txc.eq_1) ∧ (type_of% @Go.AM.under_yield ∧ type_of% @Go.AM.hcells.eq_1)) ∧ ((type_of% @Go.AM.hcells.eq_2 ∧ type_of% @Go.AM.storeL_heap) ∧ (type_of% @Go.AM.storeL_heap0 ∧ type_of% @Go.AM.storeS_heap))) ∧ (((type_of% @Go.AM.storeS_heap0 ∧ type_of% @Go.AM.readA_heap') ∧ (type_of% @Go.AM.readA_heap0 ∧ type_of% @Go.AM.wA_eq)) ∧ ((type_of% @Go.AM.wc_get16 ∧ type_of% @Go.AM.wc_get17) ∧ (type_of% @Go.AM.fillL.eq_1 ∧ (type_of% @Go.AM.fillL.eq_2 ∧ type_of% @Go.AM.fits_u8b))))) :=
  ⟨⟨⟨⟨@Go.AM.ixl_t, @Go.AM.txc.eq_1⟩, ⟨@Go.AM.under_yield, @Go.AM.hcells.eq_1⟩⟩, ⟨⟨@Go.AM.hcells.eq_2, @Go.AM.storeL_heap⟩, ⟨@Go.AM.storeL_heap0, @Go.AM.storeS_heap⟩⟩⟩, ⟨⟨⟨@Go.AM.storeS_heap0, @Go.AM.readA_heap'⟩, ⟨@Go.AM.readA_heap0, @Go.AM.wA_eq⟩⟩, ⟨⟨@Go.AM.wc_get16, @Go.AM.wc_get17⟩, ⟨@Go.AM.fillL.eq_1, ⟨@Go.AM.fillL.eq_2, @Go.AM.fits_u8b⟩⟩⟩⟩⟩
end Go.AM
/-! Slices cut and joined. -/
namespace Go.AM
open Go
set_option linter.unusedVariables false

theorem slc_hi {c n : Nat} {es : List AV} {k : IntKind} (h : n ≤ es.length) : sliceL (.sl c) (.list .sh c es) none (some (.s (.int k (n : Int)))) none = some (.list .sh c (es.take n)) := by
  have h0 : (0 : Int) ≤ n := by omega
  simp only [sliceL, bound, h0, if_true, Int.toNat_natCast, reduceCtorEq, if_false, Nat.zero_le, h, and_self, List.drop_zero, false_and]
theorem slc_lo {c n : Nat} {es : List AV} {k : IntKind} (h : n ≤ es.length) : sliceL (.sl c) (.list .sh c es) (some (.s (.int k (n : Int)))) none none = some (.list .sh c (es.drop n)) := by
  have h0 : (0 : Int) ≤ n := by omega
  simp only [sliceL, bound, h0, if_true, Int.toNat_natCast, reduceCtorEq, if_false, h, Nat.le_refl, and_self, false_and, List.take_length]
theorem slc_both {c m n : Nat} {es : List AV} {k k' : IntKind} (hm : m ≤ n) (h : n ≤ es.length) : sliceL (.sl c) (.list .sh c es) (some (.s (.int k (m : Int)))) (some (.s (.int k' (n : Int)))) none = some (.list .sh c ((es.take n).drop m)) := by
  have h0 : (0 : Int) ≤ n := by omega
  have h1 : (0 : Int) ≤ m := by omega
  simp only [sliceL, bound, h0, h1, if_true, Int.toNat_natCast, reduceCtorEq, if_false, hm, h, and_self, false_and]
/-- What is one's own alone, or empty. -/
def Own1 (fl : Fl) (es : List AV) : Prop := fl = .uniq ∨ fl = .full ∧ es = []
theorem app_join {e : ET} {fl fl2 : Fl} {es items : List AV} (h : Own1 fl es) (hu : AV.under.go 0 items = true) (hb : 2 * (es.length + items.length) * e.bytes ≤ 2 ^ 48) :
    ∃ fl', Own1 fl' (es ++ items) ∧ ∀ σ : St, appendL e false (.list fl e.c es) (.list fl2 e.c items) σ = some (.list fl' e.c (es ++ items), σ) := by
  have he : ∀ σ, elemsL e (.list fl2 e.c items) σ = some items := fun σ => by simp [elemsL]
  have hb1 : items.length * e.bytes ≤ 2 ^ 48 := Nat.le_trans (Nat.mul_le_mul_right _ (by omega)) hb
  cases items with
  | nil => exact ⟨fl, by simpa using h, fun σ => by simp [appendL, srcL, AV.isSlice, he, AV.under.go, appItems]⟩
  | cons x xs =>
    rcases h with rfl | ⟨rfl, rfl⟩
    · exact ⟨.uniq, .inl rfl, fun σ => by simp only [appendL, srcL, AV.isSlice, he, hu, appItems, Option.bind_some, if_true, ne_eq, not_true_eq_false, if_false, List.isEmpty_cons, Bool.false_eq_true, hb]⟩
    · exact ⟨.uniq, .inl rfl, fun σ => by simp only [appendL, srcL, AV.isSlice, he, hu, appItems, Option.bind_some, if_true, ne_eq, not_true_eq_false, if_false, List.isEmpty_cons, Bool.false_eq_true, List.isEmpty_nil, hb1, List.nil_append]⟩
theorem Own1.wk {fl : Fl} {c : Nat} {es : List AV} (h : Own1 fl es) {as bs : List AV} (t : WkF as bs) : WkF (.list fl c es :: as) (.list .sh c es :: bs) := by
  rcases h with rfl | ⟨rfl, rfl⟩
  · exact .uniq t
  · exact .full t

/-- A list grown from nil. -/
def slG (c : Nat) (es : List AV) : AV := if es = [] then .s .nilS else .list .uniq c es
theorem slG_nil {c : Nat} : slG c [] = .s .nilS := rfl
theorem slG_under {n c : Nat} {es : List AV} : AV.under n (slG c es) = true := by unfold slG; split <;> rfl
theorem app_slG {e : ET} {es : List AV} {a : AV} {σ : St} (hu : AV.under 0 a = true) (hb : 2 * (es.length + 1) * e.bytes ≤ 2 ^ 48) : appendL e false (slG e.c es) (.list .full e.c [a]) σ = some (slG e.c (es ++ [a]), σ) := by
  have he : elemsL e (.list .full e.c [a]) σ = some [a] := by simp [elemsL]
  have h1 : 1 * e.bytes ≤ 2 ^ 48 := Nat.le_trans (Nat.mul_le_mul_right _ (by omega)) hb
  have hg : AV.under.go 0 [a] = true := by simp [AV.under.go, hu]
  unfold appendL
  simp only [srcL, AV.isSlice, if_true, he, Option.bind_some, hg]
  unfold slG
  by_cases h : es = []
  · subst h
    simp [appItems] at h1 ⊢
    omega
  · rw [if_neg h]
    simp only [appItems, ne_eq, not_true_eq_false, if_false, List.isEmpty_cons, Bool.false_eq_true, List.length_cons, List.length_nil, Nat.zero_add, hb, if_true]
    simp
theorem drop_kc17 {k : Key} {a : AV} {r : List AV} : (bs k.b ++ a :: r).drop 17 = r := by rw [show bs k.b ++ a :: r = (bs k.b ++ [a]) ++ r by simp, List.drop_left' (by simp [kc_length])]
theorem take_kc17 {k : Key} {a : AV} {r : List AV} : (bs k.b ++ a :: r).take 17 = bs k.b ++ [a] := by rw [show bs k.b ++ a :: r = (bs k.b ++ [a]) ++ r by simp, List.take_left' (by simp [kc_length])]
theorem drop_kc18 {k : Key} {a b : AV} {r : List AV} : (bs k.b ++ a :: b :: r).drop 18 = r := by rw [show bs k.b ++ a :: b :: r = (bs k.b ++ [a, b]) ++ r by simp, List.drop_left' (by simp [kc_length])]
theorem take_kc18 {k : Key} {a b : AV} {r : List AV} : (bs k.b ++ a :: b :: r).take 18 = bs k.b ++ [a, b] := by rw [show bs k.b ++ a :: b :: r = (bs k.b ++ [a, b]) ++ r by simp, List.take_left' (by simp [kc_length])]
end Go.AM
/-! The equations of a run, bundled. -/
namespace Go.AM
open Go
set_option linter.unusedVariables false
theorem K7_ :
  (((type_of% @Go.AM.slc_hi ∧ type_of% @Go.AM.slc_lo) ∧ (type_of% @Go.AM.slc_both ∧ type_of% @Go.AM.slG_nil)) ∧ ((type_of% @Go.AM.slG_under ∧ type_of% @Go.AM.drop_kc17) ∧ (type_of% @Go.AM.take_kc17 ∧ (type_of% @Go.AM.drop_kc18 ∧ type_of% @Go.AM.take_kc18)))) :=
  ⟨⟨⟨@Go.AM.slc_hi, @Go.AM.slc_lo⟩, ⟨@Go.AM.slc_both, @Go.AM.slG_nil⟩⟩, ⟨⟨@Go.AM.slG_under, @Go.AM.drop_kc17⟩, ⟨@Go.AM.take_kc17, ⟨@Go.AM.drop_kc18, @Go.AM.take_kc18⟩⟩⟩⟩
end Go.AM
/-! Bytes, numbers. -/
namespace Go.AM
open Go
set_option linter.unusedVariables false
set_option maxRecDepth 20000
set_option linter.unusedSimpArgs false

abbrev eB : ET := ⟨1, false, 1, .s (.int .u8 0)⟩
theorem or128 {n : Nat} (h : n < 256) : IntKind.u8.wrap ((BitVec.ofInt IntKind.u8.bits (n : Int) ||| BitVec.ofInt IntKind.u8.bits 128).toNat : Int) = ((n % 128 + 128 : Nat) : Int) := by
  have : ∀ m : Fin 256, IntKind.u8.wrap ((BitVec.ofInt IntKind.u8.bits (m.val : Int) ||| BitVec.ofInt IntKind.u8.bits 128).toNat : Int) = ((m.val % 128 + 128 : Nat) : Int) := by decide +kernel
  exact this ⟨n, h⟩
theorem wrap_u8n (n : Nat) : IntKind.u8.wrap (n : Int) = ((n % 256 : Nat) : Int) := by
  unfold IntKind.wrap
  simp [IntKind.signed, IntKind.bits]
theorem wrap_u64n {n : Nat} (h : n < 18446744073709551616) : IntKind.u64.wrap (n : Int) = (n : Int) := by
  unfold IntKind.wrap
  simp [IntKind.signed, IntKind.bits]
  omega
theorem fdiv_n (n m : Nat) : (n : Int).fdiv (m : Int) = ((n / m : Nat) : Int) := by
  rw [Int.fdiv_eq_ediv_of_nonneg _ (by omega)]; rfl
theorem u8_of {n : Nat} (h : n < 256) : AV.s (.int .u8 (n : Int)) = u8 (UInt8.ofNat n) := by
  unfold u8; simp; omega
theorem bs_app (a b : List UInt8) : bs a ++ bs b = bs (a ++ b) := by simp [bs]
theorem bs_one (a : UInt8) : [u8 a] = bs [a] := rfl
theorem bs_low {n : Nat} (l : List UInt8) : AV.under.go n (bs l) = true := under_bs ..
def BA (a : AV) (b : List UInt8) : Prop := (∃ fl, a = .list fl 1 (bs b)) ∨ a = .s .nilS ∧ b = []
theorem BA.wk {a : AV} {b : List UInt8} (h : BA a b) {as cs : List AV} (t : WkF as cs) : WkF (a :: as) (.list .sh 1 (bs b) :: cs) := by
  rcases h with ⟨fl, rfl⟩ | ⟨rfl, rfl⟩
  · cases fl <;> first | exact .same t | exact .wk (.same .nil) t | exact .wk (.full .nil) t | exact .uniq t | exact .full t
  · exact .nilS (by omega) t
theorem BA.l {fl : Fl} {b : List UInt8} : BA (.list fl 1 (bs b)) b := .inl ⟨fl, rfl⟩
theorem BA.n : BA (.s .nilS) [] := .inr ⟨rfl, rfl⟩

/-- A number's bytes. -/
def putN (v : Nat) : List UInt8 := if h : v < 128 then [UInt8.ofNat v] else UInt8.ofNat (v % 128 + 128) :: putN (v / 128)
termination_by v
decreasing_by omega
theorem putN_lt {v : Nat} (h : v < 128) : putN v = [UInt8.ofNat v] := by rw [putN, dif_pos h]
theorem putN_ge {v : Nat} (h : ¬ v < 128) : putN v = UInt8.ofNat (v % 128 + 128) :: putN (v / 128) := by rw [putN, dif_neg h]
theorem putN_len : ∀ (n v : Nat), v < 128 ^ n → (putN v).length ≤ n ∨ n = 0
  | 0, v, _ => .inr rfl
  | n + 1, v, h => by
    left
    by_cases h1 : v < 128
    · rw [putN_lt h1]; simp
    · rw [putN_ge h1, List.length_cons]
      rcases putN_len n (v / 128) (by rw [Nat.pow_succ] at h; omega) with h2 | h2
      · omega
      · subst h2; simp at h; omega
theorem putN_len10 {v : Nat} (h : v < 18446744073709551616) : (putN v).length ≤ 10 := by
  rcases putN_len 10 v (by omega) with h | h
  · exact h
  · omega

theorem app_b1 {b : List UInt8} {fl : Fl} {c : UInt8} {σ : St} (h : Own1 fl (bs b)) (hb : b.length ≤ 1000000000000) : appendL eB false (.list fl 1 (bs b)) (.list .full 1 [u8 c]) σ = some (.list .uniq 1 (bs (b ++ [c])), σ) := by
  have he : elemsL eB (.list .full 1 [u8 c]) σ = some [u8 c] := by simp [elemsL]
  have hl : (bs b).length = b.length := bs_length b
  rcases h with rfl | ⟨rfl, h⟩
  · have hb' : 2 * ((bs b).length + 1) * 1 ≤ 2 ^ 48 := by rw [hl]; omega
    simp only [appendL, srcL, AV.isSlice, he, AV.under.go, under_u8, appItems, Option.bind_some, if_true, ne_eq, not_true_eq_false, if_false, List.isEmpty_cons, Bool.false_eq_true, List.length_cons, List.length_nil, Nat.zero_add, hb', Bool.and_self]
    rw [bs_one, bs_app]
  · have hb0 : b = [] := by simpa [bs] using h
    subst hb0
    simp [appendL, srcL, AV.isSlice, he, AV.under.go, under_u8, appItems, bs]
theorem app_bs {b d : List UInt8} {fl fl2 : Fl} (h : Own1 fl (bs b)) (hb : b.length + d.length ≤ 1000000000000) : ∃ fl', Own1 fl' (bs (b ++ d)) ∧ ∀ σ : St, appendL eB false (.list fl 1 (bs b)) (.list fl2 1 (bs d)) σ = some (.list fl' 1 (bs (b ++ d)), σ) := by
  have := app_join (e := eB) (fl2 := fl2) (items := bs d) h (bs_low d) (by simp only [bs_length]; omega)
  rwa [bs_app] at this
theorem app_bu {b d : List UInt8} {fl2 : Fl} {σ : St} (hb : b.length + d.length ≤ 1000000000000) : appendL eB false (.list .uniq 1 (bs b)) (.list fl2 1 (bs d)) σ = some (.list .uniq 1 (bs (b ++ d)), σ) := by
  obtain ⟨fl', h1, h2⟩ := app_bs (b := b) (d := d) (fl := .uniq) (fl2 := fl2) (.inl rfl) hb
  rw [h2]
  cases d with
  | nil =>
    have := h2 σ
    have he : elemsL eB (.list fl2 1 (bs [])) σ = some [] := by simp [elemsL, bs]
    simp only [appendL, srcL, AV.isSlice, he, AV.under.go, appItems, if_true, Option.bind_some, ne_eq, not_true_eq_false, if_false, List.isEmpty_nil, Option.some.injEq, Prod.mk.injEq, AV.list.injEq, true_and, and_true] at this
    rw [← this.1]
  | cons x d =>
    rcases h1 with rfl | ⟨rfl, h⟩
    · rfl
    · simp [bs] at h
theorem app_bstr {b d : List UInt8} {σ : St} (hb : b.length + d.length ≤ 1000000000000) : appendL eB true (.list .uniq 1 (bs b)) (.s (.str d)) σ = some (.list .uniq 1 (bs (b ++ d)), σ) := by
  have h := app_bu (b := b) (d := d) (fl2 := .sh) (σ := σ) hb
  have he : elemsL eB (.list .sh 1 (bs d)) σ = some (bs d) := by simp [elemsL]
  have he2 : elemsL eB (.s (.str d)) σ = some (bs d) := rfl
  rw [← h]
  unfold appendL
  simp only [srcL, AV.isStr, AV.isSlice, if_true, he, he2]
end Go.AM
namespace Go.AM
open Go
set_option maxRecDepth 20000
set_option linter.unusedSimpArgs false
set_option linter.unusedVariables false

theorem tdiv7 (v : Nat) : (v : Int).tdiv 128 = ((v / 128 : Nat) : Int) := rfl
theorem tmod7 (v : Nat) : (v : Int).tmod 128 = ((v % 128 : Nat) : Int) := rfl

def PutS (C : CallW) (f : FuncId) : Prop := ∀ (a : AV) (b : List UInt8) (v : Nat) S H (K : AV → St → Prop), BA a b → b.length ≤ 1000000000 → v < 18446744073709551616 → K (.list .uniq 1 (bs (b ++ putN v))) ⟨S, H⟩ → C (.fn f) [a, .s (.int .u64 v)] ⟨S, H⟩ K

set_option maxHeartbeats 4000000 in
theorem bits_Put_spec {C : CallW} (hC : LeC C C) (P : Program) : ∀ (b : List UInt8) (v : Nat) S H (K : AV → St → Prop), b.length ≤ 1000000000 → v < 18446744073709551616 → K (.list .uniq 1 (bs (b ++ putN v))) ⟨S, H⟩ → runL C P C_bits_Put [.list .sh 1 (bs b), .s (.int .u64 v)] ⟨S, H⟩ K := by
  intro b v S H K hb hv hK
  obtain ⟨fl0, o0, a0⟩ := app_bs (b := []) (d := b) (fl := .full) (fl2 := .sh) (.inr ⟨rfl, rfl⟩) (by simp; omega)
  rw [List.nil_append] at o0 a0
  simp only [bs, List.map_nil] at a0
  change ∀ σ : St, appendL eB false (.list .full 1 []) (.list .sh 1 (bs b)) σ = some (.list fl0 1 (bs b), σ) at a0
  simp only [eB] at a0
  simp only [C_bits_Put, RUN_, U_bits_Put, FR_, simprocAttr, if_true, if_false, ite_true, ite_false, ne_eq, eq_self, OPK_, KEY_, WR_, CHK_, Nat.reduceBEq, K4_, K5_, K6_, K7_, a0]
  refine loop_rule hC (α := Nat × List UInt8 × Fl) (fun a => a.1) (fun a => [.undef, .s (.int .u64 a.1), .undef, .undef, .undef, .list a.2.2 1 (bs a.2.1), .undef, .undef, .undef, .undef, .undef, .undef, .undef, .undef, .undef, .undef, .undef, .undef, .undef, .undef, .undef, .undef, .undef, .undef]) (fun _ => S) (fun _ => H) (fun a => Own1 a.2.2 (bs a.2.1) ∧ a.1 < 18446744073709551616 ∧ a.2.1 ++ putN a.1 = b ++ putN v ∧ a.2.1.length ≤ 1000000010) (v, b, fl0) ⟨o0, hv, rfl, by dsimp only; omega⟩ rfl (by simp) rfl (fun a _ => by simp [AV.under, AV.under.go]) ?_
  rintro ⟨w, cur, fl⟩ ⟨ho, hw, he, hl⟩ ih
  dsimp only at ho hw he hl ih ⊢
  by_cases h : w < 128
  · have h' : ¬ ((127 : Int) < (w : Int)) := by omega
    have hc : IntKind.u8.wrap (w : Int) = (w : Int) := by rw [wrap_u8n]; omega
    have hu : AV.s (.int .u8 (w : Int)) = u8 (UInt8.ofNat w) := u8_of (by omega)
    have ha := app_b1 (c := UInt8.ofNat w) (σ := ⟨S, H⟩) ho (by omega)
    simp only [eB, ← hu] at ha
    rw [putN_lt h] at he
    rw [← he] at hK
    simp only [RUN_, U_bits_Put, FR_, simprocAttr, if_true, if_false, ite_true, ite_false, ne_eq, eq_self, OPK_, KEY_, WR_, CHK_, Nat.reduceBEq, K4_, K5_, K6_, K7_, convL, h', hc, ha]
    exact hK
  · have h' : ((127 : Int) < (w : Int)) := by omega
    have hc := wrap_u8n w
    have ho8 := or128 (n := w % 256) (by omega)
    have hu : AV.s (.int .u8 ((w % 256 % 128 + 128 : Nat) : Int)) = u8 (UInt8.ofNat (w % 128 + 128)) := by rw [u8_of (by omega)]; congr 1; congr 1; omega
    have ha := app_b1 (c := UInt8.ofNat (w % 128 + 128)) (σ := ⟨S, H⟩) ho (by omega)
    simp only [eB, ← hu] at ha
    have hs : (w : Int).fdiv (2 ^ min 7 IntKind.u64.bits) = ((w / 128 : Nat) : Int) := fdiv_n w 128
    have hn : ¬ ((7 : Int) < 0) := by omega
    have h7 : ((7 : Int).toNat) = 7 := rfl
    rw [putN_ge h] at he
    have hll := putN_len10 hv
    have hl2 : (cur ++ [UInt8.ofNat (w % 128 + 128)]).length ≤ 1000000010 := by
      have := congrArg List.length he
      simp only [List.length_append, List.length_cons] at this ⊢
      simp; omega
    simp only [RUN_, U_bits_Put, FR_, simprocAttr, if_true, if_false, ite_true, ite_false, ne_eq, eq_self, OPK_, KEY_, WR_, CHK_, Nat.reduceBEq, K4_, K5_, K6_, K7_, convL, h', hc, ho8, ha, hs, hn, h7]
    exact ih (w / 128, _, _) _ _ _ (by dsimp only; omega) ⟨.inl rfl, by dsimp only; omega, by dsimp only; rw [← he]; simp, hl2⟩ rfl (by simp) rfl

theorem rec_num_spec {C : CallW} (P : Program) {c : Nat → FuncId} (h0 : PutS C (c 0)) : ∀ (b : List UInt8) (v : Nat) S H (K : AV → St → Prop), b.length ≤ 1000000000 → v < 9223372036854775808 → K (.list .uniq 1 (bs (b ++ putN v))) ⟨S, H⟩ → runL C P (C_rec_num c) [.list .sh 1 (bs b), .s (.int .i64 v)] ⟨S, H⟩ K := by
  intro b v S H K hb hv hK
  have hc := wrap_u64n (n := v) (by omega)
  simp only [C_rec_num, RUN_, U_rec_num, FR_, simprocAttr, if_true, if_false, ite_true, ite_false, ne_eq, eq_self, OPK_, KEY_, WR_, CHK_, Nat.reduceBEq, K4_, K5_, K6_, K7_, convL, hc]
  refine h0 _ b v _ _ _ .l hb (by omega) ?_
  simp only [RUN_, U_rec_num, FR_, simprocAttr, if_true, if_false, ite_true, ite_false, ne_eq, eq_self, OPK_, KEY_, WR_, CHK_, Nat.reduceBEq, K4_, K5_, K6_, K7_]
  exact hK
def NumS (C : CallW) (f : FuncId) : Prop := ∀ (a : AV) (b : List UInt8) (v : Nat) S H (K : AV → St → Prop), BA a b → b.length ≤ 1000000000 → v < 9223372036854775808 → K (.list .uniq 1 (bs (b ++ putN v))) ⟨S, H⟩ → C (.fn f) [a, .s (.int .i64 v)] ⟨S, H⟩ K

def putFl (v : Nat) : Fl := if v < 128 then .full else .own
def PutRS (C : CallW) (f : FuncId) (v : Nat) : Prop := ∀ S H (K : AV → St → Prop), K (.list .sh 1 (bs (putN v))) ⟨S, H⟩ → C (.fn f) [.s (.int .u64 v)] ⟨S, H⟩ K
set_option maxHeartbeats 4000000 in
theorem ref1_Put_spec {C : CallW} (P : Program) {c : Nat → FuncId} (v : Nat) (h0 : ∀ w < v, PutRS C (c 0) w) : ∀ S H (K : AV → St → Prop), v < 18446744073709551616 → K (.list (putFl v) 1 (bs (putN v))) ⟨S, H⟩ → runL C P (C_hourglassref1_Put c) [.s (.int .u64 v)] ⟨S, H⟩ K := by
  intro S H K hv hK
  by_cases h : v < 128
  · have h' : ((v : Int) < 128) := by omega
    have hc : IntKind.u8.wrap (v : Int) = (v : Int) := by rw [wrap_u8n]; omega
    have hu : AV.s (.int .u8 (v : Int)) = u8 (UInt8.ofNat v) := u8_of (by omega)
    rw [putFl, if_pos h, putN_lt h] at hK
    simp only [C_hourglassref1_Put, RUN_, U_hourglassref1_Put, FR_, simprocAttr, if_true, if_false, ite_true, ite_false, ne_eq, eq_self, OPK_, KEY_, WR_, CHK_, Nat.reduceBEq, K4_, K5_, K6_, K7_, convL, h', hc]
    rw [hu]
    exact hK
  · have h' : ¬ ((v : Int) < 128) := by omega
    have hc : IntKind.u8.wrap ((v % 128 : Nat) : Int) = ((v % 128 : Nat) : Int) := by rw [wrap_u8n]; omega
    have hc2 : IntKind.u8.wrap (((v % 128 : Nat) : Int) + 128) = ((v % 128 + 128 : Nat) : Int) := by
      rw [show ((v % 128 : Nat) : Int) + 128 = ((v % 128 + 128 : Nat) : Int) by omega, wrap_u8n]; omega
    have hu : AV.s (.int .u8 ((v % 128 + 128 : Nat) : Int)) = u8 (UInt8.ofNat (v % 128 + 128)) := u8_of (by omega)
    have hd : IntKind.u64.wrap ((v / 128 : Nat) : Int) = ((v / 128 : Nat) : Int) := wrap_u64n (by omega)
    have hd7 := tdiv7 v
    have hm7 := tmod7 v
    have hz : ¬ ((128 : Int) = 0) := by omega
    have ha : ∀ fl (σ : St), appendL eB false (.list .full 1 [u8 (UInt8.ofNat (v % 128 + 128))]) (.list fl 1 (bs (putN (v / 128)))) σ = some (.list .own 1 (bs (putN v)), σ) := by
      intro fl σ
      have hl := putN_len10 (v := v / 128) (by omega)
      have hne : putN (v / 128) ≠ [] := by
        by_cases h : v / 128 < 128
        · rw [putN_lt h]; simp
        · rw [putN_ge h]; simp
      have he : elemsL eB (.list fl 1 (bs (putN (v / 128)))) σ = some (bs (putN (v / 128))) := by simp [elemsL]
      have hee : (bs (putN (v / 128))).isEmpty = false := by cases hp : putN (v / 128) with
        | nil => exact absurd hp hne
        | cons x l => rfl
      rw [putN_ge h]
      have hb : 2 * (0 + 1 + (bs (putN (v / 128))).length) * 1 ≤ 2 ^ 48 := by rw [bs_length]; omega
      unfold appendL
      simp only [srcL, AV.isSlice, if_true, he, Option.bind_some, bs_low, appItems, ne_eq, not_true_eq_false, if_false, hee, Bool.false_eq_true, List.isEmpty_cons, List.length_cons, List.length_nil, hb]
      rfl
    simp only [eB, ← hu] at ha
    have hf : putFl v = .own := by rw [putFl, if_neg h]
    rw [hf] at hK
    simp only [C_hourglassref1_Put, RUN_, U_hourglassref1_Put, FR_, simprocAttr, if_true, if_false, ite_true, ite_false, ne_eq, eq_self, OPK_, KEY_, WR_, CHK_, Nat.reduceBEq, K4_, K5_, K6_, K7_, convL, h', hd7, hm7, hz, hc, hc2, hd]
    refine h0 (v / 128) (by omega) _ _ _ ?_
    simp only [RUN_, U_hourglassref1_Put, FR_, simprocAttr, if_true, if_false, ite_true, ite_false, ne_eq, eq_self, OPK_, KEY_, WR_, CHK_, Nat.reduceBEq, K4_, K5_, K6_, K7_, ha]
    exact hK
theorem ref14_Num_spec {C : CallW} (P : Program) {c : Nat → FuncId} (h0 : ∀ v, v < 18446744073709551616 → PutRS C (c 0) v) : ∀ (b : List UInt8) (v : Nat) S H (K : AV → St → Prop), b.length ≤ 1000000000 → v < 18446744073709551616 → K (.list .uniq 1 (bs (b ++ putN v))) ⟨S, H⟩ → runL C P (C_hourglassref14_Num c) [.list .sh 1 (bs b), .s (.int .u64 v)] ⟨S, H⟩ K := by
  intro b v S H K hb hv hK
  obtain ⟨fl0, o0, a0⟩ := app_bs (b := []) (d := b) (fl := .full) (fl2 := .sh) (.inr ⟨rfl, rfl⟩) (by simp; omega)
  rw [List.nil_append] at o0 a0
  simp only [bs, List.map_nil] at a0
  change ∀ σ : St, appendL eB false (.list .full 1 []) (.list .sh 1 (bs b)) σ = some (.list fl0 1 (bs b), σ) at a0
  have hl := putN_len10 hv
  obtain ⟨fl1, o1, a1⟩ := app_bs (b := b) (d := putN v) (fl2 := .sh) o0 (by omega)
  have hf : fl1 = .uniq := by
    rcases o1 with h | ⟨_, h⟩
    · exact h
    · have := congrArg List.length h
      rw [bs_length, List.length_append] at this
      by_cases h2 : v < 128
      · rw [putN_lt h2] at this; simp at this
      · rw [putN_ge h2] at this; simp at this
  subst hf
  simp only [eB] at a0 a1
  simp only [C_hourglassref14_Num, RUN_, U_hourglassref14_Num, FR_, simprocAttr, if_true, if_false, ite_true, ite_false, ne_eq, eq_self, OPK_, KEY_, WR_, CHK_, Nat.reduceBEq, K4_, K5_, K6_, K7_, a0]
  refine h0 v hv _ _ _ ?_
  simp only [RUN_, U_hourglassref14_Num, FR_, simprocAttr, if_true, if_false, ite_true, ite_false, ne_eq, eq_self, OPK_, KEY_, WR_, CHK_, Nat.reduceBEq, K4_, K5_, K6_, K7_, a1]
  exact hK
theorem ref14_flag_spec {C : CallW} (P : Program) : ∀ (v : Bool) S H (K : AV → St → Prop), K (u8 (if v then 1 else 0)) ⟨S, H⟩ → runL C P C_hourglassref14_flag [.s (.bool v)] ⟨S, H⟩ K := by
  intro v S H K hK
  cases v with
  | true => simp only [C_hourglassref14_flag, RUN_, U_hourglassref14_flag, FR_, simprocAttr, if_true, if_false, ite_true, ite_false, ne_eq, eq_self, OPK_, KEY_, WR_, CHK_, Nat.reduceBEq, K4_, K5_, K6_, K7_]; exact hK
  | false => simp only [C_hourglassref14_flag, RUN_, U_hourglassref14_flag, FR_, simprocAttr, if_true, if_false, ite_true, ite_false, ne_eq, eq_self, OPK_, KEY_, WR_, CHK_, Nat.reduceBEq, K4_, K5_, K6_, K7_]; exact hK
theorem ref14_Txt_spec {C : CallW} (P : Program) {c : Nat → FuncId} (h0 : PutS C (c 0)) : ∀ (b s : List UInt8) S H (K : AV → St → Prop), b.length ≤ 1000000000 → s.length ≤ 1000000000 → K (.list .uniq 1 (bs (b ++ (putN s.length ++ s)))) ⟨S, H⟩ → runL C P (C_hourglassref14_Txt c) [.list .sh 1 (bs b), .s (.str s)] ⟨S, H⟩ K := by
  intro b s S H K hb hs hK
  have hc := wrap_u64n (n := s.length) (by omega)
  simp only [C_hourglassref14_Txt, RUN_, U_hourglassref14_Txt, FR_, simprocAttr, if_true, if_false, ite_true, ite_false, ne_eq, eq_self, OPK_, KEY_, WR_, CHK_, Nat.reduceBEq, K4_, K5_, K6_, K7_, convL, hc]
  refine h0 _ b s.length _ _ _ .l hb (by omega) ?_
  have hl := putN_len10 (v := s.length) (by omega)
  have ha := app_bstr (b := b ++ putN s.length) (d := s) (σ := ⟨S, H⟩) (by simp; omega)
  simp only [eB, List.append_assoc] at ha
  simp only [RUN_, U_hourglassref14_Txt, FR_, simprocAttr, if_true, if_false, ite_true, ite_false, ne_eq, eq_self, OPK_, KEY_, WR_, CHK_, Nat.reduceBEq, K4_, K5_, K6_, K7_, ha]
  exact hK
end Go.AM
/-! Stamps: what the functions of stamp and of hourglassref6 answer. -/
namespace Go.AM
open Go
set_option maxRecDepth 20000
set_option linter.unusedSimpArgs false
set_option linter.unusedVariables false

theorem isNaN_spec {C : CallW} (P : Program) (x : Int) : ∀ S H (K : AV → St → Prop), K (.bool false) ⟨S, H⟩ → runL C P C_cmp_isNaN_int64 [.s (.int .i64 x)] ⟨S, H⟩ K := by
  intro S H K hK
  simp only [C_cmp_isNaN_int64, RUN_, U_cmp_isNaN_int64, FR_, simprocAttr, if_true, if_false, ite_true, ite_false, ne_eq, eq_self, OPK_, KEY_]
  exact hK
theorem isNaN8_spec {C : CallW} (P : Program) (x : UInt8) : ∀ S H (K : AV → St → Prop), K (.bool false) ⟨S, H⟩ → runL C P C_cmp_isNaN_uint8 [u8 x] ⟨S, H⟩ K := by
  intro S H K hK
  simp only [u8, C_cmp_isNaN_uint8, RUN_, U_cmp_isNaN_uint8, FR_, simprocAttr, if_true, if_false, ite_true, ite_false, ne_eq, eq_self, OPK_, KEY_]
  exact hK
def cmpI (x y : Int) : Int := if x < y then -1 else if y < x then 1 else 0
def cmpU (x y : UInt8) : Int := if x < y then -1 else if y < x then 1 else 0
theorem Compare_spec {C : CallW} (P : Program) {c : Nat → FuncId} (h : ∀ x : Int, FnS C (c 0) [.s (.int .i64 x)] (.bool false)) (x y : Int) : ∀ S H (K : AV → St → Prop), K (.i (cmpI x y)) ⟨S, H⟩ → runL C P (C_cmp_Compare_int64 c) [.s (.int .i64 x), .s (.int .i64 y)] ⟨S, H⟩ K := by
  intro S H K hK
  simp only [C_cmp_Compare_int64, RUN_, U_cmp_Compare_int64, FR_, simprocAttr, if_true, if_false, ite_true, ite_false, ne_eq, eq_self, OPK_, KEY_]
  refine h _ _ _ _ ?_
  simp only [RUN_, U_cmp_Compare_int64, FR_, simprocAttr, if_true, if_false, ite_true, ite_false, ne_eq, eq_self, OPK_, KEY_]
  refine h _ _ _ _ ?_
  unfold cmpI at hK
  by_cases h1 : x < y
  · rw [if_pos h1] at hK
    simp only [RUN_, U_cmp_Compare_int64, FR_, simprocAttr, if_true, if_false, ite_true, ite_false, ne_eq, eq_self, OPK_, KEY_, h1]
    exact hK
  · rw [if_neg h1] at hK
    by_cases h2 : y < x
    · rw [if_pos h2] at hK
      simp only [RUN_, U_cmp_Compare_int64, FR_, simprocAttr, if_true, if_false, ite_true, ite_false, ne_eq, eq_self, OPK_, KEY_, h1, h2]
      exact hK
    · rw [if_neg h2] at hK
      simp only [RUN_, U_cmp_Compare_int64, FR_, simprocAttr, if_true, if_false, ite_true, ite_false, ne_eq, eq_self, OPK_, KEY_, h1, h2]
      exact hK
theorem Compare8_spec {C : CallW} (P : Program) {c : Nat → FuncId} (h : ∀ x : UInt8, FnS C (c 0) [u8 x] (.bool false)) (x y : UInt8) : ∀ S H (K : AV → St → Prop), K (.i (cmpU x y)) ⟨S, H⟩ → runL C P (C_cmp_Compare_uint8 c) [u8 x, u8 y] ⟨S, H⟩ K := by
  intro S H K hK
  have h' : ∀ (x : UInt8) S H (K : AV → St → Prop), K (.bool false) ⟨S, H⟩ → C (.fn (c 0)) [.s (.int .u8 x.toNat)] ⟨S, H⟩ K := h
  simp only [u8, C_cmp_Compare_uint8, RUN_, U_cmp_Compare_uint8, FR_, simprocAttr, if_true, if_false, ite_true, ite_false, ne_eq, eq_self, OPK_, KEY_]
  refine h' _ _ _ _ ?_
  simp only [RUN_, U_cmp_Compare_uint8, FR_, simprocAttr, if_true, if_false, ite_true, ite_false, ne_eq, eq_self, OPK_, KEY_]
  refine h' _ _ _ _ ?_
  unfold cmpU at hK
  by_cases h1 : x < y
  · rw [if_pos h1] at hK
    simp only [RUN_, U_cmp_Compare_uint8, FR_, simprocAttr, if_true, if_false, ite_true, ite_false, ne_eq, eq_self, OPK_, KEY_, u8_lt', h1]
    exact hK
  · rw [if_neg h1] at hK
    by_cases h2 : y < x
    · rw [if_pos h2] at hK
      simp only [RUN_, U_cmp_Compare_uint8, FR_, simprocAttr, if_true, if_false, ite_true, ite_false, ne_eq, eq_self, OPK_, KEY_, u8_lt', h1, h2]
      exact hK
    · rw [if_neg h2] at hK
      simp only [RUN_, U_cmp_Compare_uint8, FR_, simprocAttr, if_true, if_false, ite_true, ite_false, ne_eq, eq_self, OPK_, KEY_, u8_lt', h1, h2]
      exact hK
theorem Or_spec {C : CallW} (hC : LeC C C) (P : Program) (x y : Int) : ∀ S H (K : AV → St → Prop), K (.i (if x ≠ 0 then x else y)) ⟨S, H⟩ → runL C P C_cmp_Or_int [.list .sh 1 [.i x, .i y]] ⟨S, H⟩ K := by
  intro S H K hK
  have go : ∀ {n0 m b is fr K}, underL n0 (keep m fr) = true → runC C P false b (.lp m b n0 :: is) (keep m fr) ⟨S.take n0, H⟩ K → runLp C P false m b n0 is fr ⟨S, H⟩ K := fun hu h => loop_step hC rfl hu h
  have w1 : IntKind.i64.wrap 1 = 1 := by decide
  have w2 : IntKind.i64.wrap 2 = 2 := by decide
  simp only [C_cmp_Or_int, RUN_, U_cmp_Or_int, FR_, simprocAttr, if_true, if_false, ite_true, ite_false, ne_eq, eq_self, OPK_, KEY_]
  refine go (by simp [keep, AV.under, AV.under.go]) ?_
  simp only [keep, List.take_length]
  by_cases h1 : x = 0
  · have h1' : (x = 0) = True := eq_true h1
    rw [if_neg (by simpa using h1)] at hK
    simp only [RUN_, U_cmp_Or_int, FR_, simprocAttr, if_true, if_false, ite_true, ite_false, ne_eq, eq_self, OPK_, KEY_, indexAddrL, Int.toNat_zero, h1']
    refine go (by simp [keep, AV.under, AV.under.go]) ?_
    simp only [keep, List.take_length]
    by_cases h2 : y = 0
    · have h2' : (y = 0) = True := eq_true h2
      simp only [RUN_, U_cmp_Or_int, FR_, simprocAttr, if_true, if_false, ite_true, ite_false, ne_eq, eq_self, OPK_, KEY_, indexAddrL, w1, Int.toNat_one, h2']
      refine go (by simp [keep, AV.under, AV.under.go]) ?_
      simp only [keep, List.take_length]
      simp only [RUN_, U_cmp_Or_int, FR_, simprocAttr, if_true, if_false, ite_true, ite_false, ne_eq, eq_self, OPK_, KEY_, w2]
      rw [h2] at hK
      exact hK
    · simp only [RUN_, U_cmp_Or_int, FR_, simprocAttr, if_true, if_false, ite_true, ite_false, ne_eq, eq_self, OPK_, KEY_, indexAddrL, w1, Int.toNat_one, h2]
      exact hK
  · rw [if_pos h1] at hK
    simp only [RUN_, U_cmp_Or_int, FR_, simprocAttr, if_true, if_false, ite_true, ite_false, ne_eq, eq_self, OPK_, KEY_, indexAddrL, Int.toNat_zero, h1]
    exact hK
theorem cmpS_or (a b : Stp) : (if cmpI a.t b.t ≠ 0 then cmpI a.t b.t else cmpU a.n b.n) = cmpS a b := by
  unfold cmpI cmpU cmpS
  by_cases h1 : a.t < b.t
  · simp [h1]
  · by_cases h2 : b.t < a.t
    · simp [h1, h2]
    · simp [h1, h2]
theorem stamp_Cmp_spec {C : CallW} (hC : LeC C C) (hW : WkC C) (P : Program) {c : Nat → FuncId} (h0 : ∀ x y : Int, FnS C (c 0) [.s (.int .i64 x), .s (.int .i64 y)] (.i (cmpI x y))) (h1 : ∀ x y : UInt8, FnS C (c 1) [u8 x, u8 y] (.i (cmpU x y)))
    (h2 : ∀ x y : Int, FnS C (c 2) [.list .sh 1 [.i x, .i y]] (.i (if x ≠ 0 then x else y))) (a b : Stp) : ∀ S H (K : AV → St → Prop), K (.i (cmpS a b)) ⟨S, H⟩ → runL C P (C_stamp_Cmp c) [.agg (stc a), .agg (stc b)] ⟨S, H⟩ K := by
  intro S H K hK
  simp only [stc, C_stamp_Cmp, RUN_, U_stamp_Cmp, FR_, simprocAttr, if_true, if_false, ite_true, ite_false, ne_eq, eq_self, OPK_, KEY_, CHK_, Nat.reduceBEq, K5_]
  refine h0 _ _ _ _ _ ?_
  simp only [RUN_, U_stamp_Cmp, FR_, simprocAttr, if_true, if_false, ite_true, ite_false, ne_eq, eq_self, OPK_, KEY_, CHK_, Nat.reduceBEq, K5_]
  refine h1 _ _ _ _ _ ?_
  simp only [RUN_, U_stamp_Cmp, FR_, simprocAttr, if_true, if_false, ite_true, ite_false, ne_eq, eq_self, OPK_, KEY_, CHK_, Nat.reduceBEq, K5_, List.isEmpty_cons]
  refine hW _ _ [.list .sh 1 [.i _, .i _]] _ _ (.full .nil) ?_
  refine h2 _ _ _ _ _ ?_
  rw [cmpS_or]
  simp only [RUN_, U_stamp_Cmp, FR_, simprocAttr, if_true, if_false, ite_true, ite_false, ne_eq, eq_self, OPK_, KEY_, CHK_, Nat.reduceBEq, K5_]
  exact hK
end Go.AM
