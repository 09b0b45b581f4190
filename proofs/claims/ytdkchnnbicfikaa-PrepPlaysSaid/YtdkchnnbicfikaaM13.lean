import Derived.Test.YtdkchnnbicfikaaM12
import Derived.Test.YtdkchnnbicfikaaM10
import Derived.Test.YtdkchnnbicfikaaM7
import Derived.OpenShut
import Derived.Carry
import Derived.ChangeOld
set_option linter.unusedSimpArgs false
set_option linter.unusedVariables false
namespace Go.AM
open Go
set_option maxRecDepth 20000
def y12a1:LCode:=(.sq [(zs 28 (.mv false (.t 0))),(zs 29 (.mv false (.t 6))),(zs 30 (.ixa (.sl 6) (.t 28) (.t 29))),(zs 31 (.loadA 6 (.t 30))),(zn (.store 6 (.t 5) (.t 31)))])
def y12a2:LCode:=(.sq [(zs 18 (.mv false (.t 6))),(zs 19 (.bin .add .sc (.t 18) (zi 1))),(zs 6 (.mv true (.t 19)))])
def y12a3:LCode:=(.seq (.block 1 (.seq (.tree (.rd (zs 20 (.mv false (.t 1))) 0 false (.rd (zs 21 (.mv false (.t 0))) 1 false (.rd (zs 22 (.mv false (.t 6))) 2 false (.rd (zs 23 (.ixa (.sl 6) (.t 21) (.t 22))) 3 false (.rd (zs 24 (.loadA 6 (.t 23))) 4 false (.rd (zs 25 (.loadA 6 (.t 5))) 5 false (.mv (zs 26 (.call (.t 20) [(.t 24),(.t 25)])) [0,1,2,3,4,5] (.rd (zs 27 (.bin .lss .sc (.t 26) (zi 0))) 7 false .done) .stop)))))))) (.cond (.t 27) y12a1 .skip))) y12a2)
def y12a4:LCode:=(.seq (.seq (.sq [(zs 14 (.mv false (.t 6))),(zs 15 (.mv false (.t 0))),(zs 16 (.len .sl (.t 15))),(zs 17 (.bin .lss .sc (.t 14) (.t 16)))]) (.cond (.t 17) .skip (.exit 0))) y12a3)
def y12a5:LCode:=(.block 0 (.loop (zm false [0,2,2,3,26]) y12a4))
def y12a6:LCode:=(.seq (.seq (.sq [(zs 6 (.mv true (zi 1)))]) y12a5) (.seq (.sq [(zs 32 (.loadA 6 (.t 5))),(zn (.store 6 (.t 4) (.t 32)))]) .ret))
def y12a7:LCode:=(.seq (.sq [(zs 11 (.mv false (.t 0))),(zs 12 (.ixa (.sl 6) (.t 11) (zi 0))),(zs 13 (.loadA 6 (.t 12))),(zs 5 (.alloc false [(.s (.int .i64 0)),(.s (.int .i64 0)),(.s (.int .u8 0)),(.s (.int .i64 0)),(.s (.int .u8 0)),(.s .nilS)])),(zn (.store 6 (.t 5) (.t 13)))]) y12a6)
def y12a8:LCode:=(.seq (.seq (.sq [(zs 7 (.mv false (.t 0))),(zs 8 (.len .sl (.t 7))),(zs 9 (.bin .lss .sc (.t 8) (zi 1)))]) (.cond (.t 9) .bad .skip)) y12a7)
def U_slices_MinFunc_Entry:=PLift.up (zc (zc (zc (@unfC _ _ (y12a1.eq_1)) (@unfC _ _ (y12a2.eq_1))) (zc (@unfC _ _ (y12a3.eq_1)) (@unfC _ _ (y12a4.eq_1)))) (zc (zc (@unfC _ _ (y12a5.eq_1)) (@unfC _ _ (y12a6.eq_1))) (zc (@unfC _ _ (y12a7.eq_1)) (@unfC _ _ (y12a8.eq_1)))))
def C_slices_MinFunc_Entry:LFn:=⟨33,[.many 4 6],(.seq (.sq [(zs 4 (.alloc false [(.s (.int .i64 0)),(.s (.int .i64 0)),(.s (.int .u8 0)),(.s (.int .i64 0)),(.s (.int .u8 0)),(.s .nilS)]))]) y12a8)⟩
def y12b1 (c:Nat→FuncId):LCode:=(.seq (.sq [(zs 5 (.shift 3 (.t 2))),(zs 6 (.loadA 2 (.t 5))),(zs 7 (.shift 3 (.t 3))),(zs 8 (.loadA 2 (.t 7))),(zs 9 (.call (.f (c 0)) [(.t 6),(.t 8)])),(zs 4 (.mv true (.t 9)))]) .ret)
def U_prep_Table_Least_1 (c:Nat→FuncId):=PLift.up (@unfC _ _ (y12b1.eq_1 c))
def C_prep_Table_Least_1 (c:Nat→FuncId):LFn:=⟨10,[.t 4],(.seq (.sq [(zs 2 (.box false false (.t 0))),(zs 3 (.box false false (.t 1))),(zs 4 (.mv true (zi 0)))]) (y12b1 c))⟩
def y12c1 (c:Nat→FuncId):LCode:=(.seq (.sq [(zs 10 (.build [(.s (.int .i64 0)),(.s (.int .u8 0))] [])),(zn (.store 2 (.t 2) (.t 10))),(zs 3 (.mv true zF))]) .ret)
def y12c2 (c:Nat→FuncId):LCode:=(.seq (.sq [(zs 11 (.mv true (.t 4))),(zs 12 (.call (.f (c 1)) [(.t 11),(.f (c 2))])),(zs 13 (.part (some 2) 3 (.t 12))),(zn (.store 2 (.t 2) (.t 13))),(zs 3 (.mv true zT))]) .ret)
def y12c3 (c:Nat→FuncId):LCode:=(.seq (.seq (.sq [(zs 7 (.mv false (.t 4))),(zs 8 (.len .sl (.t 7))),(zs 9 (.bin .eql .sc (.t 8) (zi 0)))]) (.cond (.t 9) (y12c1 c) .skip)) (y12c2 c))
def y12c4 (c:Nat→FuncId):LCode:=(.seq (.sq [(zs 5 (.mv false (.t 0))),(zs 6 (.call (.f (c 0)) [(.t 5)])),(zs 4 (.mv true (.t 6)))]) (y12c3 c))
def U_prep_Table_Least (c:Nat→FuncId):=PLift.up (zc (zc (@unfC _ _ (y12c1.eq_1 c)) (@unfC _ _ (y12c2.eq_1 c))) (zc (@unfC _ _ (y12c3.eq_1 c)) (@unfC _ _ (y12c4.eq_1 c))))
def C_prep_Table_Least (c:Nat→FuncId):LFn:=⟨14,[.many 2 2,.t 3],(.seq (.sq [(zs 2 (.alloc false [(.s (.int .i64 0)),(.s (.int .u8 0))])),(zs 3 (.mv true zF))]) (y12c4 c))⟩
def y12e1:LCode:=(.seq (.sq [(zs 3 (.shift 0 (.t 1))),(zs 4 (.load1 false (.t 3))),(zs 5 (.shift 1 (.t 1))),(zs 6 (.loadA 2 (.t 5))),(zs 7 (.shift 3 (.t 1))),(zs 8 (.loadA 2 (.t 7))),(zs 9 (.shift 5 (.t 1))),(zs 10 (.load1 false (.t 9))),(zs 11 (.build [(.s (.int .i64 0)),(.s (.int .i64 0)),(.s (.int .u8 0)),(.s (.int .i64 0)),(.s (.int .u8 0)),(.s .nilS)] [(0,1,(.t 4)),(1,2,(.t 6)),(3,2,(.t 8)),(5,1,(.t 10))])),(zn (.store 6 (.t 2) (.t 11)))]) .ret)
def U_hourglasslaw13_ent:=PLift.up (@unfC _ _ (y12e1.eq_1))
def C_hourglasslaw13_ent:LFn:=⟨12,[.many 2 6],(.seq (.sq [(zs 1 (.box false false (.t 0))),(zs 2 (.alloc false [(.s (.int .i64 0)),(.s (.int .i64 0)),(.s (.int .u8 0)),(.s (.int .i64 0)),(.s (.int .u8 0)),(.s .nilS)]))]) y12e1)⟩
def y12f1:LCode:=(.seq (.sq [(zs 26 (.mv false (.t 0))),(zs 27 (.nilc (.t 26))),(zs 28 (.shift 0 (.t 27))),(zs 29 (.load1 false (.t 28))),(zs 30 (.mv false (.t 6))),(zs 31 (.ixa (.sl 6) (.t 29) (.t 30))),(zs 32 (.loadA 6 (.t 31))),(zn (.store 6 (.t 4) (.t 32))),(zs 5 (.mv true zT))]) .ret)
def y12f2:LCode:=(.sq [(zs 14 (.mv false (.t 6))),(zs 15 (.bin .add .sc (.t 14) (zi 1))),(zs 6 (.mv true (.t 15)))])
def y12f3:LCode:=(.seq (.block 1 (.seq (.sq [(zs 16 (.mv false (.t 0))),(zs 17 (.nilc (.t 16))),(zs 18 (.shift 0 (.t 17))),(zs 19 (.load1 false (.t 18))),(zs 20 (.mv false (.t 6))),(zs 21 (.ixa (.sl 6) (.t 19) (.t 20))),(zs 22 (.shift 0 (.t 21))),(zs 23 (.load1 false (.t 22))),(zs 24 (.mv false (.t 1))),(zs 25 (.bin .eql .sc (.t 23) (.t 24)))]) (.cond (.t 25) y12f1 .skip))) y12f2)
def y12f4:LCode:=(.seq (.seq (.sq [(zs 7 (.mv false (.t 6))),(zs 8 (.mv false (.t 0))),(zs 9 (.nilc (.t 8))),(zs 10 (.shift 0 (.t 9))),(zs 11 (.load1 false (.t 10))),(zs 12 (.len .sl (.t 11))),(zs 13 (.bin .lss .sc (.t 7) (.t 12)))]) (.cond (.t 13) .skip (.exit 0))) y12f3)
def y12f5:LCode:=(.block 0 (.loop (zm false [0,2,2,1,1,1,27]) y12f4))
def y12f6:LCode:=(.seq (.sq [(zs 33 (.build [(.s (.int .i64 0)),(.s (.int .i64 0)),(.s (.int .u8 0)),(.s (.int .i64 0)),(.s (.int .u8 0)),(.s .nilS)] [])),(zn (.store 6 (.t 4) (.t 33))),(zs 5 (.mv true zF))]) .ret)
def y12f7:LCode:=(.seq (.seq (.sq [(zs 6 (.mv true (zi 0)))]) y12f5) y12f6)
def U_hourglassref10_Table_Has:=PLift.up (zc (zc (@unfC _ _ (y12f1.eq_1)) (zc (@unfC _ _ (y12f2.eq_1)) (@unfC _ _ (y12f3.eq_1)))) (zc (zc (@unfC _ _ (y12f4.eq_1)) (@unfC _ _ (y12f5.eq_1))) (zc (@unfC _ _ (y12f6.eq_1)) (@unfC _ _ (y12f7.eq_1)))))
def C_hourglassref10_Table_Has:LFn:=⟨34,[.many 4 6,.t 5],(.seq (.sq [(zs 4 (.alloc false [(.s (.int .i64 0)),(.s (.int .i64 0)),(.s (.int .u8 0)),(.s (.int .i64 0)),(.s (.int .u8 0)),(.s .nilS)])),(zs 5 (.mv true zF))]) y12f7)⟩
def y12g1:LCode:=(.seq (.sq [(zs 44 (.mv false (.t 0))),(zs 45 (.nilc (.t 44))),(zs 46 (.shift 0 (.t 45))),(zs 47 (.load1 false (.t 46))),(zs 48 (.mv false (.t 6))),(zs 49 (.ixa (.sl 6) (.t 47) (.t 48))),(zs 50 (.loadA 6 (.t 49))),(zn (.store 6 (.t 4) (.t 50))),(zs 5 (.mv true zT))]) .ret)
def y12g2:LCode:=(.sq [(zs 28 (.mv false (.t 7))),(zs 29 (.bin .add .sc (.t 28) (zi 1))),(zs 7 (.mv true (.t 29)))])
def y12g3:LCode:=(.seq (.block 3 (.seq (.tree (.rd (zs 30 (.mv false (.t 0))) 0 false (.rd (zs 31 (.nilc (.t 30))) 1 false (.rd (zs 32 (.shift 0 (.t 31))) 2 false (.rd (zs 33 (.load1 false (.t 32))) 3 false (.rd (zs 34 (.mv false (.t 6))) 4 false (.rd (zs 35 (.ixa (.sl 6) (.t 33) (.t 34))) 5 false (.rd (zs 36 (.shift 5 (.t 35))) 6 false (.rd (zs 37 (.load1 false (.t 36))) 7 false (.rd (zs 38 (.mv false (.t 7))) 8 false (.rd (zs 39 (.ixa (.sl 18) (.t 37) (.t 38))) 9 false (.rd (zs 40 (.shift 0 (.t 39))) 10 false (.rd (zs 41 (.loadA 16 (.t 40))) 11 false (.rd (zs 42 (.loadA 16 (.t 3))) 12 false (.rd (zs 43 (.bin .eql (.leaf lk) (.t 41) (.t 42))) 13 false .done))))))))))))))) (.cond (.t 43) y12g1 .skip))) y12g2)
def y12g4:LCode:=(.seq (.seq (.sq [(zs 17 (.mv false (.t 7))),(zs 18 (.mv false (.t 0))),(zs 19 (.nilc (.t 18))),(zs 20 (.shift 0 (.t 19))),(zs 21 (.load1 false (.t 20))),(zs 22 (.mv false (.t 6))),(zs 23 (.ixa (.sl 6) (.t 21) (.t 22))),(zs 24 (.shift 5 (.t 23))),(zs 25 (.load1 false (.t 24))),(zs 26 (.len .sl (.t 25))),(zs 27 (.bin .lss .sc (.t 17) (.t 26)))]) (.cond (.t 27) .skip (.exit 2))) y12g3)
def y12g5:LCode:=(.block 2 (.loop (zm false [0,1,2,2,1,2,44]) y12g4))
def y12g6:LCode:=(.sq [(zs 15 (.mv false (.t 6))),(zs 16 (.bin .add .sc (.t 15) (zi 1))),(zs 6 (.mv true (.t 16)))])
def y12g7:LCode:=(.seq (.block 1 (.seq (.sq [(zs 7 (.mv true (zi 0)))]) y12g5)) y12g6)
def y12g8:LCode:=(.seq (.seq (.sq [(zs 8 (.mv false (.t 6))),(zs 9 (.mv false (.t 0))),(zs 10 (.nilc (.t 9))),(zs 11 (.shift 0 (.t 10))),(zs 12 (.load1 false (.t 11))),(zs 13 (.len .sl (.t 12))),(zs 14 (.bin .lss .sc (.t 8) (.t 13)))]) (.cond (.t 14) .skip (.exit 0))) y12g7)
def y12g9:LCode:=(.block 0 (.loop (zm false [0,1,2,2,1,1,45]) y12g8))
def y12g10:LCode:=(.seq (.sq [(zs 51 (.build [(.s (.int .i64 0)),(.s (.int .i64 0)),(.s (.int .u8 0)),(.s (.int .i64 0)),(.s (.int .u8 0)),(.s .nilS)] [])),(zn (.store 6 (.t 4) (.t 51))),(zs 5 (.mv true zF))]) .ret)
def y12g11:LCode:=(.seq (.seq (.sq [(zs 6 (.mv true (zi 0)))]) y12g9) y12g10)
def U_hourglassref10_Table_holder:=PLift.up (zc (zc (zc (@unfC _ _ (y12g1.eq_1)) (@unfC _ _ (y12g2.eq_1))) (zc (@unfC _ _ (y12g3.eq_1)) (zc (@unfC _ _ (y12g4.eq_1)) (@unfC _ _ (y12g5.eq_1))))) (zc (zc (@unfC _ _ (y12g6.eq_1)) (zc (@unfC _ _ (y12g7.eq_1)) (@unfC _ _ (y12g8.eq_1)))) (zc (@unfC _ _ (y12g9.eq_1)) (zc (@unfC _ _ (y12g10.eq_1)) (@unfC _ _ (y12g11.eq_1))))))
def C_hourglassref10_Table_holder:LFn:=⟨52,[.many 4 6,.t 5],(.seq (.sq [(zs 3 (.box false false (.t 1))),(zs 4 (.alloc false [(.s (.int .i64 0)),(.s (.int .i64 0)),(.s (.int .u8 0)),(.s (.int .i64 0)),(.s (.int .u8 0)),(.s .nilS)])),(zs 5 (.mv true zF))]) y12g11)⟩
def y12h1 (c:Nat→FuncId):LCode:=(.seq (.sq [(zs 14 (.shift 0 (.t 6))),(zs 15 (.load1 false (.t 14))),(zs 16 (.mv false (.t 7))),(zs 4 (.mv true (.t 15))),(zs 5 (.mv true (.t 16)))]) .ret)
def y12h2 (c:Nat→FuncId):LCode:=(.seq (.sq [(zs 9 (.mv false (.t 0))),(zs 10 (.loadA 16 (.t 3))),(zs 11 (.call (.f (c 0)) [(.t 9),(.t 10)])),(zs 8 (.mv false (.t 11))),(zs 12 (.ext (.t 8) 0)),(zs 13 (.ext (.t 8) 1)),(zs 6 (.alloc false [(.s (.int .i64 0)),(.s (.int .i64 0)),(.s (.int .u8 0)),(.s (.int .i64 0)),(.s (.int .u8 0)),(.s .nilS)])),(zn (.store 6 (.t 6) (.t 12))),(zs 7 (.mv true (.t 13)))]) (y12h1 c))
def U_hourglassref10_Table_Holder (c:Nat→FuncId):=PLift.up (zc (@unfC _ _ (y12h1.eq_1 c)) (@unfC _ _ (y12h2.eq_1 c)))
def C_hourglassref10_Table_Holder (c:Nat→FuncId):LFn:=⟨17,[.t 4,.t 5],(.seq (.sq [(zs 3 (.box false false (.t 1))),(zs 4 (.mv true (zi 0))),(zs 5 (.mv true zF))]) (y12h2 c))⟩
def y12i1 (c:Nat→FuncId):LCode:=(.seq (.sq [(zs 40 (.mv false (.t 9)))]) (.cond (.t 40) (.seq (.sq [(zs 4 (.mv true (zi 9)))]) .ret) .skip))
def y12i2 (c:Nat→FuncId):LCode:=(.sq [(zs 27 (.mv false (.t 7))),(zs 28 (.bin .add .sc (.t 27) (zi 1))),(zs 7 (.mv true (.t 28)))])
def y12i3 (c:Nat→FuncId):LCode:=(.seq (.block 1 (.seq (.sq [(zs 30 (.mv false (.t 0))),(zs 31 (.shift 5 (.t 3))),(zs 32 (.load1 false (.t 31))),(zs 33 (.mv false (.t 7))),(zs 34 (.ixa (.sl 18) (.t 32) (.t 33))),(zs 35 (.shift 0 (.t 34))),(zs 36 (.loadA 16 (.t 35))),(zs 37 (.call (.f (c 2)) [(.t 30),(.t 36)])),(zs 29 (.mv false (.t 37))),(zs 38 (.ext (.t 29) 0)),(zs 39 (.ext (.t 29) 1)),(zs 8 (.mv true (.t 38))),(zs 9 (.mv true (.t 39)))]) (y12i1 c))) (y12i2 c))
def y12i4 (c:Nat→FuncId):LCode:=(.seq (.seq (.sq [(zs 22 (.mv false (.t 7))),(zs 23 (.shift 5 (.t 3))),(zs 24 (.load1 false (.t 23))),(zs 25 (.len .sl (.t 24))),(zs 26 (.bin .lss .sc (.t 22) (.t 25)))]) (.cond (.t 26) .skip (.exit 0))) (y12i3 c))
def y12i5 (c:Nat→FuncId):LCode:=(.block 0 (.loop (zm false [0,1,2,1,3,1,87]) (y12i4 c)))
def y12i6 (c:Nat→FuncId):LCode:=(.block 3 (.sq [(zs 67 (.mv false (.t 10))),(zs 68 (.bin .add .sc (.t 67) (zi 1))),(zs 10 (.mv true (.t 68)))]))
def y12i7 (c:Nat→FuncId):LCode:=(.seq (.seq (.tree (.rd (zs 47 (.mv false (.t 10))) 0 false (.rd (zs 48 (.mv false (.t 0))) 1 false (.rd (zs 49 (.nilc (.t 48))) 2 false (.rd (zs 50 (.shift 0 (.t 49))) 3 false (.rd (zs 51 (.load1 false (.t 50))) 4 false (.rd (zs 52 (.len .sl (.t 51))) 5 false (.rd (zs 53 (.bin .lss .sc (.t 47) (.t 52))) 6 false (.rd (zs 54 (.mv false (.t 53))) 7 false (.rd (zt 55 54 (.mv false (.t 0))) 8 false (.rd (zt 56 54 (.nilc (.t 55))) 9 false (.rd (zt 57 54 (.shift 0 (.t 56))) 10 false (.rd (zt 58 54 (.load1 false (.t 57))) 11 false (.rd (zt 59 54 (.mv false (.t 10))) 12 false (.rd (zt 60 54 (.ixa (.sl 6) (.t 58) (.t 59))) 13 false (.rd (zt 61 54 (.shift 0 (.t 60))) 14 false (.rd (zt 62 54 (.load1 false (.t 61))) 15 false (.rd (zt 63 54 (.shift 0 (.t 3))) 16 false (.rd (zt 64 54 (.load1 false (.t 63))) 17 false (.rd (zt 65 54 (.bin .lss .sc (.t 62) (.t 64))) 18 false (.rd (zs 66 (.pick (.t 54) (.t 65) zF)) 19 false .done))))))))))))))))))))) (.cond (.t 66) .skip (.exit 2))) (y12i6 c))
def y12i8 (c:Nat→FuncId):LCode:=(.seq (.tree (.rd (zs 74 (.mv false (.t 0))) 0 true (.rd (zs 75 (.bsl ⟨6,true,64,(.agg [(.s (.int .i64 0)),(.s (.int .i64 0)),(.s (.int .u8 0)),(.s (.int .i64 0)),(.s (.int .u8 0)),(.s .nilS)])⟩ 0 [])) 1 false (.rd (zs 76 (.mv false (.t 0))) 2 false (.rd (zs 77 (.nilc (.t 76))) 3 false (.rd (zs 78 (.shift 0 (.t 77))) 4 false (.rd (zs 79 (.load1 false (.t 78))) 5 false (.rd (zs 80 (.mv false (.t 10))) 6 false (.rd (zs 81 (.slc (.sl 6) (.t 79) none (some (.t 80)) none)) 7 false (.rd (zs 83 (.loadA 6 (.t 3))) 9 true (.rd (zs 84 (.bsl ⟨6,true,64,(.agg [(.s (.int .i64 0)),(.s (.int .i64 0)),(.s (.int .u8 0)),(.s (.int .i64 0)),(.s (.int .u8 0)),(.s .nilS)])⟩ 1 [(0,(.t 83))])) 10 true (.rd (zs 86 (.mv false (.t 0))) 12 true (.rd (zs 87 (.nilc (.t 86))) 13 true (.rd (zs 88 (.shift 0 (.t 87))) 14 true (.rd (zs 89 (.load1 false (.t 88))) 15 true (.rd (zs 90 (.mv false (.t 10))) 16 true (.rd (zs 91 (.slc (.sl 6) (.t 89) (some (.t 90)) none none)) 17 true (.mv (zs 82 (.app ⟨6,true,64,(.agg [(.s (.int .i64 0)),(.s (.int .i64 0)),(.s (.int .u8 0)),(.s (.int .i64 0)),(.s (.int .u8 0)),(.s .nilS)])⟩ false (.t 75) (.t 81))) [1,2,3,4,5,6,7] (.mv (zs 85 (.app ⟨6,true,64,(.agg [(.s (.int .i64 0)),(.s (.int .i64 0)),(.s (.int .u8 0)),(.s (.int .i64 0)),(.s (.int .u8 0)),(.s .nilS)])⟩ false (.t 82) (.t 84))) [1,2,3,4,5,6,7,8,9,10] (.mv (zs 92 (.app ⟨6,true,64,(.agg [(.s (.int .i64 0)),(.s (.int .i64 0)),(.s (.int .u8 0)),(.s (.int .i64 0)),(.s (.int .u8 0)),(.s .nilS)])⟩ false (.t 85) (.t 91))) [1,2,3,4,5,6,7,8,9,10,11,12,13,14,15,16,17] (.rd (zs 93 (.nilc (.t 74))) 19 false (.rd (zs 94 (.shift 0 (.t 93))) 20 false (.mv (zn (.store 1 (.t 94) (.t 92))) [0,1,2,3,4,5,6,7,8,9,10,11,12,13,14,15,16,17,18,19,20] .done .stop))) .stop) .stop) .stop)))))))))))))))))) (.seq (.sq [(zs 4 (.mv true (zi 0)))]) .ret))
def y12i9 (c:Nat→FuncId):LCode:=(.seq (.sq [(zs 69 (.bsl ⟨18,true,40,(.agg (zk ++ [(.s (.str [])),(.s (.bool false))]))⟩ 0 [])),(zs 70 (.shift 5 (.t 3))),(zs 71 (.load1 false (.t 70))),(zs 72 (.app ⟨18,true,40,(.agg (zk ++ [(.s (.str [])),(.s (.bool false))]))⟩ false (.t 69) (.t 71))),(zs 73 (.shift 5 (.t 3))),(zn (.store 1 (.t 73) (.t 72)))]) (y12i8 c))
def y12i10 (c:Nat→FuncId):LCode:=(.seq (.block 2 (.loop (zm false [0,1,2,1,6,1,84]) (y12i7 c))) (y12i9 c))
def y12i11 (c:Nat→FuncId):LCode:=(.seq (.seq (.sq [(zs 41 (.mv false (.t 0))),(zs 42 (.nilc (.t 41))),(zs 43 (.shift 0 (.t 42))),(zs 44 (.load1 false (.t 43))),(zs 45 (.len .sl (.t 44))),(zs 46 (.bin .geq .sc (.t 45) (zi 100)))]) (.cond (.t 46) (.seq (.sq [(zs 4 (.mv true (zi 6)))]) .ret) .skip)) (.seq (.sq [(zs 10 (.mv true (zi 0)))]) (y12i10 c)))
def y12i12 (c:Nat→FuncId):LCode:=(.seq (.seq (.sq [(zs 7 (.mv true (zi 0)))]) (y12i5 c)) (y12i11 c))
def y12i13 (c:Nat→FuncId):LCode:=(.seq (.seq (.sq [(zs 21 (.mv false (.t 6)))]) (.cond (.t 21) (.seq (.sq [(zs 4 (.mv true (zi 5)))]) .ret) .skip)) (y12i12 c))
def y12i14 (c:Nat→FuncId):LCode:=(.seq (.sq [(zs 15 (.mv false (.t 0))),(zs 16 (.shift 0 (.t 3))),(zs 17 (.load1 false (.t 16))),(zs 18 (.call (.f (c 1)) [(.t 15),(.t 17)])),(zs 14 (.mv false (.t 18))),(zs 19 (.ext (.t 14) 0)),(zs 20 (.ext (.t 14) 1)),(zs 5 (.alloc false [(.s (.int .i64 0)),(.s (.int .i64 0)),(.s (.int .u8 0)),(.s (.int .i64 0)),(.s (.int .u8 0)),(.s .nilS)])),(zn (.store 6 (.t 5) (.t 19))),(zs 6 (.mv true (.t 20)))]) (y12i13 c))
def y12i15 (c:Nat→FuncId):LCode:=(.seq (.seq (.sq [(zs 11 (.loadA 6 (.t 3))),(zs 12 (.call (.f (c 0)) [(.t 11)])),(zs 13 (.un .not (.t 12)))]) (.cond (.t 13) (.seq (.sq [(zs 4 (.mv true (zi 1)))]) .ret) .skip)) (y12i14 c))
def U_hourglassref10_Table_Add (c:Nat→FuncId):=PLift.up (zc (zc (zc (@unfC _ _ (y12i1.eq_1 c)) (zc (@unfC _ _ (y12i2.eq_1 c)) (@unfC _ _ (y12i3.eq_1 c)))) (zc (zc (@unfC _ _ (y12i4.eq_1 c)) (@unfC _ _ (y12i5.eq_1 c))) (zc (@unfC _ _ (y12i6.eq_1 c)) (@unfC _ _ (y12i7.eq_1 c))))) (zc (zc (zc (@unfC _ _ (y12i8.eq_1 c)) (@unfC _ _ (y12i9.eq_1 c))) (zc (@unfC _ _ (y12i10.eq_1 c)) (@unfC _ _ (y12i11.eq_1 c)))) (zc (zc (@unfC _ _ (y12i12.eq_1 c)) (@unfC _ _ (y12i13.eq_1 c))) (zc (@unfC _ _ (y12i14.eq_1 c)) (@unfC _ _ (y12i15.eq_1 c))))))
def C_hourglassref10_Table_Add (c:Nat→FuncId):LFn:=⟨95,[.t 4],(.seq (.sq [(zs 3 (.box false false (.t 1))),(zs 4 (.mv true (zi 0)))]) (y12i15 c))⟩
def y12j1 (c:Nat→FuncId):LCode:=(.sq [(zs 35 (.mv true (.t 8))),(zs 36 (.mv false (.t 0))),(zs 37 (.nilc (.t 36))),(zs 38 (.shift 0 (.t 37))),(zs 39 (.load1 false (.t 38))),(zs 40 (.mv false (.t 9))),(zs 41 (.ixa (.sl 6) (.t 39) (.t 40))),(zs 42 (.loadA 6 (.t 41))),(zs 43 (.bsl ⟨6,true,64,(.agg [(.s (.int .i64 0)),(.s (.int .i64 0)),(.s (.int .u8 0)),(.s (.int .i64 0)),(.s (.int .u8 0)),(.s .nilS)])⟩ 1 [(0,(.t 42))])),(zs 44 (.app ⟨6,true,64,(.agg [(.s (.int .i64 0)),(.s (.int .i64 0)),(.s (.int .u8 0)),(.s (.int .i64 0)),(.s (.int .u8 0)),(.s .nilS)])⟩ false (.t 35) (.t 43))),(zs 8 (.mv true (.t 44)))])
def y12j2 (c:Nat→FuncId):LCode:=(.sq [(zs 23 (.mv false (.t 9))),(zs 24 (.bin .add .sc (.t 23) (zi 1))),(zs 9 (.mv true (.t 24)))])
def y12j3 (c:Nat→FuncId):LCode:=(.seq (.block 1 (.seq (.sq [(zs 25 (.mv false (.t 0))),(zs 26 (.nilc (.t 25))),(zs 27 (.shift 0 (.t 26))),(zs 28 (.load1 false (.t 27))),(zs 29 (.mv false (.t 9))),(zs 30 (.ixa (.sl 6) (.t 28) (.t 29))),(zs 31 (.shift 0 (.t 30))),(zs 32 (.load1 false (.t 31))),(zs 33 (.mv false (.t 1))),(zs 34 (.bin .neq .sc (.t 32) (.t 33)))]) (.cond (.t 34) (y12j1 c) .skip))) (y12j2 c))
def y12j4 (c:Nat→FuncId):LCode:=(.seq (.seq (.sq [(zs 16 (.mv false (.t 9))),(zs 17 (.mv false (.t 0))),(zs 18 (.nilc (.t 17))),(zs 19 (.shift 0 (.t 18))),(zs 20 (.load1 false (.t 19))),(zs 21 (.len .sl (.t 20))),(zs 22 (.bin .lss .sc (.t 16) (.t 21)))]) (.cond (.t 22) .skip (.exit 0))) (y12j3 c))
def y12j5 (c:Nat→FuncId):LCode:=(.block 0 (.loop (zm false [0,2,2,1,1,4,41]) (y12j4 c)))
def y12j6 (c:Nat→FuncId):LCode:=(.seq (.sq [(zs 49 (.loadA 6 (.t 6))),(zs 50 (.mv false (.t 7))),(zn (.store 6 (.t 4) (.t 49))),(zs 5 (.mv true (.t 50)))]) .ret)
def y12j7 (c:Nat→FuncId):LCode:=(.seq (.sq [(zs 45 (.mv false (.t 0))),(zs 46 (.mv true (.t 8))),(zs 47 (.nilc (.t 45))),(zs 48 (.shift 0 (.t 47))),(zn (.store 1 (.t 48) (.t 46)))]) (y12j6 c))
def y12j8 (c:Nat→FuncId):LCode:=(.seq (.seq (.sq [(zs 9 (.mv true (zi 0)))]) (y12j5 c)) (y12j7 c))
def y12j9 (c:Nat→FuncId):LCode:=(.seq (.sq [(zs 11 (.mv false (.t 0))),(zs 12 (.mv false (.t 1))),(zs 13 (.call (.f (c 0)) [(.t 11),(.t 12)])),(zs 10 (.mv false (.t 13))),(zs 14 (.ext (.t 10) 0)),(zs 15 (.ext (.t 10) 1)),(zs 6 (.alloc false [(.s (.int .i64 0)),(.s (.int .i64 0)),(.s (.int .u8 0)),(.s (.int .i64 0)),(.s (.int .u8 0)),(.s .nilS)])),(zn (.store 6 (.t 6) (.t 14))),(zs 7 (.mv true (.t 15)))]) (.seq (.sq [(zs 8 (.mv true (.c .nilS)))]) (y12j8 c)))
def U_hourglassref10_Table_Drop (c:Nat→FuncId):=PLift.up (zc (zc (zc (@unfC _ _ (y12j1.eq_1 c)) (@unfC _ _ (y12j2.eq_1 c))) (zc (@unfC _ _ (y12j3.eq_1 c)) (@unfC _ _ (y12j4.eq_1 c)))) (zc (zc (@unfC _ _ (y12j5.eq_1 c)) (@unfC _ _ (y12j6.eq_1 c))) (zc (@unfC _ _ (y12j7.eq_1 c)) (zc (@unfC _ _ (y12j8.eq_1 c)) (@unfC _ _ (y12j9.eq_1 c))))))
def C_hourglassref10_Table_Drop (c:Nat→FuncId):LFn:=⟨51,[.many 4 6,.t 5],(.seq (.sq [(zs 4 (.alloc false [(.s (.int .i64 0)),(.s (.int .i64 0)),(.s (.int .u8 0)),(.s (.int .i64 0)),(.s (.int .u8 0)),(.s .nilS)])),(zs 5 (.mv true zF))]) (y12j9 c))⟩
def y12k1 (c:Nat→FuncId):LCode:=(.seq (.sq [(zs 5 (.shift 0 (.t 2))),(zs 6 (.load1 false (.t 5))),(zs 7 (.shift 0 (.t 3))),(zs 8 (.load1 false (.t 7))),(zs 9 (.bin .eql .sc (.t 6) (.t 8))),(zs 10 (.mv false (.t 9))),(zt 11 10 (.shift 1 (.t 2))),(zt 12 10 (.loadA 2 (.t 11))),(zt 13 10 (.shift 1 (.t 3))),(zt 14 10 (.loadA 2 (.t 13))),(zt 15 10 (.bin .eql (.leaf [.int .i64,.int .u8]) (.t 12) (.t 14))),(zs 16 (.pick (.t 10) (.t 15) zF)),(zs 17 (.mv false (.t 16))),(zt 18 17 (.shift 3 (.t 2))),(zt 19 17 (.loadA 2 (.t 18))),(zt 20 17 (.shift 3 (.t 3))),(zt 21 17 (.loadA 2 (.t 20))),(zt 22 17 (.bin .eql (.leaf [.int .i64,.int .u8]) (.t 19) (.t 21))),(zs 23 (.pick (.t 17) (.t 22) zF)),(zs 24 (.mv false (.t 23))),(zt 25 24 (.shift 5 (.t 2))),(zt 26 24 (.load1 false (.t 25))),(zt 27 24 (.shift 5 (.t 3))),(zt 28 24 (.load1 false (.t 27))),(zt 29 24 (.call (.f (c 0)) [(.t 26),(.t 28)])),(zs 30 (.pick (.t 24) (.t 29) zF)),(zs 4 (.mv true (.t 30)))]) .ret)
def U_hourglassref10_SameEntry (c:Nat→FuncId):=PLift.up (@unfC _ _ (y12k1.eq_1 c))
def C_hourglassref10_SameEntry (c:Nat→FuncId):LFn:=⟨31,[.t 4],(.seq (.sq [(zs 2 (.box false false (.t 0))),(zs 3 (.box false false (.t 1))),(zs 4 (.mv true zF))]) (y12k1 c))⟩
def y12l1 (c:Nat→FuncId):LCode:=(.cond (.t 24) (.seq (.sq [(zs 6 (.mv true (zi 0))),(zs 7 (.mv true zF))]) .ret) .skip)
def y12l2 (c:Nat→FuncId):LCode:=(.seq (.sq [(zs 25 (.shift 0 (.t 8))),(zs 26 (.load1 false (.t 25))),(zs 6 (.mv true (.t 26))),(zs 7 (.mv true zT))]) .ret)
def y12l3 (c:Nat→FuncId):LCode:=(.seq (.seq (.sq [(zs 16 (.mv false (.t 9))),(zs 17 (.un .not (.t 16))),(zs 18 (.mv false (.t 17))),(zf 19 18 (.shift 3 (.t 8))),(zf 20 18 (.loadA 2 (.t 19))),(zf 21 18 (.loadA 2 (.t 5))),(zf 22 18 (.call (.f (c 1)) [(.t 20),(.t 21)])),(zf 23 18 (.bin .gtr .sc (.t 22) (zi 0))),(zs 24 (.pick (.t 18) zT (.t 23)))]) (y12l1 c)) (y12l2 c))
def y12l4 (c:Nat→FuncId):LCode:=(.seq (.sq [(zs 11 (.mv false (.t 0))),(zs 12 (.loadA 16 (.t 4))),(zs 13 (.call (.f (c 0)) [(.t 11),(.t 12)])),(zs 10 (.mv false (.t 13))),(zs 14 (.ext (.t 10) 0)),(zs 15 (.ext (.t 10) 1)),(zs 8 (.alloc false [(.s (.int .i64 0)),(.s (.int .i64 0)),(.s (.int .u8 0)),(.s (.int .i64 0)),(.s (.int .u8 0)),(.s .nilS)])),(zn (.store 6 (.t 8) (.t 14))),(zs 9 (.mv true (.t 15)))]) (y12l3 c))
def U_hourglassref10_Table_Blocks (c:Nat→FuncId):=PLift.up (zc (zc (@unfC _ _ (y12l1.eq_1 c)) (@unfC _ _ (y12l2.eq_1 c))) (zc (@unfC _ _ (y12l3.eq_1 c)) (@unfC _ _ (y12l4.eq_1 c))))
def C_hourglassref10_Table_Blocks (c:Nat→FuncId):LFn:=⟨27,[.t 6,.t 7],(.seq (.sq [(zs 4 (.box false false (.t 1))),(zs 5 (.box false false (.t 2))),(zs 6 (.mv true (zi 0))),(zs 7 (.mv true zF))]) (y12l4 c))⟩
def y12m1 (c:Nat→FuncId):LCode:=(.sq [(zs 32 (.mv false (.t 0))),(zs 33 (.nilc (.t 32))),(zs 34 (.shift 0 (.t 33))),(zs 35 (.load1 false (.t 34))),(zs 36 (.mv false (.t 6))),(zs 37 (.ixa (.sl 6) (.t 35) (.t 36))),(zs 38 (.shift 3 (.t 37))),(zs 39 (.loadA 2 (.t 38))),(zn (.store 2 (.t 4) (.t 39))),(zs 5 (.mv true zT))])
def y12m2 (c:Nat→FuncId):LCode:=(.sq [(zs 15 (.mv false (.t 6))),(zs 16 (.bin .add .sc (.t 15) (zi 1))),(zs 6 (.mv true (.t 16)))])
def y12m3 (c:Nat→FuncId):LCode:=(.seq (.block 1 (.seq (.tree (.rd (zs 17 (.mv false (.t 5))) 0 false (.rd (zs 18 (.un .not (.t 17))) 1 false (.rd (zs 19 (.mv false (.t 18))) 2 false (.rd (zf 20 19 (.mv false (.t 0))) 3 false (.rd (zf 21 19 (.nilc (.t 20))) 4 false (.rd (zf 22 19 (.shift 0 (.t 21))) 5 false (.rd (zf 23 19 (.load1 false (.t 22))) 6 false (.rd (zf 24 19 (.mv false (.t 6))) 7 false (.rd (zf 25 19 (.ixa (.sl 6) (.t 23) (.t 24))) 8 false (.rd (zf 26 19 (.shift 3 (.t 25))) 9 false (.rd (zf 27 19 (.loadA 2 (.t 26))) 10 false (.rd (zf 28 19 (.loadA 2 (.t 4))) 11 false (.mv (zf 29 19 (.call (.f (c 0)) [(.t 27),(.t 28)])) [0,1,2,3,4,5,6,7,8,9,10,11] (.rd (zf 30 19 (.bin .lss .sc (.t 29) (zi 0))) 13 false (.rd (zs 31 (.pick (.t 19) zT (.t 30))) 14 false .done)) .stop)))))))))))))) (.cond (.t 31) (y12m1 c) .skip))) (y12m2 c))
def y12m4 (c:Nat→FuncId):LCode:=(.seq (.seq (.sq [(zs 8 (.mv false (.t 6))),(zs 9 (.mv false (.t 0))),(zs 10 (.nilc (.t 9))),(zs 11 (.shift 0 (.t 10))),(zs 12 (.load1 false (.t 11))),(zs 13 (.len .sl (.t 12))),(zs 14 (.bin .lss .sc (.t 8) (.t 13)))]) (.cond (.t 14) .skip (.exit 0))) (y12m3 c))
def y12m5 (c:Nat→FuncId):LCode:=(.block 0 (.loop (zm false [0,1,1,1,1,3,35]) (y12m4 c)))
def y12m6 (c:Nat→FuncId):LCode:=(.seq (.sq [(zs 40 (.loadA 2 (.t 4))),(zs 41 (.mv false (.t 5))),(zn (.store 2 (.t 2) (.t 40))),(zs 3 (.mv true (.t 41)))]) .ret)
def y12m7 (c:Nat→FuncId):LCode:=(.seq (.seq (.sq [(zs 6 (.mv true (zi 0)))]) (y12m5 c)) (y12m6 c))
def y12m8 (c:Nat→FuncId):LCode:=(.seq (.sq [(zs 7 (.build [(.s (.int .i64 0)),(.s (.int .u8 0))] [])),(zs 4 (.alloc false [(.s (.int .i64 0)),(.s (.int .u8 0))])),(zn (.store 2 (.t 4) (.t 7))),(zs 5 (.mv true zF))]) (y12m7 c))
def U_hourglassref10_Table_Least (c:Nat→FuncId):=PLift.up (zc (zc (zc (@unfC _ _ (y12m1.eq_1 c)) (@unfC _ _ (y12m2.eq_1 c))) (zc (@unfC _ _ (y12m3.eq_1 c)) (@unfC _ _ (y12m4.eq_1 c)))) (zc (zc (@unfC _ _ (y12m5.eq_1 c)) (@unfC _ _ (y12m6.eq_1 c))) (zc (@unfC _ _ (y12m7.eq_1 c)) (@unfC _ _ (y12m8.eq_1 c)))))
def C_hourglassref10_Table_Least (c:Nat→FuncId):LFn:=⟨42,[.many 2 2,.t 3],(.seq (.sq [(zs 2 (.alloc false [(.s (.int .i64 0)),(.s (.int .u8 0))])),(zs 3 (.mv true zF))]) (y12m8 c))⟩
def y12n1 (c:Nat→FuncId):LCode:=(.seq (.tree (.rd (zs 66 (.mv false (.t 7))) 0 false (.rd (zs 67 (.shift 1 (.t 10))) 1 false (.rd (zs 68 (.loadA 6 (.t 67))) 2 false (.rd (zs 70 (.mv false (.t 8))) 4 true (.rd (zs 71 (.shift 1 (.t 10))) 5 true (.rd (zs 72 (.loadA 6 (.t 71))) 6 true (.mv (zs 69 (.call (.f (c 6)) [(.t 66),(.t 68)])) [0,1,2] (.mv (zs 73 (.call (.f (c 4)) [(.t 72)])) [0,1,2,3,5,6] (.mv (zs 74 (.call (.f (c 7)) [(.t 70),(.t 73)])) [0,1,2,3,4,5,6,7] (.rd (zs 75 (.bin .neq .sc (.t 69) (.t 74))) 9 false .done) .stop) .stop) .stop)))))))) (.cond (.t 75) (.seq (.sq [(zs 6 (.mv true zF))]) .ret) .skip))
def y12n2 (c:Nat→FuncId):LCode:=(.seq (.tree (.rd (zs 92 (.mv false (.t 12))) 0 false (.rd (zs 93 (.mv false (.t 14))) 1 false (.rd (zs 94 (.bin .neq .bl (.t 92) (.t 93))) 2 false (.rd (zs 95 (.mv false (.t 94))) 3 false (.rd (zf 96 95 (.loadA 6 (.t 11))) 4 false (.rd (zf 98 95 (.loadA 6 (.t 13))) 6 true (.mv (zf 97 95 (.call (.f (c 4)) [(.t 96)])) [0,1,2,3,4] (.mv (zf 99 95 (.call (.f (c 10)) [(.t 97),(.t 98)])) [0,1,2,3,4,5,6] (.rd (zf 100 95 (.un .not (.t 99))) 8 false (.rd (zs 101 (.pick (.t 95) zT (.t 100))) 9 false .done)) .stop) .stop)))))))) (.cond (.t 101) (.seq (.sq [(zs 6 (.mv true zF))]) .ret) .skip))
def y12n3 (c:Nat→FuncId):LCode:=(.seq (.sq [(zs 85 (.mv false (.t 8))),(zs 86 (.shift 1 (.t 10))),(zs 87 (.shift 0 (.t 86))),(zs 88 (.load1 false (.t 87))),(zs 89 (.call (.f (c 9)) [(.t 85),(.t 88)])),(zs 84 (.mv false (.t 89))),(zs 90 (.ext (.t 84) 0)),(zs 91 (.ext (.t 84) 1)),(zs 13 (.alloc false [(.s (.int .i64 0)),(.s (.int .i64 0)),(.s (.int .u8 0)),(.s (.int .i64 0)),(.s (.int .u8 0)),(.s .nilS)])),(zn (.store 6 (.t 13) (.t 90))),(zs 14 (.mv true (.t 91)))]) (y12n2 c))
def y12n4 (c:Nat→FuncId):LCode:=(.seq (.sq [(zs 77 (.mv false (.t 7))),(zs 78 (.shift 1 (.t 10))),(zs 79 (.shift 0 (.t 78))),(zs 80 (.load1 false (.t 79))),(zs 81 (.call (.f (c 8)) [(.t 77),(.t 80)])),(zs 76 (.mv false (.t 81))),(zs 82 (.ext (.t 76) 0)),(zs 83 (.ext (.t 76) 1)),(zs 11 (.alloc false [(.s (.int .i64 0)),(.s (.int .i64 0)),(.s (.int .u8 0)),(.s (.int .i64 0)),(.s (.int .u8 0)),(.s .nilS)])),(zn (.store 6 (.t 11) (.t 82))),(zs 12 (.mv true (.t 83)))]) (y12n3 c))
def y12n5 (c:Nat→FuncId):LCode:=(.sq [(zs 210 (.mv false (.t 32))),(zs 211 (.bin .add .sc (.t 210) (zi 1))),(zs 32 (.mv true (.t 211)))])
def y12n6 (c:Nat→FuncId):LCode:=(.seq (.block 3 (.seq (.tree (.rd (zs 212 (.mv false (.t 31))) 0 false (.rd (zs 213 (.mv false (.t 32))) 1 false (.rd (zs 214 (.ixa (.sl 6) (.t 212) (.t 213))) 2 false (.rd (zs 215 (.loadA 6 (.t 214))) 3 false (.rd (zs 217 (.mv false (.t 8))) 5 true (.rd (zs 218 (.nilc (.t 217))) 6 true (.rd (zs 219 (.shift 0 (.t 218))) 7 true (.rd (zs 220 (.load1 false (.t 219))) 8 true (.rd (zs 221 (.mv false (.t 32))) 9 true (.rd (zs 222 (.ixa (.sl 6) (.t 220) (.t 221))) 10 true (.rd (zs 223 (.loadA 6 (.t 222))) 11 true (.mv (zs 216 (.call (.f (c 4)) [(.t 215)])) [0,1,2,3] (.mv (zs 224 (.call (.f (c 10)) [(.t 216),(.t 223)])) [0,1,2,3,4,5,6,7,8,9,10,11] (.rd (zs 225 (.un .not (.t 224))) 13 false .done) .stop) .stop))))))))))))) (.cond (.t 225) (.seq (.sq [(zs 6 (.mv true zF))]) .ret) .skip))) (y12n5 c))
def y12n7 (c:Nat→FuncId):LCode:=(.seq (.seq (.sq [(zs 206 (.mv false (.t 32))),(zs 207 (.mv false (.t 31))),(zs 208 (.len .sl (.t 207))),(zs 209 (.bin .lss .sc (.t 206) (.t 208)))]) (.cond (.t 209) .skip (.exit 2))) (y12n6 c))
def y12n8 (c:Nat→FuncId):LCode:=(.block 2 (.loop (zm false [0,1,3,2,1,3,21,2,193]) (y12n7 c)))
def y12n9 (c:Nat→FuncId):LCode:=(.seq (.seq (.tree (.rd (zs 156 (.mv false (.t 15))) 0 false (.rd (zs 157 (.mv false (.t 17))) 1 false (.rd (zs 158 (.bin .neq .sc (.t 156) (.t 157))) 2 false (.rd (zs 159 (.mv false (.t 158))) 3 false (.rd (zf 160 159 (.mv false (.t 16))) 4 false (.rd (zf 161 159 (.mv false (.t 18))) 5 false (.rd (zf 162 159 (.bin .neq .bl (.t 160) (.t 161))) 6 false (.rd (zs 163 (.pick (.t 159) zT (.t 162))) 7 false (.rd (zs 164 (.mv false (.t 163))) 8 false (.rd (zf 165 164 (.mv false (.t 19))) 9 false (.rd (zf 166 164 (.mv false (.t 21))) 10 false (.rd (zf 167 164 (.bin .neq .sc (.t 165) (.t 166))) 11 false (.rd (zs 168 (.pick (.t 164) zT (.t 167))) 12 false (.rd (zs 169 (.mv false (.t 168))) 13 false (.rd (zf 170 169 (.mv false (.t 20))) 14 false (.rd (zf 171 169 (.mv false (.t 22))) 15 false (.rd (zf 172 169 (.bin .neq .bl (.t 170) (.t 171))) 16 false (.rd (zs 173 (.pick (.t 169) zT (.t 172))) 17 false (.rd (zs 174 (.mv false (.t 173))) 18 false (.rd (zf 175 174 (.loadA 2 (.t 23))) 19 false (.rd (zf 176 174 (.loadA 2 (.t 25))) 20 false (.rd (zf 177 174 (.bin .neq (.leaf [.int .i64,.int .u8]) (.t 175) (.t 176))) 21 false (.rd (zs 178 (.pick (.t 174) zT (.t 177))) 22 false (.rd (zs 179 (.mv false (.t 178))) 23 false (.rd (zf 180 179 (.mv false (.t 24))) 24 false (.rd (zf 181 179 (.mv false (.t 26))) 25 false (.rd (zf 182 179 (.bin .neq .bl (.t 180) (.t 181))) 26 false (.rd (zs 183 (.pick (.t 179) zT (.t 182))) 27 false (.rd (zs 184 (.mv false (.t 183))) 28 false (.rd (zf 185 184 (.mv false (.t 28))) 29 false (.rd (zf 186 184 (.mv false (.t 30))) 30 false (.rd (zf 187 184 (.bin .neq .bl (.t 185) (.t 186))) 31 false (.rd (zs 188 (.pick (.t 184) zT (.t 187))) 32 false (.rd (zs 189 (.mv false (.t 188))) 33 false (.rd (zf 190 189 (.loadA 6 (.t 27))) 34 false (.rd (zf 192 189 (.loadA 6 (.t 29))) 36 true (.mv (zf 191 189 (.call (.f (c 4)) [(.t 190)])) [0,1,2,3,4,5,6,7,8,9,10,11,12,13,14,15,16,17,18,19,20,21,22,23,24,25,26,27,28,29,30,31,32,33,34] (.mv (zf 193 189 (.call (.f (c 10)) [(.t 191),(.t 192)])) [0,1,2,3,4,5,6,7,8,9,10,11,12,13,14,15,16,17,18,19,20,21,22,23,24,25,26,27,28,29,30,31,32,33,34,35,36] (.rd (zf 194 189 (.un .not (.t 193))) 38 false (.rd (zs 195 (.pick (.t 189) zT (.t 194))) 39 false (.rd (zs 196 (.mv false (.t 195))) 40 false (.rd (zf 197 196 (.mv false (.t 31))) 41 false (.rd (zf 198 196 (.len .sl (.t 197))) 42 false (.rd (zf 199 196 (.mv false (.t 8))) 43 false (.rd (zf 200 196 (.nilc (.t 199))) 44 false (.rd (zf 201 196 (.shift 0 (.t 200))) 45 false (.rd (zf 202 196 (.load1 false (.t 201))) 46 false (.rd (zf 203 196 (.len .sl (.t 202))) 47 false (.rd (zf 204 196 (.bin .neq .sc (.t 198) (.t 203))) 48 false (.rd (zs 205 (.pick (.t 196) zT (.t 204))) 49 false .done)))))))))))) .stop) .stop)))))))))))))))))))))))))))))))))))))) (.cond (.t 205) (.seq (.sq [(zs 6 (.mv true zF))]) .ret) .skip)) (.seq (.sq [(zs 32 (.mv true (zi 0)))]) (y12n8 c)))
def y12n10 (c:Nat→FuncId):LCode:=(.seq (.sq [(zs 154 (.mv false (.t 7))),(zs 155 (.call (.f (c 19)) [(.t 154)])),(zs 31 (.mv true (.t 155)))]) (y12n9 c))
def y12n11 (c:Nat→FuncId):LCode:=(.seq (.sq [(zs 147 (.mv false (.t 8))),(zs 148 (.shift 1 (.t 10))),(zs 149 (.shift 0 (.t 148))),(zs 150 (.load1 false (.t 149))),(zs 151 (.call (.f (c 18)) [(.t 147),(.t 150)])),(zs 146 (.mv false (.t 151))),(zs 152 (.ext (.t 146) 0)),(zs 153 (.ext (.t 146) 1)),(zs 29 (.alloc false [(.s (.int .i64 0)),(.s (.int .i64 0)),(.s (.int .u8 0)),(.s (.int .i64 0)),(.s (.int .u8 0)),(.s .nilS)])),(zn (.store 6 (.t 29) (.t 152))),(zs 30 (.mv true (.t 153)))]) (y12n10 c))
def y12n12 (c:Nat→FuncId):LCode:=(.seq (.sq [(zs 139 (.mv false (.t 7))),(zs 140 (.shift 1 (.t 10))),(zs 141 (.shift 0 (.t 140))),(zs 142 (.load1 false (.t 141))),(zs 143 (.call (.f (c 17)) [(.t 139),(.t 142)])),(zs 138 (.mv false (.t 143))),(zs 144 (.ext (.t 138) 0)),(zs 145 (.ext (.t 138) 1)),(zs 27 (.alloc false [(.s (.int .i64 0)),(.s (.int .i64 0)),(.s (.int .u8 0)),(.s (.int .i64 0)),(.s (.int .u8 0)),(.s .nilS)])),(zn (.store 6 (.t 27) (.t 144))),(zs 28 (.mv true (.t 145)))]) (y12n11 c))
def y12n13 (c:Nat→FuncId):LCode:=(.seq (.sq [(zs 134 (.mv false (.t 8))),(zs 135 (.call (.f (c 16)) [(.t 134)])),(zs 133 (.mv false (.t 135))),(zs 136 (.ext (.t 133) 0)),(zs 137 (.ext (.t 133) 1)),(zs 25 (.alloc false [(.s (.int .i64 0)),(.s (.int .u8 0))])),(zn (.store 2 (.t 25) (.t 136))),(zs 26 (.mv true (.t 137)))]) (y12n12 c))
def y12n14 (c:Nat→FuncId):LCode:=(.seq (.sq [(zs 129 (.mv false (.t 7))),(zs 130 (.call (.f (c 15)) [(.t 129)])),(zs 128 (.mv false (.t 130))),(zs 131 (.ext (.t 128) 0)),(zs 132 (.ext (.t 128) 1)),(zs 23 (.alloc false [(.s (.int .i64 0)),(.s (.int .u8 0))])),(zn (.store 2 (.t 23) (.t 131))),(zs 24 (.mv true (.t 132)))]) (y12n13 c))
def y12n15 (c:Nat→FuncId):LCode:=(.seq (.sq [(zs 122 (.mv false (.t 8))),(zs 123 (.loadA 16 (.t 4))),(zs 124 (.loadA 2 (.t 5))),(zs 125 (.call (.f (c 14)) [(.t 122),(.t 123),(.t 124)])),(zs 121 (.mv false (.t 125))),(zs 126 (.ext (.t 121) 0)),(zs 127 (.ext (.t 121) 1)),(zs 21 (.mv true (.t 126))),(zs 22 (.mv true (.t 127)))]) (y12n14 c))
def y12n16 (c:Nat→FuncId):LCode:=(.seq (.sq [(zs 115 (.mv false (.t 7))),(zs 116 (.loadA 16 (.t 4))),(zs 117 (.loadA 2 (.t 5))),(zs 118 (.call (.f (c 13)) [(.t 115),(.t 116),(.t 117)])),(zs 114 (.mv false (.t 118))),(zs 119 (.ext (.t 114) 0)),(zs 120 (.ext (.t 114) 1)),(zs 19 (.mv true (.t 119))),(zs 20 (.mv true (.t 120)))]) (y12n15 c))
def y12n17 (c:Nat→FuncId):LCode:=(.seq (.sq [(zs 109 (.mv false (.t 8))),(zs 110 (.loadA 16 (.t 4))),(zs 111 (.call (.f (c 12)) [(.t 109),(.t 110)])),(zs 108 (.mv false (.t 111))),(zs 112 (.ext (.t 108) 0)),(zs 113 (.ext (.t 108) 1)),(zs 17 (.mv true (.t 112))),(zs 18 (.mv true (.t 113)))]) (y12n16 c))
def y12n18 (c:Nat→FuncId):LCode:=(.seq (.sq [(zs 103 (.mv false (.t 7))),(zs 104 (.loadA 16 (.t 4))),(zs 105 (.call (.f (c 11)) [(.t 103),(.t 104)])),(zs 102 (.mv false (.t 105))),(zs 106 (.ext (.t 102) 0)),(zs 107 (.ext (.t 102) 1)),(zs 15 (.mv true (.t 106))),(zs 16 (.mv true (.t 107)))]) (y12n17 c))
def y12n19 (c:Nat→FuncId):LCode:=(.seq (.seq (.sq [(zs 63 (.shift 0 (.t 10))),(zs 64 (.load1 false (.t 63))),(zs 65 (.bin .eql .sc (.t 64) (zi 0)))]) (.cond (.t 65) (y12n1 c) (y12n4 c))) (y12n18 c))
def y12n20 (c:Nat→FuncId):LCode:=(.seq (.seq (.tree (.rd (zs 55 (.shift 1 (.t 10))) 0 false (.rd (zs 56 (.loadA 6 (.t 55))) 1 false (.rd (zs 58 (.shift 1 (.t 10))) 3 true (.rd (zs 59 (.loadA 6 (.t 58))) 4 true (.mv (zs 57 (.call (.f (c 3)) [(.t 56)])) [0,1] (.mv (zs 60 (.call (.f (c 4)) [(.t 59)])) [0,1,2,3,4] (.mv (zs 61 (.call (.f (c 5)) [(.t 60)])) [0,1,2,3,4,5] (.rd (zs 62 (.bin .neq .bl (.t 57) (.t 61))) 7 false .done) .stop) .stop) .stop)))))) (.cond (.t 62) (.seq (.sq [(zs 6 (.mv true zF))]) .ret) .skip)) (y12n19 c))
def y12n21 (c:Nat→FuncId):LCode:=(.seq (.seq (.sq [(zs 51 (.shift 1 (.t 10))),(zs 52 (.shift 5 (.t 51))),(zs 53 (.load1 false (.t 52))),(zs 54 (.call (.f (c 2)) [(.t 53)]))]) (.cond (.t 54) (.seq (.sq [(zs 6 (.mv true zT))]) .ret) .skip)) (y12n20 c))
def y12n22 (c:Nat→FuncId):LCode:=(.sq [(zs 45 (.mv false (.t 9))),(zs 46 (.bin .add .sc (.t 45) (zi 1))),(zs 9 (.mv true (.t 46)))])
def y12n23 (c:Nat→FuncId):LCode:=(.seq (.block 1 (.seq (.sq [(zs 47 (.mv false (.t 0))),(zs 48 (.mv false (.t 9))),(zs 49 (.ixa (.sl 7) (.t 47) (.t 48))),(zs 50 (.loadA 7 (.t 49))),(zs 10 (.alloc false [(.s (.int .i64 0)),(.s (.int .i64 0)),(.s (.int .i64 0)),(.s (.int .u8 0)),(.s (.int .i64 0)),(.s (.int .u8 0)),(.s .nilS)])),(zn (.store 7 (.t 10) (.t 50)))]) (y12n21 c))) (y12n22 c))
def y12n24 (c:Nat→FuncId):LCode:=(.seq (.seq (.sq [(zs 41 (.mv false (.t 9))),(zs 42 (.mv false (.t 0))),(zs 43 (.len .sl (.t 42))),(zs 44 (.bin .lss .sc (.t 41) (.t 43)))]) (.cond (.t 44) .skip (.exit 0))) (y12n23 c))
def y12n25 (c:Nat→FuncId):LCode:=(.block 0 (.loop (zm false [0,1,3,2,1,3,216]) (y12n24 c)))
def y12n26 (c:Nat→FuncId):LCode:=(.seq (.seq (.sq [(zs 9 (.mv true (zi 0)))]) (y12n25 c)) (.seq (.sq [(zs 6 (.mv true zT))]) .ret))
def y12n27 (c:Nat→FuncId):LCode:=(.seq (.sq [(zs 38 (.call (.f (c 1)) [])),(zs 39 (.build [(.s .nilS)] [])),(zs 40 (.box false true (.t 39))),(zs 7 (.mv true (.t 38))),(zs 8 (.mv true (.t 40)))]) (y12n26 c))
def y12n28 (c:Nat→FuncId):LCode:=(.seq (.seq (.sq [(zs 35 (.mv false (.t 0))),(zs 36 (.len .sl (.t 35))),(zs 37 (.bin .gtr .sc (.t 36) (zi 40)))]) (.cond (.t 37) (.seq (.sq [(zs 6 (.mv true zT))]) .ret) .skip)) (y12n27 c))
def y12n29 (c:Nat→FuncId):LCode:=(.seq (.seq (.sq [(zs 33 (.call (.f (c 0)) [])),(zs 34 (.un .not (.t 33)))]) (.cond (.t 34) (.seq (.sq [(zs 6 (.mv true zF))]) .ret) .skip)) (y12n28 c))
def U_hourglasslaw13_PrepPlays (c:Nat→FuncId):=PLift.up (zc (zc (zc (zc (@unfC _ _ (y12n1.eq_1 c)) (zc (@unfC _ _ (y12n2.eq_1 c)) (@unfC _ _ (y12n3.eq_1 c)))) (zc (zc (@unfC _ _ (y12n4.eq_1 c)) (@unfC _ _ (y12n5.eq_1 c))) (zc (@unfC _ _ (y12n6.eq_1 c)) (@unfC _ _ (y12n7.eq_1 c))))) (zc (zc (@unfC _ _ (y12n8.eq_1 c)) (zc (@unfC _ _ (y12n9.eq_1 c)) (@unfC _ _ (y12n10.eq_1 c)))) (zc (zc (@unfC _ _ (y12n11.eq_1 c)) (@unfC _ _ (y12n12.eq_1 c))) (zc (@unfC _ _ (y12n13.eq_1 c)) (@unfC _ _ (y12n14.eq_1 c)))))) (zc (zc (zc (@unfC _ _ (y12n15.eq_1 c)) (zc (@unfC _ _ (y12n16.eq_1 c)) (@unfC _ _ (y12n17.eq_1 c)))) (zc (zc (@unfC _ _ (y12n18.eq_1 c)) (@unfC _ _ (y12n19.eq_1 c))) (zc (@unfC _ _ (y12n20.eq_1 c)) (@unfC _ _ (y12n21.eq_1 c))))) (zc (zc (zc (@unfC _ _ (y12n22.eq_1 c)) (@unfC _ _ (y12n23.eq_1 c))) (zc (@unfC _ _ (y12n24.eq_1 c)) (@unfC _ _ (y12n25.eq_1 c)))) (zc (zc (@unfC _ _ (y12n26.eq_1 c)) (@unfC _ _ (y12n27.eq_1 c))) (zc (@unfC _ _ (y12n28.eq_1 c)) (@unfC _ _ (y12n29.eq_1 c)))))))
def C_hourglasslaw13_PrepPlays (c:Nat→FuncId):LFn:=⟨226,[.t 6],(.seq (.sq [(zs 4 (.box false false (.t 1))),(zs 5 (.box false false (.t 2))),(zs 6 (.mv true zF))]) (y12n29 c))⟩
end Go.AM
namespace Go.AM
open Go
open AV renaming undef → uu
set_option maxRecDepth 20000
def minStep (m x:Ent):Ent:=if cmpS x.stamp m.stamp < 0 then x else m
def CmpES (C:CallW) (g:FuncId):Prop:=∀(x y:Ent) S H (K:AV→St→Prop),K (.i (cmpS x.stamp y.stamp)) ⟨S,H⟩→C (.fn g) [entA x,entA y] ⟨S,H⟩ K
theorem prep_Least1_spec {C:CallW} (P:Program) {c:Nat→FuncId} (h0:CmpSS C (c 0)):∀(x y:Ent) S H (K:AV→St→Prop),K (.i (cmpS x.stamp y.stamp)) ⟨S,H⟩→runL C P (C_prep_Table_Least_1 c) [entA x,entA y] ⟨S,H⟩ K:=by
  intro x y S H K hK
  simp only [entA,enc,C_prep_Table_Least_1,A_,simprocAttr,ne_eq,(U_prep_Table_Least_1 _).1]
  refine h0 x.stamp y.stamp _ _ _ ?_
  simp only [C_prep_Table_Least_1,A_,simprocAttr,ne_eq,(U_prep_Table_Least_1 _).1]
  exact hK
def MinFS (C:CallW) (f g:FuncId):Prop:=∀(x:Ent) (l:List Ent) S H (K:AV→St→Prop),(x :: l).length≤1000000→K (entA (l.foldl minStep x)) ⟨S,H⟩→C (.fn f) [lstE (x :: l),.fn (.func g) [] []] ⟨S,H⟩ K
set_option maxHeartbeats 4000000 in
theorem MinFunc_spec {C:CallW} (hC:LeC C C) (P:Program) {g:FuncId} (h0:CmpES C g):∀(x:Ent) (l:List Ent) S H (K:AV→St→Prop),(x :: l).length≤1000000→K (entA (l.foldl minStep x)) ⟨S,H⟩→runL C P C_slices_MinFunc_Entry [lstE (x :: l),.fn (.func g) [] []] ⟨S,H⟩ K:=by
  intro x l S H K hl hK
  obtain ⟨m,hm⟩:∃m,x :: l=m:=⟨_,rfl⟩
  have hml:0 < m.length:=by rw [←hm]; simp
  rw [hm] at hl ⊢
  have hlt1:((m.length:Int) < 1)=False:=eq_false (by omega)
  have x0:=ixl_ent (l:=m) hml
  have h00:m[0]=x:=by subst hm; rfl
  rw [h00] at x0
  simp only [enc] at x0
  have x0':∀k:IntKind,indexAddrL (.sl 6) (.list .sh 6 (m.map entA)) (.s (.int k 0))=_:=x0
  generalize hR:l.foldl minStep x=R at hK
  simp only [lstE,C_slices_MinFunc_Entry,A_,simprocAttr,ne_eq,U_slices_MinFunc_Entry.1,hlt1,x0']
  refine loop_rule hC (α:=Nat×Ent) (fun a=>m.length - a.1) (fun a=>[.list .sh 6 (m.map entA),.fn (.func g) [] [],uu,uu,.ptr (.stk S.length) 0,.ptr (.stk (S.length + 1)) 0,.s (.int .i64 (a.1:Nat)),uu,uu,uu,uu,uu,uu,uu,uu,uu,uu,uu,uu,uu,uu,uu,uu,uu,uu,uu,uu,uu,uu,uu,uu,uu,uu]) (fun a=>S ++ [[.s (.int .i64 0),.s (.int .i64 0),.s (.int .u8 0),.s (.int .i64 0),.s (.int .u8 0),.s .nilS],[.s (.int .i64 a.2.id),.s (.int .i64 a.2.snap.t),u8 a.2.snap.n,.s (.int .i64 a.2.stamp.t),u8 a.2.stamp.n,.list .sh 18 (a.2.writes.map wA)]]) (fun a=>H) (fun a=>a.1≤m.length∧R=(m.drop a.1).foldl minStep a.2) (1,x) ⟨hml,by dsimp only; rw [←hm]; exact hR.symm⟩ (by simp [keep,zm]) (by rw [app_take_add]; rfl) rfl (fun a _=>by simp [AV.under,AV.under.go]) ?_
  rintro ⟨i,y⟩ ⟨hi,hinv⟩ ih
  dsimp only at hi hinv ih ⊢
  by_cases h16:i < m.length
  · have hlt:((i:Int) < (m.length:Int)):=by omega
    have hw:=wrap_succ (i:=i) (by omega)
    have x1:=ixl_ent (l:=m) h16
    simp only [enc] at x1
    rw [List.drop_eq_getElem_cons h16,List.foldl_cons] at hinv
    simp only [C_slices_MinFunc_Entry,A_,simprocAttr,ne_eq,U_slices_MinFunc_Entry.1,hlt,x1]
    refine h0 m[i] y _ _ _ ?_
    unfold minStep at hinv
    by_cases hx:cmpS (m[i]).stamp y.stamp < 0
    · rw [if_pos hx] at hinv
      simp only [C_slices_MinFunc_Entry,A_,simprocAttr,ne_eq,U_slices_MinFunc_Entry.1,hlt,x1,hx,hw]
      exact ih (i + 1,m[i]) _ _ _ (by dsimp only; omega) ⟨by dsimp only; omega,hinv⟩ (by simp [keep,zm]) (by rw [app_take_add]; rfl) rfl
    · rw [if_neg hx] at hinv
      simp only [C_slices_MinFunc_Entry,A_,simprocAttr,ne_eq,U_slices_MinFunc_Entry.1,hlt,x1,hx,hw]
      exact ih (i + 1,y) _ _ _ (by dsimp only; omega) ⟨by dsimp only; omega,hinv⟩ (by simp [keep,zm]) (by rw [app_take_add]; rfl) rfl
  · have hlt:¬((i:Int) < (m.length:Int)):=by omega
    rw [List.drop_of_length_le (by omega)] at hinv
    have hinv:R=y:=hinv
    subst hinv
    simp only [C_slices_MinFunc_Entry,A_,simprocAttr,ne_eq,U_slices_MinFunc_Entry.1,hlt]
    exact hK
def leastT:List Ent→Stp×Bool
  | []=>(⟨0,0⟩,false)
  | x :: l=>((l.foldl minStep x).stamp,true)
def LeastS (C:CallW) (f:FuncId):Prop:=∀(h h1 h2:Nat) (tb:List Ent) (hl:List (Key×Int)) S H (K:AV→St→Prop),TabH H h h1 h2 tb hl→(tb.map Ent.id).Nodup→tb.length≤1000→(∀x∈tb,x.writes.length≤1000000)→(∀l G,l.Perm tb→(l.map Ent.id).Pairwise (·≤·)→K (.tup [.agg (stc (leastT l).1),.bool (leastT l).2]) ⟨S,H ++ G⟩)→C (.fn f) [.ptr (.heap h) 0] ⟨S,H⟩ K
theorem prep_Least_spec {C:CallW} (P:Program) {c:Nat→FuncId} (h0:AllS C (c 0)) (h1:MinFS C (c 1) (c 2)):∀(h j1 j2:Nat) (tb:List Ent) (hl:List (Key×Int)) S H (K:AV→St→Prop),TabH H h j1 j2 tb hl→(tb.map Ent.id).Nodup→tb.length≤1000→(∀x∈tb,x.writes.length≤1000000)→(∀l G,l.Perm tb→(l.map Ent.id).Pairwise (·≤·)→K (.tup [.agg (stc (leastT l).1),.bool (leastT l).2]) ⟨S,H ++ G⟩)→runL C P (C_prep_Table_Least c) [.ptr (.heap h) 0] ⟨S,H⟩ K:=by
  intro h j1 j2 tb hl S H K t hn hlen hw hK
  simp only [C_prep_Table_Least,A_,simprocAttr,ne_eq,(U_prep_Table_Least _).1]
  refine h0 h j1 j2 tb hl _ _ _ t hn hlen hw fun m G hp hs => ?_
  have hK2:=hK m G hp hs
  have hml:m.length≤1000:=by have:=hp.length_eq; omega
  cases m with
  | nil =>
    simp only [lstE,C_prep_Table_Least,A_,simprocAttr,ne_eq,(U_prep_Table_Least _).1]
    exact hK2
  | cons x l =>
    have hne:((((x :: l).length:Nat):Int)=0)=False:=eq_false (by simp; omega)
    have hne2:(((l.length + 1:Nat):Int)=0)=False:=eq_false (by omega)
    obtain ⟨v,hv⟩:∃v,v=lstE (x :: l):=⟨_,rfl⟩
    have hlv:∀σ,lenL .sl (lstE (x :: l)) σ=some (l.length + 1):=fun σ=>by simp [lenL,lstE]
    have hnil:(l.map entA).length=l.length:=by simp
    simp only [lstE,List.map_cons,List.length_map,C_prep_Table_Least,A_,simprocAttr,ne_eq,(U_prep_Table_Least _).1,hne,hne2]
    refine h1 x l _ _ _ (by simp at hml ⊢; omega) ?_
    simp only [entA,enc,C_prep_Table_Least,A_,simprocAttr,ne_eq,(U_prep_Table_Least _).1]
    exact hK2
end Go.AM
namespace Go.AM
open Go
set_option maxRecDepth 20000
theorem addT_ok {tb:List Ent} {hl:List (Key×Int)} {e:Ent} (h:goodE e=true) (h2:(entOf tb e.id).2=false) (h3:heldT hl e.writes=false) (h4:¬100≤tb.length):addT tb hl e=(0,tb ++ [e],hl ++ e.writes.map fun w=>(w.key,e.id)):=by unfold addT; rw [if_neg (by rw [h]; simp),if_neg (by rw [h2]; simp),if_neg (by rw [h3]; simp),if_neg h4]
def mkE (id:Int) (s:List UInt8) (t:Int):Ent:=⟨id,⟨0,0⟩,⟨t,0⟩,[⟨padK s,[118],false⟩]⟩
def keyN (n:Nat):Key:=padK [1,UInt8.ofNat n]
def entN (n:Nat):Ent:=⟨n,⟨0,0⟩,⟨5,0⟩,[⟨keyN n,[],false⟩]⟩
theorem keyN_good:∀n:Nat,n < 109→10≤n→goodK (keyN n)=true:=by decide
theorem entN_good {n:Nat} (h:n < 109) (h1:10≤n):goodE (entN n)=true:=by
  have hk:=keyN_good n h h1
  have hid:(1:Int)≤(n:Int):=by omega
  have g1:goodS ⟨0,0⟩=true:=by decide
  have g2:goodS ⟨5,0⟩=true:=by decide
  have g3:(0 < cmpS ⟨5,0⟩ ⟨0,0⟩):=by decide
  simp [goodE,mayE,entN,sgood,hk,hid,g1,g2,g3]
theorem keyN_inj:∀n:Nat,n < 109→∀m:Nat,m < 109→keyN n=keyN m→n=m:=by
  intro n hn m hm h
  have h1:=congrArg (fun k:Key=>(k.b[1]?).map UInt8.toNat) h
  have h2:∀j:Nat,((keyN j).b[1]?).map UInt8.toNat=some (UInt8.ofNat j).toNat:=fun j=>rfl
  simp only [h2,Option.some.injEq,UInt8.toNat_ofNat'] at h1
  omega
theorem keyN_ne (s:UInt8) (hs:s≠1) (n:Nat):padK [s]≠keyN n:=by
  intro h
  have h1:=congrArg (fun k:Key=>k.b[0]?) h
  have h2:(padK [s]).b[0]? = some s:=rfl
  have h3:(keyN n).b[0]? = some 1:=rfl
  simp only [h2,h3,Option.some.injEq] at h1
  exact hs h1
theorem heldT_no {hl:List (Key×Int)} {ws:List Wr} (h:∀w∈ws,∀p∈hl,p.1≠w.key):heldT hl ws=false:=by
  unfold heldT
  rw [List.any_eq_false]
  intro w hw
  unfold holdOf
  cases hg:getB Prod.fst hl w.key with
  | none=>simp
  | some p =>
    obtain ⟨h1,h2⟩:=getB_mem hg
    exact absurd h2 (h w hw p h1)
theorem entOf_no {tb:List Ent} {id:Int} (h:∀x∈tb,x.id≠id):(entOf tb id).2=false:=by
  unfold entOf
  cases hg:getB Ent.id tb id with
  | none=>rfl
  | some x=>obtain ⟨h1,h2⟩:=getB_mem hg; exact absurd h2 (h x h1)
structure KnI (n:Nat) (tb:List Ent) (hl:List (Key×Int)):Prop where
  inv:InvT tb hl
  ids:∀x∈tb,x.id < n
  keys:∀p∈hl,∀m:Nat,n≤m→m < 109→p.1≠keyN m
  q:∀p∈hl,p.1≠padK [113]
  len:tb.length + 9=n
theorem KnI.step {n:Nat} {tb:List Ent} {hl:List (Key×Int)} (h:KnI n tb hl) (h1:10≤n) (h2:n < 109):∃tb' hl',addT tb hl (entN n)=(0,tb',hl')∧KnI (n + 1) tb' hl':=by
  have ha:addT tb hl (entN n)=_:=addT_ok (entN_good h2 h1) (entOf_no fun x hx=>by have:=h.ids x hx; show x.id≠(n:Int); omega) (heldT_no fun w hw p hp=>by
    have hw:w=⟨keyN n,[],false⟩:=by simpa [entN] using hw
    rw [hw]; exact h.keys p hp n (Nat.le_refl _) h2) (by have:=h.len; omega)
  refine ⟨_,_,ha,?_⟩
  have hinv:=h.inv.add (entN n)
  rw [ha] at hinv
  refine ⟨hinv,?_,?_,?_,?_⟩
  · intro x hx
    rcases List.mem_append.1 hx with hx | hx
    · have:=h.ids x hx; push_cast; omega
    · rw [List.mem_singleton.1 hx]; show (n:Int) < _; push_cast; omega
  · intro p hp m hm hm2
    rcases List.mem_append.1 hp with hp | hp
    · exact h.keys p hp m (by omega) hm2
    · have hp:p=(keyN n,(n:Int)):=by simpa [entN] using hp
      rw [hp]
      intro e
      have:=keyN_inj n h2 m hm2 e
      omega
  · intro p hp
    rcases List.mem_append.1 hp with hp | hp
    · exact h.q p hp
    · have hp:p=(keyN n,(n:Int)):=by simpa [entN] using hp
      rw [hp]
      exact fun e=>keyN_ne 113 (by decide) n e.symm
  · simp; have:=h.len; omega
def E2:Ent:=mkE 2 [97] 5
def E1:Ent:=mkE 1 [98] 4
end Go.AM
namespace Go.AM
open Go
set_option maxRecDepth 20000
end Go.AM
namespace Go.AM
open Go
open AV renaming undef → uu
set_option maxRecDepth 20000
def slO6 (L:List Ent):AV:=if L=[] then .s .nilS else .list .own 6 (L.map entA)
def tabR (L:List Ent):HObj := .cells [slO6 L]
theorem tabR_nil {S:List (List AV)} {H:List HObj} {h:Nat} (hh:H[h]? = some (tabR [])):load1L false (.ptr (.heap h) 0) ⟨S,H⟩=some (.s .nilS,⟨S,H⟩):=by
  unfold tabR slO6 at hh
  rw [if_pos rfl] at hh
  simp only [load1L,boxOf,hh,Option.bind_some]; rfl
theorem tabR_cons {S:List (List AV)} {H:List HObj} {h:Nat} {L:List Ent} (hne:L≠[]) (hh:H[h]? = some (tabR L)):load1L false (.ptr (.heap h) 0) ⟨S,H⟩=some (.list .sh 6 (L.map entA),⟨S,H⟩):=by
  unfold tabR slO6 at hh
  rw [if_neg hne] at hh
  simp only [load1L,boxOf,hh,Option.bind_some]; rfl
def EntIS (C:CallW) (f:FuncId):Prop:=∀(e:Ent) S H (K:AV→St→Prop),K (entA e) ⟨S,H⟩→C (.fn f) [entA e] ⟨S,H⟩ K
theorem law13_ent_spec {C:CallW} (P:Program):∀(e:Ent) S H (K:AV→St→Prop),K (entA e) ⟨S,H⟩→runL C P C_hourglasslaw13_ent [entA e] ⟨S,H⟩ K:=by
  intro e S H K hK
  simp only [entA,enc,C_hourglasslaw13_ent,A_,simprocAttr,ne_eq,U_hourglasslaw13_ent.1]
  exact hK
def SameES (C:CallW) (f:FuncId):Prop:=∀(e:Ent) S H (K:AV→St→Prop),e.writes.length≤9223372036854775807→K (.bool true) ⟨S,H⟩→C (.fn f) [entA e,entA e] ⟨S,H⟩ K
theorem SameEntry_spec {C:CallW} (P:Program) {c:Nat→FuncId} (h0:WritesEqS C (c 0)):∀(e:Ent) S H (K:AV→St→Prop),e.writes.length≤9223372036854775807→K (.bool true) ⟨S,H⟩→runL C P (C_hourglassref10_SameEntry c) [entA e,entA e] ⟨S,H⟩ K:=by
  intro e S H K hw hK
  simp only [entA,enc,C_hourglassref10_SameEntry,A_,simprocAttr,ne_eq,(U_hourglassref10_SameEntry _).1]
  refine h0 e.writes e.writes _ _ _ hw hw ?_
  rw [decide_eq_true rfl]
  simp only [C_hourglassref10_SameEntry,A_,simprocAttr,ne_eq,(U_hourglassref10_SameEntry _).1]
  exact hK
def RHasS (C:CallW) (f:FuncId):Prop:=∀(h:Nat) (L:List Ent) (id:Int) S H (K:AV→St→Prop),H[h]? = some (tabR L)→L.length≤1000000→K (.tup [entA (entOf L id).1,.bool (entOf L id).2]) ⟨S,H⟩→C (.fn f) [.ptr (.heap h) 0,.s (.int .i64 id)] ⟨S,H⟩ K
theorem find_drop {α:Type} {p:α→Bool} {l:List α} {i:Nat} (h:i < l.length) (hinv:l.find? p=(l.drop i).find? p):l.find? p=if p l[i]=true then some l[i] else (l.drop (i + 1)).find? p:=by
  rw [hinv,List.drop_eq_getElem_cons h,List.find?_cons]
  cases p l[i] <;> rfl
set_option maxHeartbeats 4000000 in
theorem RHas_spec {C:CallW} (hC:LeC C C) (P:Program):∀(h:Nat) (L:List Ent) (id:Int) S H (K:AV→St→Prop),H[h]? = some (tabR L)→L.length≤1000000→K (.tup [entA (entOf L id).1,.bool (entOf L id).2]) ⟨S,H⟩→runL C P C_hourglassref10_Table_Has [.ptr (.heap h) 0,.s (.int .i64 id)] ⟨S,H⟩ (WkK K):=by
  intro h L id S H K hh hl hK
  have zend:getB Ent.id L id=none→WkK K (.tup [zEA,.bool false]) ⟨S,H⟩:=fun hg=>by
    have he:entOf L id=(zEnt,false):=by unfold entOf; rw [hg]
    rw [he] at hK
    exact ⟨_,.inr zE_wkL,hK⟩
  by_cases e:L=[]
  · subst e
    have hld:=fun S'=>tabR_nil (S:=S') hh
    simp only [C_hourglassref10_Table_Has,A_,simprocAttr,ne_eq,U_hourglassref10_Table_Has.1]
    refine loop_rule hC (α:=Unit) (fun _=>0) (fun _=>[.ptr (.heap h) 0,.s (.int .i64 id),uu,uu,.ptr (.stk S.length) 0,.undef,.s (.int .i64 0),uu,uu,uu,uu,uu,uu,uu,uu,uu,uu,uu,uu,uu,uu,uu,uu,uu,uu,uu,uu,uu,uu,uu,uu,uu,uu,uu]) (fun _=>S ++ [[.s (.int .i64 0),.s (.int .i64 0),.s (.int .u8 0),.s (.int .i64 0),.s (.int .u8 0),.s .nilS]]) (fun _=>H) (fun _=>True) () trivial (by simp [keep,zm]) (by rw [app_take_add]; rfl) rfl (fun a _=>by simp [AV.under,AV.under.go]) ?_
    rintro _ _ ih
    simp only [C_hourglassref10_Table_Has,A_,simprocAttr,ne_eq,U_hourglassref10_Table_Has.1,hld]
    exact zend rfl
  · have hld:=fun S'=>tabR_cons (S:=S') e hh
    simp only [C_hourglassref10_Table_Has,A_,simprocAttr,ne_eq,U_hourglassref10_Table_Has.1]
    refine loop_rule hC (α:=Nat) (fun a=>L.length - a) (fun a=>[.ptr (.heap h) 0,.s (.int .i64 id),uu,uu,.ptr (.stk S.length) 0,.undef,.s (.int .i64 (a:Nat)),uu,uu,uu,uu,uu,uu,uu,uu,uu,uu,uu,uu,uu,uu,uu,uu,uu,uu,uu,uu,uu,uu,uu,uu,uu,uu,uu]) (fun _=>S ++ [[.s (.int .i64 0),.s (.int .i64 0),.s (.int .u8 0),.s (.int .i64 0),.s (.int .u8 0),.s .nilS]]) (fun _=>H) (fun a=>a≤L.length∧L.find? (fun x=>decide (x.id=id))=(L.drop a).find? (fun x=>decide (x.id=id))) 0 ⟨Nat.zero_le _,rfl⟩ (by simp [keep,zm]) (by rw [app_take_add]; rfl) rfl (fun a _=>by simp [AV.under,AV.under.go]) ?_
    rintro i ⟨hi,hinv⟩ ih
    by_cases h16:i < L.length
    · have hlt:((i:Int) < (L.length:Int)):=by omega
      have hw:=wrap_succ (i:=i) (by omega)
      have x1:=ixl_ent (l:=L) h16
      simp only [enc] at x1
      have hf:=find_drop h16 hinv
      by_cases hx:(L[i]).id=id
      · have hx':((L[i]).id=id)=True:=eq_true hx
        rw [if_pos (decide_eq_true hx)] at hf
        have he:entOf L id=(L[i],true):=by unfold entOf getB; rw [hf]
        rw [he] at hK
        simp only [C_hourglassref10_Table_Has,A_,simprocAttr,ne_eq,U_hourglassref10_Table_Has.1,hld,hlt,x1,hx']
        simp only [entA,enc] at hK
        exact ⟨_,.inl rfl,hK⟩
      · have hx':((L[i]).id=id)=False:=eq_false hx
        rw [if_neg (by simpa using hx)] at hf
        simp only [C_hourglassref10_Table_Has,A_,simprocAttr,ne_eq,U_hourglassref10_Table_Has.1,hld,hlt,x1,hx',hw]
        exact ih (i + 1) _ _ _ (by omega) ⟨by omega,hf⟩ (by simp [keep,zm]) (by rw [app_take_add]; rfl) rfl
    · have hlt:¬((i:Int) < (L.length:Int)):=by omega
      rw [List.drop_of_length_le (by omega)] at hinv
      simp only [C_hourglassref10_Table_Has,A_,simprocAttr,ne_eq,U_hourglassref10_Table_Has.1,hld,hlt]
      exact zend hinv
end Go.AM
namespace Go.AM
open Go
open AV renaming undef → uu
set_option maxRecDepth 20000
def hasK (k:Key) (e:Ent):Bool:=decide (k∈e.writes.map (·.key))
def hfR (L:List Ent) (k:Key):Ent×Bool:=match L.find? (hasK k) with
  | some e=>(e,true)
  | none=>(zEnt,false)
def RhS (C:CallW) (f:FuncId):Prop:=∀(h:Nat) (L:List Ent) (k:Key) S H (K:AV→St→Prop),H[h]? = some (tabR L)→L.length≤1000000→(∀x∈L,x.writes.length≤1000000)→K (.tup [entA (hfR L k).1,.bool (hfR L k).2]) ⟨S,H⟩→C (.fn f) [.ptr (.heap h) 0,.agg (bs k.b)] ⟨S,H⟩ K
set_option maxHeartbeats 8000000 in
theorem Rholder_spec {C:CallW} (hC:LeC C C) (P:Program):∀(h:Nat) (L:List Ent) (k:Key) S H (K:AV→St→Prop),H[h]? = some (tabR L)→L.length≤1000000→(∀x∈L,x.writes.length≤1000000)→K (.tup [entA (hfR L k).1,.bool (hfR L k).2]) ⟨S,H⟩→runL C P C_hourglassref10_Table_holder [.ptr (.heap h) 0,.agg (bs k.b)] ⟨S,H⟩ (WkK K):=by
  intro h L k S H K hh hl hwl hK
  have zend:L.find? (hasK k)=none→WkK K (.tup [zEA,.bool false]) ⟨S,H⟩:=fun hg=>by
    have he:hfR L k=(zEnt,false):=by unfold hfR; rw [hg]
    rw [he] at hK
    exact ⟨_,.inr zE_wkL,hK⟩
  by_cases e:L=[]
  · subst e
    have hld:=fun S'=>tabR_nil (S:=S') hh
    simp only [C_hourglassref10_Table_holder,A_,simprocAttr,ne_eq,U_hourglassref10_Table_holder.1]
    refine loop_rule hC (α:=Unit) (fun _=>0) (fun _=>[.ptr (.heap h) 0,uu,uu,.ptr (.stk S.length) 0,.ptr (.stk (S.length + 1)) 0,.undef,.s (.int .i64 0),uu,uu,uu,uu,uu,uu,uu,uu,uu,uu,uu,uu,uu,uu,uu,uu,uu,uu,uu,uu,uu,uu,uu,uu,uu,uu,uu,uu,uu,uu,uu,uu,uu,uu,uu,uu,uu,uu,uu,uu,uu,uu,uu,uu,uu]) (fun _=>S ++ [bs k.b,[.s (.int .i64 0),.s (.int .i64 0),.s (.int .u8 0),.s (.int .i64 0),.s (.int .u8 0),.s .nilS]]) (fun _=>H) (fun _=>True) () trivial (by simp [keep,zm]) (by rw [app_take_add]; rfl) rfl (fun a _=>by simp [AV.under,AV.under.go]) ?_
    rintro _ _ ih
    simp only [C_hourglassref10_Table_holder,A_,simprocAttr,ne_eq,U_hourglassref10_Table_holder.1,hld]
    exact zend rfl
  · have hld:=fun S'=>tabR_cons (S:=S') e hh
    simp only [C_hourglassref10_Table_holder,A_,simprocAttr,ne_eq,U_hourglassref10_Table_holder.1]
    refine loop_rule hC (α:=Nat) (fun a=>L.length - a) (fun a=>[.ptr (.heap h) 0,uu,uu,.ptr (.stk S.length) 0,.ptr (.stk (S.length + 1)) 0,.undef,.s (.int .i64 (a:Nat)),uu,uu,uu,uu,uu,uu,uu,uu,uu,uu,uu,uu,uu,uu,uu,uu,uu,uu,uu,uu,uu,uu,uu,uu,uu,uu,uu,uu,uu,uu,uu,uu,uu,uu,uu,uu,uu,uu,uu,uu,uu,uu,uu,uu,uu]) (fun _=>S ++ [bs k.b,[.s (.int .i64 0),.s (.int .i64 0),.s (.int .u8 0),.s (.int .i64 0),.s (.int .u8 0),.s .nilS]]) (fun _=>H) (fun a=>a≤L.length∧L.find? (hasK k)=(L.drop a).find? (hasK k)) 0 ⟨Nat.zero_le _,rfl⟩ (by simp [keep,zm]) (by rw [app_take_add]; rfl) rfl (fun a _=>by simp [AV.under,AV.under.go]) ?_
    rintro i ⟨hi,hinv⟩ ih
    by_cases h16:i < L.length
    · have hlt:((i:Int) < (L.length:Int)):=by omega
      have hw:=wrap_succ (i:=i) (by omega)
      have x1:=ixl_ent (l:=L) h16
      simp only [enc] at x1
      have hf:=find_drop h16 hinv
      have hwi:=hwl _ (List.getElem_mem h16)
      simp only [C_hourglassref10_Table_holder,A_,simprocAttr,ne_eq,U_hourglassref10_Table_holder.1,hld,hlt]
      refine loop_rule hC (α:=Nat) (fun a=>(L[i]).writes.length - a) (fun a=>[.ptr (.heap h) 0,uu,uu,.ptr (.stk S.length) 0,.ptr (.stk (S.length + 1)) 0,.undef,.s (.int .i64 (i:Nat)),.s (.int .i64 (a:Nat)),uu,uu,uu,uu,uu,uu,uu,uu,uu,uu,uu,uu,uu,uu,uu,uu,uu,uu,uu,uu,uu,uu,uu,uu,uu,uu,uu,uu,uu,uu,uu,uu,uu,uu,uu,uu,uu,uu,uu,uu,uu,uu,uu,uu]) (fun _=>S ++ [bs k.b,[.s (.int .i64 0),.s (.int .i64 0),.s (.int .u8 0),.s (.int .i64 0),.s (.int .u8 0),.s .nilS]]) (fun _=>H) (fun a=>a≤(L[i]).writes.length∧(k∈(L[i]).writes.map (·.key)↔k∈((L[i]).writes.drop a).map (·.key))) 0 ⟨Nat.zero_le _,Iff.rfl⟩ (by simp [keep,zm]) (by rw [app_take_add]; rfl) rfl (fun a _=>by simp [AV.under,AV.under.go]) ?_
      rintro r ⟨hr,hinv2⟩ ih2
      by_cases h17:r < (L[i]).writes.length
      · have hlt2:((r:Int) < ((L[i]).writes.length:Int)):=by omega
        have hwr:=wrap_succ (i:=r) (by omega)
        rw [List.drop_eq_getElem_cons h17,List.map_cons,List.mem_cons] at hinv2
        by_cases hx:((L[i]).writes[r]).key=k
        · have hx':(((L[i]).writes[r]).key=k)=True:=eq_true hx
          rw [if_pos (show hasK k L[i]=true from decide_eq_true (hinv2.2 (.inl hx.symm)))] at hf
          have he:hfR L k=(L[i],true):=by unfold hfR; rw [hf]
          rw [he] at hK
          simp only [entA,enc] at hK
          simp only [C_hourglassref10_Table_holder,A_,simprocAttr,ne_eq,U_hourglassref10_Table_holder.1,WR_,hld,hlt2,x1,h17,hx']
          exact ⟨_,.inl rfl,hK⟩
        · have hx':(((L[i]).writes[r]).key=k)=False:=eq_false hx
          simp only [C_hourglassref10_Table_holder,A_,simprocAttr,ne_eq,U_hourglassref10_Table_holder.1,WR_,hld,hlt2,x1,h17,hx',hwr]
          exact ih2 (r + 1) _ _ _ (by omega) ⟨by omega,hinv2.trans ⟨fun q=>q.resolve_left fun e=>hx e.symm,.inr⟩⟩ (by simp [keep,zm]) (by rw [app_take_add]; rfl) rfl
      · have hlt2:¬((r:Int) < ((L[i]).writes.length:Int)):=by omega
        rw [List.drop_of_length_le (by omega)] at hinv2
        rw [if_neg (by unfold hasK; rw [decide_eq_true_eq]; exact fun q=>by have:=hinv2.1 q; simp at this)] at hf
        simp only [C_hourglassref10_Table_holder,A_,simprocAttr,ne_eq,U_hourglassref10_Table_holder.1,hld,hlt2,x1,hw]
        exact ih (i + 1) _ _ _ (by omega) ⟨by omega,hf⟩ (by simp [keep,zm]) (by rw [app_take_add]; rfl) rfl
    · have hlt:¬((i:Int) < (L.length:Int)):=by omega
      rw [List.drop_of_length_le (by omega)] at hinv
      simp only [C_hourglassref10_Table_holder,A_,simprocAttr,ne_eq,U_hourglassref10_Table_holder.1,hld,hlt]
      exact zend hinv
def RHolderS (C:CallW) (f:FuncId):Prop:=∀(h:Nat) (L:List Ent) (k:Key) S H (K:AV→St→Prop),H[h]? = some (tabR L)→L.length≤1000000→(∀x∈L,x.writes.length≤1000000)→K (.tup [.s (.int .i64 (hfR L k).1.id),.bool (hfR L k).2]) ⟨S,H⟩→C (.fn f) [.ptr (.heap h) 0,.agg (bs k.b)] ⟨S,H⟩ K
theorem RHolder_spec {C:CallW} (P:Program) {c:Nat→FuncId} (h0:RhS C (c 0)):∀(h:Nat) (L:List Ent) (k:Key) S H (K:AV→St→Prop),H[h]? = some (tabR L)→L.length≤1000000→(∀x∈L,x.writes.length≤1000000)→K (.tup [.s (.int .i64 (hfR L k).1.id),.bool (hfR L k).2]) ⟨S,H⟩→runL C P (C_hourglassref10_Table_Holder c) [.ptr (.heap h) 0,.agg (bs k.b)] ⟨S,H⟩ K:=by
  intro h L k S H K hh hl hwl hK
  simp only [C_hourglassref10_Table_Holder,A_,simprocAttr,ne_eq,(U_hourglassref10_Table_Holder _).1]
  refine h0 h L k _ _ _ hh hl hwl ?_
  simp only [entA,enc,C_hourglassref10_Table_Holder,A_,simprocAttr,ne_eq,(U_hourglassref10_Table_Holder _).1]
  exact hK
def blocksR (L:List Ent) (k:Key) (s:Stp):Int×Bool:=if (hfR L k).2=true∧cmpS (hfR L k).1.stamp s≤0 then ((hfR L k).1.id,true) else (0,false)
def RBlocksS (C:CallW) (f:FuncId):Prop:=∀(h:Nat) (L:List Ent) (k:Key) (s:Stp) S H (K:AV→St→Prop),H[h]? = some (tabR L)→L.length≤1000000→(∀x∈L,x.writes.length≤1000000)→K (.tup [.s (.int .i64 (blocksR L k s).1),.bool (blocksR L k s).2]) ⟨S,H⟩→C (.fn f) [.ptr (.heap h) 0,.agg (bs k.b),.agg (stc s)] ⟨S,H⟩ K
theorem RBlocks_spec {C:CallW} (P:Program) {c:Nat→FuncId} (h0:RhS C (c 0)) (h1:CmpSS C (c 1)):∀(h:Nat) (L:List Ent) (k:Key) (s:Stp) S H (K:AV→St→Prop),H[h]? = some (tabR L)→L.length≤1000000→(∀x∈L,x.writes.length≤1000000)→K (.tup [.s (.int .i64 (blocksR L k s).1),.bool (blocksR L k s).2]) ⟨S,H⟩→runL C P (C_hourglassref10_Table_Blocks c) [.ptr (.heap h) 0,.agg (bs k.b),.agg (stc s)] ⟨S,H⟩ K:=by
  intro h L k s S H K hh hl hwl hK
  unfold blocksR at hK
  simp only [stc,C_hourglassref10_Table_Blocks,A_,simprocAttr,ne_eq,(U_hourglassref10_Table_Blocks _).1]
  refine h0 h L k _ _ _ hh hl hwl ?_
  generalize hfR L k=r at hK ⊢
  obtain ⟨x,ok⟩:=r
  cases ok with
  | false =>
    rw [if_neg (by simp)] at hK
    simp only [entA,enc,C_hourglassref10_Table_Blocks,A_,simprocAttr,ne_eq,(U_hourglassref10_Table_Blocks _).1]
    exact hK
  | true =>
    simp only [entA,enc,C_hourglassref10_Table_Blocks,A_,simprocAttr,ne_eq,(U_hourglassref10_Table_Blocks _).1]
    refine h1 x.stamp s _ _ _ ?_
    by_cases hx:0 < cmpS x.stamp s
    · rw [if_neg (by dsimp only; omega)] at hK
      simp only [C_hourglassref10_Table_Blocks,A_,simprocAttr,ne_eq,(U_hourglassref10_Table_Blocks _).1,hx]
      exact hK
    · rw [if_pos (by dsimp only; exact ⟨rfl,by omega⟩)] at hK
      simp only [C_hourglassref10_Table_Blocks,A_,simprocAttr,ne_eq,(U_hourglassref10_Table_Blocks _).1,hx]
      exact hK
end Go.AM
namespace Go.AM
open Go
open AV renaming undef → uu
set_option maxRecDepth 20000
def bestR (b:Stp×Bool) (x:Ent):Stp×Bool:=if b.2=false then (x.stamp,true) else if cmpS x.stamp b.1 < 0 then (x.stamp,true) else b
def leastR (L:List Ent):Stp×Bool:=L.foldl bestR (⟨0,0⟩,false)
def RLeastS (C:CallW) (f:FuncId):Prop:=∀(h:Nat) (L:List Ent) S H (K:AV→St→Prop),H[h]? = some (tabR L)→L.length≤1000000→K (.tup [.agg (stc (leastR L).1),.bool (leastR L).2]) ⟨S,H⟩→C (.fn f) [.ptr (.heap h) 0] ⟨S,H⟩ K
set_option maxHeartbeats 8000000 in
theorem RLeast_spec {C:CallW} (hC:LeC C C) (P:Program) {c:Nat→FuncId} (h0:CmpSS C (c 0)):∀(h:Nat) (L:List Ent) S H (K:AV→St→Prop),H[h]? = some (tabR L)→L.length≤1000000→K (.tup [.agg (stc (leastR L).1),.bool (leastR L).2]) ⟨S,H⟩→runL C P (C_hourglassref10_Table_Least c) [.ptr (.heap h) 0] ⟨S,H⟩ K:=by
  intro h L S H K hh hl hK
  have z8:u8 0 = .s (.int .u8 0):=rfl
  by_cases e:L=[]
  · subst e
    have hld:=fun S'=>tabR_nil (S:=S') hh
    simp only [C_hourglassref10_Table_Least,A_,simprocAttr,ne_eq,(U_hourglassref10_Table_Least _).1]
    refine loop_rule hC (α:=Unit) (fun _=>0) (fun _=>[.ptr (.heap h) 0,.undef,.ptr (.stk S.length) 0,.undef,.ptr (.stk (S.length + 1)) 0,.s (.bool false),.s (.int .i64 0),uu,uu,uu,uu,uu,uu,uu,uu,uu,uu,uu,uu,uu,uu,uu,uu,uu,uu,uu,uu,uu,uu,uu,uu,uu,uu,uu,uu,uu,uu,uu,uu,uu,uu,uu]) (fun _=>S ++ [[.s (.int .i64 0),.s (.int .u8 0)],[.s (.int .i64 0),.s (.int .u8 0)]]) (fun _=>H) (fun _=>True) () trivial (by simp [keep,zm]) (by rw [app_take_add]; rfl) rfl (fun a _=>by simp [AV.under,AV.under.go]) ?_
    rintro _ _ ih
    simp only [C_hourglassref10_Table_Least,A_,simprocAttr,ne_eq,(U_hourglassref10_Table_Least _).1,hld]
    exact hK
  · have hld:=fun S'=>tabR_cons (S:=S') e hh
    generalize hR:leastR L=R at hK
    simp only [C_hourglassref10_Table_Least,A_,simprocAttr,ne_eq,(U_hourglassref10_Table_Least _).1]
    refine loop_rule hC (α:=Nat×Stp×Bool) (fun a=>L.length - a.1) (fun a=>[.ptr (.heap h) 0,.undef,.ptr (.stk S.length) 0,.undef,.ptr (.stk (S.length + 1)) 0,.s (.bool a.2.2),.s (.int .i64 (a.1:Nat)),uu,uu,uu,uu,uu,uu,uu,uu,uu,uu,uu,uu,uu,uu,uu,uu,uu,uu,uu,uu,uu,uu,uu,uu,uu,uu,uu,uu,uu,uu,uu,uu,uu,uu,uu]) (fun a=>S ++ [[.s (.int .i64 0),.s (.int .u8 0)],[.s (.int .i64 a.2.1.t),u8 a.2.1.n]]) (fun _=>H) (fun a=>a.1≤L.length∧R=(L.drop a.1).foldl bestR a.2) (0,⟨0,0⟩,false) ⟨Nat.zero_le _,hR.symm⟩ (by simp [keep,zm]) (by rw [app_take_add]; rfl) rfl (fun a _=>by simp [AV.under,AV.under.go]) ?_
    rintro ⟨i,b,ok⟩ ⟨hi,hinv⟩ ih
    dsimp only at hi hinv ih ⊢
    by_cases h16:i < L.length
    · have hlt:((i:Int) < (L.length:Int)):=by omega
      have hw:=wrap_succ (i:=i) (by omega)
      have x1:=ixl_ent (l:=L) h16
      simp only [enc] at x1
      rw [List.drop_eq_getElem_cons h16,List.foldl_cons] at hinv
      unfold bestR at hinv
      cases ok with
      | false =>
        rw [if_pos rfl] at hinv
        simp only [C_hourglassref10_Table_Least,A_,simprocAttr,ne_eq,(U_hourglassref10_Table_Least _).1,hld,hlt,x1,hw]
        exact ih (i + 1,(L[i]).stamp,true) _ _ _ (by dsimp only; omega) ⟨by dsimp only; omega,hinv⟩ (by simp [keep,zm]) (by rw [app_take_add]; rfl) rfl
      | true =>
        rw [if_neg (by simp)] at hinv
        simp only [C_hourglassref10_Table_Least,A_,simprocAttr,ne_eq,(U_hourglassref10_Table_Least _).1,hld,hlt,x1,hw]
        refine h0 (L[i]).stamp b _ _ _ ?_
        by_cases hx:cmpS (L[i]).stamp b < 0
        · rw [if_pos hx] at hinv
          simp only [C_hourglassref10_Table_Least,A_,simprocAttr,ne_eq,(U_hourglassref10_Table_Least _).1,hld,hlt,x1,hw,hx]
          exact ih (i + 1,(L[i]).stamp,true) _ _ _ (by dsimp only; omega) ⟨by dsimp only; omega,hinv⟩ (by simp [keep,zm]) (by rw [app_take_add]; rfl) rfl
        · rw [if_neg hx] at hinv
          simp only [C_hourglassref10_Table_Least,A_,simprocAttr,ne_eq,(U_hourglassref10_Table_Least _).1,hld,hlt,x1,hw,hx]
          exact ih (i + 1,b,true) _ _ _ (by dsimp only; omega) ⟨by dsimp only; omega,hinv⟩ (by simp [keep,zm]) (by rw [app_take_add]; rfl) rfl
    · have hlt:¬((i:Int) < (L.length:Int)):=by omega
      rw [List.drop_of_length_le (by omega)] at hinv
      have hinv:R=(b,ok):=hinv
      subst hinv
      simp only [C_hourglassref10_Table_Least,A_,simprocAttr,ne_eq,(U_hourglassref10_Table_Least _).1,hld,hlt]
      exact hK
def RDropS (C:CallW) (f:FuncId):Prop:=∀(h:Nat) (L:List Ent) (id:Int) S H (K:AV→St→Prop),H[h]? = some (tabR L)→L.length≤1000000→K (.tup [entA (entOf L id).1,.bool (entOf L id).2]) ⟨S,H.set h (tabR (dropE L id))⟩→C (.fn f) [.ptr (.heap h) 0,.s (.int .i64 id)] ⟨S,H⟩ K
theorem dropE_snoc {L:List Ent} {x:Ent} {id:Int}:dropE (L ++ [x]) id=dropE L id ++ (if x.id=id then [] else [x]):=by
  unfold dropE
  rw [List.filter_append]
  congr 1
  by_cases h:x.id=id <;> simp [h]
set_option maxHeartbeats 8000000 in
theorem RDrop_spec {C:CallW} (hC:LeC C C) (P:Program) {c:Nat→FuncId} (h0:RHasS C (c 0)):∀(h:Nat) (L:List Ent) (id:Int) S H (K:AV→St→Prop),H[h]? = some (tabR L)→L.length≤1000000→K (.tup [entA (entOf L id).1,.bool (entOf L id).2]) ⟨S,H.set h (tabR (dropE L id))⟩→runL C P (C_hourglassref10_Table_Drop c) [.ptr (.heap h) 0,.s (.int .i64 id)] ⟨S,H⟩ K:=by
  intro h L id S H K hh hl hK
  simp only [C_hourglassref10_Table_Drop,A_,simprocAttr,ne_eq,(U_hourglassref10_Table_Drop _).1]
  refine h0 h L id _ _ _ hh hl ?_
  generalize entOf L id=r at hK ⊢
  obtain ⟨x,ok⟩:=r
  dsimp only at hK ⊢
  simp only [entA,enc,C_hourglassref10_Table_Drop,A_,simprocAttr,ne_eq,(U_hourglassref10_Table_Drop _).1]
  have hst:∀S' (v:AV),v=slG 6 ((dropE L id).map entA)→storeL 1 (.ptr (.heap h) 0) v.calm ⟨S',H⟩=some ⟨S',H.set h (tabR (dropE L id))⟩:=by
    intro S' v hv
    subst hv
    have hb:boxOf ⟨S',H⟩ (.heap h)=some [slO6 L]:=by unfold tabR at hh; simp [boxOf,hh]
    unfold slG tabR slO6
    by_cases hd:dropE L id=[]
    · rw [if_pos (by simpa using hd),if_pos hd]
      simp only [AV.calm,storeL,AV.cells,AV.fit,writeCells,hb,Option.bind_some,mayHold,AV.under.go,AV.under]
      rfl
    · rw [if_neg (by simpa using hd),if_neg hd]
      simp only [AV.calm,storeL,AV.cells,AV.fit,writeCells,hb,Option.bind_some,mayHold,AV.under.go,AV.under]
      rfl
  by_cases e:L=[]
  · subst e
    have hld:=fun S'=>tabR_nil (S:=S') hh
    refine loop_rule hC (α:=Unit) (fun _=>0) (fun _=>[.ptr (.heap h) 0,.s (.int .i64 id),uu,uu,.ptr (.stk S.length) 0,.undef,.ptr (.stk (S.length + 1)) 0,.bool ok,.s .nilS,.s (.int .i64 0),uu,uu,uu,uu,uu,uu,uu,uu,uu,uu,uu,uu,uu,uu,uu,uu,uu,uu,uu,uu,uu,uu,uu,uu,uu,uu,uu,uu,uu,uu,uu,uu,uu,uu,uu,uu,uu,uu,uu,uu,uu]) (fun _=>S ++ [[.s (.int .i64 0),.s (.int .i64 0),.s (.int .u8 0),.s (.int .i64 0),.s (.int .u8 0),.s .nilS],[.s (.int .i64 x.id),.s (.int .i64 x.snap.t),u8 x.snap.n,.s (.int .i64 x.stamp.t),u8 x.stamp.n,.list .sh 18 (x.writes.map wA)]]) (fun _=>H) (fun _=>True) () trivial (by simp [keep,zm]) (by rw [app_take_add]; rfl) rfl (fun a _=>by simp [AV.under,AV.under.go]) ?_
    rintro _ _ ih
    have hst2:∀S',storeL 1 (.ptr (.heap h) 0) (.s .nilS) ⟨S',H⟩=some ⟨S',H.set h (tabR (dropE [] id))⟩:=fun S'=>hst S' (.s .nilS) rfl
    simp only [C_hourglassref10_Table_Drop,A_,simprocAttr,ne_eq,(U_hourglassref10_Table_Drop _).1,hld,hst2]
    exact hK
  · have hld:=fun S'=>tabR_cons (S:=S') e hh
    refine loop_rule hC (α:=Nat) (fun a=>L.length - a) (fun a=>[.ptr (.heap h) 0,.s (.int .i64 id),uu,uu,.ptr (.stk S.length) 0,.undef,.ptr (.stk (S.length + 1)) 0,.bool ok,slG 6 ((dropE (L.take a) id).map entA),.s (.int .i64 (a:Nat)),uu,uu,uu,uu,uu,uu,uu,uu,uu,uu,uu,uu,uu,uu,uu,uu,uu,uu,uu,uu,uu,uu,uu,uu,uu,uu,uu,uu,uu,uu,uu,uu,uu,uu,uu,uu,uu,uu,uu,uu,uu]) (fun _=>S ++ [[.s (.int .i64 0),.s (.int .i64 0),.s (.int .u8 0),.s (.int .i64 0),.s (.int .u8 0),.s .nilS],[.s (.int .i64 x.id),.s (.int .i64 x.snap.t),u8 x.snap.n,.s (.int .i64 x.stamp.t),u8 x.stamp.n,.list .sh 18 (x.writes.map wA)]]) (fun _=>H) (fun a=>a≤L.length) 0 (Nat.zero_le _) (by simp [keep,zm]; rfl) (by rw [app_take_add]; rfl) rfl (fun a _=>by simp [AV.under,AV.under.go,slG_under]) ?_
    intro i hi ih
    by_cases h16:i < L.length
    · have hlt:((i:Int) < (L.length:Int)):=by omega
      have hw:=wrap_succ (i:=i) (by omega)
      have x1:=ixl_ent (l:=L) h16
      simp only [enc] at x1
      have htk:L.take (i + 1)=L.take i ++ [L[i]]:=List.take_succ_eq_append_getElem h16
      by_cases hx:(L[i]).id=id
      · have hx':((L[i]).id=id)=True:=eq_true hx
        have hF:dropE (L.take (i + 1)) id=dropE (L.take i) id:=by rw [htk,dropE_snoc,if_pos hx,List.append_nil]
        simp only [C_hourglassref10_Table_Drop,A_,simprocAttr,ne_eq,(U_hourglassref10_Table_Drop _).1,hld,hlt,x1,hx',hw]
        refine ih (i + 1) _ _ _ (by omega) (by omega) ?_ (by rw [app_take_add]; rfl) rfl
        rw [hF]
        simp [keep,zm]
      · have hx':((L[i]).id=id)=False:=eq_false hx
        have hF:(dropE (L.take (i + 1)) id).map entA=(dropE (L.take i) id).map entA ++ [entA L[i]]:=by rw [htk,dropE_snoc,if_neg hx,List.map_append]; rfl
        have ha:∀(e:ET) (σ:St),e.c=6→e.bytes=64→appendL e false (slG 6 ((dropE (L.take i) id).map entA)) (.list .full 6 [.agg (enc L[i])]) σ=some (slG 6 ((dropE (L.take i) id).map entA ++ [entA L[i]]),σ):=fun e σ h1 h2=>by
          have hdl:(dropE (L.take i) id).length≤1000000:=Nat.le_trans (List.length_filter_le _ _) (by rw [List.length_take]; omega)
          have:=app_slG (e:=e) (es:=(dropE (L.take i) id).map entA) (a:=entA L[i]) (σ:=σ) rfl (by rw [List.length_map,h2]; omega)
          rw [h1] at this
          exact this
        simp only [enc] at ha
        simp only [C_hourglassref10_Table_Drop,A_,simprocAttr,ne_eq,(U_hourglassref10_Table_Drop _).1,hld,hlt,x1,hx',hw,ha]
        refine ih (i + 1) _ _ _ (by omega) (by omega) ?_ (by rw [app_take_add]; rfl) rfl
        rw [hF]
        simp [keep,zm]
    · have hlt:¬((i:Int) < (L.length:Int)):=by omega
      have:i=L.length:=by omega
      subst this
      rw [List.take_length]
      have hst2:∀S',storeL 1 (.ptr (.heap h) 0) (slG 6 ((dropE L id).map entA)).calm ⟨S',H⟩=some ⟨S',H.set h (tabR (dropE L id))⟩:=fun S'=>hst S' _ rfl
      simp only [C_hourglassref10_Table_Drop,A_,simprocAttr,ne_eq,(U_hourglassref10_Table_Drop _).1,hld,hlt,hst2]
      exact hK
end Go.AM
namespace Go.AM
open Go
set_option maxRecDepth 20000
def heldR (L:List Ent) (ws:List Wr):Bool:=ws.any fun w=>(hfR L w.key).2
def insAt (L:List Ent) (id:Int):Nat:=(L.takeWhile fun x=>decide (x.id < id)).length
def addR (L:List Ent) (e:Ent):Int×List Ent :=
  if goodE e=false then (1,L) else if (entOf L e.id).2 then (5,L) else if heldR L e.writes then (9,L) else if 100≤L.length then (6,L) else (0,L.take (insAt L e.id) ++ [e] ++ L.drop (insAt L e.id))
def RAddS (C:CallW) (f:FuncId):Prop:=∀(h:Nat) (L:List Ent) (e:Ent) S H (K:AV→St→Prop),H[h]? = some (tabR L)→L.length≤1000→(∀x∈L,x.writes.length≤1000000)→e.writes.length≤1000000→K (.i (addR L e).1) ⟨S,H.set h (tabR (addR L e).2)⟩→C (.fn f) [.ptr (.heap h) 0,entA e] ⟨S,H⟩ K
theorem entA_low:∀l:List Ent,AV.under.go 0 (l.map entA)=true
  | []=>rfl
  | x :: l=>by
    rw [List.map_cons]
    have:=entA_low l
    show (AV.under.go 0 (enc x) && AV.under.go 0 (l.map entA))=true
    rw [this]; rfl
section
variable {e:ET} {σ:St}
theorem app6a (h1:e.c=6) (h2:e.bytes=64) {xs:List Ent} (hl:xs.length≤1000):appendL e false (.list .full 6 []) (.list .sh 6 (xs.map entA)) σ=some (if xs=[] then .list .full 6 [] else .list .uniq 6 (xs.map entA),σ):=by
  have he:elemsL e (.list .sh 6 (xs.map entA)) σ=some (xs.map entA):=by simp [elemsL,h1]
  have hlow:=entA_low xs
  unfold appendL
  simp only [srcL,AV.isSlice,if_true,he,Option.bind_some,AV.under,hlow,appItems,h1,h2,ne_eq,not_true_eq_false,if_false]
  by_cases q:xs=[]
  · subst q; rfl
  · rw [if_neg (by simp [q]),if_pos (by simp),if_pos (by simp; omega),if_neg q]
theorem app6n (h1:e.c=6):appendL e false (.list .full 6 []) (.s .nilS) σ=some (.list .full 6 [],σ):=by
  unfold appendL
  simp [srcL,AV.isSlice,elemsL,appItems,h1,AV.under.go]
theorem app6b (h1:e.c=6) (h2:e.bytes=64) {xs:List Ent} {a:Ent} (hl:xs.length≤1000):appendL e false (if xs=[] then .list .full 6 [] else .list .uniq 6 (xs.map entA)) (.list .full 6 [entA a]) σ=some (.list .uniq 6 ((xs ++ [a]).map entA),σ):=by
  have he:elemsL e (.list .full 6 [entA a]) σ=some [entA a]:=by simp [elemsL,h1]
  have hlow:=entA_low [a]
  rw [List.map_cons,List.map_nil] at hlow
  unfold appendL
  simp only [srcL,AV.isSlice,if_true,he,Option.bind_some,AV.under,hlow]
  by_cases q:xs=[]
  · subst q
    simp [appItems,h1,h2]
  · rw [if_neg q]
    have:2 * (xs.length + 1) * 64≤2 ^ 48:=by omega
    simp only [appItems,h1,h2,ne_eq,not_true_eq_false,if_false,List.isEmpty_cons,Bool.false_eq_true,List.length_map,List.length_cons,List.length_nil,Nat.zero_add,this,if_true]
    simp
theorem app6c (h1:e.c=6) (h2:e.bytes=64) {ys zs:List Ent} (hy:ys.length≤2000) (hl:zs.length≤1000):appendL e false (.list .uniq 6 (ys.map entA)) (.list .sh 6 (zs.map entA)) σ=some (.list .uniq 6 ((ys ++ zs).map entA),σ):=by
  have he:elemsL e (.list .sh 6 (zs.map entA)) σ=some (zs.map entA):=by simp [elemsL,h1]
  have hlow:=entA_low zs
  unfold appendL
  simp only [srcL,AV.isSlice,if_true,he,Option.bind_some,AV.under,hlow]
  by_cases q:zs=[]
  · subst q
    simp [appItems,h1,h2]
  · have:2 * (ys.length + zs.length) * 64≤2 ^ 48:=by omega
    have hne:(zs.map entA).isEmpty=false:=by simp [q]
    simp only [appItems,h1,h2,hne,ne_eq,not_true_eq_false,if_false,Bool.false_eq_true,List.length_map,this,if_true]
    simp
theorem app6d (h1:e.c=6) {ys:List AV}:appendL e false (.list .uniq 6 ys) (.s .nilS) σ=some (.list .uniq 6 ys,σ):=by
  unfold appendL
  simp [srcL,AV.isSlice,elemsL,appItems,h1,AV.under.go]
theorem appW0 (h1:e.c=18) (h2:e.bytes=40) {ws:List Wr} (hne:ws≠[]) (hl:ws.length≤1000000):appendL e false (.list .full 18 []) (.list .sh 18 (ws.map wA)) σ=some (.list .uniq 18 (ws.map wA),σ):=by
  have he:elemsL e (.list .sh 18 (ws.map wA)) σ=some (ws.map wA):=by simp [elemsL,h1]
  have hlow:AV.under.go 0 (ws.map wA)=true:=wA_low
  unfold appendL
  simp only [srcL,AV.isSlice,if_true,he,Option.bind_some,AV.under,hlow,appItems,h1,h2,ne_eq,not_true_eq_false,if_false]
  rw [if_neg (by simp [hne]),if_pos (by simp),if_pos (by simp; omega)]
end
theorem ins_step {L:List Ent} {id:Int} {i:Nat} (h:i < L.length) (hinv:insAt L id=i + insAt (L.drop i) id):insAt L id=if (L[i]).id < id then i + 1 + insAt (L.drop (i + 1)) id else i:=by
  rw [hinv,List.drop_eq_getElem_cons h]
  unfold insAt
  rw [List.takeWhile_cons]
  by_cases q:(L[i]).id < id
  · rw [if_pos (by simpa using q),if_pos q,List.length_cons]; omega
  · rw [if_neg (by simpa using q),if_neg q]; rfl
end Go.AM
namespace Go.AM
open Go
open AV renaming undef → uu
set_option maxRecDepth 20000
theorem heldR_drop {L:List Ent} {ws:List Wr} {i:Nat} (h:i < ws.length) (hinv:heldR L ws=heldR L (ws.drop i)):heldR L ws=((hfR L (ws[i]).key).2 || heldR L (ws.drop (i + 1))):=by
  rw [hinv,List.drop_eq_getElem_cons h]; rfl
theorem good_ne {e:Ent} (h:goodE e=true):e.writes≠[]:=by
  unfold goodE mayE at h
  simp only [Bool.and_eq_true,decide_eq_true_eq] at h
  intro q
  have:=h.1.1.1.1.2
  rw [q] at this
  simp at this
set_option maxHeartbeats 16000000 in
theorem RAdd_spec {C:CallW} (hC:LeC C C) (P:Program) {c:Nat→FuncId} (h0:∀(e:Ent) S H (K:AV→St→Prop),e.writes.length≤9223372036854775807→K (.bool (goodE e)) ⟨S,H⟩→C (.fn (c 0)) [.agg (enc e)] ⟨S,H⟩ K) (h1:RHasS C (c 1)) (h2:RHolderS C (c 2)):∀(h:Nat) (L:List Ent) (e:Ent) S H (K:AV→St→Prop),H[h]? = some (tabR L)→L.length≤1000→(∀x∈L,x.writes.length≤1000000)→e.writes.length≤1000000→K (.i (addR L e).1) ⟨S,H.set h (tabR (addR L e).2)⟩→runL C P (C_hourglassref10_Table_Add c) [.ptr (.heap h) 0,entA e] ⟨S,H⟩ K:=by
  intro h L e S H K hh hl hwl hw hK
  have hid:H.set h (tabR L)=H:=hsetid hh
  simp only [entA,enc,C_hourglassref10_Table_Add,A_,simprocAttr,ne_eq,(U_hourglassref10_Table_Add _).1]
  refine h0 e _ _ _ (by omega) ?_
  cases hgood:goodE e with
  | false =>
    have ha:addR L e=(1,L):=by unfold addR; rw [if_pos hgood]
    rw [ha,hid] at hK
    simp only [C_hourglassref10_Table_Add,A_,simprocAttr,ne_eq,(U_hourglassref10_Table_Add _).1]
    exact hK
  | true =>
  simp only [C_hourglassref10_Table_Add,A_,simprocAttr,ne_eq,(U_hourglassref10_Table_Add _).1]
  refine h1 h L e.id _ _ _ hh (by omega) ?_
  obtain ⟨⟨x,ok⟩,hx⟩:∃r,entOf L e.id=r:=⟨_,rfl⟩
  rw [hx]
  cases ok with
  | true =>
    have ha:addR L e=(5,L):=by unfold addR; rw [if_neg (by rw [hgood]; simp),if_pos (by rw [hx])]
    rw [ha,hid] at hK
    simp only [entA,enc,C_hourglassref10_Table_Add,A_,simprocAttr,ne_eq,(U_hourglassref10_Table_Add _).1]
    exact hK
  | false =>
  simp only [entA,enc,C_hourglassref10_Table_Add,A_,simprocAttr,ne_eq,(U_hourglassref10_Table_Add _).1]
  have hK2:(heldR L e.writes=true→K (.i 9) ⟨S,H⟩)∧(heldR L e.writes=false→(100≤L.length→K (.i 6) ⟨S,H⟩)∧(¬100≤L.length→K (.i 0) ⟨S,H.set h (tabR (L.take (insAt L e.id) ++ [e] ++ L.drop (insAt L e.id)))⟩)):=by
    unfold addR at hK
    rw [if_neg (by rw [hgood]; simp),if_neg (by rw [hx]; simp)] at hK
    refine ⟨fun q => ?_,fun q=>⟨fun q2 => ?_,fun q2 => ?_⟩⟩
    · rw [if_pos q,hid] at hK; exact hK
    · rw [if_neg (by rw [q]; simp),if_pos q2,hid] at hK; exact hK
    · rw [if_neg (by rw [q]; simp),if_neg q2] at hK; exact hK
  obtain ⟨k9,kn⟩:=hK2
  clear hK
  refine loop_rule hC (α:=Nat) (fun a=>e.writes.length - a) (fun a=>[.ptr (.heap h) 0,uu,uu,.ptr (.stk S.length) 0,uu,uu,uu,.s (.int .i64 (a:Nat)),uu,uu,uu,uu,uu,uu,uu,uu,uu,uu,uu,uu,uu,uu,uu,uu,uu,uu,uu,uu,uu,uu,uu,uu,uu,uu,uu,uu,uu,uu,uu,uu,uu,uu,uu,uu,uu,uu,uu,uu,uu,uu,uu,uu,uu,uu,uu,uu,uu,uu,uu,uu,uu,uu,uu,uu,uu,uu,uu,uu,uu,uu,uu,uu,uu,uu,uu,uu,uu,uu,uu,uu,uu,uu,uu,uu,uu,uu,uu,uu,uu,uu,uu,uu,uu,uu,uu]) (fun _=>S ++ [[.s (.int .i64 e.id),.s (.int .i64 e.snap.t),u8 e.snap.n,.s (.int .i64 e.stamp.t),u8 e.stamp.n,.list .sh 18 (e.writes.map wA)],[.s (.int .i64 x.id),.s (.int .i64 x.snap.t),u8 x.snap.n,.s (.int .i64 x.stamp.t),u8 x.stamp.n,.list .sh 18 (x.writes.map wA)]]) (fun _=>H) (fun a=>a≤e.writes.length∧heldR L e.writes=heldR L (e.writes.drop a)) 0 ⟨Nat.zero_le _,rfl⟩ (by simp [keep,zm]) (by rw [app_take_add]; rfl) rfl (fun a _=>by simp [AV.under,AV.under.go]) ?_
  rintro i ⟨hi,hinv⟩ ih
  by_cases h16:i < e.writes.length
  · have hlt:((i:Int) < (e.writes.length:Int)):=by omega
    have hwi:=wrap_succ (i:=i) (by omega)
    have hd:=heldR_drop h16 hinv
    simp only [C_hourglassref10_Table_Add,A_,simprocAttr,ne_eq,(U_hourglassref10_Table_Add _).1,WR_,hlt,h16]
    refine h2 h L (e.writes[i]).key _ _ _ hh (by omega) hwl ?_
    cases hok:(hfR L (e.writes[i]).key).2 with
    | true =>
      rw [hok] at hd
      simp only [C_hourglassref10_Table_Add,A_,simprocAttr,ne_eq,(U_hourglassref10_Table_Add _).1,WR_,hlt,h16]
      exact k9 (by rw [hd]; rfl)
    | false =>
      rw [hok,Bool.false_or] at hd
      simp only [C_hourglassref10_Table_Add,A_,simprocAttr,ne_eq,(U_hourglassref10_Table_Add _).1,WR_,hlt,h16,hwi]
      exact ih (i + 1) _ _ _ (by omega) ⟨by omega,hd⟩ (by simp [keep,zm]) (by rw [app_take_add]; rfl) rfl
  have hlt:¬((i:Int) < (e.writes.length:Int)):=by omega
  rw [List.drop_of_length_le (by omega)] at hinv
  obtain ⟨k6,k0⟩:=kn hinv
  clear kn k9
  have haw:∀{et:ET} {σ:St},et.c=18→et.bytes=40→appendL et false (.list .full 18 []) (.list .sh 18 (e.writes.map wA)) σ=some (.list .uniq 18 (e.writes.map wA),σ):=fun q1 q2=>appW0 q1 q2 (good_ne hgood) hw
  by_cases hL:L=[]
  · subst hL
    have hld:=fun S'=>tabR_nil (S:=S') hh
    have k0:=k0 (by decide)
    have hk0:K (.i 0) ⟨S,H.set h (tabR [e])⟩:=k0
    have hb:∀S',boxOf ⟨S',H⟩ (.heap h)=some [slO6 []]:=fun S'=>by unfold tabR at hh; simp [boxOf,hh]
    have hst:∀S',storeL 1 (.ptr (.heap h) 0) (.list .own 6 [entA e]) ⟨S',H⟩=some ⟨S',H.set h (tabR [e])⟩:=fun S'=>by
      simp only [storeL,AV.cells,AV.fit,writeCells,hb,Option.bind_some,mayHold,AV.under.go,AV.under]
      rfl
    have p1:∀{et:ET} {σ:St},et.c=6→appendL et false (.list .full 6 []) (.s .nilS) σ=some (.list .full 6 [],σ):=fun q=>app6n q
    have p2:∀{et:ET} {σ:St},et.c=6→et.bytes=64→appendL et false (.list .full 6 []) (.list .full 6 [entA e]) σ=some (.list .uniq 6 [entA e],σ):=fun q1 q2=>app6b (xs:=[]) (a:=e) q1 q2 (by simp)
    have p3:∀{et:ET} {σ:St} {ys:List AV},et.c=6→appendL et false (.list .uniq 6 ys) (.s .nilS) σ=some (.list .uniq 6 ys,σ):=fun q=>app6d q
    have s1:∀k:IntKind,sliceL (.sl 6) (.s .nilS) (some (.s (.int k 0))) none none=some (.s .nilS):=fun k=>slc_nil (by decide)
    have s2:∀k:IntKind,sliceL (.sl 6) (.s .nilS) none (some (.s (.int k 0))) none=some (.s .nilS):=fun k=>slc_nilh (by decide)
    have g1:(enc e).length=6:=rfl
    have g2:AV.under.go 0 (enc e)=true:=rfl
    simp only [C_hourglassref10_Table_Add,A_,simprocAttr,ne_eq,(U_hourglassref10_Table_Add _).1,hlt,hld]
    refine loop_rule hC (α:=Unit) (fun _=>0) (fun _=>[.ptr (.heap h) 0,uu,uu,.ptr (.stk S.length) 0,uu,uu,uu,uu,uu,uu,.s (.int .i64 0),uu,uu,uu,uu,uu,uu,uu,uu,uu,uu,uu,uu,uu,uu,uu,uu,uu,uu,uu,uu,uu,uu,uu,uu,uu,uu,uu,uu,uu,uu,uu,uu,uu,uu,uu,uu,uu,uu,uu,uu,uu,uu,uu,uu,uu,uu,uu,uu,uu,uu,uu,uu,uu,uu,uu,uu,uu,uu,uu,uu,uu,uu,uu,uu,uu,uu,uu,uu,uu,uu,uu,uu,uu,uu,uu,uu,uu,uu,uu,uu,uu,uu,uu,uu]) (fun _=>S ++ [[.s (.int .i64 e.id),.s (.int .i64 e.snap.t),u8 e.snap.n,.s (.int .i64 e.stamp.t),u8 e.stamp.n,.list .sh 18 (e.writes.map wA)],[.s (.int .i64 x.id),.s (.int .i64 x.snap.t),u8 x.snap.n,.s (.int .i64 x.stamp.t),u8 x.stamp.n,.list .sh 18 (x.writes.map wA)]]) (fun _=>H) (fun _=>True) () trivial (by simp [keep,zm]) (by rw [app_take_add]; rfl) rfl (fun a _=>by simp [AV.under,AV.under.go]) ?_
    rintro _ _ ih2
    simp only [entA,enc] at p2 hst
    simp only [C_hourglassref10_Table_Add,A_,simprocAttr,ne_eq,(U_hourglassref10_Table_Add _).1,CHK_,Nat.reduceBEq,hld,haw,p1,p2,p3,s1,s2,hst]
    exact hk0
  · have hld:=fun S'=>tabR_cons (S:=S') hL hh
    by_cases h100:100≤L.length
    · have h100':((100:Int)≤(L.length:Int))=True:=eq_true (by omega)
      simp only [C_hourglassref10_Table_Add,A_,simprocAttr,ne_eq,(U_hourglassref10_Table_Add _).1,hlt,hld,h100']
      exact k6 h100
    have h100':((100:Int)≤(L.length:Int))=False:=eq_false (by omega)
    have k0:=k0 h100
    simp only [C_hourglassref10_Table_Add,A_,simprocAttr,ne_eq,(U_hourglassref10_Table_Add _).1,hlt,hld,h100']
    have hb:∀S',boxOf ⟨S',H⟩ (.heap h)=some [slO6 L]:=fun S'=>by unfold tabR at hh; simp [boxOf,hh]
    clear hlt hinv ih hi
    refine loop_rule hC (α:=Nat) (fun a=>L.length - a) (fun a=>[.ptr (.heap h) 0,uu,uu,.ptr (.stk S.length) 0,uu,uu,uu,uu,uu,uu,.s (.int .i64 (a:Nat)),uu,uu,uu,uu,uu,uu,uu,uu,uu,uu,uu,uu,uu,uu,uu,uu,uu,uu,uu,uu,uu,uu,uu,uu,uu,uu,uu,uu,uu,uu,uu,uu,uu,uu,uu,uu,uu,uu,uu,uu,uu,uu,uu,uu,uu,uu,uu,uu,uu,uu,uu,uu,uu,uu,uu,uu,uu,uu,uu,uu,uu,uu,uu,uu,uu,uu,uu,uu,uu,uu,uu,uu,uu,uu,uu,uu,uu,uu,uu,uu,uu,uu,uu,uu]) (fun _=>S ++ [[.s (.int .i64 e.id),.s (.int .i64 e.snap.t),u8 e.snap.n,.s (.int .i64 e.stamp.t),u8 e.stamp.n,.list .sh 18 (e.writes.map wA)],[.s (.int .i64 x.id),.s (.int .i64 x.snap.t),u8 x.snap.n,.s (.int .i64 x.stamp.t),u8 x.stamp.n,.list .sh 18 (x.writes.map wA)]]) (fun _=>H) (fun a=>a≤L.length∧insAt L e.id=a + insAt (L.drop a) e.id) 0 ⟨Nat.zero_le _,by simp⟩ (by simp [keep,zm]) (by rw [app_take_add]; rfl) rfl (fun a _=>by simp [AV.under,AV.under.go]) ?_
    rintro i ⟨hi,hinv⟩ ih
    by_cases h17:i < L.length
    · have hlt:((i:Int) < (L.length:Int)):=by omega
      have hwi:=wrap_succ (i:=i) (by omega)
      have x1:=ixl_ent (l:=L) h17
      simp only [enc] at x1
      have hs:=ins_step h17 hinv
      by_cases hx2:(L[i]).id < e.id
      · rw [if_pos hx2] at hs
        simp only [C_hourglassref10_Table_Add,A_,simprocAttr,ne_eq,(U_hourglassref10_Table_Add _).1,hld,hlt,x1,hx2,hwi]
        exact ih (i + 1) _ _ _ (by omega) ⟨by omega,hs⟩ (by simp [keep,zm]) (by rw [app_take_add]; rfl) rfl
      · rw [if_neg hx2] at hs
        have hins:=hs
        have hfin:=k0
        rw [hins] at hfin
        have hAl:(L.take i).length≤1000:=by rw [List.length_take]; omega
        have hBl:(L.drop i).length≤1000:=by rw [List.length_drop]; omega
        have s1:∀k:IntKind,sliceL (.sl 6) (.list .sh 6 (L.map entA)) none (some (.s (.int k (i:Int)))) none=some (.list .sh 6 ((L.take i).map entA)):=fun k=>by rw [slc_hi (by simp; omega),List.map_take]
        have s2:∀k:IntKind,sliceL (.sl 6) (.list .sh 6 (L.map entA)) (some (.s (.int k (i:Int)))) none none=some (.list .sh 6 ((L.drop i).map entA)):=fun k=>by rw [slc_lo (by simp; omega),List.map_drop]
        generalize L.take i=A at hfin hAl s1
        generalize L.drop i=B at hfin hBl s2
        obtain ⟨AE,hAE⟩:∃X,A ++ [e]=X:=⟨_,rfl⟩
        obtain ⟨M,hM⟩:∃X,AE ++ B=X:=⟨_,rfl⟩
        have hMne:M≠[]:=by rw [←hM,←hAE]; simp
        rw [hAE,hM] at hfin
        have hst:∀S',storeL 1 (.ptr (.heap h) 0) (.list .own 6 (M.map entA)) ⟨S',H⟩=some ⟨S',H.set h (tabR M)⟩:=fun S'=>by
          unfold tabR slO6
          rw [if_neg hMne]
          simp only [storeL,AV.cells,AV.fit,writeCells,hb,Option.bind_some,mayHold,AV.under.go,AV.under]
          rfl
        have p3:∀{et:ET} {σ:St},et.c=6→et.bytes=64→appendL et false (.list .uniq 6 (AE.map entA)) (.list .sh 6 (B.map entA)) σ=some (.list .uniq 6 (M.map entA),σ):=fun q1 q2=>by rw [←hM]; exact app6c q1 q2 (by rw [←hAE]; simp; omega) hBl
        by_cases hz:A=[]
        · have p1:∀{et:ET} {σ:St},et.c=6→et.bytes=64→appendL et false (.list .full 6 []) (.list .sh 6 (A.map entA)) σ=some (.list .full 6 [],σ):=fun {et σ} q1 q2=>by have:=app6a (e:=et) (σ:=σ) q1 q2 hAl; rw [if_pos hz] at this; exact this
          have p2:∀{et:ET} {σ:St},et.c=6→et.bytes=64→appendL et false (.list .full 6 []) (.list .full 6 [entA e]) σ=some (.list .uniq 6 (AE.map entA),σ):=fun {et σ} q1 q2=>by have:=app6b (e:=et) (σ:=σ) (a:=e) q1 q2 hAl; rw [if_pos hz,hAE] at this; exact this
          simp only [entA,enc] at p2
          simp only [C_hourglassref10_Table_Add,A_,simprocAttr,ne_eq,(U_hourglassref10_Table_Add _).1,CHK_,Nat.reduceBEq,hld,hlt,x1,hx2,haw,p1,p2,p3,s1,s2,hst]
          exact hfin
        · have p1:∀{et:ET} {σ:St},et.c=6→et.bytes=64→appendL et false (.list .full 6 []) (.list .sh 6 (A.map entA)) σ=some (.list .uniq 6 (A.map entA),σ):=fun {et σ} q1 q2=>by have:=app6a (e:=et) (σ:=σ) q1 q2 hAl; rw [if_neg hz] at this; exact this
          have p2:∀{et:ET} {σ:St},et.c=6→et.bytes=64→appendL et false (.list .uniq 6 (A.map entA)) (.list .full 6 [entA e]) σ=some (.list .uniq 6 (AE.map entA),σ):=fun {et σ} q1 q2=>by have:=app6b (e:=et) (σ:=σ) (a:=e) q1 q2 hAl; rw [if_neg hz,hAE] at this; exact this
          simp only [entA,enc] at p2
          simp only [C_hourglassref10_Table_Add,A_,simprocAttr,ne_eq,(U_hourglassref10_Table_Add _).1,CHK_,Nat.reduceBEq,hld,hlt,x1,hx2,haw,p1,p2,p3,s1,s2,hst]
          exact hfin
    · have hlt:¬((i:Int) < (L.length:Int)):=by omega
      have hins:insAt L e.id=i:=by rw [hinv,List.drop_of_length_le (by omega)]; simp [insAt]
      have hfin:=k0
      rw [hins] at hfin
      have hAl:(L.take i).length≤1000:=by rw [List.length_take]; omega
      have hBl:(L.drop i).length≤1000:=by rw [List.length_drop]; omega
      have s1:∀k:IntKind,sliceL (.sl 6) (.list .sh 6 (L.map entA)) none (some (.s (.int k (i:Int)))) none=some (.list .sh 6 ((L.take i).map entA)):=fun k=>by rw [slc_hi (by simp; omega),List.map_take]
      have s2:∀k:IntKind,sliceL (.sl 6) (.list .sh 6 (L.map entA)) (some (.s (.int k (i:Int)))) none none=some (.list .sh 6 ((L.drop i).map entA)):=fun k=>by rw [slc_lo (by simp; omega),List.map_drop]
      generalize L.take i=A at hfin hAl s1
      generalize L.drop i=B at hfin hBl s2
      obtain ⟨AE,hAE⟩:∃X,A ++ [e]=X:=⟨_,rfl⟩
      obtain ⟨M,hM⟩:∃X,AE ++ B=X:=⟨_,rfl⟩
      have hMne:M≠[]:=by rw [←hM,←hAE]; simp
      rw [hAE,hM] at hfin
      have hst:∀S',storeL 1 (.ptr (.heap h) 0) (.list .own 6 (M.map entA)) ⟨S',H⟩=some ⟨S',H.set h (tabR M)⟩:=fun S'=>by
        unfold tabR slO6
        rw [if_neg hMne]
        simp only [storeL,AV.cells,AV.fit,writeCells,hb,Option.bind_some,mayHold,AV.under.go,AV.under]
        rfl
      have p3:∀{et:ET} {σ:St},et.c=6→et.bytes=64→appendL et false (.list .uniq 6 (AE.map entA)) (.list .sh 6 (B.map entA)) σ=some (.list .uniq 6 (M.map entA),σ):=fun q1 q2=>by rw [←hM]; exact app6c q1 q2 (by rw [←hAE]; simp; omega) hBl
      by_cases hz:A=[]
      · have p1:∀{et:ET} {σ:St},et.c=6→et.bytes=64→appendL et false (.list .full 6 []) (.list .sh 6 (A.map entA)) σ=some (.list .full 6 [],σ):=fun {et σ} q1 q2=>by have:=app6a (e:=et) (σ:=σ) q1 q2 hAl; rw [if_pos hz] at this; exact this
        have p2:∀{et:ET} {σ:St},et.c=6→et.bytes=64→appendL et false (.list .full 6 []) (.list .full 6 [entA e]) σ=some (.list .uniq 6 (AE.map entA),σ):=fun {et σ} q1 q2=>by have:=app6b (e:=et) (σ:=σ) (a:=e) q1 q2 hAl; rw [if_pos hz,hAE] at this; exact this
        simp only [entA,enc] at p2
        simp only [C_hourglassref10_Table_Add,A_,simprocAttr,ne_eq,(U_hourglassref10_Table_Add _).1,CHK_,Nat.reduceBEq,hld,hlt,haw,p1,p2,p3,s1,s2,hst]
        exact hfin
      · have p1:∀{et:ET} {σ:St},et.c=6→et.bytes=64→appendL et false (.list .full 6 []) (.list .sh 6 (A.map entA)) σ=some (.list .uniq 6 (A.map entA),σ):=fun {et σ} q1 q2=>by have:=app6a (e:=et) (σ:=σ) q1 q2 hAl; rw [if_neg hz] at this; exact this
        have p2:∀{et:ET} {σ:St},et.c=6→et.bytes=64→appendL et false (.list .uniq 6 (A.map entA)) (.list .full 6 [entA e]) σ=some (.list .uniq 6 (AE.map entA),σ):=fun {et σ} q1 q2=>by have:=app6b (e:=et) (σ:=σ) (a:=e) q1 q2 hAl; rw [if_neg hz,hAE] at this; exact this
        simp only [entA,enc] at p2
        simp only [C_hourglassref10_Table_Add,A_,simprocAttr,ne_eq,(U_hourglassref10_Table_Add _).1,CHK_,Nat.reduceBEq,hld,hlt,haw,p1,p2,p3,s1,s2,hst]
        exact hfin
end Go.AM
namespace Go.AM
open Go
set_option maxRecDepth 20000
structure SyncT (tb:List Ent) (hl:List (Key×Int)) (L:List Ent):Prop where
  inv:InvT tb hl
  perm:L.Perm tb
  asc:(L.map Ent.id).Pairwise (· < ·)
theorem SyncT.nil:SyncT [] [] []:=⟨.nil,.nil,.nil⟩
theorem getB_perm {L tb:List Ent} (hp:L.Perm tb) (hn:(tb.map Ent.id).Nodup) (id:Int):getB Ent.id L id=getB Ent.id tb id:=by
  cases h1:getB Ent.id tb id with
  | none =>
    cases h2:getB Ent.id L id with
    | none=>rfl
    | some x =>
      obtain ⟨q1,q2⟩:=getB_mem h2
      exact absurd q2 (getB_none h1 x (hp.mem_iff.1 q1))
  | some x =>
    obtain ⟨q1,q2⟩:=getB_mem h1
    have hn2:(L.map Ent.id).Nodup:=(hp.map Ent.id).nodup_iff.2 hn
    rw [←q2,getB_self hn2 (hp.mem_iff.2 q1)]
theorem SyncT.ent {tb:List Ent} {hl:List (Key×Int)} {L:List Ent} (s:SyncT tb hl L) (id:Int):entOf L id=entOf tb id:=by
  unfold entOf
  rw [getB_perm s.perm s.inv.ids]
theorem SyncT.len {tb:List Ent} {hl:List (Key×Int)} {L:List Ent} (s:SyncT tb hl L):L.length≤100:=by
  have:=s.perm.length_eq; have:=s.inv.few; omega
theorem SyncT.wlen {tb:List Ent} {hl:List (Key×Int)} {L:List Ent} (s:SyncT tb hl L):∀x∈L,x.writes.length≤1000000:=fun x hx=>s.inv.len x (s.perm.mem_iff.1 hx)
theorem SyncT.hold {tb:List Ent} {hl:List (Key×Int)} {L:List Ent} (s:SyncT tb hl L) (k:Key):holdOf hl k=((hfR L k).1.id,(hfR L k).2):=by
  unfold hfR
  cases hf:L.find? (hasK k) with
  | some e =>
    have h1:=List.mem_of_find?_eq_some hf
    have h2:=List.find?_some hf
    unfold hasK at h2
    have h2:=of_decide_eq_true h2
    obtain ⟨w,hw,he⟩:=List.mem_map.1 h2
    have:=s.inv.has e (s.perm.mem_iff.1 h1) w hw
    rw [he] at this
    exact holdOf_yes s.inv.keys this
  | none =>
    have hno:=List.find?_eq_none.1 hf
    unfold holdOf
    cases hg:getB Prod.fst hl k with
    | none=>rfl
    | some p =>
      obtain ⟨h1,h2⟩:=getB_mem hg
      obtain ⟨e,he,q1,q2⟩:=s.inv.own p h1
      rw [h2] at q2
      exact absurd (decide_eq_true q2) (hno e (s.perm.mem_iff.2 he))
theorem SyncT.blocks {tb:List Ent} {hl:List (Key×Int)} {L:List Ent} (s:SyncT tb hl L) (k:Key) (st:Stp):blocksT tb hl k st=blocksR L k st:=by
  have hh:=s.hold k
  unfold blocksT blocksR
  unfold holdOf at hh
  cases hg:getB Prod.fst hl k with
  | none =>
    rw [hg] at hh
    have:(hfR L k).2=false:=(Prod.mk.inj hh).2.symm
    rw [if_neg (by rw [this]; simp)]
  | some p =>
    rw [hg] at hh
    obtain ⟨h1,h2⟩:=Prod.mk.inj hh
    have hE:(entOf tb p.2).1=(hfR L k).1:=by
      unfold hfR at h1 h2 ⊢
      cases hf:L.find? (hasK k) with
      | none=>rw [hf] at h2; cases h2
      | some e =>
        rw [hf] at h1
        have h1:p.2=e.id:=h1
        unfold entOf
        rw [h1,getB_self s.inv.ids (s.perm.mem_iff.1 (List.mem_of_find?_eq_some hf))]
    dsimp only
    rw [hE]
    by_cases q:cmpS (hfR L k).1.stamp st≤0
    · rw [if_pos q,if_pos ⟨h2.symm,q⟩,←h1]
    · rw [if_neg q,if_neg (fun z=>q z.2)]
theorem least_go:∀(l:List Ent) (m:Ent),l.foldl bestR (m.stamp,true)=((l.foldl minStep m).stamp,true)
  | [],m=>rfl
  | x :: l,m=>by
    rw [List.foldl_cons,List.foldl_cons]
    have e:bestR (m.stamp,true) x=((minStep m x).stamp,true):=by
      unfold bestR minStep
      rw [if_neg (by simp)]
      by_cases q:cmpS x.stamp m.stamp < 0
      · rw [if_pos q,if_pos q]
      · rw [if_neg q,if_neg q]
    rw [e]
    exact least_go l _
theorem least_eq (l:List Ent):leastT l=leastR l:=by
  cases l with
  | nil=>rfl
  | cons x l =>
    show ((l.foldl minStep x).stamp,true)=_
    rw [←least_go]
    rfl
theorem SyncT.all {tb:List Ent} {hl:List (Key×Int)} {L l:List Ent} (s:SyncT tb hl L) (hp:l.Perm tb) (hs:(l.map Ent.id).Pairwise (·≤·)):l=L:=by
  refine List.Perm.eq_of_pairwise (le:=fun a b:Ent=>a.id≤b.id) (fun a b ha hb h1 h2 => ?_) (List.pairwise_map.1 hs) ((List.pairwise_map.1 s.asc).imp fun h=>Int.le_of_lt h) (hp.trans s.perm.symm)
  exact ent_one s.inv.ids (hp.mem_iff.1 ha) (s.perm.mem_iff.1 hb) (Int.le_antisymm h1 h2)
theorem SyncT.drop {tb:List Ent} {hl:List (Key×Int)} {L:List Ent} (s:SyncT tb hl L) (id:Int):SyncT (dropE tb id) (delK hl (entOf tb id).1.writes) (dropE L id) :=
  ⟨s.inv.drop id,s.perm.filter _,s.asc.sublist (List.filter_sublist.map _)⟩
theorem take_ins (L:List Ent) (id:Int):L.take (insAt L id)=L.takeWhile (fun x=>decide (x.id < id))∧L.drop (insAt L id)=L.dropWhile (fun x=>decide (x.id < id)):=by
  unfold insAt
  have h:=List.takeWhile_append_dropWhile (p:=fun x:Ent=>decide (x.id < id)) (l:=L)
  have h1:L.take (L.takeWhile (fun x=>decide (x.id < id))).length=(L.takeWhile (fun x=>decide (x.id < id)) ++ L.dropWhile (fun x=>decide (x.id < id))).take (L.takeWhile (fun x=>decide (x.id < id))).length:=by rw [h]
  have h2:L.drop (L.takeWhile (fun x=>decide (x.id < id))).length=(L.takeWhile (fun x=>decide (x.id < id)) ++ L.dropWhile (fun x=>decide (x.id < id))).drop (L.takeWhile (fun x=>decide (x.id < id))).length:=by rw [h]
  rw [List.take_left] at h1
  rw [List.drop_left] at h2
  exact ⟨h1,h2⟩
theorem mem_tw {p:Ent→Bool}:∀{l:List Ent} {x:Ent},x∈l.takeWhile p→p x=true
  | a :: l,x,h=>by
    rw [List.takeWhile_cons] at h
    split at h
    · rcases List.mem_cons.1 h with rfl | h
      · assumption
      · exact mem_tw h
    · cases h
theorem dw_ge {id:Int}:∀{l:List Ent},(l.map Ent.id).Pairwise (· < ·)→∀x∈l.dropWhile (fun x=>decide (x.id < id)),id≤x.id
  | [],_,x,h=>by cases h
  | a :: l,hs,x,h=>by
    rw [List.map_cons,List.pairwise_cons] at hs
    rw [List.dropWhile_cons] at h
    split at h
    · exact dw_ge hs.2 x h
    · rename_i hx
      have hx:¬a.id < id:=by simpa using hx
      rcases List.mem_cons.1 h with rfl | h
      · omega
      · have:=hs.1 x.id (List.mem_map.2 ⟨x,h,rfl⟩); omega
theorem SyncT.held {tb:List Ent} {hl:List (Key×Int)} {L:List Ent} (s:SyncT tb hl L) (ws:List Wr):heldT hl ws=heldR L ws:=by
  unfold heldT heldR
  congr 1
  funext w
  rw [s.hold]
theorem SyncT.add {tb:List Ent} {hl:List (Key×Int)} {L:List Ent} (s:SyncT tb hl L) (e:Ent):(addT tb hl e).1=(addR L e).1∧SyncT (addT tb hl e).2.1 (addT tb hl e).2.2 (addR L e).2:=by
  have hinv:=s.inv.add e
  unfold addT addR at *
  simp only [s.held,s.ent,s.perm.length_eq] at *
  by_cases hg:goodE e=false
  · simp only [if_pos hg]; exact ⟨trivial,s⟩
  simp only [if_neg hg] at hinv ⊢
  cases ho:(entOf tb e.id).2 with
  | true=>simp only [if_true]; exact ⟨trivial,s⟩
  | false =>
  simp only [ho,Bool.false_eq_true,if_false] at hinv ⊢
  cases hh:heldR L e.writes with
  | true=>simp only [if_true]; exact ⟨trivial,s⟩
  | false =>
  simp only [hh,Bool.false_eq_true,if_false] at hinv ⊢
  by_cases hf:100≤tb.length
  · simp only [if_pos hf]; exact ⟨trivial,s⟩
  simp only [if_neg hf] at hinv ⊢
  refine ⟨trivial,hinv,?_,?_⟩
  · rw [List.append_assoc]
    have hq:(L.take (insAt L e.id) ++ e :: L.drop (insAt L e.id)).Perm (e :: L):=by
      refine List.perm_middle.trans ?_
      rw [List.take_append_drop]
    refine List.Perm.trans hq ?_
    exact ((s.perm.cons e).trans (List.perm_append_singleton e tb).symm)
  · obtain ⟨h1,h2⟩:=take_ins L e.id
    have hL:=s.asc
    rw [h1,h2]
    have hlt:∀x∈L.takeWhile (fun x=>decide (x.id < e.id)),x.id < e.id:=fun x hx=>of_decide_eq_true (mem_tw hx)
    have hge:∀x∈L.dropWhile (fun x=>decide (x.id < e.id)),e.id < x.id:=fun x hx=>by
      have q1:=dw_ge hL x hx
      have q2:x∈L:=(List.dropWhile_sublist _).mem hx
      have q3:=(entOf_out ho).2 x (s.perm.mem_iff.1 q2)
      omega
    have hL2:((L.takeWhile (fun x=>decide (x.id < e.id)) ++ L.dropWhile (fun x=>decide (x.id < e.id))).map Ent.id).Pairwise (· < ·):=by rw [List.takeWhile_append_dropWhile]; exact hL
    rw [List.map_append,List.pairwise_append] at hL2
    rw [List.map_append,List.map_append,List.pairwise_append]
    refine ⟨?_,hL2.2.1,?_⟩
    · rw [List.pairwise_append]
      refine ⟨hL2.1,by simp,fun a ha b hb => ?_⟩
      obtain ⟨x,hx,rfl⟩:=List.mem_map.1 ha
      have hb:b=e.id:=by simpa using hb
      rw [hb]; exact hlt x hx
    · intro a ha b hb
      obtain ⟨y,hy,rfl⟩:=List.mem_map.1 hb
      rcases List.mem_append.1 ha with ha | ha
      · obtain ⟨x,hx,rfl⟩:=List.mem_map.1 ha
        have:=hlt x hx; have:=hge y hy; omega
      · have ha:a=e.id:=by simpa using ha
        rw [ha]; exact hge y hy
theorem TabH.setq {H:List HObj} {h h1 h2 q:Nat} {o:HObj} {tb:List Ent} {hl:List (Key×Int)} (t:TabH H h h1 h2 tb hl) (q0:q≠h) (q1:q≠h1) (q2:q≠h2):TabH (H.set q o) h h1 h2 tb hl:=by
  obtain ⟨n1,n2,n12,a0,⟨e1,c1,a1,g1⟩,⟨e2,c2,a2,g2⟩⟩:=t
  exact ⟨n1,n2,n12,hset q0 a0,⟨e1,c1,hset q1 a1,g1⟩,⟨e2,c2,hset q2 a2,g2⟩⟩
theorem Ext.get {H H':List HObj} {h1 h2 q:Nat} {o:HObj} (x:Ext H H' h1 h2) (e:H[q]? = some o) (q1:q≠h1) (q2:q≠h2):H'[q]? = some o:=by
  rw [x.2 q (hlt e) q1 q2]; exact e
end Go.AM
namespace Go.AM
open Go
open AV renaming undef → uu
set_option maxRecDepth 20000
theorem loop_ruleS {C : CallW} {P : Program} {rd : Bool} (hC : LeC C C) {m : List Bool} {b : LCode} {n0 : Nat} {is : List Item} {fr : Fr} {S : List (List AV)} {H : List HObj} {K : KC} {α : Type} (μ : α → Nat) (F : α → Fr) (I : α → Prop) (a0 : α)
    (h0:I a0) (hk:keep m fr=F a0) (hS:S.take n0=S) (hu:∀a,I a→underL n0 (F a)=true)
    (step:∀a,I a→(∀a' fr' S' H',μ a' < μ a→I a'→keep m fr'=F a'→S'.take n0=S→H'=H→runLp C P rd m b n0 is fr' ⟨S',H'⟩ K)→runC C P rd b (.lp m b n0 :: is) (F a) ⟨S,H⟩ K) :
    runLp C P rd m b n0 is fr ⟨S,H⟩ K :=
  loop_rule hC μ F (fun _=>S) (fun _=>H) I a0 h0 hk hS rfl hu step
set_option maxHeartbeats 32000000 in
theorem PrepPlays_spec {C:CallW} (hC:LeC C C) (P:Program) {c:Nat→FuncId} (h0:AwPS C (c 0)) (h1:NewTS C (c 1)) (h2:LongS C (c 2)) (h3:EntS goodE C (c 3)) (h4:EntIS C (c 4)) (h5:∀(e:Ent) S H (K:AV→St→Prop),e.writes.length≤9223372036854775807→K (.bool (goodE e)) ⟨S,H⟩→C (.fn (c 5)) [.agg (enc e)] ⟨S,H⟩ K) (h6:AddS C (c 6)) (h7:RAddS C (c 7)) (h8:DropS C (c 8)) (h9:RDropS C (c 9)) (h10:SameES C (c 10)) (h11:HolderS C (c 11)) (h12:RHolderS C (c 12)) (h13:BlocksS C (c 13)) (h14:RBlocksS C (c 14)) (h15:LeastS C (c 15)) (h16:RLeastS C (c 16)) (h17:HasS C (c 17)) (h18:RHasS C (c 18)) (h19:AllS C (c 19)):∀(l:List Act) (k:Key) (st:Stp) S H (K:AV→St→Prop),l.length≤9223372036854775807→(∀a∈l,a.e.writes.length≤9223372036854775807)→(∀H',K (.bool true) ⟨S,H'⟩)→runL C P (C_hourglasslaw13_PrepPlays c) [.list .sh 7 (l.map actA),.agg (bs k.b),.agg (stc st)] ⟨S,H⟩ K:=by
  intro l k st S H K hl hlw hK
  simp only [stc,C_hourglasslaw13_PrepPlays,A_,simprocAttr,ne_eq,(U_hourglasslaw13_PrepPlays _).1]
  refine h0 _ _ _ fun H1 => ?_
  by_cases h40:40 < l.length
  · have hlt:(40:Int) < (l.length:Int):=by omega
    simp only [C_hourglasslaw13_PrepPlays,A_,simprocAttr,ne_eq,(U_hourglasslaw13_PrepPlays _).1,hlt]
    exact hK _
  have hlt:¬((40:Int) < (l.length:Int)):=by omega
  simp only [C_hourglasslaw13_PrepPlays,A_,simprocAttr,ne_eq,(U_hourglasslaw13_PrepPlays _).1,hlt]
  refine h1 _ _ _ ?_
  have t0:=newTab (H:=H1)
  have t0:TabH (H1 ++ [HObj.map [] 0,.map [] 0,.cells [.map H1.length,.map (H1.length + 1)],.cells [.s .nilS]]) (H1.length + 2) H1.length (H1.length + 1) [] []:=by
    have:=t0.app (G:=[.cells [.s .nilS]])
    rw [List.append_assoc] at this
    exact this
  have q0:(H1 ++ [HObj.map [] 0,.map [] 0,.cells [.map H1.length,.map (H1.length + 1)],.cells [.s .nilS]])[H1.length + 3]? = some (tabR []):=by simp [tabR,slO6]
  simp only [C_hourglasslaw13_PrepPlays,A_,simprocAttr,ne_eq,(U_hourglasslaw13_PrepPlays _).1]
  generalize (H1 ++ [HObj.map [] 0,.map [] 0,.cells [.map H1.length,.map (H1.length + 1)],.cells [.s .nilS]])=H0 at t0 q0 ⊢
  have n0:H1.length + 3≠H1.length + 2:=by omega
  have n1:H1.length + 3≠H1.length:=by omega
  have n2:H1.length + 3≠H1.length + 1:=by omega
  generalize H1.length + 3=q at q0 n0 n1 n2 ⊢
  generalize H1.length + 2=h at t0 n0 ⊢
  generalize H1.length + 1=j2 at t0 n2
  generalize H1.length=j1 at t0 n1
  refine loop_rule hC (α:=Nat×List HObj×List Ent×List (Key×Int)×List Ent) (fun a=>l.length - a.1) (fun a=>[.list .sh 7 (l.map actA),uu,uu,uu,.ptr (.stk S.length) 0,.ptr (.stk (S.length + 1)) 0,.undef,.ptr (.heap h) 0,.ptr (.heap q) 0,.s (.int .i64 (a.1:Nat)),uu,uu,uu,uu,uu,uu,uu,uu,uu,uu,uu,uu,uu,uu,uu,uu,uu,uu,uu,uu,uu,uu,uu,uu,uu,uu,uu,uu,uu,uu,uu,uu,uu,uu,uu,uu,uu,uu,uu,uu,uu,uu,uu,uu,uu,uu,uu,uu,uu,uu,uu,uu,uu,uu,uu,uu,uu,uu,uu,uu,uu,uu,uu,uu,uu,uu,uu,uu,uu,uu,uu,uu,uu,uu,uu,uu,uu,uu,uu,uu,uu,uu,uu,uu,uu,uu,uu,uu,uu,uu,uu,uu,uu,uu,uu,uu,uu,uu,uu,uu,uu,uu,uu,uu,uu,uu,uu,uu,uu,uu,uu,uu,uu,uu,uu,uu,uu,uu,uu,uu,uu,uu,uu,uu,uu,uu,uu,uu,uu,uu,uu,uu,uu,uu,uu,uu,uu,uu,uu,uu,uu,uu,uu,uu,uu,uu,uu,uu,uu,uu,uu,uu,uu,uu,uu,uu,uu,uu,uu,uu,uu,uu,uu,uu,uu,uu,uu,uu,uu,uu,uu,uu,uu,uu,uu,uu,uu,uu,uu,uu,uu,uu,uu,uu,uu,uu,uu,uu,uu,uu,uu,uu,uu,uu,uu,uu,uu,uu,uu,uu,uu,uu,uu,uu,uu,uu,uu,uu,uu,uu,uu,uu,uu,uu,uu,uu]) (fun _=>S ++ [bs k.b,[.s (.int .i64 st.t),u8 st.n]]) (fun a=>a.2.1) (fun a=>a.1≤l.length∧TabH a.2.1 h j1 j2 a.2.2.1 a.2.2.2.1∧SyncT a.2.2.1 a.2.2.2.1 a.2.2.2.2∧a.2.1[q]? = some (tabR a.2.2.2.2)) (0,H0,[],[],[]) ⟨Nat.zero_le _,t0,.nil,q0⟩ (by simp [keep,zm]) (by rw [app_take_add]; rfl) rfl (fun a _=>by simp [AV.under,AV.under.go]) ?_
  clear t0 q0
  rintro ⟨i,H2,tb,hl',L⟩ ⟨hi,t,sy,hq⟩ ih
  dsimp only at hi t sy hq ih ⊢
  by_cases hil:i < l.length
  · have hlt2:((i:Int) < (l.length:Int)):=by omega
    have hw:=wrap_succ (i:=i) (by omega)
    have x1:=ixl_act (l:=l) hil
    simp only [enc] at x1
    simp only [C_hourglasslaw13_PrepPlays,A_,simprocAttr,ne_eq,(U_hourglasslaw13_PrepPlays _).1,hlt2,x1]
    refine h2 (l[i]).e.writes _ _ _ (hlw _ (List.getElem_mem hil)) ?_
    cases hlong:longW (l[i]).e.writes with
    | true =>
      simp only [C_hourglasslaw13_PrepPlays,A_,simprocAttr,ne_eq,(U_hourglasslaw13_PrepPlays _).1]
      exact hK _
    | false =>
    have h20:(l[i]).e.writes.length≤1000000:=by
      unfold longW at hlong
      simp only [Bool.or_eq_false_iff,decide_eq_false_iff_not] at hlong
      omega
    simp only [C_hourglasslaw13_PrepPlays,A_,simprocAttr,ne_eq,(U_hourglasslaw13_PrepPlays _).1,CHK_,Nat.reduceBEq]
    refine h3 (l[i]).e _ _ _ (by omega) fun G => ?_
    have t:=t.app (G:=G)
    have hq:=happ (G:=G) hq
    generalize H2 ++ G=H3 at t hq ⊢
    simp only [C_hourglasslaw13_PrepPlays,A_,simprocAttr,ne_eq,(U_hourglasslaw13_PrepPlays _).1,CHK_,Nat.reduceBEq]
    refine h4 (l[i]).e _ _ _ ?_
    simp only [entA,enc,C_hourglasslaw13_PrepPlays,A_,simprocAttr,ne_eq,(U_hourglasslaw13_PrepPlays _).1,CHK_,Nat.reduceBEq]
    refine h5 (l[i]).e _ _ _ (by omega) ?_
    simp only [C_hourglasslaw13_PrepPlays,A_,simprocAttr,ne_eq,(U_hourglasslaw13_PrepPlays _).1,CHK_,Nat.reduceBEq]
    by_cases hop:(l[i]).op=0
    case' pos =>
      have hop':((l[i]).op=0)=True:=eq_true hop
      simp only [C_hourglasslaw13_PrepPlays,A_,simprocAttr,ne_eq,(U_hourglasslaw13_PrepPlays _).1,CHK_,Nat.reduceBEq,hop']
      refine h6 h j1 j2 tb hl' (l[i]).e _ _ _ h20 t fun H4 x4 t => ?_
      have hq:=x4.get hq n1 n2
      simp only [C_hourglasslaw13_PrepPlays,A_,simprocAttr,ne_eq,(U_hourglasslaw13_PrepPlays _).1,CHK_,Nat.reduceBEq]
      refine h4 (l[i]).e _ _ _ ?_
      simp only [entA,enc,C_hourglasslaw13_PrepPlays,A_,simprocAttr,ne_eq,(U_hourglasslaw13_PrepPlays _).1,CHK_,Nat.reduceBEq]
      refine h7 q L (l[i]).e _ _ _ hq (by have:=sy.len; omega) sy.wlen h20 ?_
      obtain ⟨e1,sy⟩:=sy.add (l[i]).e
      have t:=t.setq (o:=tabR (addR L (l[i]).e).2) n0 n1 n2
      have hq:=hself (o':=tabR (addR L (l[i]).e).2) hq
      rw [e1]
      clear e1 x4 hop hop'
      simp only [C_hourglasslaw13_PrepPlays,A_,simprocAttr,ne_eq,(U_hourglasslaw13_PrepPlays _).1,CHK_,Nat.reduceBEq]
      generalize H4.set q (tabR (addR L (l[i]).e).2)=H5 at t hq ⊢
      generalize (addT tb hl' (l[i]).e).2.1=tb2 at t sy
      generalize (addT tb hl' (l[i]).e).2.2=hl2 at t sy
      generalize (addR L (l[i]).e).2=L2 at hq sy
    case' neg =>
      have hop':((l[i]).op=0)=False:=eq_false hop
      simp only [C_hourglasslaw13_PrepPlays,A_,simprocAttr,ne_eq,(U_hourglasslaw13_PrepPlays _).1,CHK_,Nat.reduceBEq,hop']
      refine h8 h j1 j2 tb hl' (l[i]).e.id _ _ _ t sy.inv.ids sy.inv.keys sy.inv.len fun H4 x4 t => ?_
      have hq:=x4.get hq n1 n2
      have hwl:(entOf L (l[i]).e.id).1.writes.length≤9223372036854775807:=by
        cases ho:(entOf L (l[i]).e.id).2 with
        | true=>have:=sy.wlen _ (entOf_in ho).1; omega
        | false=>rw [(entOf_out ho).1]; simp [zEnt]
      rw [←sy.ent (l[i]).e.id]
      generalize hE:entOf L (l[i]).e.id=E1 at hwl ⊢
      simp only [entA,enc,C_hourglasslaw13_PrepPlays,A_,simprocAttr,ne_eq,(U_hourglasslaw13_PrepPlays _).1,CHK_,Nat.reduceBEq]
      refine h9 q L (l[i]).e.id _ _ _ hq (by have:=sy.len; omega) ?_
      rw [hE]
      have sy:=sy.drop (l[i]).e.id
      have t:=t.setq (o:=tabR (dropE L (l[i]).e.id)) n0 n1 n2
      have hq:=hself (o':=tabR (dropE L (l[i]).e.id)) hq
      simp only [entA,enc,C_hourglasslaw13_PrepPlays,A_,simprocAttr,ne_eq,(U_hourglasslaw13_PrepPlays _).1,CHK_,Nat.reduceBEq]
      refine h4 E1.1 _ _ _ ?_
      simp only [entA,enc,C_hourglasslaw13_PrepPlays,A_,simprocAttr,ne_eq,(U_hourglasslaw13_PrepPlays _).1,CHK_,Nat.reduceBEq]
      refine h10 E1.1 _ _ _ hwl ?_
      simp only [C_hourglasslaw13_PrepPlays,A_,simprocAttr,ne_eq,(U_hourglasslaw13_PrepPlays _).1,CHK_,Nat.reduceBEq]
      clear hwl hE x4 hop hop'
      generalize H4.set q (tabR (dropE L (l[i]).e.id))=H5 at t hq ⊢
      generalize dropE tb (l[i]).e.id=tb2 at t sy
      generalize delK hl' (entOf tb (l[i]).e.id).1.writes=hl2 at t sy
      generalize dropE L (l[i]).e.id=L2 at hq sy
    all_goals
      refine h11 h j1 j2 tb2 hl2 k _ _ _ t ?_
      rw [sy.hold k]
      simp only [C_hourglasslaw13_PrepPlays,A_,simprocAttr,ne_eq,(U_hourglasslaw13_PrepPlays _).1,CHK_,Nat.reduceBEq]
      refine h12 q L2 k _ _ _ hq (by have:=sy.len; omega) sy.wlen ?_
      simp only [C_hourglasslaw13_PrepPlays,A_,simprocAttr,ne_eq,(U_hourglasslaw13_PrepPlays _).1,CHK_,Nat.reduceBEq]
      refine h13 h j1 j2 tb2 hl2 k st _ _ _ t ?_
      rw [sy.blocks k st]
      simp only [C_hourglasslaw13_PrepPlays,A_,simprocAttr,ne_eq,(U_hourglasslaw13_PrepPlays _).1,CHK_,Nat.reduceBEq]
      refine h14 q L2 k st _ _ _ hq (by have:=sy.len; omega) sy.wlen ?_
      simp only [C_hourglasslaw13_PrepPlays,A_,simprocAttr,ne_eq,(U_hourglasslaw13_PrepPlays _).1,CHK_,Nat.reduceBEq]
      refine h15 h j1 j2 tb2 hl2 _ _ _ t sy.inv.ids (by have:=sy.inv.few; omega) sy.inv.len fun m G5 hp hs => ?_
      have hm:=sy.all hp hs
      subst hm
      have t:=t.app (G:=G5)
      have hq:=happ (G:=G5) hq
      generalize H5 ++ G5=H6 at t hq ⊢
      rw [least_eq]
      simp only [stc,C_hourglasslaw13_PrepPlays,A_,simprocAttr,ne_eq,(U_hourglasslaw13_PrepPlays _).1,CHK_,Nat.reduceBEq]
      refine h16 q m _ _ _ hq (by have:=sy.len; omega) ?_
      simp only [stc,C_hourglasslaw13_PrepPlays,A_,simprocAttr,ne_eq,(U_hourglasslaw13_PrepPlays _).1,CHK_,Nat.reduceBEq]
      refine h17 h j1 j2 tb2 hl2 (l[i]).e.id _ _ _ t sy.inv.len ?_
      have hwl:(entOf m (l[i]).e.id).1.writes.length≤9223372036854775807:=by
        cases ho:(entOf m (l[i]).e.id).2 with
        | true=>have:=sy.wlen _ (entOf_in ho).1; omega
        | false=>rw [(entOf_out ho).1]; simp [zEnt]
      rw [←sy.ent (l[i]).e.id]
      generalize hE:entOf m (l[i]).e.id=E2 at hwl ⊢
      simp only [entA,enc,C_hourglasslaw13_PrepPlays,A_,simprocAttr,ne_eq,(U_hourglasslaw13_PrepPlays _).1,CHK_,Nat.reduceBEq]
      refine h18 q m (l[i]).e.id _ _ _ hq (by have:=sy.len; omega) ?_
      rw [hE]
      simp only [entA,enc,C_hourglasslaw13_PrepPlays,A_,simprocAttr,ne_eq,(U_hourglasslaw13_PrepPlays _).1,CHK_,Nat.reduceBEq]
      refine h19 h j1 j2 tb2 hl2 _ _ _ t sy.inv.ids (by have:=sy.inv.few; omega) sy.inv.len fun m2 G6 hp2 hs2 => ?_
      have hm:=sy.all hp2 hs2
      rw [hm]
      clear hm hs2 hp2 m2 hp hs
      have hq:=happ (G:=G6) hq
      have t:=t.app (G:=G6)
      clear hE
      generalize H6 ++ G6=H7 at t hq ⊢
      have hml:=sy.len
      have hmw:=sy.wlen
      by_cases hme:m=[]
      · subst hme
        have hld:=fun S'=>tabR_nil (S:=S') hq
        simp only [lstE,C_hourglasslaw13_PrepPlays,A_,simprocAttr,ne_eq,(U_hourglasslaw13_PrepPlays _).1,CHK_,Nat.reduceBEq,hld]
        refine h4 E2.1 _ _ _ ?_
        simp only [entA,enc,C_hourglasslaw13_PrepPlays,A_,simprocAttr,ne_eq,(U_hourglasslaw13_PrepPlays _).1,CHK_,Nat.reduceBEq,hld]
        refine h10 E2.1 _ _ _ hwl ?_
        simp only [C_hourglasslaw13_PrepPlays,A_,simprocAttr,ne_eq,(U_hourglasslaw13_PrepPlays _).1,CHK_,Nat.reduceBEq,hld]
        refine loop_ruleS hC (α:=Unit) (fun _=>0) (fun _=>[.list .sh 7 (l.map actA),uu,uu,uu,.ptr (.stk S.length) 0,.ptr (.stk (S.length + 1)) 0,.undef,.ptr (.heap h) 0,.ptr (.heap q) 0,.s (.int .i64 (i:Nat)),uu,uu,uu,uu,uu,uu,uu,uu,uu,uu,uu,uu,uu,uu,uu,uu,uu,uu,uu,uu,uu,.list .sh 6 [],.s (.int .i64 0),uu,uu,uu,uu,uu,uu,uu,uu,uu,uu,uu,uu,uu,uu,uu,uu,uu,uu,uu,uu,uu,uu,uu,uu,uu,uu,uu,uu,uu,uu,uu,uu,uu,uu,uu,uu,uu,uu,uu,uu,uu,uu,uu,uu,uu,uu,uu,uu,uu,uu,uu,uu,uu,uu,uu,uu,uu,uu,uu,uu,uu,uu,uu,uu,uu,uu,uu,uu,uu,uu,uu,uu,uu,uu,uu,uu,uu,uu,uu,uu,uu,uu,uu,uu,uu,uu,uu,uu,uu,uu,uu,uu,uu,uu,uu,uu,uu,uu,uu,uu,uu,uu,uu,uu,uu,uu,uu,uu,uu,uu,uu,uu,uu,uu,uu,uu,uu,uu,uu,uu,uu,uu,uu,uu,uu,uu,uu,uu,uu,uu,uu,uu,uu,uu,uu,uu,uu,uu,uu,uu,uu,uu,uu,uu,uu,uu,uu,uu,uu,uu,uu,uu,uu,uu,uu,uu,uu,uu,uu,uu,uu,uu,uu,uu,uu,uu,uu,uu,uu,uu,uu,uu,uu,uu,uu,uu,uu,uu,uu,uu,uu,uu,uu,uu,uu,uu,uu,uu,uu,uu,uu,uu,uu]) (fun _=>True) () trivial (by simp [keep,zm]) (by rw [app_take_add]; rfl) (fun a _=>by simp [AV.under,AV.under.go]) ?_
        rintro _ _ ih2
        simp only [C_hourglasslaw13_PrepPlays,A_,simprocAttr,ne_eq,(U_hourglasslaw13_PrepPlays _).1,CHK_,Nat.reduceBEq,hld,hw]
        exact ih (i + 1,H7,tb2,hl2,[]) _ _ _ (by dsimp only; omega) ⟨by dsimp only; omega,t,sy,hq⟩ (by simp [keep,zm]) (by rw [app_take_add]; rfl) rfl
      · have hld:=fun S'=>tabR_cons (S:=S') hme hq
        simp only [lstE,C_hourglasslaw13_PrepPlays,A_,simprocAttr,ne_eq,(U_hourglasslaw13_PrepPlays _).1,CHK_,Nat.reduceBEq,hld]
        refine h4 E2.1 _ _ _ ?_
        simp only [entA,enc,C_hourglasslaw13_PrepPlays,A_,simprocAttr,ne_eq,(U_hourglasslaw13_PrepPlays _).1,CHK_,Nat.reduceBEq,hld]
        refine h10 E2.1 _ _ _ hwl ?_
        simp only [C_hourglasslaw13_PrepPlays,A_,simprocAttr,ne_eq,(U_hourglasslaw13_PrepPlays _).1,CHK_,Nat.reduceBEq,hld]
        refine loop_ruleS hC (α:=Nat) (fun a=>m.length - a) (fun a=>[.list .sh 7 (l.map actA),uu,uu,uu,.ptr (.stk S.length) 0,.ptr (.stk (S.length + 1)) 0,.undef,.ptr (.heap h) 0,.ptr (.heap q) 0,.s (.int .i64 (i:Nat)),uu,uu,uu,uu,uu,uu,uu,uu,uu,uu,uu,uu,uu,uu,uu,uu,uu,uu,uu,uu,uu,.list .sh 6 (m.map entA),.s (.int .i64 (a:Nat)),uu,uu,uu,uu,uu,uu,uu,uu,uu,uu,uu,uu,uu,uu,uu,uu,uu,uu,uu,uu,uu,uu,uu,uu,uu,uu,uu,uu,uu,uu,uu,uu,uu,uu,uu,uu,uu,uu,uu,uu,uu,uu,uu,uu,uu,uu,uu,uu,uu,uu,uu,uu,uu,uu,uu,uu,uu,uu,uu,uu,uu,uu,uu,uu,uu,uu,uu,uu,uu,uu,uu,uu,uu,uu,uu,uu,uu,uu,uu,uu,uu,uu,uu,uu,uu,uu,uu,uu,uu,uu,uu,uu,uu,uu,uu,uu,uu,uu,uu,uu,uu,uu,uu,uu,uu,uu,uu,uu,uu,uu,uu,uu,uu,uu,uu,uu,uu,uu,uu,uu,uu,uu,uu,uu,uu,uu,uu,uu,uu,uu,uu,uu,uu,uu,uu,uu,uu,uu,uu,uu,uu,uu,uu,uu,uu,uu,uu,uu,uu,uu,uu,uu,uu,uu,uu,uu,uu,uu,uu,uu,uu,uu,uu,uu,uu,uu,uu,uu,uu,uu,uu,uu,uu,uu,uu,uu,uu,uu,uu,uu,uu,uu,uu,uu,uu,uu,uu,uu,uu,uu,uu,uu,uu]) (fun a=>a≤m.length) 0 (Nat.zero_le _) (by simp [keep,zm]) (by rw [app_take_add]; rfl) (fun a _=>by simp [AV.under,AV.under.go]) ?_
        intro r hr ih2
        by_cases h17:r < m.length
        · have hlt3:((r:Int) < (m.length:Int)):=by omega
          have hwr:=wrap_succ (i:=r) (by omega)
          have x2:=ixl_ent (l:=m) h17
          simp only [enc] at x2
          simp only [C_hourglasslaw13_PrepPlays,A_,simprocAttr,ne_eq,(U_hourglasslaw13_PrepPlays _).1,CHK_,Nat.reduceBEq,hld,hlt3,x2]
          refine h4 (m[r]) _ _ _ ?_
          simp only [entA,enc,C_hourglasslaw13_PrepPlays,A_,simprocAttr,ne_eq,(U_hourglasslaw13_PrepPlays _).1,CHK_,Nat.reduceBEq,hld,hlt3,x2]
          refine h10 (m[r]) _ _ _ (by have:=hmw _ (List.getElem_mem h17); omega) ?_
          simp only [C_hourglasslaw13_PrepPlays,A_,simprocAttr,ne_eq,(U_hourglasslaw13_PrepPlays _).1,CHK_,Nat.reduceBEq,hld,hlt3,x2,hwr]
          exact ih2 (r + 1) _ _ _ (by omega) (by omega) (by simp [keep,zm]) (by rw [app_take_add]; rfl) rfl
        · have hlt3:¬((r:Int) < (m.length:Int)):=by omega
          simp only [C_hourglasslaw13_PrepPlays,A_,simprocAttr,ne_eq,(U_hourglasslaw13_PrepPlays _).1,CHK_,Nat.reduceBEq,hlt3,hw]
          exact ih (i + 1,H7,tb2,hl2,m) _ _ _ (by dsimp only; omega) ⟨by dsimp only; omega,t,sy,hq⟩ (by simp [keep,zm]) (by rw [app_take_add]; rfl) rfl
  · have hlt2:¬((i:Int) < (l.length:Int)):=by omega
    simp only [C_hourglasslaw13_PrepPlays,A_,simprocAttr,ne_eq,(U_hourglasslaw13_PrepPlays _).1,hlt2]
    exact hK _
end Go.AM
namespace Go.AM
open Go
set_option maxRecDepth 20000
end Go.AM
namespace Go.AM
open Go
set_option maxRecDepth 20000
end Go.AM
namespace Go.AM
open Go
section
variable {H:Type} {enc:TypeId×Value→H} {P:Program} {w:World} {sp:Nat→Bool} {held:Bool}
theorem of_each {α β:Type} {f:β→α}:∀(l:List α),(∀x∈l,∃b,x=f b)→∃bs:List β,l=bs.map f
  | [],_=>⟨[],rfl⟩
  | x :: l,h=>by
    obtain ⟨b,rfl⟩:=h x List.mem_cons_self
    obtain ⟨bs,rfl⟩:=of_each l fun y hy=>h y (List.mem_cons_of_mem _ hy)
    exact ⟨b :: bs,rfl⟩
theorem trodAll_stays {W W' : World} (hl : laidOutB P = true) (hb : RowKit.Below W.heap.size W W') : ∀ {ts : List TypeId} {vs : List Value} {ds : List (DataW H)} {ps : List MemPlace}, (∀ t ∈ ts, P.readableRec t = true ∧ t < P.types.size) →
    DataW.TrodAll enc P W 0 (fun _=>true) true ts vs ds ps→DataW.TrodAll enc P W' 0 (fun b=>decide (b < W.heap.size)) true ts vs ds ps
  | [],[],[],_,_,h=>h
  | t :: ts,v :: vs,d :: ds,ps,ht,⟨p,q,h1,h2,e⟩=>by
    obtain ⟨n,hn⟩:=h1
    exact ⟨p,q,RowKit.Below.trod hl (ht t List.mem_cons_self).1 (ht t List.mem_cons_self).2 ⟨n,hn⟩ hb (DataW.trod_lt n _ _ _ hn),trodAll_stays hl hb (fun t h=>ht t (List.mem_cons_of_mem _ h)) h2,e⟩
  | [],[],_ :: _,_,_,h=>h.elim
  | [],_ :: _,_,_,_,h=>h.elim
  | _ :: _,[],_,_,_,h=>h.elim
  | _ :: _,_ :: _,[],_,_,h=>h.elim
end
end Go.AM
namespace Go.AM
open Go
section
variable {H:Type} {enc:TypeId×Value→H} {P:Program} {w:World} {sp:Nat→Bool} {held:Bool}
def contig (P:Program):List Field→Nat→Nat→Bool
  | [],o,tot=>o == tot
  | f :: l,o,tot=>f.offset == o && contig P l (o + P.cellsOf f.type) tot
def plainT (P:Program):Nat→TypeId→Bool
  | 0,_=>false
  | d + 1,t=>match P.underlying t with
    | some .bool | some (.int _) | some .string=>true
    | some (.slice e)=>decide (0 < P.cellsOf e) && (isAgg P e || P.cellsOf e == 1) && plainT P d e
    | some (.struct fs)=>contig P fs.toList 0 (P.cellsOf t) && fs.toList.all fun f=>plainT P d f.type
    | some (.array m e)=>P.cellsOf t == m * P.cellsOf e && plainT P d e
    | _=>false
def shp (P:Program):Nat→TypeId→List AV→Prop
  | 0,_,_=>False
  | d + 1,t,as=>match P.underlying t with
    | some .bool=>∃b,as=[.s (.bool b)]
    | some (.int k)=>∃i,as=[.s (.int k i)]∧(Lit.int k i).wf=true
    | some .string=>∃l,as=[.s (.str l)]∧l.length≤maxLen
    | some (.slice e)=>∃es:List AV,as=[.list .sh (P.cellsOf e) es]∧es.length≤maxLen∧∀x∈es,shp P d e x.cells∧(isAgg P e=true→x = .agg x.cells)∧(isAgg P e=false→x.cells=[x])
    | some (.struct fs)=>fs.toList.foldr (fun f (Q:List AV→Prop) as=>∃a b,as=a ++ b∧shp P d f.type a∧Q b) (fun as=>as=[]) as
    | some (.array m e)=>∃ps:List (List AV),ps.length=m∧as=ps.flatten∧∀p∈ps,shp P d e p
    | _=>False
structure Tells (w:World) (as:List AV) (cs:List Value):Prop where
  vl:VL G.none w as cs
  cell:∀c∈as,c.isCell=true
  low:AV.under.go 0 as=true
theorem Tells.nil:Tells w [] []:=⟨.nil,(fun _ h=>by cases h),rfl⟩
theorem Tells.app {a b:List AV} {c d:List Value} (h:Tells w a c) (h':Tells w b d):Tells w (a ++ b) (c ++ d) :=
  ⟨h.vl.app h'.vl,fun x hx=>(List.mem_append.1 hx).elim (h.cell x) (h'.cell x),by rw [under_app',h.low,h'.low]; rfl⟩
theorem Tells.flat:∀{ps:List (List AV)} {qs:List (List Value)},ps.length=qs.length→(∀(i:Nat) (p:List AV) (q:List Value),ps[i]? = some p→qs[i]? = some q→Tells w p q)→Tells w ps.flatten qs.flatten
  | [],[],_,_ => .nil
  | [],_ :: _,h,_=>by simp at h
  | _ :: _,[],h,_=>by simp at h
  | p :: ps,q :: qs,h,hall=>by
    rw [List.flatten_cons,List.flatten_cons]
    exact (hall 0 p q rfl rfl).app (Tells.flat (by simpa using h) fun i a b ha hb=>hall (i + 1) a b (by simpa using ha) (by simpa using hb))
theorem Tells.sc (x:Sc):Tells w [.s x] [x.toV]:=⟨.sc x .nil,fun c hc=>by rw [List.mem_singleton.1 hc]; rfl,rfl⟩
theorem lies_flat {b c:Nat}:∀(qs:List (List Value)) (off:Nat),(∀i q,qs[i]? = some q→w.cells? 0 ⟨b,off + i * c,none⟩ c=some q)→∀j v,qs.flatten[j]? = some v→w.cell? ⟨b,off + j,none⟩=some v
  | [],off,_,j,v,h=>by simp at h
  | q :: qs,off,hall,j,v,h=>by
    have hk:=hall 0 q rfl
    rw [Nat.zero_mul,Nat.add_zero] at hk
    have hs:=World.cells?_some hk
    rw [List.flatten_cons] at h
    by_cases hj:j < c
    · rw [List.getElem?_append_left (by omega)] at h
      have:=hs.2.2 j hj
      rw [Addr.add_lit] at this
      rw [this]; exact h
    · rw [List.getElem?_append_right (by omega),hs.2.1] at h
      have:=lies_flat qs (off + c) (fun i q hi=>by
        have:=hall (i + 1) q (by simpa using hi)
        rw [show off + c + i * c=off + (i + 1) * c by rw [Nat.add_mul]; omega]
        exact this) (j - c) v h
      rwa [show off + c + (j - c)=off + j by omega] at this
theorem choose_list {β:Type} {n:Nat} {p:Nat→β→Prop} (h:∀i,i < n→∃b,p i b):∃l:List β,l.length=n∧∀i b,l[i]? = some b→p i b:=by
  induction n with
  | zero=>exact ⟨[],rfl,fun i b h=>by simp at h⟩
  | succ n ih =>
    obtain ⟨l,hl,hall⟩:=ih fun i hi=>h i (by omega)
    obtain ⟨b,hb⟩:=h n (by omega)
    refine ⟨l ++ [b],by simp [hl],fun i c hc => ?_⟩
    by_cases hi:i < l.length
    · rw [List.getElem?_append_left hi] at hc; exact hall i c hc
    · rw [List.getElem?_append_right (by omega)] at hc
      have:i=n:=by
        have:=(List.getElem?_eq_some_iff.1 hc).1
        simp at this; omega
      subst this
      rw [hl,Nat.sub_self] at hc
      injection hc with hc; subst hc; exact hb
def elemA (ag:Bool) (as:List AV):AV:=match ag with
  | true => .agg as
  | false=>as.getD 0 .undef
theorem elemA_cells {w:World} {ag:Bool} {as:List AV} {cs:List Value} (h:Tells w as cs) (hl:ag=true∨as.length=1):(elemA ag as).cells=as:=by
  cases ag with
  | true=>rfl
  | false =>
    obtain ⟨a,rfl⟩:=List.length_eq_one_iff.1 (hl.resolve_left (by simp))
    have hc:=h.cell a (by simp)
    show a.cells=[a]
    cases a <;> simp [AV.isCell] at hc <;> rfl
theorem elemA_low {w:World} {ag:Bool} {as:List AV} {cs:List Value} (h:Tells w as cs) (hl:ag=true∨as.length=1):AV.under 0 (elemA ag as)=true:=by
  cases ag with
  | true=>exact h.low
  | false =>
    obtain ⟨a,rfl⟩:=List.length_eq_one_iff.1 (hl.resolve_left (by simp))
    have:=h.low
    simpa [elemA,AV.under.go] using this
theorem trod_struct_shp {d m tot : Nat} {cs : List Value} (ih : ∀ t, plainT P d t = true → ∀ N cs x, DataW.trod enc P w 0 sp held N t cs = some x → ∃ as, shp P d t as ∧ Tells w as cs) (htot : cs.length = tot) :
    ∀(l:List Field) (o:Nat),contig P l o tot=true→(l.all fun f=>plainT P d f.type)=true→(∀f∈l,∃x,DataW.trod enc P w 0 sp held m f.type ((cs.drop f.offset).take (P.cellsOf f.type))=some x) →
    ∃as,l.foldr (fun f (Q:List AV→Prop) as=>∃a b,as=a ++ b∧shp P d f.type a∧Q b) (fun as=>as=[]) as∧Tells w as (cs.drop o)
  | [],o,hc,_,_=>by
    have:o=tot:=by simpa [contig] using hc
    subst this
    rw [List.drop_of_length_le (by omega)]
    exact ⟨[],rfl,.nil⟩
  | f :: l,o,hc,hp,hall=>by
    simp only [contig,Bool.and_eq_true,beq_iff_eq] at hc
    simp only [List.all_cons,Bool.and_eq_true] at hp
    obtain ⟨x,hx⟩:=hall f List.mem_cons_self
    obtain ⟨a,ha,hta⟩:=ih _ hp.1 _ _ _ hx
    obtain ⟨b,hb,htb⟩:=trod_struct_shp ih htot l _ hc.2 hp.2 fun g hg=>hall g (List.mem_cons_of_mem _ hg)
    refine ⟨a ++ b,⟨a,b,rfl,ha,hb⟩,?_⟩
    rw [hc.1] at hta
    have:cs.drop o=(cs.drop o).take (P.cellsOf f.type) ++ cs.drop (o + P.cellsOf f.type):=by
      rw [←List.drop_drop,List.take_append_drop]
    rw [this]
    exact hta.app htb
theorem flat_parts {c:Nat}:∀(m:Nat) (cs:List Value),cs.length=m * c→((List.range m).map fun i=>(cs.drop (i * c)).take c).flatten=cs
  | 0,cs,h=>by simp at h; subst h; rfl
  | m + 1,cs,h=>by
    rw [List.range_succ_eq_map,List.map_cons,List.map_map,List.flatten_cons,Nat.zero_mul,List.drop_zero]
    have:=flat_parts (c:=c) m (cs.drop c) (by rw [List.length_drop,h,Nat.add_mul]; omega)
    have e:((fun i=>(cs.drop (i * c)).take c) ∘ Nat.succ)=fun i=>((cs.drop c).drop (i * c)).take c:=by
      funext i
      simp only [Function.comp,List.drop_drop,Nat.succ_eq_add_one,Nat.add_mul,Nat.one_mul]
      rw [Nat.add_comm c]
    rw [e,this,List.take_append_drop]
theorem trod_shp:∀(d:Nat) (t:TypeId),plainT P d t=true→∀(N:Nat) (cs:List Value) (x:DataW H×List MemPlace),DataW.trod enc P w 0 sp held N t cs=some x→∃as,shp P d t as∧Tells w as cs
  | 0,t,h,_,_,_,_=>by simp [plainT] at h
  | d + 1,t,h,N,cs,x,hx=>by
    have ih:=trod_shp d
    unfold plainT at h
    unfold shp
    cases hu:P.underlying t with
    | none=>rw [hu] at h; cases h
    | some D =>
      rw [hu] at h
      cases D with
      | bool =>
        obtain ⟨b,rfl,_⟩:=DataW.trod_bool hu hx
        exact ⟨_,⟨b,rfl⟩,.sc (.bool b)⟩
      | int k =>
        obtain ⟨n,rfl,_,hw⟩:=DataW.trod_int hu hx
        exact ⟨_,⟨n,rfl,hw⟩,.sc (.int k n)⟩
      | string =>
        obtain ⟨s,rfl,_,hl⟩:=DataW.trod_string hu hx
        refine ⟨_,⟨s.data.toList,rfl,by simpa using hl⟩,?_⟩
        have:=Tells.sc (w:=w) (.str s.data.toList)
        simpa [Sc.toV] using this
      | slice e =>
        simp only [Bool.and_eq_true,decide_eq_true_eq,Bool.or_eq_true,beq_iff_eq] at h
        obtain ⟨⟨hpos,hag⟩,hpe⟩:=h
        rcases DataW.trod_slice hu hx with ⟨rfl,_⟩ | ⟨a,len,cap,elems,rest,n,_,rfl,_,_,hle,hcap,hlen,hel,_,_⟩
        · exact ⟨_,⟨[],rfl,Nat.zero_le _,fun _ h=>by cases h⟩,⟨.lnil hpos .nil,fun c hc=>by rw [List.mem_singleton.1 hc]; rfl,rfl⟩⟩
        · have each:∀i,i < len→∃z:List Value×List AV,w.cells? 0 (a.add (i * P.cellsOf e)) (P.cellsOf e)=some z.1∧shp P d e z.2∧Tells w z.2 z.1:=fun i hi=>by
            have h1:=hel i hi
            rw [List.getElem?_eq_getElem (by omega)] at h1
            obtain ⟨q,hq,hq2⟩:=Option.bind_eq_some_iff.1 h1
            obtain ⟨as,h2,h3⟩:=ih e hpe _ _ _ hq2
            exact ⟨(q,as),hq,h2,h3⟩
          obtain ⟨l,hl,hall⟩:=choose_list each
          have hin:∀z∈l,(∃i,w.cells? 0 (a.add (i * P.cellsOf e)) (P.cellsOf e)=some z.1)∧shp P d e z.2∧Tells w z.2 z.1:=fun z hz=>by
            obtain ⟨i,hi⟩:=List.getElem?_of_mem hz
            exact ⟨⟨i,(hall i z hi).1⟩,(hall i z hi).2⟩
          have hone:∀z∈l,z.2.length=P.cellsOf e:=fun z hz=>by
            obtain ⟨⟨i,h1⟩,_,h2⟩:=hin z hz
            rw [←h2.vl.length]; exact (World.cells?_some h1).2.1
          have hag':∀z∈l,isAgg P e=true∨z.2.length=1:=fun z hz=>hag.imp id fun h=>by rw [hone z hz,h]
          let es:List AV:=l.map fun z=>elemA (isAgg P e) z.2
          have hcells:es.flatMap AV.cells=(l.map (·.2)).flatten:=by
            have:∀(l':List (List Value×List AV)),(∀z∈l',z∈l)→(l'.map fun z=>elemA (isAgg P e) z.2).flatMap AV.cells=(l'.map (·.2)).flatten:=by
              intro l'
              induction l' with
              | nil=>intro _; rfl
              | cons z l' ihl =>
                intro hs
                rw [List.map_cons,List.flatMap_cons,List.map_cons,List.flatten_cons,ihl fun y hy=>hs y (List.mem_cons_of_mem _ hy)]
                have hz:=hs z List.mem_cons_self
                rw [elemA_cells (hin z hz).2.2 (hag' z hz)]
            exact this l fun _ h=>h
          have hspot:es=[]∨a.spot=none:=by
            by_cases h0:len=0
            · left; apply List.length_eq_zero_iff.1; simp [es,hl,h0]
            · right
              obtain ⟨z,hz,_⟩:=each 0 (by omega)
              have h1:=(World.cells?_some hz).2.2 0 hpos
              have h2:(a.add (0 * P.cellsOf e)).add 0=a:=by simp [Addr.add]
              rw [h2,List.getElem?_eq_getElem (by rw [(World.cells?_some hz).2.1]; exact hpos)] at h1
              unfold World.cell? at h1
              split at h1
              · split at h1
                · cases h1
                · rename_i h3; simpa using h3
              · cases h1
          have htell:Tells w (l.map (·.2)).flatten (l.map (·.1)).flatten:=Tells.flat (by simp) fun i p q hp hq=>by
            rw [List.getElem?_map] at hp hq
            cases hz:l[i]? with
            | none=>rw [hz] at hp; cases hp
            | some z =>
              rw [hz] at hp hq
              injection hp with hp; injection hq with hq; subst hp; subst hq
              exact (hall i z hz).2.2
          refine ⟨_,⟨es,rfl,by simp [es,hl]; omega,fun y hy => ?_⟩,⟨?_,fun c hc=>by rw [List.mem_singleton.1 hc]; rfl,rfl⟩⟩
          · obtain ⟨z,hz,rfl⟩:=List.mem_map.1 hy
            rw [elemA_cells (hin z hz).2.2 (hag' z hz)]
            refine ⟨(hin z hz).2.1,fun h=>by rw [h]; rfl,fun h => ?_⟩
            obtain ⟨a,ha⟩:=List.length_eq_one_iff.1 ((hag' z hz).resolve_left (by rw [h]; simp))
            rw [ha,h]; rfl
          · refine .list (xs:=(l.map (·.1)).flatten) (.inl rfl) (by simp [es,hl]) hle hpos hspot (fun y hy => ?_) ?_ (by rw [hcells]; exact htell.vl) (fun i v hv=>⟨?_,fun h=>(show False from h)⟩) .nil
            · obtain ⟨z,hz,rfl⟩:=List.mem_map.1 hy
              rw [elemA_cells (hin z hz).2.2 (hag' z hz)]
              exact ⟨hone z hz,(hin z hz).2.2.cell⟩
            · refine under_mem.2 fun y hy => ?_
              obtain ⟨z,hz,rfl⟩:=List.mem_map.1 hy
              exact elemA_low (hin z hz).2.2 (hag' z hz)
            · rcases hspot with h0 | h0
              · have:l=[]:=by simpa [es] using h0
                rw [this] at hv; simp at hv
              · obtain ⟨ab,ao,as⟩:=a
                dsimp only at h0; subst h0
                refine lies_flat (c:=P.cellsOf e) _ ao (fun j q hq => ?_) i v hv
                rw [List.getElem?_map] at hq
                cases hz:l[j]? with
                | none=>rw [hz] at hq; cases hq
                | some z =>
                  rw [hz] at hq
                  injection hq with hq; subst hq
                  have:=(hall j z hz).1
                  rwa [Addr.add_lit] at this
      | struct fs =>
        simp only [Bool.and_eq_true] at h
        obtain ⟨xs,n,_,_,hl,hxl,hf⟩:=DataW.trod_struct hu hx
        obtain ⟨as,h1,h2⟩:=trod_struct_shp (m:=n) ih hl fs.toList 0 h.1 h.2 fun f hm=>by
          obtain ⟨i,hi⟩:=List.getElem?_of_mem hm
          have hi':fs[i]? = some f:=by simpa using hi
          have:=hf i f hi'
          have hlt:=(Array.getElem?_eq_some_iff.1 hi').1
          rw [List.getElem?_eq_getElem (by omega)] at this
          exact ⟨_,this⟩
        exact ⟨as,h1,by simpa using h2⟩
      | array m e =>
        simp only [Bool.and_eq_true,beq_iff_eq] at h
        obtain ⟨xs,n,_,_,hl,hxl,hf⟩:=DataW.trod_array hu hx
        obtain ⟨ps,hpl,hall⟩:=choose_list (n:=m) (p:=fun i as=>shp P d e as∧Tells w as ((cs.drop (i * P.cellsOf e)).take (P.cellsOf e))) fun i hi=>by
          have:=hf i hi
          rw [List.getElem?_eq_getElem (by omega)] at this
          exact ih e h.2 _ _ _ this
        refine ⟨ps.flatten,⟨ps,hpl,rfl,fun p hp => ?_⟩,?_⟩
        · obtain ⟨i,hi⟩:=List.getElem?_of_mem hp
          exact (hall i p hi).1
        · rw [←flat_parts (c:=P.cellsOf e) m cs (by rw [hl,h.1])]
          refine Tells.flat (by simp [hpl]) fun i p q hp hq => ?_
          have hlt:i < m:=by have:=(List.getElem?_eq_some_iff.1 hp).1; omega
          have:q=(cs.drop (i * P.cellsOf e)).take (P.cellsOf e):=by
            rw [List.getElem?_map,List.getElem?_range hlt] at hq
            injection hq with hq; exact hq.symm
          subst this
          exact (hall i p hp).2
      | _=>cases h
def argA (ag:Bool) (as:List AV):AV:=elemA ag as
theorem trod_arg {d : Nat} {t : TypeId} {v : Value} {D : DataW H} {ps : List MemPlace} (hp : plainT P d t = true) (hok : Value.okWide P w .any 0 t v) (h : DataW.Trod enc P w 0 sp held t v D ps) :
    ∃as,shp P d t as∧V G.none w (argA (isAgg P t) as) v:=by
  obtain ⟨n,hn⟩:=h
  obtain ⟨as,h1,h2⟩:=trod_shp d t hp n _ _ hn
  refine ⟨as,h1,?_⟩
  cases hu:P.underlying t with
  | none =>
    cases d with
    | zero=>simp [plainT] at hp
    | succ d=>rw [plainT,hu] at hp; cases hp
  | some D =>
    have scalar:isAgg P t=false→(∀xs,v≠.agg xs)→V G.none w (argA (isAgg P t) as) v:=fun hf hv=>by
      rw [hf]
      have e:v.cells.toList=[v]:=by
        cases v <;> first | rfl | exact (hv _ rfl).elim
      rw [e] at h2
      obtain ⟨a,as',rfl,h3,h4⟩:∃a as',as=a :: as'∧V G.none w a v∧VL G.none w as' []:=by
        cases as with
        | nil=>have:=h2.vl.length; simp at this
        | cons a as' =>
          obtain ⟨v',vs',hh,h3,h4⟩:=h2.vl.cons_left
          injection hh with hh1 hh2; subst hh1; subst hh2
          exact ⟨a,as',rfl,h3,h4⟩
      exact h3
    cases D with
    | struct fs =>
      simp only [Value.okWide,hu] at hok
      obtain ⟨cs,rfl,_,_⟩:=hok
      rw [show isAgg P t=true by simp [isAgg,hu]]
      exact .agg h2.cell (by simpa [Value.cells] using h2.vl) .nil
    | array m e =>
      simp only [Value.okWide,hu] at hok
      obtain ⟨cs,rfl,_,_⟩:=hok
      rw [show isAgg P t=true by simp [isAgg,hu]]
      exact .agg h2.cell (by simpa [Value.cells] using h2.vl) .nil
    | _ =>
      refine scalar (by simp [isAgg,hu]) fun xs hv => ?_
      subst hv
      simp [Value.okWide,Cell.okWide,Cell.ok,hu] at hok
end
end Go.AM
namespace Go.AM
open Go
section
variable {P:Program}
def parts (P:Program) (d:Nat):List TypeId→List AV→Prop
  | [],as=>as=[]
  | u :: ts,as=>∃a b,as=a ++ b∧shp P d u a∧parts P d ts b
theorem parts_of {d:Nat}:∀{fs:List Field} {as:List AV},fs.foldr (fun f (Q:List AV→Prop) as=>∃a b,as=a ++ b∧shp P d f.type a∧Q b) (fun as=>as=[]) as→parts P d (fs.map (·.type)) as
  | [],_,h=>h
  | f :: fs,as,h=>by
    obtain ⟨a,b,h1,h2,h3⟩:=h
    exact ⟨a,b,h1,h2,parts_of h3⟩
theorem shp_struct {d:Nat} {t:TypeId} {fs:Array Field} {ts:List TypeId} {as:List AV} (ht:P.underlying t=some (.struct fs)) (hts:fs.toList.map (·.type)=ts) (h:shp P (d + 1) t as):parts P d ts as:=by
  unfold shp at h
  rw [ht] at h
  subst hts
  exact parts_of h
theorem shp_int {d:Nat} {t:TypeId} {k:IntKind} {as:List AV} (ht:P.underlying t=some (.int k)) (h:shp P (d + 1) t as):∃i,as=[.s (.int k i)]∧(Lit.int k i).wf=true:=by
  unfold shp at h; rw [ht] at h; exact h
theorem shp_bool {d:Nat} {t:TypeId} {as:List AV} (ht:P.underlying t=some .bool) (h:shp P (d + 1) t as):∃b,as=[.s (.bool b)]:=by
  unfold shp at h; rw [ht] at h; exact h
theorem shp_str {d:Nat} {t:TypeId} {as:List AV} (ht:P.underlying t=some .string) (h:shp P (d + 1) t as):∃l,as=[.s (.str l)]∧l.length≤maxLen:=by
  unfold shp at h; rw [ht] at h; exact h
theorem shp_u8 {d:Nat} {t:TypeId} {as:List AV} (ht:P.underlying t=some (.int .u8)) (h:shp P (d + 1) t as):∃b:UInt8,as=[u8 b]:=by
  obtain ⟨i,rfl,hw⟩:=shp_int ht h
  have:=bounds_u8 hw
  refine ⟨UInt8.ofNat i.toNat,?_⟩
  have:((UInt8.ofNat i.toNat).toNat:Int)=i:=by rw [UInt8.toNat_ofNat']; omega
  show _=[AV.s (.int .u8 _)]
  rw [this]
theorem shp_key {d:Nat} {t u:TypeId} {as:List AV} (ht:P.underlying t=some (.array 16 u)) (hu:P.underlying u=some (.int .u8)) (h:shp P (d + 2) t as):∃k:Key,as=bs k.b:=by
  unfold shp at h; rw [ht] at h
  obtain ⟨ps,hl,rfl,hall⟩:=h
  obtain ⟨l,rfl⟩:=of_each (f:=fun b=>[u8 b]) ps fun p hp=>shp_u8 hu (hall p hp)
  refine ⟨⟨l,by simpa using hl⟩,?_⟩
  show _=l.map u8
  clear hl hall
  induction l with
  | nil=>rfl
  | cons b l ih=>simp only [List.map_cons,List.flatten_cons,ih]; rfl
theorem shp_wr {d : Nat} {t tk u ts tb : TypeId} {fs : Array Field} {as : List AV} (ht : P.underlying t = some (.struct fs)) (hf : fs.toList.map (·.type) = [tk, ts, tb]) (hk : P.underlying tk = some (.array 16 u)) (hu : P.underlying u = some (.int .u8)) (hs : P.underlying ts = some .string) (hb : P.underlying tb = some .bool)
    (h:shp P (d + 3) t as):∃w:Wr,as=wc w:=by
  obtain ⟨a,r,rfl,h1,a2,r2,rfl,h2,a3,r3,rfl,h3,rfl⟩:=shp_struct ht hf h
  obtain ⟨k,rfl⟩:=shp_key hk hu h1
  obtain ⟨l,rfl,_⟩:=shp_str hs h2
  obtain ⟨b,rfl⟩:=shp_bool hb h3
  exact ⟨⟨k,l,b⟩,rfl⟩
end
end Go.AM
namespace Go.AM
open Go
section
variable {P:Program}
theorem shp_stamp {d:Nat} {t ti tn:TypeId} {fs:Array Field} {as:List AV} (ht:P.underlying t=some (.struct fs)) (hf:fs.toList.map (·.type)=[ti,tn]) (hi:P.underlying ti=some (.int .i64)) (hn:P.underlying tn=some (.int .u8)) (h:shp P (d + 2) t as):∃s:Stp,as=stc s:=by
  obtain ⟨a,r,rfl,h1,a2,r2,rfl,h2,rfl⟩:=shp_struct ht hf h
  obtain ⟨i,rfl,_⟩:=shp_int hi h1
  obtain ⟨b,rfl⟩:=shp_u8 hn h2
  exact ⟨⟨i,b⟩,rfl⟩
end
end Go.AM
namespace Go.AM
open Go
variable {P:Program}
theorem wT {α:Type} {p:α→Prop} (h:∃x,p x):∃x,p x∧True:=h.imp fun _ e=>⟨e,trivial⟩
theorem of_eachQ {α:Type} {f:α→AV} {Q:α→Prop}:∀(es:List AV),(∀x∈es,∃a,x=f a∧Q a)→∃l:List α,es=l.map f∧∀a∈l,Q a
  | [],_=>⟨[],rfl,fun a h=>by cases h⟩
  | x :: es,h=>by
    obtain ⟨a,rfl,hq⟩:=h x (List.mem_cons_self ..)
    obtain ⟨l,rfl,hl⟩:=of_eachQ es fun y hy=>h y (List.mem_cons_of_mem _ hy)
    exact ⟨a :: l,rfl,fun b hb=>by rcases List.mem_cons.1 hb with rfl | hb; exact hq; exact hl b hb⟩
theorem shp_sliceQ {d : Nat} {t e : TypeId} {c : Nat} {as : List AV} {α : Type} (f : α → AV) (Q : α → Prop) (ht : P.underlying t = some (.slice e)) (hc : P.cellsOf e = c) (he : ∀ x : AV, shp P d e x.cells → (isAgg P e = true → x = .agg x.cells) → (isAgg P e = false → x.cells = [x]) → ∃ a, x = f a ∧ Q a) (h : shp P (d + 1) t as) :
    ∃l:List α,as=[.list .sh c (l.map f)]∧l.length≤9223372036854775807∧∀a∈l,Q a:=by
  subst hc
  unfold shp at h; rw [ht] at h
  obtain ⟨es,rfl,hl,hall⟩:=h
  obtain ⟨l,rfl,hq⟩:=of_eachQ (f:=f) es fun x hx=>he x (hall x hx).1 (hall x hx).2.1 (hall x hx).2.2
  refine ⟨l,rfl,?_,hq⟩
  rw [List.length_map] at hl
  unfold maxLen at hl; omega
theorem shp_i64 {d:Nat} {t:TypeId} {as:List AV} (ht:P.underlying t=some (.int .i64)) (h:shp P (d + 1) t as):∃i:Int,as=[.s (.int .i64 i)]∧-9223372036854775808≤i∧i≤9223372036854775807:=by
  obtain ⟨i,rfl,hw⟩:=shp_int ht h
  refine ⟨i,rfl,?_⟩
  unfold Lit.wf at hw
  rw [Bool.and_eq_true] at hw
  have h1:=of_decide_eq_true hw.1
  have h2:=of_decide_eq_true hw.2
  simp [IntKind.min,IntKind.max,IntKind.signed,IntKind.bits] at h1 h2
  omega
end Go.AM
