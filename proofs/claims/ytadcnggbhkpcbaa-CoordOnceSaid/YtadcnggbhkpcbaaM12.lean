import Derived.Test.YtadcnggbhkpcbaaM11
import Derived.Test.YtadcnggbhkpcbaaM10
import Derived.Test.YtadcnggbhkpcbaaM7
import Derived.OpenShut
import Derived.Carry
import Derived.ChangeOld
set_option linter.unusedSimpArgs false
set_option linter.unusedVariables false
namespace Go.AM
open Go
set_option maxRecDepth 20000
def y20a1:LCode:=(.seq (.sq [(zs 1 (.mkmap none)),(zs 2 (.build [(.s .nilM)] [(0,1,(.t 1))])),(zs 3 (.box false true (.t 2))),(zs 0 (.mv true (.t 3)))]) .ret)
def U_coord_New:=PLift.up (@unfC _ _ (y20a1.eq_1))
def C_coord_New:LFn:=⟨4,[.t 0],(.seq (.sq [(zs 0 (.mv true (.c .nilP)))]) y20a1)⟩
def y20b1:LCode:=(.seq (.sq [(zs 5 (.bsl ⟨1,false,8,(.s (.int .i64 0))⟩ 0 [])),(zs 6 (.mv false (.t 0))),(zs 7 (.app ⟨1,false,8,(.s (.int .i64 0))⟩ false (.t 5) (.t 6))),(zs 2 (.mv true (.t 7)))]) .ret)
def y20b2:LCode:=(.seq (.seq (.sq [(zs 3 (.mv false (.t 0))),(zs 4 (.bin .eql (.ref 1) (.t 3) (.c .nilS)))]) (.cond (.t 4) (.seq (.sq [(zs 2 (.mv true (.c .nilS)))]) .ret) .skip)) y20b1)
def U_slices_Clone_int:=PLift.up (zc (@unfC _ _ (y20b1.eq_1)) (@unfC _ _ (y20b2.eq_1)))
def C_slices_Clone_int:LFn:=⟨8,[.t 2],(.seq (.sq [(zs 2 (.mv true (.c .nilS)))]) y20b2)⟩
def y20c1:LCode:=(.sq [(zs 14 (.mv false (.t 0))),(zs 15 (.nilc (.t 14))),(zs 16 (.shift 0 (.t 15))),(zs 17 (.load1 false (.t 16))),(zs 18 (.mv false (.t 1))),(zs 19 (.mv false (.t 2))),(zn (.upd (.one (.int .i64)) (.t 17) (.t 18) (.t 19)))])
def U_coord_Coord_add:=PLift.up (@unfC _ _ (y20c1.eq_1))
def C_coord_Coord_add:LFn:=⟨20,[],(.seq (.sq [(zs 6 (.mv false (.t 2))),(zs 7 (.mv false (.t 2))),(zs 8 (.mkmap none)),(zs 9 (.mkmap none)),(zs 10 (.nilc (.t 6))),(zs 11 (.shift 3 (.t 10))),(zn (.store 1 (.t 11) (.t 8))),(zs 12 (.nilc (.t 7))),(zs 13 (.shift 8 (.t 12))),(zn (.store 1 (.t 13) (.t 9)))]) y20c1)⟩
def y20d1 (c:Nat→FuncId):LCode:=(.seq (.tree (.rd (zs 28 (.mv false (.t 0))) 0 true (.rd (zs 29 (.mv false (.t 1))) 1 true (.rd (zs 30 (.loadA 2 (.t 6))) 2 true (.mv (zs 31 (.mv true (.t 3))) [] (.mv (zs 32 (.call (.f (c 2)) [(.t 31)])) [3] (.rd (zs 33 (.build [(.s (.int .i64 0)),(.s (.int .u8 0)),(.s .nilS),(.s .nilM),(.s (.bool false)),(.s (.bool false)),(.s (.int .i64 0)),(.s (.int .u8 0)),(.s .nilM)] [(0,2,(.t 30)),(2,1,(.t 32))])) 5 false (.mv (zs 34 (.box false true (.t 33))) [2,3,4,5] (.mv (zs 35 (.call (.f (c 3)) [(.t 28),(.t 29),(.t 34)])) [0,1,2,3,4,5,6] .done .stop) .stop)) .stop) .stop))))) (.seq (.sq [(zs 8 (.mv true (zi 0)))]) .ret))
def y20d2 (c:Nat→FuncId):LCode:=(.seq (.seq (.sq [(zs 21 (.mv false (.t 0))),(zs 22 (.nilc (.t 21))),(zs 23 (.shift 0 (.t 22))),(zs 24 (.load1 false (.t 23))),(zs 25 (.mv false (.t 1))),(zs 26 (.look (.one (.int .i64)) (.s .nilP) false (.t 24) (.t 25))),(zs 27 (.bin .neq (.ref 0) (.t 26) (.c .nilP)))]) (.cond (.t 27) (.seq (.sq [(zs 8 (.mv true (zi 5)))]) .ret) .skip)) (y20d1 c))
def y20d3 (c:Nat→FuncId):LCode:=(.seq (.seq (.sq [(zs 9 (.mv false (.t 1))),(zs 10 (.bin .lss .sc (.t 9) (zi 1))),(zs 11 (.mv false (.t 10))),(zf 12 11 (.loadA 2 (.t 6))),(zf 13 11 (.call (.f (c 0)) [(.t 12)])),(zf 14 11 (.un .not (.t 13))),(zs 15 (.pick (.t 11) zT (.t 14))),(zs 16 (.mv false (.t 15))),(zf 17 16 (.mv false (.t 3))),(zf 18 16 (.call (.f (c 1)) [(.t 17)])),(zf 19 16 (.un .not (.t 18))),(zs 20 (.pick (.t 16) zT (.t 19)))]) (.cond (.t 20) (.seq (.sq [(zs 8 (.mv true (zi 1)))]) .ret) .skip)) (y20d2 c))
def U_coord_Coord_Begin (c:Nat→FuncId):=PLift.up (zc (@unfC _ _ (y20d1.eq_1 c)) (zc (@unfC _ _ (y20d2.eq_1 c)) (@unfC _ _ (y20d3.eq_1 c))))
def C_coord_Coord_Begin (c:Nat→FuncId):LFn:=⟨36,[.t 8],(.seq (.sq [(zs 6 (.box false false (.t 2))),(zs 8 (.mv true (zi 0)))]) (y20d3 c))⟩
def y20e1:LCode:=(.cond (.t 16) (.seq (.sq [(zs 17 (.mv false (.t 5))),(zs 4 (.mv true (.t 17)))]) .ret) .skip)
def y20e2:LCode:=(.seq (.sq [(zs 11 (.mv false (.t 1))),(zs 12 (.mv false (.t 0))),(zs 13 (.mv false (.t 5))),(zs 14 (.ixa (.sl 1) (.t 12) (.t 13))),(zs 15 (.load1 false (.t 14))),(zs 16 (.bin .eql .sc (.t 11) (.t 15)))]) y20e1)
def y20e3:LCode:=(.seq (.block 1 (.seq (.sq [(zs 10 (.mv false (.t 8))),(zs 5 (.mv true (.t 10)))]) y20e2)) (.sq [(zs 18 (.bin .add .sc (.t 8) (zi 1))),(zs 8 (.mv false (.t 18)))]))
def y20e4:LCode:=(.block 0 (.loop (zm false [0,2,5,2,10]) (.seq (.sq [(zs 9 (.bin .lss .sc (.t 8) (.t 7)))]) (.seq (.cond (.t 9) .skip (.exit 0)) y20e3))))
def y20e5:LCode:=(.seq (.seq (.sq [(zs 6 (.mv false (.t 0))),(zs 7 (.len .sl (.t 6))),(zs 8 (.mv false (zi 0)))]) y20e4) (.seq (.sq [(zs 4 (.mv true (.c (.int .i64 (-1)))))]) .ret))
def U_slices_Index_int:=PLift.up (zc (zc (@unfC _ _ (y20e1.eq_1)) (@unfC _ _ (y20e2.eq_1))) (zc (@unfC _ _ (y20e3.eq_1)) (zc (@unfC _ _ (y20e4.eq_1)) (@unfC _ _ (y20e5.eq_1)))))
def C_slices_Index_int:LFn:=⟨19,[.t 4],(.seq (.sq [(zs 4 (.mv true (zi 0)))]) y20e5)⟩
def y20f1 (c:Nat→FuncId):LCode:=(.seq (.sq [(zs 5 (.mv true (.t 0))),(zs 6 (.mv false (.t 1))),(zs 7 (.call (.f (c 0)) [(.t 5),(.t 6)])),(zs 8 (.bin .geq .sc (.t 7) (zi 0))),(zs 4 (.mv true (.t 8)))]) .ret)
def U_slices_Contains_int (c:Nat→FuncId):=PLift.up (@unfC _ _ (y20f1.eq_1 c))
def C_slices_Contains_int (c:Nat→FuncId):LFn:=⟨9,[.t 4],(.seq (.sq [(zs 4 (.mv true zF))]) (y20f1 c))⟩
def y20g1 (c:Nat→FuncId):LCode:=(.seq (.seq (.sq [(zs 14 (.mv false (.t 7))),(zs 15 (.bin .eql (.ref 0) (.t 14) (.c .nilP))),(zs 16 (.mv false (.t 15))),(zf 17 16 (.mv false (.t 7))),(zf 18 16 (.nilc (.t 17))),(zf 19 16 (.shift 2 (.t 18))),(zf 20 16 (.load1 false (.t 19))),(zf 21 16 (.mv false (.t 2))),(zf 22 16 (.call (.f (c 0)) [(.t 20),(.t 21)])),(zf 23 16 (.un .not (.t 22))),(zs 24 (.pick (.t 16) zT (.t 23)))]) (.cond (.t 24) (.seq (.sq [(zs 6 (.mv true (.c .nilP)))]) .ret) .skip)) (.seq (.sq [(zs 25 (.mv false (.t 7))),(zs 6 (.mv true (.t 25)))]) .ret))
def y20g2 (c:Nat→FuncId):LCode:=(.seq (.sq [(zs 8 (.mv false (.t 0))),(zs 9 (.nilc (.t 8))),(zs 10 (.shift 0 (.t 9))),(zs 11 (.load1 false (.t 10))),(zs 12 (.mv false (.t 1))),(zs 13 (.look (.one (.int .i64)) (.s .nilP) false (.t 11) (.t 12))),(zs 7 (.mv true (.t 13)))]) (y20g1 c))
def U_coord_Coord_of (c:Nat→FuncId):=PLift.up (zc (@unfC _ _ (y20g1.eq_1 c)) (@unfC _ _ (y20g2.eq_1 c)))
def C_coord_Coord_of (c:Nat→FuncId):LFn:=⟨26,[.t 6],(.seq (.sq [(zs 6 (.mv true (.c .nilP)))]) (y20g2 c))⟩
def y20h1 (c:Nat→FuncId):LCode:=(.seq (.seq (.sq [(zs 5 (.loadA 2 (.t 2))),(zs 6 (.loadA 2 (.t 3))),(zs 7 (.call (.f (c 0)) [(.t 5),(.t 6)])),(zs 8 (.bin .lss .sc (.t 7) (zi 0)))]) (.cond (.t 8) (.seq (.sq [(zs 9 (.loadA 2 (.t 3))),(zn (.store 2 (.t 4) (.t 9)))]) .ret) .skip)) (.seq (.sq [(zs 10 (.loadA 2 (.t 2))),(zn (.store 2 (.t 4) (.t 10)))]) .ret))
def U_stamp_Max (c:Nat→FuncId):=PLift.up (@unfC _ _ (y20h1.eq_1 c))
def C_stamp_Max (c:Nat→FuncId):LFn:=⟨11,[.many 4 2],(.seq (.sq [(zs 2 (.box false false (.t 0))),(zs 3 (.box false false (.t 1))),(zs 4 (.alloc false [(.s (.int .i64 0)),(.s (.int .u8 0))]))]) (y20h1 c))⟩
def y20i1 (c:Nat→FuncId):LCode:=(.seq (.sq [(zs 36 (.mv false (.t 11))),(zs 37 (.nilc (.t 36))),(zs 38 (.shift 4 (.t 37))),(zs 39 (.load1 false (.t 38))),(zs 40 (.mv false (.t 39))),(zf 41 40 (.mv false (.t 11))),(zf 42 40 (.nilc (.t 41))),(zf 43 40 (.shift 3 (.t 42))),(zf 44 40 (.load1 false (.t 43))),(zf 45 40 (.mv false (.t 2))),(zf 46 40 (.look (.one (.int .i64)) (.s (.bool false)) false (.t 44) (.t 45))),(zs 47 (.pick (.t 40) zT (.t 46))),(zs 35 (.mv true (.t 47)))]) (.cond (.t 35) (.seq (.sq [(zs 10 (.mv true (zi 0)))]) .ret) .skip))
def y20i2 (c:Nat→FuncId):LCode:=(.seq (.tree (.rd (zs 20 (.mv false (.t 3))) 0 false (.rd (zs 21 (.mv false (.t 20))) 1 false (.rd (zt 22 21 (.loadA 2 (.t 9))) 2 false (.mv (zt 23 21 (.call (.f (c 1)) [(.t 22)])) [0,1,2] (.rd (zt 24 21 (.un .not (.t 23))) 4 false (.rd (zt 25 21 (.mv false (.t 24))) 5 false (.rd (zf 26 25 (.loadA 2 (.t 9))) 6 false (.rd (zf 27 25 (.mv false (.t 11))) 7 false (.rd (zf 28 25 (.nilc (.t 27))) 8 false (.rd (zf 29 25 (.shift 0 (.t 28))) 9 false (.rd (zf 30 25 (.loadA 2 (.t 29))) 10 false (.mv (zf 31 25 (.call (.f (c 2)) [(.t 26),(.t 30)])) [0,1,2,3,4,5,6,7,8,9,10] (.rd (zf 32 25 (.bin .leq .sc (.t 31) (zi 0))) 12 false (.rd (zt 33 21 (.pick (.t 25) zT (.t 32))) 13 false (.rd (zs 34 (.pick (.t 21) (.t 33) zF)) 14 false (.mv (zs 19 (.mv true (.t 34))) [0,1,2,3,4,5,6,7,8,9,10,11,12,13,14] .done .stop)))) .stop)))))))) .stop))))) (.cond (.t 19) (.seq (.sq [(zs 10 (.mv true (zi 1)))]) .ret) (y20i1 c)))
def y20i3 (c:Nat→FuncId):LCode:=(.seq (.sq [(zs 55 (.mv false (.t 11))),(zs 56 (.mv false (.t 11))),(zs 57 (.build [(.s (.int .i64 0)),(.s (.int .u8 0))] [])),(zs 58 (.nilc (.t 55))),(zs 59 (.shift 4 (.t 58))),(zn (.store 1 (.t 59) zT)),(zs 60 (.nilc (.t 56))),(zs 61 (.shift 6 (.t 60))),(zn (.store 2 (.t 61) (.t 57)))]) (.seq (.sq [(zs 10 (.mv true (zi 0)))]) .ret))
def y20i4 (c:Nat→FuncId):LCode:=(.sq [(zs 82 (.mv false (.t 11))),(zs 83 (.mv false (.t 11))),(zs 84 (.nilc (.t 82))),(zs 85 (.shift 4 (.t 84))),(zn (.store 1 (.t 85) zT)),(zs 86 (.nilc (.t 83))),(zs 87 (.shift 5 (.t 86))),(zn (.store 1 (.t 87) zT))])
def y20i5 (c:Nat→FuncId):LCode:=(.seq (.seq (.tree (.rd (zs 71 (.mv false (.t 11))) 0 false (.rd (zs 72 (.nilc (.t 71))) 1 false (.rd (zs 73 (.shift 3 (.t 72))) 2 false (.rd (zs 74 (.load1 false (.t 73))) 3 false (.rd (zs 75 (.len .map (.t 74))) 4 false (.rd (zs 76 (.mv false (.t 11))) 5 false (.rd (zs 77 (.nilc (.t 76))) 6 false (.rd (zs 78 (.shift 2 (.t 77))) 7 false (.rd (zs 79 (.load1 false (.t 78))) 8 false (.rd (zs 80 (.len .sl (.t 79))) 9 false (.rd (zs 81 (.bin .eql .sc (.t 75) (.t 80))) 10 false .done)))))))))))) (.cond (.t 81) (y20i4 c) .skip)) (.seq (.sq [(zs 10 (.mv true (zi 0)))]) .ret))
def y20i6 (c:Nat→FuncId):LCode:=(.seq (.tree (.rd (zs 62 (.mv false (.t 11))) 0 true (.rd (zs 63 (.mv false (.t 11))) 1 false (.rd (zs 64 (.nilc (.t 63))) 2 false (.rd (zs 65 (.shift 6 (.t 64))) 3 false (.rd (zs 66 (.loadA 2 (.t 65))) 4 false (.rd (zs 67 (.loadA 2 (.t 9))) 5 false (.mv (zs 68 (.call (.f (c 3)) [(.t 66),(.t 67)])) [1,2,3,4,5] (.rd (zs 69 (.nilc (.t 62))) 7 false (.rd (zs 70 (.shift 6 (.t 69))) 8 false (.mv (zn (.store 2 (.t 70) (.t 68))) [0,1,2,3,4,5,6,7,8] .done .stop))) .stop)))))))) (y20i5 c))
def y20i7 (c:Nat→FuncId):LCode:=(.seq (.seq (.sq [(zs 53 (.mv false (.t 3))),(zs 54 (.un .not (.t 53)))]) (.cond (.t 54) (y20i3 c) .skip)) (y20i6 c))
def y20i8 (c:Nat→FuncId):LCode:=(.seq (.sq [(zs 48 (.mv false (.t 11))),(zs 49 (.nilc (.t 48))),(zs 50 (.shift 3 (.t 49))),(zs 51 (.load1 false (.t 50))),(zs 52 (.mv false (.t 2))),(zn (.upd (.one (.int .i64)) (.t 51) (.t 52) zT))]) (y20i7 c))
def y20i9 (c:Nat→FuncId):LCode:=(.seq (.block 0 (.seq (.sq [(zs 17 (.mv false (.t 11))),(zs 18 (.bin .eql (.ref 0) (.t 17) (.c .nilP))),(zs 16 (.mv true (.t 18)))]) (.cond (.t 16) (.seq (.sq [(zs 10 (.mv true (zi 4)))]) .ret) (y20i2 c)))) (y20i8 c))
def y20i10 (c:Nat→FuncId):LCode:=(.seq (.sq [(zs 12 (.mv false (.t 0))),(zs 13 (.mv false (.t 1))),(zs 14 (.mv false (.t 2))),(zs 15 (.call (.f (c 0)) [(.t 12),(.t 13),(.t 14)])),(zs 11 (.mv true (.t 15)))]) (y20i9 c))
def U_coord_Coord_Vote (c:Nat→FuncId):=PLift.up (zc (zc (zc (@unfC _ _ (y20i1.eq_1 c)) (@unfC _ _ (y20i2.eq_1 c))) (zc (@unfC _ _ (y20i3.eq_1 c)) (zc (@unfC _ _ (y20i4.eq_1 c)) (@unfC _ _ (y20i5.eq_1 c))))) (zc (zc (@unfC _ _ (y20i6.eq_1 c)) (@unfC _ _ (y20i7.eq_1 c))) (zc (@unfC _ _ (y20i8.eq_1 c)) (zc (@unfC _ _ (y20i9.eq_1 c)) (@unfC _ _ (y20i10.eq_1 c))))))
def C_coord_Coord_Vote (c:Nat→FuncId):LFn:=⟨88,[.t 10],(.seq (.sq [(zs 9 (.box false false (.t 4))),(zs 10 (.mv true (zi 0)))]) (y20i10 c))⟩
def y20j1:LCode:=(.seq (.sq [(zs 23 (.build [(.s (.int .i64 0)),(.s (.int .u8 0))] [])),(zs 4 (.mv true zF)),(zs 5 (.mv true zF)),(zn (.store 2 (.t 6) (.t 23)))]) .ret)
def y20j2:LCode:=(.seq (.tree (.rd (zs 24 (.mv false (.t 7))) 0 true (.rd (zs 25 (.nilc (.t 24))) 1 true (.rd (zs 26 (.shift 5 (.t 25))) 2 true (.rd (zs 27 (.load1 false (.t 26))) 3 true (.rd (zs 28 (.mv false (.t 7))) 4 true (.rd (zs 29 (.nilc (.t 28))) 5 true (.rd (zs 30 (.shift 6 (.t 29))) 6 true (.rd (zs 31 (.loadA 2 (.t 30))) 7 true (.mv (zs 4 (.mv true zT)) [] (.mv (zs 5 (.mv true (.t 27))) [0,1,2,3,8] (.mv (zn (.store 2 (.t 6) (.t 31))) [0,1,2,3,4,5,6,7,8,9] .done .stop) .stop) .stop)))))))))) .ret)
def y20j3:LCode:=(.seq (.seq (.sq [(zs 14 (.mv false (.t 7))),(zs 15 (.bin .eql (.ref 0) (.t 14) (.c .nilP))),(zs 16 (.mv false (.t 15))),(zf 17 16 (.mv false (.t 7))),(zf 18 16 (.nilc (.t 17))),(zf 19 16 (.shift 4 (.t 18))),(zf 20 16 (.load1 false (.t 19))),(zf 21 16 (.un .not (.t 20))),(zs 22 (.pick (.t 16) zT (.t 21)))]) (.cond (.t 22) y20j1 .skip)) y20j2)
def y20j4:LCode:=(.seq (.sq [(zs 8 (.mv false (.t 0))),(zs 9 (.nilc (.t 8))),(zs 10 (.shift 0 (.t 9))),(zs 11 (.load1 false (.t 10))),(zs 12 (.mv false (.t 1))),(zs 13 (.look (.one (.int .i64)) (.s .nilP) false (.t 11) (.t 12))),(zs 7 (.mv true (.t 13)))]) y20j3)
def U_coord_Coord_Decision:=PLift.up (zc (zc (@unfC _ _ (y20j1.eq_1)) (@unfC _ _ (y20j2.eq_1))) (zc (@unfC _ _ (y20j3.eq_1)) (@unfC _ _ (y20j4.eq_1))))
def C_coord_Coord_Decision:LFn:=⟨32,[.t 4,.t 5,.many 6 2],(.seq (.sq [(zs 4 (.mv true zF)),(zs 5 (.mv true zF)),(zs 6 (.alloc false [(.s (.int .i64 0)),(.s (.int .u8 0))]))]) y20j4)⟩
def y20k1:LCode:=(.seq (.sq [(zs 4 (.load1 false (.t 1))),(zs 5 (.nilc (.t 4))),(zs 6 (.shift 8 (.t 5))),(zs 7 (.load1 false (.t 6))),(zs 8 (.mv false (.t 0))),(zs 9 (.look (.one (.int .i64)) (.s (.bool false)) false (.t 7) (.t 8))),(zs 3 (.mv true (.t 9)))]) .ret)
def U_coord_Coord_Owes_1:=PLift.up (@unfC _ _ (y20k1.eq_1))
def C_coord_Coord_Owes_1:LFn:=⟨10,[.t 3],(.seq (.sq [(zs 3 (.mv true zF))]) y20k1)⟩
def y20l1:LCode:=(.cond (.t 16) (.seq (.sq [(zs 17 (.mv false (.t 5))),(zs 4 (.mv true (.t 17)))]) .ret) .skip)
def y20l2:LCode:=(.seq (.sq [(zs 11 (.mv false (.t 1))),(zs 12 (.mv false (.t 0))),(zs 13 (.mv false (.t 5))),(zs 14 (.ixa (.sl 1) (.t 12) (.t 13))),(zs 15 (.load1 false (.t 14))),(zs 16 (.call (.t 11) [(.t 15)]))]) y20l1)
def y20l3:LCode:=(.seq (.block 1 (.seq (.sq [(zs 10 (.mv false (.t 8))),(zs 5 (.mv true (.t 10)))]) y20l2)) (.sq [(zs 18 (.bin .add .sc (.t 8) (zi 1))),(zs 8 (.mv false (.t 18)))]))
def y20l4:LCode:=(.seq (.sq [(zs 9 (.bin .lss .sc (.t 8) (.t 7)))]) (.seq (.cond (.t 9) .skip (.exit 0)) y20l3))
def y20l5:LCode:=(.block 0 (.loop (zm false [0,2,5,2,10]) y20l4))
def y20l6:LCode:=(.seq (.seq (.sq [(zs 6 (.mv false (.t 0))),(zs 7 (.len .sl (.t 6))),(zs 8 (.mv false (zi 0)))]) y20l5) (.seq (.sq [(zs 4 (.mv true (.c (.int .i64 (-1)))))]) .ret))
def U_slices_IndexFunc_int:=PLift.up (zc (zc (@unfC _ _ (y20l1.eq_1)) (zc (@unfC _ _ (y20l2.eq_1)) (@unfC _ _ (y20l3.eq_1)))) (zc (@unfC _ _ (y20l4.eq_1)) (zc (@unfC _ _ (y20l5.eq_1)) (@unfC _ _ (y20l6.eq_1)))))
def C_slices_IndexFunc_int:LFn:=⟨19,[.t 4],(.seq (.sq [(zs 4 (.mv true (zi 0)))]) y20l6)⟩
def y20m1 (c:Nat→FuncId):LCode:=(.seq (.sq [(zs 13 (.frz ⟨1,false,8,(.s (.int .i64 0))⟩ (.t 0))),(zs 4 (.mv true (.t 13)))]) .ret)
def y20m2 (c:Nat→FuncId):LCode:=(.sq [(zs 34 (.mv false (.t 5))),(zs 35 (.bin .add .sc (.t 34) (zi 1))),(zs 5 (.mv true (.t 35)))])
def y20m3 (c:Nat→FuncId):LCode:=(.seq (.sq [(zs 30 (.mv false (.t 0))),(zs 31 (.mv false (.t 5))),(zs 32 (.mv false (.t 7))),(zs 33 (.ixa (.sl 1) (.t 30) (.t 31))),(zn (.store 1 (.t 33) (.t 32)))]) (y20m2 c))
def y20m4 (c:Nat→FuncId):LCode:=(.seq (.sq [(zs 26 (.mv false (.t 1))),(zs 27 (.mv false (.t 7))),(zs 28 (.call (.t 26) [(.t 27)])),(zs 29 (.un .not (.t 28)))]) (.cond (.t 29) (y20m3 c) .skip))
def y20m5 (c:Nat→FuncId):LCode:=(.sq [(zs 20 (.mv false (.t 6))),(zs 21 (.bin .add .sc (.t 20) (zi 1))),(zs 6 (.mv true (.t 21)))])
def y20m6 (c:Nat→FuncId):LCode:=(.seq (.block 1 (.seq (.sq [(zs 22 (.mv false (.t 0))),(zs 23 (.mv false (.t 6))),(zs 24 (.ixa (.sl 1) (.t 22) (.t 23))),(zs 25 (.load1 false (.t 24))),(zs 7 (.mv true (.t 25)))]) (y20m4 c))) (y20m5 c))
def y20m7 (c:Nat→FuncId):LCode:=(.seq (.seq (.sq [(zs 16 (.mv false (.t 6))),(zs 17 (.mv false (.t 0))),(zs 18 (.len .sl (.t 17))),(zs 19 (.bin .lss .sc (.t 16) (.t 18)))]) (.cond (.t 19) .skip (.exit 0))) (y20m6 c))
def y20m8 (c:Nat→FuncId):LCode:=(.block 0 (.loop (zm false [0,2,3,2,35]) (y20m7 c)))
def y20m9 (c:Nat→FuncId):LCode:=(.seq (.sq [(zs 39 (.frz ⟨1,false,8,(.s (.int .i64 0))⟩ (.t 0))),(zs 40 (.mv false (.t 5))),(zs 41 (.slc (.sl 1) (.t 39) none (some (.t 40)) none)),(zs 4 (.mv true (.t 41)))]) .ret)
def y20m10 (c:Nat→FuncId):LCode:=(.seq (.sq [(zs 36 (.mv false (.t 0))),(zs 37 (.mv false (.t 5))),(zs 38 (.slc (.sl 1) (.t 36) (some (.t 37)) none none)),(zn (.clr ⟨1,false,8,(.s (.int .i64 0))⟩ (.t 38)))]) (y20m9 c))
def y20m11 (c:Nat→FuncId):LCode:=(.seq (.seq (.sq [(zs 14 (.mv false (.t 5))),(zs 15 (.bin .add .sc (.t 14) (zi 1))),(zs 6 (.mv true (.t 15)))]) (y20m8 c)) (y20m10 c))
def y20m12 (c:Nat→FuncId):LCode:=(.seq (.seq (.sq [(zs 11 (.mv false (.t 5))),(zs 12 (.bin .eql .sc (.t 11) (.c (.int .i64 (-1)))))]) (.cond (.t 12) (y20m1 c) .skip)) (y20m11 c))
def y20m13 (c:Nat→FuncId):LCode:=(.seq (.sq [(zs 8 (.thaw 0)),(zs 9 (.mv false (.t 1))),(zs 10 (.call (.f (c 0)) [(.t 8),(.t 9)])),(zs 5 (.mv true (.t 10)))]) (y20m12 c))
def U_slices_DeleteFunc_int (c:Nat→FuncId):=PLift.up (zc (zc (zc (@unfC _ _ (y20m1.eq_1 c)) (zc (@unfC _ _ (y20m2.eq_1 c)) (@unfC _ _ (y20m3.eq_1 c)))) (zc (@unfC _ _ (y20m4.eq_1 c)) (zc (@unfC _ _ (y20m5.eq_1 c)) (@unfC _ _ (y20m6.eq_1 c))))) (zc (zc (@unfC _ _ (y20m7.eq_1 c)) (zc (@unfC _ _ (y20m8.eq_1 c)) (@unfC _ _ (y20m9.eq_1 c)))) (zc (zc (@unfC _ _ (y20m10.eq_1 c)) (@unfC _ _ (y20m11.eq_1 c))) (zc (@unfC _ _ (y20m12.eq_1 c)) (@unfC _ _ (y20m13.eq_1 c))))))
def C_slices_DeleteFunc_int (c:Nat→FuncId):LFn:=⟨42,[.t 4],(.seq (.sq [(zs 4 (.mv true (.c .nilS)))]) (y20m13 c))⟩
def y20n1 (c:Nat→FuncId):LCode:=(.seq (.sq [(zs 14 (.load1 false (.t 5))),(zs 15 (.nilc (.t 14))),(zs 16 (.shift 2 (.t 15))),(zs 17 (.load1 false (.t 16))),(zs 18 (.call (.f (c 0)) [(.t 17)])),(zs 19 (.mkfn (c 1) [] [(.t 5)])),(zs 20 (.call (.f (c 2)) [(.t 18),(.t 19)])),(zs 4 (.mv true (.t 20)))]) .ret)
def y20n2 (c:Nat→FuncId):LCode:=(.seq (.seq (.sq [(zs 12 (.load1 false (.t 5))),(zs 13 (.bin .eql (.ref 0) (.t 12) (.c .nilP)))]) (.cond (.t 13) (.seq (.sq [(zs 4 (.mv true (.c .nilS)))]) .ret) .skip)) (y20n1 c))
def y20n3 (c:Nat→FuncId):LCode:=(.seq (.sq [(zs 6 (.mv false (.t 0))),(zs 7 (.nilc (.t 6))),(zs 8 (.shift 0 (.t 7))),(zs 9 (.load1 false (.t 8))),(zs 10 (.mv false (.t 1))),(zs 11 (.look (.one (.int .i64)) (.s .nilP) false (.t 9) (.t 10))),(zs 5 (.alloc false [(.s .nilP)])),(zn (.store 1 (.t 5) (.t 11)))]) (y20n2 c))
def U_coord_Coord_Owes (c:Nat→FuncId):=PLift.up (zc (@unfC _ _ (y20n1.eq_1 c)) (zc (@unfC _ _ (y20n2.eq_1 c)) (@unfC _ _ (y20n3.eq_1 c))))
def C_coord_Coord_Owes (c:Nat→FuncId):LFn:=⟨21,[.t 4],(.seq (.sq [(zs 4 (.mv true (.c .nilS)))]) (y20n3 c))⟩
def y20o1 (c:Nat→FuncId):LCode:=(.sq [(zs 34 (.mv true (.t 3))),(zs 35 (.mv false (.t 5))),(zs 36 (.bsl ⟨1,false,8,(.s (.int .i64 0))⟩ 1 [(0,(.t 35))])),(zs 37 (.app ⟨1,false,8,(.s (.int .i64 0))⟩ false (.t 34) (.t 36))),(zs 3 (.mv true (.t 37)))])
def y20o2 (c:Nat→FuncId):LCode:=(.seq (.sq [(zs 17 (.mv false (.t 0))),(zs 18 (.nilc (.t 17))),(zs 19 (.shift 0 (.t 18))),(zs 20 (.load1 false (.t 19))),(zs 21 (.mv false (.t 5))),(zs 22 (.look (.one (.int .i64)) (.s .nilP) false (.t 20) (.t 21))),(zs 23 (.nilc (.t 22))),(zs 24 (.shift 4 (.t 23))),(zs 25 (.load1 false (.t 24))),(zs 26 (.un .not (.t 25))),(zs 27 (.mv false (.t 26))),(zf 28 27 (.mv false (.t 0))),(zf 29 27 (.mv false (.t 5))),(zf 30 27 (.call (.f (c 2)) [(.t 28),(.t 29)])),(zf 31 27 (.len .sl (.t 30))),(zf 32 27 (.bin .gtr .sc (.t 31) (zi 0))),(zs 33 (.pick (.t 27) zT (.t 32)))]) (.cond (.t 33) (y20o1 c) .skip))
def y20o3 (c:Nat→FuncId):LCode:=(.seq (.block 1 (.seq (.sq [(zs 15 (.ixa (.sl 1) (.t 11) (.t 13))),(zs 16 (.load1 false (.t 15))),(zs 5 (.mv true (.t 16)))]) (y20o2 c))) (.sq [(zs 38 (.bin .add .sc (.t 13) (zi 1))),(zs 13 (.mv false (.t 38)))]))
def y20o4 (c:Nat→FuncId):LCode:=(.seq (.sq [(zs 14 (.bin .lss .sc (.t 13) (.t 12)))]) (.seq (.cond (.t 14) .skip (.exit 0)) (y20o3 c)))
def y20o5 (c:Nat→FuncId):LCode:=(.block 0 (.loop (zm false [0,1,2,1,7,3,26]) (y20o4 c)))
def y20o6 (c:Nat→FuncId):LCode:=(.seq (.seq (.sq [(zs 6 (.mv false (.t 0))),(zs 7 (.nilc (.t 6))),(zs 8 (.shift 0 (.t 7))),(zs 9 (.load1 false (.t 8))),(zs 10 (.call (.f (c 0)) [(.t 9)])),(zs 11 (.call (.f (c 1)) [(.t 10)])),(zs 12 (.len .sl (.t 11))),(zs 13 (.mv false (zi 0)))]) (y20o5 c)) (.seq (.sq [(zs 39 (.mv true (.t 3))),(zs 2 (.mv true (.t 39)))]) .ret))
def U_coord_Coord_Open (c:Nat→FuncId):=PLift.up (zc (zc (@unfC _ _ (y20o1.eq_1 c)) (zc (@unfC _ _ (y20o2.eq_1 c)) (@unfC _ _ (y20o3.eq_1 c)))) (zc (@unfC _ _ (y20o4.eq_1 c)) (zc (@unfC _ _ (y20o5.eq_1 c)) (@unfC _ _ (y20o6.eq_1 c)))))
def C_coord_Coord_Open (c:Nat→FuncId):LFn:=⟨40,[.t 2],(.seq (.sq [(zs 2 (.mv true (.c .nilS)))]) (.seq (.sq [(zs 3 (.mv true (.c .nilS)))]) (y20o6 c)))⟩
def y20p1 (c:Nat→FuncId):LCode:=(.seq (.sq [(zs 34 (.mv false (.t 2))),(zs 35 (.bin .eql .sc (.t 34) (zi 0))),(zs 36 (.mv false (.t 35))),(zt 37 36 (.mv false (.t 3))),(zt 38 36 (.un .not (.t 37))),(zs 39 (.pick (.t 36) (.t 38) zF)),(zs 40 (.mv false (.t 39))),(zt 41 40 (.mv false (.t 6))),(zs 42 (.pick (.t 40) (.t 41) zF)),(zs 43 (.mv false (.t 42))),(zt 44 43 (.mv false (.t 7))),(zs 45 (.pick (.t 43) (.t 44) zF)),(zs 46 (.mv false (.t 45))),(zt 47 46 (.loadA 2 (.t 8))),(zt 48 46 (.build [(.s (.int .i64 0)),(.s (.int .u8 0))] [(0,1,(zi 7)),(1,1,(.c (.int .u8 1)))])),(zt 49 46 (.bin .eql (.leaf [.int .i64,.int .u8]) (.t 47) (.t 48))),(zs 50 (.pick (.t 46) (.t 49) zF)),(zs 51 (.mv false (.t 50))),(zt 52 51 (.mv false (.t 1))),(zt 53 51 (.call (.f (c 5)) [(.t 52),(zi 1)])),(zt 54 51 (.bsl ⟨1,false,8,(.s (.int .i64 0))⟩ 2 [(0,(zi 0)),(1,(zi 1))])),(zt 55 51 (.call (.f (c 6)) [(.t 53),(.t 54)])),(zs 56 (.pick (.t 51) (.t 55) zF)),(zs 57 (.mv false (.t 56))),(zt 58 57 (.mv false (.t 1))),(zt 59 57 (.call (.f (c 7)) [(.t 58)])),(zt 60 57 (.bsl ⟨1,false,8,(.s (.int .i64 0))⟩ 1 [(0,(zi 1))])),(zt 61 57 (.call (.f (c 8)) [(.t 59),(.t 60)])),(zs 62 (.pick (.t 57) (.t 61) zF)),(zs 0 (.mv true (.t 62)))]) .ret)
def y20p2 (c:Nat→FuncId):LCode:=(.seq (.sq [(zs 29 (.mv false (.t 1))),(zs 30 (.call (.f (c 4)) [(.t 29),(zi 1)])),(zs 28 (.mv false (.t 30))),(zs 31 (.ext (.t 28) 0)),(zs 32 (.ext (.t 28) 1)),(zs 33 (.ext (.t 28) 2)),(zs 8 (.alloc false [(.s (.int .i64 0)),(.s (.int .u8 0))])),(zs 6 (.mv true (.t 31))),(zs 7 (.mv true (.t 32))),(zn (.store 2 (.t 8) (.t 33)))]) (y20p1 c))
def y20p3 (c:Nat→FuncId):LCode:=(.seq (.sq [(zs 25 (.mv false (.t 1))),(zs 26 (.build [(.s (.int .i64 0)),(.s (.int .u8 0))] [(0,1,(zi 7)),(1,1,(.c (.int .u8 1)))])),(zs 27 (.call (.f (c 3)) [(.t 25),(zi 1),(zi 1),zT,(.t 26)]))]) (y20p2 c))
def y20p4 (c:Nat→FuncId):LCode:=(.seq (.sq [(zs 20 (.mv false (.t 1))),(zs 21 (.call (.f (c 4)) [(.t 20),(zi 1)])),(zs 19 (.mv false (.t 21))),(zs 22 (.ext (.t 19) 0)),(zs 23 (.ext (.t 19) 1)),(zs 24 (.ext (.t 19) 2)),(zs 5 (.alloc false [(.s (.int .i64 0)),(.s (.int .u8 0))])),(zs 3 (.mv true (.t 22))),(zs 4 (.mv true (.t 23))),(zn (.store 2 (.t 5) (.t 24)))]) (y20p3 c))
def y20p5 (c:Nat→FuncId):LCode:=(.seq (.sq [(zs 16 (.mv false (.t 1))),(zs 17 (.call (.f (c 1)) [(zi 5)])),(zs 18 (.call (.f (c 3)) [(.t 16),(zi 1),(zi 0),zT,(.t 17)]))]) (y20p4 c))
def y20p6 (c:Nat→FuncId):LCode:=(.seq (.sq [(zs 12 (.mv false (.t 1))),(zs 13 (.call (.f (c 1)) [(zi 0)])),(zs 14 (.bsl ⟨1,false,8,(.s (.int .i64 0))⟩ 2 [(0,(zi 0)),(1,(zi 1))])),(zs 15 (.call (.f (c 2)) [(.t 12),(zi 1),(.t 13),(.t 14)])),(zs 2 (.mv true (.t 15)))]) (y20p5 c))
def y20p7 (c:Nat→FuncId):LCode:=(.seq (.seq (.sq [(zs 10 (.mv false (.t 1))),(zs 11 (.bin .eql (.ref 0) (.t 10) (.c .nilP)))]) (.cond (.t 11) (.seq (.sq [(zs 0 (.mv true zF))]) .ret) .skip)) (y20p6 c))
def U_hourglasslaw18_awake (c:Nat→FuncId):=PLift.up (zc (zc (@unfC _ _ (y20p1.eq_1 c)) (zc (@unfC _ _ (y20p2.eq_1 c)) (@unfC _ _ (y20p3.eq_1 c)))) (zc (zc (@unfC _ _ (y20p4.eq_1 c)) (@unfC _ _ (y20p5.eq_1 c))) (zc (@unfC _ _ (y20p6.eq_1 c)) (@unfC _ _ (y20p7.eq_1 c)))))
def C_hourglasslaw18_awake (c:Nat→FuncId):LFn:=⟨63,[.t 0],(.seq (.sq [(zs 0 (.mv true zF))]) (.seq (.sq [(zs 9 (.call (.f (c 0)) [])),(zs 1 (.mv true (.t 9)))]) (y20p7 c)))⟩
def y20q1 (c:Nat→FuncId):LCode:=(.seq (.seq (.sq [(zs 5 (.loadA 2 (.t 2))),(zs 6 (.loadA 2 (.t 3))),(zs 7 (.call (.f (c 0)) [(.t 5),(.t 6)])),(zs 8 (.bin .geq .sc (.t 7) (zi 0)))]) (.cond (.t 8) (.seq (.sq [(zs 9 (.loadA 2 (.t 2))),(zn (.store 2 (.t 4) (.t 9)))]) .ret) .skip)) (.seq (.sq [(zs 10 (.loadA 2 (.t 3))),(zn (.store 2 (.t 4) (.t 10)))]) .ret))
def U_hourglassref6_Max (c:Nat→FuncId):=PLift.up (@unfC _ _ (y20q1.eq_1 c))
def C_hourglassref6_Max (c:Nat→FuncId):LFn:=⟨11,[.many 4 2],(.seq (.sq [(zs 2 (.box false false (.t 0))),(zs 3 (.box false false (.t 1))),(zs 4 (.alloc false [(.s (.int .i64 0)),(.s (.int .u8 0))]))]) (y20q1 c))⟩
def y20r1 (c:Nat→FuncId):LCode:=(.seq (.sq [(zs 16 (.mv false (.t 7))),(zs 17 (.nilc (.t 16))),(zs 18 (.shift 4 (.t 17))),(zs 19 (.load1 false (.t 18))),(zs 20 (.un .not (.t 19))),(zs 15 (.mv true (.t 20)))]) (.cond (.t 15) (.seq (.sq [(zs 6 (.mv true (zi 8)))]) .ret) .skip))
def y20r2 (c:Nat→FuncId):LCode:=(.seq (.sq [(zs 21 (.mv false (.t 7))),(zs 22 (.nilc (.t 21))),(zs 23 (.shift 8 (.t 22))),(zs 24 (.load1 false (.t 23))),(zs 25 (.mv false (.t 2))),(zn (.upd (.one (.int .i64)) (.t 24) (.t 25) zT))]) (.seq (.sq [(zs 6 (.mv true (zi 0)))]) .ret))
def y20r3 (c:Nat→FuncId):LCode:=(.seq (.block 0 (.seq (.sq [(zs 13 (.mv false (.t 7))),(zs 14 (.bin .eql (.ref 0) (.t 13) (.c .nilP))),(zs 12 (.mv true (.t 14)))]) (.cond (.t 12) (.seq (.sq [(zs 6 (.mv true (zi 4)))]) .ret) (y20r1 c)))) (y20r2 c))
def y20r4 (c:Nat→FuncId):LCode:=(.seq (.sq [(zs 8 (.mv false (.t 0))),(zs 9 (.mv false (.t 1))),(zs 10 (.mv false (.t 2))),(zs 11 (.call (.f (c 0)) [(.t 8),(.t 9),(.t 10)])),(zs 7 (.mv true (.t 11)))]) (y20r3 c))
def U_coord_Coord_Ack (c:Nat→FuncId):=PLift.up (zc (zc (@unfC _ _ (y20r1.eq_1 c)) (@unfC _ _ (y20r2.eq_1 c))) (zc (@unfC _ _ (y20r3.eq_1 c)) (@unfC _ _ (y20r4.eq_1 c))))
def C_coord_Coord_Ack (c:Nat→FuncId):LFn:=⟨26,[.t 6],(.seq (.sq [(zs 6 (.mv true (zi 0)))]) (y20r4 c))⟩
def y20s1:LCode:=(.cond (.t 14) (.seq (.sq [(zs 4 (.mv true zF)),(zs 5 (.mv true (zi 4)))]) .ret) .skip)
def y20s2:LCode:=(.sq [(zs 20 (.mv false (.t 6))),(zs 21 (.mv false (.t 6))),(zs 22 (.build [(.s (.int .i64 0)),(.s (.int .u8 0))] [])),(zs 23 (.nilc (.t 20))),(zs 24 (.shift 4 (.t 23))),(zn (.store 1 (.t 24) zT)),(zs 25 (.nilc (.t 21))),(zs 26 (.shift 6 (.t 25))),(zn (.store 2 (.t 26) (.t 22)))])
def y20s3:LCode:=(.seq (.sq [(zs 27 (.mv false (.t 6))),(zs 28 (.nilc (.t 27))),(zs 29 (.shift 5 (.t 28))),(zs 30 (.load1 false (.t 29))),(zs 4 (.mv true (.t 30))),(zs 5 (.mv true (zi 0)))]) .ret)
def y20s4:LCode:=(.seq (.seq (.sq [(zs 15 (.mv false (.t 6))),(zs 16 (.nilc (.t 15))),(zs 17 (.shift 4 (.t 16))),(zs 18 (.load1 false (.t 17))),(zs 19 (.un .not (.t 18)))]) (.cond (.t 19) y20s2 .skip)) y20s3)
def y20s5:LCode:=(.seq (.seq (.sq [(zs 13 (.mv false (.t 6))),(zs 14 (.bin .eql (.ref 0) (.t 13) (.c .nilP)))]) y20s1) y20s4)
def y20s6:LCode:=(.seq (.sq [(zs 7 (.mv false (.t 0))),(zs 8 (.nilc (.t 7))),(zs 9 (.shift 0 (.t 8))),(zs 10 (.load1 false (.t 9))),(zs 11 (.mv false (.t 1))),(zs 12 (.look (.one (.int .i64)) (.s .nilP) false (.t 10) (.t 11))),(zs 6 (.mv true (.t 12)))]) y20s5)
def U_coord_Coord_Give:=PLift.up (zc (zc (@unfC _ _ (y20s1.eq_1)) (zc (@unfC _ _ (y20s2.eq_1)) (@unfC _ _ (y20s3.eq_1)))) (zc (@unfC _ _ (y20s4.eq_1)) (zc (@unfC _ _ (y20s5.eq_1)) (@unfC _ _ (y20s6.eq_1)))))
def C_coord_Coord_Give:LFn:=⟨31,[.t 4,.t 5],(.seq (.sq [(zs 4 (.mv true zF)),(zs 5 (.mv true (zi 0)))]) y20s6)⟩
def y20t1 (c:Nat→FuncId):LCode:=(.sq [(zs 58 (.mv false (.t 16))),(zs 59 (.bin .add .sc (.t 58) (zi 1))),(zs 16 (.mv true (.t 59)))])
def y20t2 (c:Nat→FuncId):LCode:=(.seq (.block 3 (.seq (.tree (.rd (zs 60 (.mv false (.t 1))) 0 false (.rd (zs 61 (.mv false (.t 16))) 1 false (.rd (zs 62 (.ixa (.sl 1) (.t 60) (.t 61))) 2 false (.rd (zs 63 (.load1 false (.t 62))) 3 false (.rd (zs 64 (.shift 5 (.t 14))) 4 false (.rd (zs 65 (.load1 false (.t 64))) 5 false (.rd (zs 66 (.bin .eql .sc (.t 63) (.t 65))) 6 false .done)))))))) (.cond (.t 66) (.sq [(zs 67 (.mv false (.t 16))),(zs 15 (.mv true (.t 67)))]) .skip))) (y20t1 c))
def y20t3 (c:Nat→FuncId):LCode:=(.seq (.seq (.sq [(zs 54 (.mv false (.t 16))),(zs 55 (.mv false (.t 1))),(zs 56 (.len .sl (.t 55))),(zs 57 (.bin .lss .sc (.t 54) (.t 56)))]) (.cond (.t 57) .skip (.exit 2))) (y20t2 c))
def y20t4 (c:Nat→FuncId):LCode:=(.block 2 (.loop (zm false [1,3,3,10,146]) (y20t3 c)))
def y20t5 (c:Nat→FuncId):LCode:=(.sq [(zs 102 (.loadA 2 (.t 11))),(zs 103 (.shift 2 (.t 14))),(zs 104 (.loadA 2 (.t 103))),(zs 105 (.call (.f (c 4)) [(.t 102),(.t 104)])),(zn (.store 2 (.t 11) (.t 105)))])
def y20t6 (c:Nat→FuncId):LCode:=(.seq (.sq [(zs 99 (.mv false (.t 8))),(zs 100 (.mv false (.t 15))),(zs 101 (.ixa (.sl 1) (.t 99) (.t 100))),(zn (.store 1 (.t 101) zT))]) (y20t5 c))
def y20t7 (c:Nat→FuncId):LCode:=(.seq (.sq [(zs 97 (.shift 6 (.t 14))),(zs 98 (.load1 false (.t 97)))]) (.cond (.t 98) (y20t6 c) (.sq [(zs 9 (.mv true zT))])))
def y20t8 (c:Nat→FuncId):LCode:=(.seq (.sq [(zs 80 (.mv false (.t 17))),(zs 81 (.bin .eql .sc (.t 80) (zi 0))),(zs 82 (.mv false (.t 81))),(zt 83 82 (.mv false (.t 15))),(zt 84 82 (.bin .geq .sc (.t 83) (zi 0))),(zs 85 (.pick (.t 82) (.t 84) zF)),(zs 86 (.mv false (.t 85))),(zt 87 86 (.mv false (.t 9))),(zt 88 86 (.un .not (.t 87))),(zs 89 (.pick (.t 86) (.t 88) zF)),(zs 90 (.mv false (.t 89))),(zt 91 90 (.mv false (.t 8))),(zt 92 90 (.mv false (.t 15))),(zt 93 90 (.ixa (.sl 1) (.t 91) (.t 92))),(zt 94 90 (.load1 false (.t 93))),(zt 95 90 (.un .not (.t 94))),(zs 96 (.pick (.t 90) (.t 95) zF))]) (.cond (.t 96) (y20t7 c) .skip))
def y20t9 (c:Nat→FuncId):LCode:=(.seq (.sq [(zs 72 (.mv false (.t 7))),(zs 73 (.shift 5 (.t 14))),(zs 74 (.load1 false (.t 73))),(zs 75 (.shift 6 (.t 14))),(zs 76 (.load1 false (.t 75))),(zs 77 (.shift 2 (.t 14))),(zs 78 (.loadA 2 (.t 77))),(zs 79 (.call (.f (c 3)) [(.t 72),(zi 5),(.t 74),(.t 76),(.t 78)])),(zs 17 (.mv true (.t 79)))]) (y20t8 c))
def y20t10 (c:Nat→FuncId):LCode:=(.sq [(zs 108 (.mv false (.t 7))),(zs 109 (.shift 5 (.t 14))),(zs 110 (.load1 false (.t 109))),(zs 111 (.call (.f (c 5)) [(.t 108),(zi 5),(.t 110)]))])
def y20t11 (c:Nat→FuncId):LCode:=(.seq (.sq [(zs 114 (.mv false (.t 7))),(zs 115 (.call (.f (c 6)) [(.t 114),(zi 5)]))]) (.sq [(zs 9 (.mv true zT))]))
def y20t12 (c:Nat→FuncId):LCode:=(.seq (.sq [(zs 113 (.bin .eql .sc (.t 69) (zi 3))),(zs 112 (.mv true (.t 113)))]) (.cond (.t 112) (y20t11 c) .skip))
def y20t13 (c:Nat→FuncId):LCode:=(.seq (.sq [(zs 107 (.bin .eql .sc (.t 69) (zi 2))),(zs 106 (.mv true (.t 107)))]) (.cond (.t 106) (y20t10 c) (y20t12 c)))
def y20t14 (c:Nat→FuncId):LCode:=(.block 4 (.seq (.sq [(zs 71 (.bin .eql .sc (.t 69) (zi 1))),(zs 70 (.mv true (.t 71)))]) (.cond (.t 70) (y20t9 c) (y20t13 c))))
def y20t15 (c:Nat→FuncId):LCode:=(.sq [(zs 120 (.mv false (.t 19))),(zs 121 (.bin .add .sc (.t 120) (zi 1))),(zs 19 (.mv true (.t 121)))])
def y20t16 (c:Nat→FuncId):LCode:=(.seq (.block 6 (.sq [(zs 122 (.mv false (.t 18))),(zs 123 (.mv false (.t 122))),(zt 124 123 (.mv false (.t 8))),(zt 125 123 (.mv false (.t 19))),(zt 126 123 (.ixa (.sl 1) (.t 124) (.t 125))),(zt 127 123 (.load1 false (.t 126))),(zs 128 (.pick (.t 123) (.t 127) zF)),(zs 18 (.mv true (.t 128)))])) (y20t15 c))
def y20t17 (c:Nat→FuncId):LCode:=(.seq (.seq (.sq [(zs 116 (.mv false (.t 19))),(zs 117 (.mv false (.t 8))),(zs 118 (.len .sl (.t 117))),(zs 119 (.bin .lss .sc (.t 116) (.t 118)))]) (.cond (.t 119) .skip (.exit 5))) (y20t16 c))
def y20t18 (c:Nat→FuncId):LCode:=(.block 5 (.loop (zm false [1,3,3,7,4,2,143]) (y20t17 c)))
def y20t19 (c:Nat→FuncId):LCode:=(.tree (.rd (zs 134 (.loadA 2 (.t 11))) 0 true (.mv (zs 9 (.mv true zT)) [] (.mv (zs 10 (.mv true zT)) [1] (.mv (zn (.store 2 (.t 12) (.t 134))) [0,1,2] .done .stop) .stop) .stop)))
def y20t20 (c:Nat→FuncId):LCode:=(.seq (.sq [(zs 141 (.mv false (.t 20))),(zs 142 (.mv false (.t 9))),(zs 143 (.bin .neq .bl (.t 141) (.t 142))),(zs 144 (.mv false (.t 143))),(zf 145 144 (.mv false (.t 21))),(zf 146 144 (.mv false (.t 10))),(zf 147 144 (.bin .neq .bl (.t 145) (.t 146))),(zs 148 (.pick (.t 144) zT (.t 147))),(zs 149 (.mv false (.t 148))),(zf 150 149 (.loadA 2 (.t 22))),(zf 151 149 (.loadA 2 (.t 12))),(zf 152 149 (.bin .neq (.leaf [.int .i64,.int .u8]) (.t 150) (.t 151))),(zs 153 (.pick (.t 149) zT (.t 152))),(zs 154 (.mv false (.t 153))),(zf 155 154 (.mv false (.t 10))),(zf 156 154 (.mv false (.t 155))),(zt 157 156 (.loadA 2 (.t 22))),(zt 158 156 (.loadA 2 (.t 3))),(zt 159 156 (.call (.f (c 8)) [(.t 157),(.t 158)])),(zt 160 156 (.bin .leq .sc (.t 159) (zi 0))),(zf 161 154 (.pick (.t 156) (.t 160) zF)),(zs 162 (.pick (.t 154) zT (.t 161)))]) (.cond (.t 162) (.seq (.sq [(zs 6 (.mv true zF))]) .ret) .skip))
def y20t21 (c:Nat→FuncId):LCode:=(.seq (.sq [(zs 136 (.mv false (.t 7))),(zs 137 (.call (.f (c 7)) [(.t 136),(zi 5)])),(zs 135 (.mv false (.t 137))),(zs 138 (.ext (.t 135) 0)),(zs 139 (.ext (.t 135) 1)),(zs 140 (.ext (.t 135) 2)),(zs 22 (.alloc false [(.s (.int .i64 0)),(.s (.int .u8 0))])),(zs 20 (.mv true (.t 138))),(zs 21 (.mv true (.t 139))),(zn (.store 2 (.t 22) (.t 140)))]) (y20t20 c))
def y20t22 (c:Nat→FuncId):LCode:=(.seq (.seq (.sq [(zs 129 (.mv false (.t 18))),(zs 130 (.mv false (.t 129))),(zt 131 130 (.mv false (.t 9))),(zt 132 130 (.un .not (.t 131))),(zs 133 (.pick (.t 130) (.t 132) zF))]) (.cond (.t 133) (y20t19 c) .skip)) (y20t21 c))
def y20t23 (c:Nat→FuncId):LCode:=(.seq (.seq (.sq [(zs 19 (.mv true (zi 0)))]) (y20t18 c)) (y20t22 c))
def y20t24 (c:Nat→FuncId):LCode:=(.seq (.seq (.sq [(zs 68 (.shift 0 (.t 14))),(zs 69 (.load1 false (.t 68)))]) (y20t14 c)) (.seq (.sq [(zs 18 (.mv true zT))]) (y20t23 c)))
def y20t25 (c:Nat→FuncId):LCode:=(.seq (.seq (.sq [(zs 16 (.mv true (zi 0)))]) (y20t4 c)) (y20t24 c))
def y20t26 (c:Nat→FuncId):LCode:=(.sq [(zs 48 (.mv false (.t 13))),(zs 49 (.bin .add .sc (.t 48) (zi 1))),(zs 13 (.mv true (.t 49)))])
def y20t27 (c:Nat→FuncId):LCode:=(.seq (.block 1 (.seq (.sq [(zs 50 (.mv false (.t 2))),(zs 51 (.mv false (.t 13))),(zs 52 (.ixa (.sl 16) (.t 50) (.t 51))),(zs 53 (.loadA 16 (.t 52))),(zs 14 (.alloc false [(.s (.int .i64 0)),(.s (.int .i64 0)),(.s (.int .i64 0)),(.s (.int .u8 0)),(.s .nilS),(.s (.int .i64 0)),(.s (.bool false)),(.s (.int .i64 0)),(.s (.int .i64 0)),(.s (.int .i64 0)),(.s (.int .u8 0)),(.s (.int .i64 0)),(.s (.int .u8 0)),(.s .nilS),(.s (.bool false)),(.s .nilS)])),(zn (.store 16 (.t 14) (.t 53)))]) (.seq (.sq [(zs 15 (.mv true (.c (.int .i64 (-1)))))]) (y20t25 c)))) (y20t26 c))
def y20t28 (c:Nat→FuncId):LCode:=(.seq (.seq (.sq [(zs 44 (.mv false (.t 13))),(zs 45 (.mv false (.t 2))),(zs 46 (.len .sl (.t 45))),(zs 47 (.bin .lss .sc (.t 44) (.t 46)))]) (.cond (.t 47) .skip (.exit 0))) (y20t27 c))
def y20t29 (c:Nat→FuncId):LCode:=(.block 0 (.loop (zm false [1,3,3,7,149]) (y20t28 c)))
def y20t30 (c:Nat→FuncId):LCode:=(.seq (.seq (.sq [(zs 13 (.mv true (zi 0)))]) (y20t29 c)) (.seq (.sq [(zs 6 (.mv true zT))]) .ret))
def y20t31 (c:Nat→FuncId):LCode:=(.seq (.sq [(zs 42 (.build [(.s (.int .i64 0)),(.s (.int .u8 0))] [])),(zs 43 (.build [(.s (.int .i64 0)),(.s (.int .u8 0))] [])),(zs 11 (.alloc false [(.s (.int .i64 0)),(.s (.int .u8 0))])),(zs 12 (.alloc false [(.s (.int .i64 0)),(.s (.int .u8 0))])),(zn (.store 2 (.t 11) (.t 42))),(zn (.store 2 (.t 12) (.t 43)))]) (y20t30 c))
def y20t32 (c:Nat→FuncId):LCode:=(.seq (.sq [(zs 9 (.mv true zF)),(zs 10 (.mv true zF))]) (y20t31 c))
def y20t33 (c:Nat→FuncId):LCode:=(.seq (.sq [(zs 39 (.mv false (.t 1))),(zs 40 (.len .sl (.t 39))),(zs 41 (.mksl false false ⟨1,false,1,(.s (.bool false))⟩ (.t 40) (.t 40))),(zs 8 (.mv true (.t 41)))]) (y20t32 c))
def y20t34 (c:Nat→FuncId):LCode:=(.seq (.seq (.sq [(zs 34 (.mv false (.t 7))),(zs 35 (.loadA 2 (.t 3))),(zs 36 (.mv false (.t 1))),(zs 37 (.call (.f (c 2)) [(.t 34),(zi 5),(.t 35),(.t 36)])),(zs 38 (.bin .neq .sc (.t 37) (zi 0)))]) (.cond (.t 38) (.seq (.sq [(zs 6 (.mv true zT))]) .ret) .skip)) (y20t33 c))
def y20t35 (c:Nat→FuncId):LCode:=(.seq (.sq [(zs 33 (.call (.f (c 1)) [])),(zs 7 (.mv true (.t 33)))]) (y20t34 c))
def y20t36 (c:Nat→FuncId):LCode:=(.seq (.seq (.sq [(zs 25 (.mv false (.t 1))),(zs 26 (.len .sl (.t 25))),(zs 27 (.bin .gtr .sc (.t 26) (zi 8))),(zs 28 (.mv false (.t 27))),(zf 29 28 (.mv false (.t 2))),(zf 30 28 (.len .sl (.t 29))),(zf 31 28 (.bin .gtr .sc (.t 30) (zi 60))),(zs 32 (.pick (.t 28) zT (.t 31)))]) (.cond (.t 32) (.seq (.sq [(zs 6 (.mv true zT))]) .ret) .skip)) (y20t35 c))
def y20t37 (c:Nat→FuncId):LCode:=(.seq (.seq (.sq [(zs 23 (.call (.f (c 0)) [])),(zs 24 (.un .not (.t 23)))]) (.cond (.t 24) (.seq (.sq [(zs 6 (.mv true zF))]) .ret) .skip)) (y20t36 c))
def U_hourglasslaw18_CoordOnce (c:Nat→FuncId):=PLift.up (zc (zc (zc (zc (zc (@unfC _ _ (y20t1.eq_1 c)) (@unfC _ _ (y20t2.eq_1 c))) (zc (@unfC _ _ (y20t3.eq_1 c)) (@unfC _ _ (y20t4.eq_1 c)))) (zc (zc (@unfC _ _ (y20t5.eq_1 c)) (@unfC _ _ (y20t6.eq_1 c))) (zc (@unfC _ _ (y20t7.eq_1 c)) (zc (@unfC _ _ (y20t8.eq_1 c)) (@unfC _ _ (y20t9.eq_1 c)))))) (zc (zc (zc (@unfC _ _ (y20t10.eq_1 c)) (@unfC _ _ (y20t11.eq_1 c))) (zc (@unfC _ _ (y20t12.eq_1 c)) (@unfC _ _ (y20t13.eq_1 c)))) (zc (zc (@unfC _ _ (y20t14.eq_1 c)) (@unfC _ _ (y20t15.eq_1 c))) (zc (@unfC _ _ (y20t16.eq_1 c)) (zc (@unfC _ _ (y20t17.eq_1 c)) (@unfC _ _ (y20t18.eq_1 c))))))) (zc (zc (zc (zc (@unfC _ _ (y20t19.eq_1 c)) (@unfC _ _ (y20t20.eq_1 c))) (zc (@unfC _ _ (y20t21.eq_1 c)) (@unfC _ _ (y20t22.eq_1 c)))) (zc (zc (@unfC _ _ (y20t23.eq_1 c)) (@unfC _ _ (y20t24.eq_1 c))) (zc (@unfC _ _ (y20t25.eq_1 c)) (zc (@unfC _ _ (y20t26.eq_1 c)) (@unfC _ _ (y20t27.eq_1 c)))))) (zc (zc (zc (@unfC _ _ (y20t28.eq_1 c)) (@unfC _ _ (y20t29.eq_1 c))) (zc (@unfC _ _ (y20t30.eq_1 c)) (zc (@unfC _ _ (y20t31.eq_1 c)) (@unfC _ _ (y20t32.eq_1 c))))) (zc (zc (@unfC _ _ (y20t33.eq_1 c)) (@unfC _ _ (y20t34.eq_1 c))) (zc (@unfC _ _ (y20t35.eq_1 c)) (zc (@unfC _ _ (y20t36.eq_1 c)) (@unfC _ _ (y20t37.eq_1 c))))))))
def C_hourglasslaw18_CoordOnce (c:Nat→FuncId):LFn:=⟨163,[.t 6],(.seq (.sq [(zs 3 (.box false false (.t 0))),(zs 6 (.mv true zF))]) (y20t37 c))⟩
end Go.AM
namespace Go.AM
open Go
open AV renaming undef → uu
set_option maxRecDepth 20000
def AskI (C:CallW) (g:FuncId) (r:Nat) (p:Int→Bool) (S:List (List AV)) (H:List HObj):Prop:=∀(v:Int) (T:List (List AV)) (K:AV→St→Prop),K (.bool (p v)) ⟨S ++ T,H⟩→C (.fn g) [.s (.int .i64 v),.ptr (.stk r) 0] ⟨S ++ T,H⟩ K
def IdxRS (C:CallW) (f:FuncId):Prop:=∀(d:Array Int) (g:FuncId) (r:Nat) (p:Int→Bool) S H (K:AV→St→Prop),d.size≤1000000→r < S.length→AskI C g r p S H→(∀i,i < d.size→p d[i]! = true→(∀m,m < i→p d[m]! = false)→K (.s (.int .i64 (i:Nat))) ⟨S ++ [flat iA d],H⟩)→((∀m,m < d.size→p d[m]! = false)→K (.s (.int .i64 (-1))) ⟨S ++ [flat iA d],H⟩)→C (.fn f) [.row (.stk S.length) 0 d.size d.size,.fn (.func g) [] [.ptr (.stk r) 0]] ⟨S ++ [flat iA d],H⟩ K
set_option maxHeartbeats 4000000 in
theorem IndexFunc_int_spec {C:CallW} (hC:LeC C C) (P:Program):∀(d:Array Int) (g:FuncId) (r:Nat) (p:Int→Bool) S H (K:AV→St→Prop),d.size≤1000000→r < S.length→AskI C g r p S H→(∀i,i < d.size→p d[i]! = true→(∀m,m < i→p d[m]! = false)→K (.s (.int .i64 (i:Nat))) ⟨S ++ [flat iA d],H⟩)→((∀m,m < d.size→p d[m]! = false)→K (.s (.int .i64 (-1))) ⟨S ++ [flat iA d],H⟩)→runL C P C_slices_IndexFunc_int [.row (.stk S.length) 0 d.size d.size,.fn (.func g) [] [.ptr (.stk r) 0]] ⟨S ++ [flat iA d],H⟩ K:=by
  intro d g r p S H K hd hr hask hyes hno
  obtain ⟨N,hN⟩:∃N,d.size=N:=⟨_,rfl⟩
  have hS:(S ++ [flat iA d])[S.length]? = some (flat iA d):=by simp
  rw [hN] at hd hyes hno ⊢
  have hr1:r < S.length + 1:=by omega
  simp only [C_slices_IndexFunc_int,A_,simprocAttr,ne_eq,U_slices_IndexFunc_int.1]
  refine loop_rule hC (α:=Nat) (fun a=>N - a) (fun a=>[.row (.stk S.length) 0 N N,.fn (.func g) [] [.ptr (.stk r) 0],uu,uu,uu,uu,uu,.s (.int .i64 (N:Nat)),.s (.int .i64 (a:Nat)),uu,uu,uu,uu,uu,uu,uu,uu,uu,uu]) (fun _=>S ++ [flat iA d]) (fun a=>H) (fun a=>a≤N∧∀m,m < a→p d[m]! = false) 0 ⟨Nat.zero_le _,fun m h=>by omega⟩ (by simp [keep,zm]) (by rw [List.take_of_length_le (by simp)]) rfl (fun a _=>by simp [AV.under,AV.under.go,hr1]) ?_
  rintro i ⟨hi,hinv⟩ ih
  by_cases h16:i < N
  · have hlt:((i:Int) < (N:Int)):=by omega
    have hw:=wrap_succ (i:=i) (by omega)
    have x1:∀kk:IntKind,indexAddrL (.sl 1) (.row (.stk S.length) 0 N N) (.s (.int kk (i:Int)))=some (.ptr (.stk S.length) i):=fun kk=>ixi h16
    have r1:=ird (H:=H) hS (i:=i) (by omega)
    simp only [C_slices_IndexFunc_int,A_,simprocAttr,ne_eq,U_slices_IndexFunc_int.1,hlt,x1,r1]
    refine hask _ _ _ ?_
    cases hp:p d[i]! with
    | true =>
      simp only [C_slices_IndexFunc_int,A_,simprocAttr,ne_eq,U_slices_IndexFunc_int.1]
      exact hyes i h16 hp hinv
    | false =>
      simp only [C_slices_IndexFunc_int,A_,simprocAttr,ne_eq,U_slices_IndexFunc_int.1,hw]
      exact ih (i + 1) _ _ _ (by omega) ⟨by omega,fun m hm=>by rcases Nat.lt_or_ge m i with h | h; exact hinv m h; rw [show m=i by omega]; exact hp⟩ (by simp [keep,zm]) (by rw [List.take_of_length_le (by simp)]) rfl
  · have hlt:¬((i:Int) < (N:Int)):=by omega
    simp only [C_slices_IndexFunc_int,A_,simprocAttr,ne_eq,U_slices_IndexFunc_int.1,hlt]
    exact hno fun m hm=>hinv m (by omega)
def DelFS (C:CallW) (f:FuncId):Prop:=∀(l:List Int) (g:FuncId) (r:Nat) (p:Int→Bool) S H (K:AV→St→Prop),l≠[]→l.length≤1000000→r < S.length→AskI C g r p S H→K (lstN (l.filter fun v => !p v)) ⟨S,H⟩→C (.fn f) [.list .uniq 1 (l.map iA),.fn (.func g) [] [.ptr (.stk r) 0]] ⟨S,H⟩ K
theorem filter_none {p:Int→Bool} {l:List Int} (h:∀x∈l,p x=false):l.filter (fun v => !p v)=l:=List.filter_eq_self.2 fun x hx=>by rw [h x hx]; rfl
theorem mem_bang {d:Array Int} {p:Int→Bool} {n:Nat} (hn:n≤d.size) (h:∀m,m < n→p d[m]! = false):∀x∈d.toList.take n,p x=false:=by
  intro x hx
  obtain ⟨m,hm,rfl⟩:=List.mem_iff_getElem.1 hx
  rw [List.length_take] at hm
  rw [List.getElem_take,←get_bang (d:=d) (by omega)]
  exact h m (by omega)
set_option maxHeartbeats 8000000 in
theorem DeleteFunc_spec {C:CallW} (hC:LeC C C) (P:Program) {c:Nat→FuncId} (h0:IdxRS C (c 0)):∀(l:List Int) (g:FuncId) (r:Nat) (p:Int→Bool) S H (K:AV→St→Prop),l≠[]→l.length≤1000000→r < S.length→AskI C g r p S H→K (lstN (l.filter fun v => !p v)) ⟨S,H⟩→runL C P (C_slices_DeleteFunc_int c) [.list .uniq 1 (l.map iA),.fn (.func g) [] [.ptr (.stk r) 0]] ⟨S,H⟩ K:=by
  intro l g r p S H K hne hl hr hask hK
  have hu:slZ l = .list .uniq 1 (l.map iA):=if_neg hne
  simp only [C_slices_DeleteFunc_int,A_,simprocAttr,ne_eq,(U_slices_DeleteFunc_int _).1]
  rw [thaw_slZ (l:=l) hne (by rw [hu]; rfl)]
  obtain ⟨N,hN⟩:∃N,l.length=N:=⟨_,rfl⟩
  have hd:(arrZ l).size=N:=hN
  have hdl:(arrZ l).toList=l:=rfl
  rw [hN] at hl
  rw [hN]
  generalize arrZ l=d at hd hdl ⊢
  have hS:(S ++ [flat iA d])[S.length]? = some (flat iA d):=by simp
  have hr1:r < S.length + 1:=by omega
  have hN0:0 < N:=by rw [←hN]; exact List.length_pos_iff.2 hne
  simp only [C_slices_DeleteFunc_int,A_,simprocAttr,ne_eq,(U_slices_DeleteFunc_int _).1,List.set_cons_zero,List.set_cons_succ]
  have h0':=h0 d g r p S H
  rw [hd] at h0'
  refine h0' _ hl hr hask (fun i hi hp hlt => ?_) (fun hno => ?_)
  case' _ =>
    have hne1:(((i:Nat):Int) = -1)=False:=eq_false (by omega)
    have hw:=wrap_succ (i:=i) (by omega)
    simp only [C_slices_DeleteFunc_int,A_,simprocAttr,ne_eq,(U_slices_DeleteFunc_int _).1,hne1,hw]
    refine loop_rule hC (α:=Nat×Nat×Array Int) (fun x=>N - x.2.1) (fun x=>[.row (.stk S.length) 0 N N,.fn (.func g) [] [.ptr (.stk r) 0],uu,uu,uu,.s (.int .i64 (x.1:Nat)),.s (.int .i64 (x.2.1:Nat)),uu,uu,uu,uu,uu,uu,uu,uu,uu,uu,uu,uu,uu,uu,uu,uu,uu,uu,uu,uu,uu,uu,uu,uu,uu,uu,uu,uu,uu,uu,uu,uu,uu,uu,uu]) (fun x=>S ++ [flat iA x.2.2]) (fun _=>H) (fun x=>x.1 < x.2.1∧x.2.1≤N∧x.2.2.size=N∧(∀m,x.2.1≤m→m < N→x.2.2[m]! = d[m]!)∧x.2.2.toList.take x.1=(l.take x.2.1).filter fun v => !p v) (i,i + 1,d) ⟨by dsimp only; omega,by dsimp only; omega,hd,fun _ _ _=>rfl,?_⟩ (by simp [keep,zm]) (by rw [List.take_of_length_le (by simp)]) rfl (fun x _=>by simp [AV.under,AV.under.go,hr1]) ?_
    · dsimp only
      have q:=mem_bang (d:=d) (p:=p) (n:=i) (by omega) hlt
      have e1:l.take (i + 1)=d.toList.take i ++ [d[i]!]:=by rw [←hdl]; exact take_at (by omega)
      rw [e1,List.filter_append,filter_none q]
      simp [hp]
    rintro ⟨w,j,e⟩ ⟨hwj,hj,hes,hsame,hinv⟩ ih
    dsimp only at hwj hj hes hsame hinv ih ⊢
    have hSe:(S ++ [flat iA e])[S.length]? = some (flat iA e):=by simp
    by_cases hjN:j < N
    · have hlt3:((j:Int) < (N:Int)):=by omega
      have hwj1:=wrap_succ (i:=j) (by omega)
      have hww:=wrap_succ (i:=w) (by omega)
      have x1:∀kk:IntKind,indexAddrL (.sl 1) (.row (.stk S.length) 0 N N) (.s (.int kk (j:Int)))=some (.ptr (.stk S.length) j):=fun kk=>ixi hjN
      have r1:=ird (H:=H) hSe (i:=j) (by omega)
      rw [hsame j (Nat.le_refl _) hjN] at r1
      have e1:l.take (j + 1)=l.take j ++ [d[j]!]:=by
        have:=take_at (d:=d) (m:=j) (by omega)
        rw [hdl] at this
        exact this
      simp only [C_slices_DeleteFunc_int,A_,simprocAttr,ne_eq,(U_slices_DeleteFunc_int _).1,hlt3,x1,r1]
      refine hask d[j]! [flat iA e] _ ?_
      cases hpj:p d[j]! with
      | true =>
        simp only [C_slices_DeleteFunc_int,A_,simprocAttr,ne_eq,(U_slices_DeleteFunc_int _).1,hwj1]
        refine ih (w,j + 1,e) _ _ _ (by dsimp only; omega) ⟨by dsimp only; omega,by dsimp only; omega,hes,fun m h1 h2=>hsame m (by dsimp only at h1; omega) h2,?_⟩ (by simp [keep,zm]) (by rw [List.take_of_length_le (by simp)]) rfl
        dsimp only
        rw [hinv,e1,List.filter_append]
        simp [hpj]
      | false =>
        have x3:∀kk:IntKind,indexAddrL (.sl 1) (.row (.stk S.length) 0 N N) (.s (.int kk (w:Int)))=some (.ptr (.stk S.length) w):=fun kk=>ixi (by omega)
        have w1:=iwr (H:=H) (x:=d[j]!) hSe (i:=w) (by omega)
        simp only [C_slices_DeleteFunc_int,A_,simprocAttr,ne_eq,(U_slices_DeleteFunc_int _).1,hwj1,hww,x3,w1]
        refine ih (w + 1,j + 1,e.setIfInBounds w d[j]!) _ _ _ (by dsimp only; omega) ⟨by dsimp only; omega,by dsimp only; omega,by simpa using hes,fun m h1 h2 => ?_,?_⟩ (by simp [keep,zm]) (by rw [List.take_of_length_le (by simp)]) rfl
        · dsimp only at h1 ⊢
          rw [←hsame m (by omega) h2]
          simp only [Array.getElem!_eq_getD,Array.getD_eq_getD_getElem?,Array.getElem?_setIfInBounds]
          rw [if_neg (by omega)]
        · dsimp only
          have hwe:w < e.size:=by omega
          rw [e1,List.filter_append,←hinv,take_at (by simpa using hwe)]
          congr 1
          · rw [Array.toList_setIfInBounds,List.take_set_of_le (Nat.le_refl _)]
          · simp only [Array.getElem!_eq_getD,Array.getD_eq_getD_getElem?,Array.getElem?_setIfInBounds]
            have hpj':p (d[j]?.getD 0)=false:=by simpa [Array.getElem!_eq_getD,Array.getD_eq_getD_getElem?] using hpj
            simp [hwe,hpj']
    · have hlt3:¬((j:Int) < (N:Int)):=by omega
      have s2:∀ki:IntKind,sliceL (.sl 1) (.row (.stk S.length) 0 N N) (some (.s (.int ki (w:Int)))) none none=some (.row (.stk S.length) w (N - w) (N - w)):=fun ki=>slr_lo (by omega)
      have c1:=clr_i (H:=H) (et:=⟨1,false,8,.s (.int .i64 0)⟩) rfl hSe hes (k:=w) (by omega)
      have hset:∀x y:List AV,(S ++ [x]).set S.length y=S ++ [y]:=fun x y=>by simp
      rw [hset] at c1
      have hel:e.toList.length=N:=by simpa using hes
      generalize hZ:(e.toList.take w ++ List.replicate (N - w) 0)=Z at c1
      have hZl:Z.length=N:=by rw [←hZ]; simp; omega
      have hS3:(S ++ [flat iA Z.toArray])[S.length]? = some (flat iA Z.toArray):=by simp
      have hf:∀{et:ET},et.c=1→et.ag=false→freezeL et (.row (.stk S.length) 0 N N) _=_:=fun h1 h2=>freeze_i (H:=H) h1 h2 hS3 (k:=N) (N:=N) (by show N≤Z.length; omega)
      rw [show Z.toArray.toList.take N=Z from List.take_of_length_le (by show Z.length≤N; omega)] at hf
      have s3:∀ki:IntKind,sliceL (.sl 1) (.list .sh 1 (Z.map iA)) none (some (.s (.int ki (w:Int)))) none=some (.list .sh 1 ((Z.take w).map iA)):=fun ki=>by rw [slc_hi (by rw [List.length_map]; omega),List.map_take]
      simp only [C_slices_DeleteFunc_int,A_,simprocAttr,ne_eq,(U_slices_DeleteFunc_int _).1,hlt3,s2,c1,hf,s3]
      have:Z.take w=l.filter fun v => !p v:=by
        rw [←hZ,List.take_left' (by simp; omega),hinv,List.take_of_length_le (by omega)]
      rw [this]
      exact hK
  case' _ =>
    have hf:∀{et:ET},et.c=1→et.ag=false→freezeL et (.row (.stk S.length) 0 N N) _=_:=fun h1 h2=>freeze_i (H:=H) h1 h2 hS (k:=N) (N:=N) (by rw [hd]; exact Nat.le_refl _)
    rw [List.take_of_length_le (by simp [hd])] at hf
    simp only [C_slices_DeleteFunc_int,A_,simprocAttr,ne_eq,(U_slices_DeleteFunc_int _).1,hf]
    rw [hdl]
    have q:=mem_bang (d:=d) (p:=p) (n:=N) (by omega) hno
    rw [hdl,List.take_of_length_le (by omega)] at q
    rw [filter_none q] at hK
    exact hK
end Go.AM
namespace Go.AM
open Go
open AV renaming undef → uu
set_option maxRecDepth 20000
theorem ixl_n {l:List Int} {i:Nat} (h:i < l.length) (k:IntKind):indexAddrL (.sl 1) (.list .sh 1 (l.map pI)) (.s (.int k (i:Int)))=some (.rop [.s (.int .i64 l[i])]):=ixl_map h (by omega)
def SameIS (C:CallW) (f:FuncId):Prop:=∀(a b:List Int) S H (K:AV→St→Prop),a.length≤1000000→b.length≤1000000→K (.bool (decide (a=b))) ⟨S,H⟩→C (.fn f) [lstN a,lstN b] ⟨S,H⟩ K
set_option maxHeartbeats 4000000 in
theorem sameI_spec {C:CallW} (hC:LeC C C) (P:Program):∀(a b:List Int) S H (K:AV→St→Prop),a.length≤1000000→b.length≤1000000→K (.bool (decide (a=b))) ⟨S,H⟩→runL C P C_hourglasslaw17_same [lstN a,lstN b] ⟨S,H⟩ K:=by
  intro a b S H K ha hb hK
  by_cases hl:a.length=b.length
  case neg =>
    have hl':((a.length:Int)=(b.length:Int))=False:=eq_false (by omega)
    rw [decide_eq_false (fun e=>hl (by rw [e]))] at hK
    simp only [lstN,C_hourglasslaw17_same,A_,simprocAttr,ne_eq,U_hourglasslaw17_same.1,hl']
    exact hK
  have hl':((a.length:Int)=(b.length:Int))=True:=eq_true (by omega)
  simp only [lstN,C_hourglasslaw17_same,A_,simprocAttr,ne_eq,U_hourglasslaw17_same.1,hl']
  refine loop_rule hC (α:=Nat) (fun x=>a.length - x) (fun x=>[.list .sh 1 (a.map pI),.list .sh 1 (b.map pI),uu,uu,uu,.s (.int .i64 (x:Nat)),uu,uu,uu,uu,uu,uu,uu,uu,uu,uu,uu,uu,uu,uu,uu,uu,uu,uu,uu,uu]) (fun _=>S) (fun _=>H) (fun i=>i≤a.length∧a.take i=b.take i) 0 ⟨by simp,rfl⟩ (by simp [keep,zm]) (by simp) rfl (fun i hi=>by simp [AV.under,AV.under.go]) ?_
  rintro i ⟨hi,hinv⟩ ih
  by_cases h16:i < a.length
  · have h17:i < b.length:=by omega
    have hlt:((i:Int) < (a.length:Int)):=by omega
    have hw:=wrap_succ (i:=i) (by omega)
    have x1:=ixl_n h16
    have x2:=ixl_n h17
    simp only [C_hourglasslaw17_same,A_,simprocAttr,ne_eq,U_hourglasslaw17_same.1,hlt,x1,x2]
    by_cases he:a[i]=b[i]
    · have he':(a[i]=b[i])=True:=eq_true he
      simp only [C_hourglasslaw17_same,A_,simprocAttr,ne_eq,U_hourglasslaw17_same.1,he',hw]
      exact ih (i + 1) _ _ _ (by omega) ⟨by omega,by rw [List.take_succ_eq_append_getElem h16,List.take_succ_eq_append_getElem h17,hinv,he]⟩ (by simp [keep,zm]) (by simp) rfl
    · have he':(a[i]=b[i])=False:=eq_false he
      rw [decide_eq_false (fun e=>he (by subst e; rfl))] at hK
      simp only [C_hourglasslaw17_same,A_,simprocAttr,ne_eq,U_hourglasslaw17_same.1,he']
      exact hK
  · have hlt:¬((i:Int) < (a.length:Int)):=by omega
    rw [List.take_of_length_le (by omega),List.take_of_length_le (by omega)] at hinv
    rw [decide_eq_true hinv] at hK
    simp only [C_hourglasslaw17_same,A_,simprocAttr,ne_eq,U_hourglasslaw17_same.1,hlt]
    exact hK
def IdxIS (C:CallW) (f:FuncId):Prop:=∀(l:List Int) (v:Int) S H (K:AV→St→Prop),l.length≤1000000→(∀r:Int,(0≤r↔v∈l)→K (.s (.int .i64 r)) ⟨S,H⟩)→C (.fn f) [lstN l,.s (.int .i64 v)] ⟨S,H⟩ K
set_option maxHeartbeats 4000000 in
theorem Index_int_spec {C:CallW} (hC:LeC C C) (P:Program):∀(l:List Int) (v:Int) S H (K:AV→St→Prop),l.length≤1000000→(∀r:Int,(0≤r↔v∈l)→K (.s (.int .i64 r)) ⟨S,H⟩)→runL C P C_slices_Index_int [lstN l,.s (.int .i64 v)] ⟨S,H⟩ K:=by
  intro l v S H K hl hK
  simp only [lstN,C_slices_Index_int,A_,simprocAttr,ne_eq,U_slices_Index_int.1]
  refine loop_rule hC (α:=Nat) (fun a=>l.length - a) (fun a=>[.list .sh 1 (l.map pI),.s (.int .i64 v),uu,uu,uu,uu,uu,.s (.int .i64 l.length),.s (.int .i64 (a:Nat)),uu,uu,uu,uu,uu,uu,uu,uu,uu,uu]) (fun _=>S) (fun a=>H) (fun a=>a≤l.length∧(v∈l↔v∈l.drop a)) 0 ⟨Nat.zero_le _,Iff.rfl⟩ (by simp [keep,zm]) (by simp) rfl (fun a _=>by simp [AV.under,AV.under.go]) ?_
  rintro i ⟨hi,hinv⟩ ih
  by_cases h16:i < l.length
  · have hlt:((i:Int) < (l.length:Int)):=by omega
    have hw:=wrap_succ (i:=i) (by omega)
    have x1:=ixl_n h16
    rw [List.drop_eq_getElem_cons h16,List.mem_cons] at hinv
    by_cases he:v=l[i]
    · have he':(v=l[i])=True:=eq_true he
      simp only [C_slices_Index_int,A_,simprocAttr,ne_eq,U_slices_Index_int.1,hlt,x1,he']
      exact hK _ ⟨fun _=>hinv.2 (.inl he),fun _=>by omega⟩
    · have he':(v=l[i])=False:=eq_false he
      simp only [C_slices_Index_int,A_,simprocAttr,ne_eq,U_slices_Index_int.1,hlt,x1,he',hw]
      exact ih (i + 1) _ _ _ (by omega) ⟨by omega,hinv.trans ⟨fun h=>h.resolve_left he,.inr⟩⟩ (by simp [keep,zm]) (by simp) rfl
  · have hlt:¬((i:Int) < (l.length:Int)):=by omega
    rw [List.drop_of_length_le (by omega)] at hinv
    simp only [C_slices_Index_int,A_,simprocAttr,ne_eq,U_slices_Index_int.1,hlt]
    exact hK _ ⟨fun h=>absurd h (by decide),fun h=>by have:=hinv.1 h; cases this⟩
def ContIS (C:CallW) (f:FuncId):Prop:=∀(l:List Int) (v:Int) S H (K:AV→St→Prop),l.length≤1000000→K (.bool (decide (v∈l))) ⟨S,H⟩→C (.fn f) [lstN l,.s (.int .i64 v)] ⟨S,H⟩ K
theorem Contains_int_spec {C:CallW} (P:Program) {c:Nat→FuncId} (h0:IdxIS C (c 0)):∀(l:List Int) (v:Int) S H (K:AV→St→Prop),l.length≤1000000→K (.bool (decide (v∈l))) ⟨S,H⟩→runL C P (C_slices_Contains_int c) [lstN l,.s (.int .i64 v)] ⟨S,H⟩ K:=by
  intro l v S H K hl hK
  simp only [lstN,C_slices_Contains_int,A_,simprocAttr,ne_eq,(U_slices_Contains_int _).1]
  refine h0 l v _ _ _ hl fun r hr => ?_
  by_cases h:v∈l
  · rw [decide_eq_true h] at hK
    have h1:(0≤r)=True:=eq_true (hr.2 h)
    simp only [C_slices_Contains_int,A_,simprocAttr,ne_eq,(U_slices_Contains_int _).1,h1]
    exact hK
  · rw [decide_eq_false h] at hK
    have h1:(0≤r)=False:=eq_false fun q=>h (hr.1 q)
    simp only [C_slices_Contains_int,A_,simprocAttr,ne_eq,(U_slices_Contains_int _).1,h1]
    exact hK
def CloneIS (C:CallW) (f:FuncId):Prop:=∀(l:List Int) S H (K:AV→St→Prop),l≠[]→l.length≤1000000→K (.list .uniq 1 (l.map iA)) ⟨S,H⟩→C (.fn f) [lstN l] ⟨S,H⟩ K
theorem iA_low:∀l:List Int,AV.under.go 0 (l.map iA)=true
  | []=>rfl
  | x :: l=>iA_low l
theorem appI0 {e:ET} {σ:St} (h1:e.c=1) (h2:e.bytes=8) {l:List Int} (hne:l≠[]) (hl:l.length≤1000000):appendL e false (.list .full 1 []) (.list .sh 1 (l.map pI)) σ=some (.list .uniq 1 (l.map iA),σ):=by
  have he:elemsL e (.list .sh 1 (l.map pI)) σ=some (l.map pI):=by simp [elemsL,h1]
  have hlow:AV.under.go 0 (l.map pI)=true:=iA_low l
  unfold appendL
  simp only [srcL,AV.isSlice,if_true,he,Option.bind_some,AV.under,hlow,appItems,h1,h2,ne_eq,not_true_eq_false,if_false]
  rw [if_neg (by simp [hne]),if_pos (by simp),if_pos (by simp; omega)]
  rfl
theorem Clone_int_spec {C:CallW} (P:Program):∀(l:List Int) S H (K:AV→St→Prop),l≠[]→l.length≤1000000→K (.list .uniq 1 (l.map iA)) ⟨S,H⟩→runL C P C_slices_Clone_int [lstN l] ⟨S,H⟩ K:=by
  intro l S H K hne hl hK
  have ha:∀{e:ET} {σ:St},e.c=1→e.bytes=8→appendL e false (.list .full 1 []) (.list .sh 1 (l.map pI)) σ=some (.list .uniq 1 (l.map iA),σ):=fun h1 h2=>appI0 h1 h2 hne hl
  cases l with
  | nil=>exact absurd rfl hne
  | cons k l =>
    simp only [List.map_cons] at ha hK
    simp only [lstN,List.map_cons,C_slices_Clone_int,A_,simprocAttr,ne_eq,U_slices_Clone_int.1,refEq,ha]
    exact hK
def CloneIH (C:CallW) (f:FuncId):Prop:=∀(l:List Int) S H (K:AV→St→Prop),l≠[]→l.length≤1000000→K (lstN l) ⟨S,H⟩→C (.fn f) [lstN l] ⟨S,H⟩ K
def maxS (a b:Stp):Stp:=if cmpS a b < 0 then b else a
def MaxS (C:CallW) (f:FuncId):Prop:=∀(a b:Stp) S H (K:AV→St→Prop),K (.agg (stc (maxS a b))) ⟨S,H⟩→C (.fn f) [.agg (stc a),.agg (stc b)] ⟨S,H⟩ K
theorem stamp_Max_spec {C:CallW} (P:Program) {c:Nat→FuncId} (h0:CmpSS C (c 0)):∀(a b:Stp) S H (K:AV→St→Prop),K (.agg (stc (maxS a b))) ⟨S,H⟩→runL C P (C_stamp_Max c) [.agg (stc a),.agg (stc b)] ⟨S,H⟩ K:=by
  intro a b S H K hK
  unfold maxS at hK
  simp only [stc,C_stamp_Max,A_,simprocAttr,ne_eq,(U_stamp_Max _).1]
  refine h0 a b _ _ _ ?_
  by_cases h:cmpS a b < 0
  · rw [if_pos h] at hK
    simp only [C_stamp_Max,A_,simprocAttr,ne_eq,(U_stamp_Max _).1,h]
    exact hK
  · rw [if_neg h] at hK
    simp only [C_stamp_Max,A_,simprocAttr,ne_eq,(U_stamp_Max _).1,h]
    exact hK
theorem ref6_Max_spec {C:CallW} (P:Program) {c:Nat→FuncId} (h0:CmpSS C (c 0)):∀(a b:Stp) S H (K:AV→St→Prop),K (.agg (stc (maxS a b))) ⟨S,H⟩→runL C P (C_hourglassref6_Max c) [.agg (stc a),.agg (stc b)] ⟨S,H⟩ K:=by
  intro a b S H K hK
  unfold maxS at hK
  simp only [stc,C_hourglassref6_Max,A_,simprocAttr,ne_eq,(U_hourglassref6_Max _).1]
  refine h0 a b _ _ _ ?_
  by_cases h:cmpS a b < 0
  · rw [if_pos h] at hK
    have h1:(0≤cmpS a b)=False:=eq_false (by omega)
    simp only [C_hourglassref6_Max,A_,simprocAttr,ne_eq,(U_hourglassref6_Max _).1,h1]
    exact hK
  · rw [if_neg h] at hK
    have h1:(0≤cmpS a b)=True:=eq_true (by omega)
    simp only [C_hourglassref6_Max,A_,simprocAttr,ne_eq,(U_hourglassref6_Max _).1,h1]
    exact hK
end Go.AM
namespace Go.AM
open Go
set_option maxRecDepth 20000
structure Dx where
  snap:Stp
  parts:List Int
  votes:List Int
  known:Bool
  yes:Bool
  st:Stp
  acked:List Int
def dxc (x:Dx) (hv ha:Nat):List AV:=[.s (.int .i64 x.snap.t),u8 x.snap.n,.list .sh 1 (x.parts.map pI),.map hv,.bool x.known,.bool x.yes,.s (.int .i64 x.st.t),u8 x.st.n,.map ha]
def ptB (p:Int×Nat):AV := .ptr (.heap p.2) 0
def tB (_:Int):AV := .bool true
structure DxOk (x:Dx):Prop where
  ne:x.parts≠[]
  len:x.parts.length≤1000000
  vn:x.votes.Nodup
  an:x.acked.Nodup
structure CoE (H:List HObj) (h hm:Nat):Prop where
  at0:H[h]? = some (.cells [.map hm])
  atm:H[hm]? = some (.map [] 0)
  ne:h≠hm
structure CoX (H:List HObj) (h hm:Nat) (id:Int) (b hv ha:Nat) (x:Dx):Prop where
  at0:H[h]? = some (.cells [.map hm])
  atm:∃es c,H[hm]? = some (.map es c)∧MapG iA Prod.fst ptB es c [(id,b)]
  atb:H[b]? = some (.cells (dxc x hv ha))
  atv:∃es c,H[hv]? = some (.map es c)∧MapG iA (fun i=>i) tB es c x.votes
  ata:∃es c,H[ha]? = some (.map es c)∧MapG iA (fun i=>i) tB es c x.acked
  ok:DxOk x
  n1:b≠h
  n2:b≠hm
  n3:hv≠h
  n4:hv≠hm
  n5:hv≠b
  n6:ha≠h
  n7:ha≠hm
  n8:ha≠b
  n9:ha≠hv
def Keep (H H':List HObj) (l:List Nat):Prop:=H.length≤H'.length∧∀i,i < H.length→i∉l→H'[i]? = H[i]?
theorem Keep.refl {H:List HObj} {l:List Nat}:Keep H H l:=⟨Nat.le_refl _,fun _ _ _=>rfl⟩
theorem Keep.trans {H H' H'':List HObj} {l:List Nat} (a:Keep H H' l) (b:Keep H' H'' l):Keep H H'' l :=
  ⟨Nat.le_trans a.1 b.1,fun i hi e=>(b.2 i (Nat.lt_of_lt_of_le hi a.1) e).trans (a.2 i hi e)⟩
theorem Keep.app {H G:List HObj} {l:List Nat}:Keep H (H ++ G) l:=⟨by simp,fun i hi _=>List.getElem?_append_left hi⟩
theorem Keep.set {H:List HObj} {j:Nat} {o:HObj} {l:List Nat} (hj:j∈l):Keep H (H.set j o) l:=⟨by simp,fun i _ e=>List.getElem?_set_ne fun q:j=i=>e (q▸hj)⟩
theorem Keep.fresh {H G:List HObj} {j:Nat} {o:HObj} {l:List Nat} (hj:H.length≤j):Keep H ((H ++ G).set j o) l:=⟨by simp,fun i hi e=>by rw [List.getElem?_set_ne (by omega),List.getElem?_append_left hi]⟩
theorem Keep.get {H H':List HObj} {l:List Nat} {q:Nat} {o:HObj} (x:Keep H H' l) (e:H[q]? = some o) (h:q∉l):H'[q]? = some o:=by
  rw [x.2 q (hlt e) h]; exact e
theorem Keep.mono {H H':List HObj} {l m:List Nat} (x:Keep H H' l) (h:∀i∈l,i∈m∨H.length≤i):Keep H H' m:=⟨x.1,fun i hi e=>x.2 i hi fun q=>by rcases h i q with h | h; exact e h; omega⟩
theorem CoX.keep {H H':List HObj} {h hm b hv ha:Nat} {id:Int} {x:Dx} {l:List Nat} (t:CoX H h hm id b hv ha x) (k:Keep H H' l) (e:∀i∈[h,hm,b,hv,ha],i∉l):CoX H' h hm id b hv ha x:=by
  obtain ⟨a0,⟨e1,c1,a1,g1⟩,a2,⟨e3,c3,a3,g3⟩,⟨e4,c4,a4,g4⟩,ok,n1,n2,n3,n4,n5,n6,n7,n8,n9⟩:=t
  exact ⟨k.get a0 (e _ (by simp)),⟨e1,c1,k.get a1 (e _ (by simp)),g1⟩,k.get a2 (e _ (by simp)),⟨e3,c3,k.get a3 (e _ (by simp)),g3⟩,⟨e4,c4,k.get a4 (e _ (by simp)),g4⟩,ok,n1,n2,n3,n4,n5,n6,n7,n8,n9⟩
theorem CoX.app {H G:List HObj} {h hm b hv ha:Nat} {id:Int} {x:Dx} (t:CoX H h hm id b hv ha x):CoX (H ++ G) h hm id b hv ha x:=t.keep (l:=[]) .app fun _ _ h=>by cases h
theorem CoX.setb {H:List HObj} {h hm b hv ha:Nat} {id:Int} {x y:Dx} (t:CoX H h hm id b hv ha x) (ok:DxOk y) (e1:y.votes=x.votes) (e2:y.acked=x.acked):CoX (H.set b (.cells (dxc y hv ha))) h hm id b hv ha y:=by
  obtain ⟨a0,⟨e1',c1,a1,g1⟩,a2,⟨e3,c3,a3,g3⟩,⟨e4,c4,a4,g4⟩,_,n1,n2,n3,n4,n5,n6,n7,n8,n9⟩:=t
  rw [←e1] at g3
  rw [←e2] at g4
  exact ⟨hset n1 a0,⟨e1',c1,hset n2 a1,g1⟩,hself a2,⟨e3,c3,hset n5.symm a3,g3⟩,⟨e4,c4,hset n8.symm a4,g4⟩,ok,n1,n2,n3,n4,n5,n6,n7,n8,n9⟩
theorem CoX.setv {H:List HObj} {h hm b hv ha c:Nat} {es:List Entry} {id:Int} {x:Dx} {vs:List Int} (t:CoX H h hm id b hv ha x) (g:MapG iA (fun i=>i) tB es c vs) (hn:vs.Nodup):CoX (H.set hv (.map es c)) h hm id b hv ha { x with votes:=vs }:=by
  obtain ⟨a0,⟨e1',c1,a1,g1⟩,a2,⟨e3,c3,a3,g3⟩,⟨e4,c4,a4,g4⟩,ok,n1,n2,n3,n4,n5,n6,n7,n8,n9⟩:=t
  exact ⟨hset n3 a0,⟨e1',c1,hset n4 a1,g1⟩,hset n5 a2,⟨es,c,hself a3,g⟩,⟨e4,c4,hset n9.symm a4,g4⟩,⟨ok.ne,ok.len,hn,ok.an⟩,n1,n2,n3,n4,n5,n6,n7,n8,n9⟩
theorem CoX.seta {H:List HObj} {h hm b hv ha c:Nat} {es:List Entry} {id:Int} {x:Dx} {vs:List Int} (t:CoX H h hm id b hv ha x) (g:MapG iA (fun i=>i) tB es c vs) (hn:vs.Nodup):CoX (H.set ha (.map es c)) h hm id b hv ha { x with acked:=vs }:=by
  obtain ⟨a0,⟨e1',c1,a1,g1⟩,a2,⟨e3,c3,a3,g3⟩,⟨e4,c4,a4,g4⟩,ok,n1,n2,n3,n4,n5,n6,n7,n8,n9⟩:=t
  exact ⟨hset n6 a0,⟨e1',c1,hset n7 a1,g1⟩,hset n8 a2,⟨e3,c3,hset n9 a3,g3⟩,⟨es,c,hself a4,g⟩,⟨ok.ne,ok.len,ok.vn,hn⟩,n1,n2,n3,n4,n5,n6,n7,n8,n9⟩
theorem CoX.look {S:List (List AV)} {H:List HObj} {h hm b hv ha:Nat} {id:Int} {x:Dx} (t:CoX H h hm id b hv ha x) (i:Int):lookupL (.one (.int .i64)) (.s .nilP) false (.map hm) (.s (.int .i64 i)) ⟨S,H⟩=some (if id=i then .ptr (.heap b) 0 else .s .nilP):=by
  obtain ⟨es,c,a,g⟩:=t.atm
  have:=map_look keyK_int (S:=S) (k:=i) (z := .s .nilP) (ok:=false) a g.rel
  rw [show iA i=AV.s (.int .i64 i) from rfl] at this
  rw [this]
  unfold getB
  rw [List.find?_cons]
  by_cases e:id=i
  · rw [if_pos e]; simp [e,lookR,ptB]
  · rw [if_neg e]; simp [e,lookR]
theorem CoE.look {S:List (List AV)} {H:List HObj} {h hm:Nat} (t:CoE H h hm) (i:Int):lookupL (.one (.int .i64)) (.s .nilP) false (.map hm) (.s (.int .i64 i)) ⟨S,H⟩=some (.s .nilP):=by
  have:=map_look keyK_int (S:=S) (k:=i) (z := .s .nilP) (ok:=false) (l:=([]:List (Int×Nat))) (kp:=Prod.fst) (vf:=ptB) t.atm rfl
  rw [show iA i=AV.s (.int .i64 i) from rfl] at this
  rw [this]; rfl
theorem look_b {S:List (List AV)} {H:List HObj} {hv:Nat} {vs:List Int} (a:∃es c,H[hv]? = some (.map es c)∧MapG iA (fun i=>i) tB es c vs) (v:Int):lookupL (.one (.int .i64)) (.s (.bool false)) false (.map hv) (.s (.int .i64 v)) ⟨S,H⟩=some (.bool (decide (v∈vs))):=by
  obtain ⟨es,c,a,g⟩:=a
  have:=map_look keyK_int (S:=S) (k:=v) (z := .s (.bool false)) (ok:=false) a g.rel
  rw [show iA v=AV.s (.int .i64 v) from rfl] at this
  rw [this]
  cases hg:getB (fun i=>i) vs v with
  | none =>
    have:=getB_none hg
    rw [decide_eq_false fun q=>this v q rfl]; rfl
  | some y =>
    obtain ⟨q1,q2⟩:=getB_mem hg
    have q2:y=v:=q2
    subst q2
    rw [decide_eq_true q1]; rfl
theorem len_b {S:List (List AV)} {H:List HObj} {hv:Nat} {vs:List Int} (a:∃es c,H[hv]? = some (.map es c)∧MapG iA (fun i=>i) tB es c vs):lenL .map (.map hv) ⟨S,H⟩=some vs.length:=by
  obtain ⟨es,c,a,g⟩:=a
  have hlen:es.length=vs.length:=by have:=congrArg List.length g.rel; simpa [RelM] using this
  simp [lenL,mapOf,a,hlen]
theorem st1h {S:List (List AV)} {H:List HObj} {b off:Nat} {cs:List AV} {v:AV} (hb:H[b]? = some (.cells cs)) (h1:off < cs.length) (h2:v.cells=[v]) (h3:v.fit=true) (h4:AV.under 0 v=true):storeL 1 (.ptr (.heap b) off) v ⟨S,H⟩=some ⟨S,H.set b (.cells (cs.set off v))⟩:=by
  have hbo:boxOf ⟨S,H⟩ (.heap b)=some cs:=by simp [boxOf,hb]
  simp [storeL,h2,h3,writeCells,hbo,mayHold,AV.under.go,h4,splice,setBox]
  omega
theorem st2h {S:List (List AV)} {H:List HObj} {b off:Nat} {cs:List AV} {v w:AV} (hb:H[b]? = some (.cells cs)) (h1:off + 2≤cs.length) (h4:AV.under 0 v=true) (h5:AV.under 0 w=true):storeL 2 (.ptr (.heap b) off) (.agg [v,w]) ⟨S,H⟩=some ⟨S,H.set b (.cells (cs.take off ++ [v,w] ++ cs.drop (off + 2)))⟩:=by
  have hbo:boxOf ⟨S,H⟩ (.heap b)=some cs:=by simp [boxOf,hb]
  simp [storeL,AV.cells,AV.fit,writeCells,hbo,mayHold,AV.under.go,h4,h5,splice,setBox]
  omega
end Go.AM
namespace Go.AM
open Go
set_option maxRecDepth 20000
theorem re0:refEq 0 (.s .nilP) (.s .nilP)=some true:=rfl
theorem re1 {n:Nat}:refEq 0 (.ptr (.heap n) 0) (.s .nilP)=some false:=rfl
def NewCS (C:CallW) (f:FuncId):Prop:=∀S H (K:AV→St→Prop),K (.ptr (.heap (H.length + 1)) 0) ⟨S,H ++ [.map [] 0,.cells [.map H.length]]⟩→C (.fn f) [] ⟨S,H⟩ K
theorem newC {H:List HObj}:CoE (H ++ [.map [] 0,.cells [.map H.length]]) (H.length + 1) H.length:=⟨by simp,by simp,by omega⟩
theorem coord_New_spec {C:CallW} (P:Program):∀S H (K:AV→St→Prop),K (.ptr (.heap (H.length + 1)) 0) ⟨S,H ++ [.map [] 0,.cells [.map H.length]]⟩→runL C P C_coord_New [] ⟨S,H⟩ K:=by
  intro S H K hK
  simp only [C_coord_New,A_,simprocAttr,ne_eq,U_coord_New.1]
  exact hK
def dx0 (x:Dx):List AV:=[.s (.int .i64 x.snap.t),u8 x.snap.n,.list .sh 1 (x.parts.map pI),.s .nilM,.bool x.known,.bool x.yes,.s (.int .i64 x.st.t),u8 x.st.n,.s .nilM]
def AddCS (C:CallW) (f:FuncId):Prop:=∀(h hm b:Nat) (id:Int) (x:Dx) S H (K:AV→St→Prop),CoE H h hm→H[b]? = some (.cells (dx0 x))→b≠h→b≠hm→DxOk x→x.votes=[]→x.acked=[]→(∀H',Keep H H' [b,hm]→CoX H' h hm id b H.length (H.length + 1) x→K (.tup []) ⟨S,H'⟩)→C (.fn f) [.ptr (.heap h) 0,.s (.int .i64 id),.ptr (.heap b) 0] ⟨S,H⟩ K
set_option maxHeartbeats 4000000 in
theorem coord_add_spec {C:CallW} (P:Program):∀(h hm b:Nat) (id:Int) (x:Dx) S H (K:AV→St→Prop),CoE H h hm→H[b]? = some (.cells (dx0 x))→b≠h→b≠hm→DxOk x→x.votes=[]→x.acked=[]→(∀H',Keep H H' [b,hm]→CoX H' h hm id b H.length (H.length + 1) x→K (.tup []) ⟨S,H'⟩)→runL C P C_coord_Coord_add [.ptr (.heap h) 0,.s (.int .i64 id),.ptr (.heap b) 0] ⟨S,H⟩ K:=by
  intro h hm b id x S H K t hb nb nbm ok hv0 ha0 hK
  have a0:=t.at0
  have am:=t.atm
  have l0:=hlt a0
  have lm:=hlt am
  have lb:=hlt hb
  obtain ⟨H1,hH1⟩:∃H1,H1=H ++ [HObj.map [] 0,.map [] 0]:=⟨_,rfl⟩
  have b1:H1[b]? = some (.cells (dx0 x)):=by rw [hH1]; exact happ hb
  have s1:=fun S'=>st1h (S:=S') (off:=3) (v := .map H.length) b1 (by simp [dx0]) rfl rfl rfl
  have b2:=hself b1 (o' := .cells ((dx0 x).set 3 (.map H.length)))
  have s2:=fun S'=>st1h (S:=S') (off:=8) (v := .map (H.length + 1)) b2 (by simp [dx0]) rfl rfl rfl
  have hc:((dx0 x).set 3 (.map H.length)).set 8 (.map (H.length + 1))=dxc x H.length (H.length + 1):=rfl
  rw [hc,List.set_set] at s2
  obtain ⟨H2,hH2⟩:∃H2,H2=H1.set b (.cells (dxc x H.length (H.length + 1))):=⟨_,rfl⟩
  rw [←hH2] at s2
  have c0:H2[h]? = some (.cells [.map hm]):=by rw [hH2,hH1]; exact hset nb (happ a0)
  have cm:H2[hm]? = some (.map [] 0):=by rw [hH2,hH1]; exact hset nbm (happ am)
  have u:∀S',updateL (.one (.int .i64)) (.map hm) (.s (.int .i64 id)) (.ptr (.heap b) 0) ⟨S',H2⟩=some ⟨S',H2.set hm (.map [⟨iA id,.ptr (.heap b) 0,0⟩] 1)⟩:=fun S'=>map_new keyK_int (k:=id) (v := .ptr (.heap b) 0) (l:=([]:List (Int×Nat))) (kp:=Prod.fst) (vf:=ptB) cm rfl (fun x hx=>by cases hx) rfl
  simp only [←hH1,C_coord_Coord_add,A_,simprocAttr,ne_eq,U_coord_Coord_add.1,s1,s2,c0,u]
  refine hK _ ?_ ⟨?_,?_,?_,?_,?_,ok,nb,nbm,by omega,by omega,by omega,by omega,by omega,by omega,by omega⟩
  · rw [hH2,hH1]
    exact (Keep.app.trans (Keep.set (by simp))).trans (Keep.set (by simp))
  · exact hset t.ne.symm c0
  · exact ⟨_,_,hself cm,MapG.new (x:=(id,b)) (es:=[]) (l:=[]) ⟨rfl,.nil,fun e h=>by cases h⟩⟩
  · refine hset nbm.symm ?_
    rw [hH2]; exact hself b1
  · refine ⟨[],0,hset (by omega) ?_,?_⟩
    · rw [hH2,List.getElem?_set_ne (by omega),hH1]; simp
    · rw [hv0]; exact ⟨rfl,.nil,fun e h=>by cases h⟩
  · refine ⟨[],0,hset (by omega) ?_,?_⟩
    · rw [hH2,List.getElem?_set_ne (by omega),hH1]; simp
    · rw [ha0]; exact ⟨rfl,.nil,fun e h=>by cases h⟩
def badB (id:Int) (s:Stp) (l:List Int):Bool:=decide (id < 1) || !goodS s || !goodParts l
def BegS (C:CallW) (f:FuncId):Prop:=∀(h hm:Nat) (id:Int) (s:Stp) (l:List Int) S H (K:AV→St→Prop),CoE H h hm→l.length≤1000000→(badB id s l=true→K (.i 1) ⟨S,H⟩)→(badB id s l=false→∀H' b hv ha,Keep H H' [hm]→H.length≤b→H.length≤hv→H.length≤ha→CoX H' h hm id b hv ha ⟨s,l,[],false,false,⟨0,0⟩,[]⟩→K (.i 0) ⟨S,H'⟩)→C (.fn f) [.ptr (.heap h) 0,.s (.int .i64 id),.agg (stc s),lstN l] ⟨S,H⟩ K
theorem goodParts_ne {l:List Int} (h:goodParts l=true):l≠[]:=by
  intro e
  subst e
  revert h; decide
set_option maxHeartbeats 8000000 in
theorem coord_Begin_spec {C:CallW} (P:Program) {c:Nat→FuncId} (h0:∀s:Stp,FnS C (c 0) [.agg (stc s)] (.bool (goodS s))) (h1:PartsS C (c 1)) (h2:CloneIH C (c 2)) (h3:AddCS C (c 3)):∀(h hm:Nat) (id:Int) (s:Stp) (l:List Int) S H (K:AV→St→Prop),CoE H h hm→l.length≤1000000→(badB id s l=true→K (.i 1) ⟨S,H⟩)→(badB id s l=false→∀H' b hv ha,Keep H H' [hm]→H.length≤b→H.length≤hv→H.length≤ha→CoX H' h hm id b hv ha ⟨s,l,[],false,false,⟨0,0⟩,[]⟩→K (.i 0) ⟨S,H'⟩)→runL C P (C_coord_Coord_Begin c) [.ptr (.heap h) 0,.s (.int .i64 id),.agg (stc s),lstN l] ⟨S,H⟩ K:=by
  intro h hm id s l S H K t hl hbad hok
  unfold badB at hbad hok
  by_cases hid:id < 1
  · rw [decide_eq_true hid] at hbad
    simp only [stc,lstN,C_coord_Coord_Begin,A_,simprocAttr,ne_eq,(U_coord_Coord_Begin _).1,hid]
    exact hbad rfl
  rw [decide_eq_false hid] at hbad hok
  simp only [stc,lstN,C_coord_Coord_Begin,A_,simprocAttr,ne_eq,(U_coord_Coord_Begin _).1,hid]
  refine h0 s _ _ _ ?_
  cases hg:goodS s with
  | false =>
    rw [hg] at hbad
    simp only [stc,lstN,C_coord_Coord_Begin,A_,simprocAttr,ne_eq,(U_coord_Coord_Begin _).1,hid]
    exact hbad rfl
  | true =>
  rw [hg] at hbad hok
  simp only [stc,lstN,C_coord_Coord_Begin,A_,simprocAttr,ne_eq,(U_coord_Coord_Begin _).1,hid]
  refine h1 l _ _ _ (by omega) ?_
  cases hp:goodParts l with
  | false =>
    rw [hp] at hbad
    simp only [stc,lstN,C_coord_Coord_Begin,A_,simprocAttr,ne_eq,(U_coord_Coord_Begin _).1,hid]
    exact hbad rfl
  | true =>
  rw [hp] at hok
  have hok:=hok rfl
  clear hbad
  have a0:=t.at0
  have hne:=goodParts_ne hp
  have hlk:=fun S'=>t.look (S:=S') id
  simp only [stc,lstN,C_coord_Coord_Begin,A_,simprocAttr,ne_eq,(U_coord_Coord_Begin _).1,CHK_,Nat.reduceBEq,re0,re1,hid,a0,hlk]
  refine h2 l _ _ _ hne hl ?_
  simp only [stc,lstN,C_coord_Coord_Begin,A_,simprocAttr,ne_eq,(U_coord_Coord_Begin _).1,CHK_,Nat.reduceBEq,re0,re1,hid,a0,hlk]
  have hb:(H ++ [HObj.cells (dx0 ⟨s,l,[],false,false,⟨0,0⟩,[]⟩)])[H.length]? = some (.cells (dx0 ⟨s,l,[],false,false,⟨0,0⟩,[]⟩)):=by simp
  have l0:=hlt a0
  have lm:=hlt t.atm
  refine h3 h hm H.length id ⟨s,l,[],false,false,⟨0,0⟩,[]⟩ _ _ _ ⟨happ a0,happ t.atm,t.ne⟩ hb (by omega) (by omega) ⟨hne,hl,.nil,.nil⟩ rfl rfl fun H' k t' => ?_
  simp only [stc,lstN,C_coord_Coord_Begin,A_,simprocAttr,ne_eq,(U_coord_Coord_Begin _).1,CHK_,Nat.reduceBEq,re0,re1,hid,a0,hlk]
  refine hok H' _ _ _ ?_ (Nat.le_refl _) ?_ ?_ t'
  · exact ⟨Nat.le_trans (by simp) k.1,fun i hi e=>by
      rw [k.2 i (by simp; omega) (by simp only [List.mem_cons,List.not_mem_nil,or_false,not_or] at e ⊢; exact ⟨by omega,e⟩)]
      exact List.getElem?_append_left hi⟩
  · simp
  · simp; omega
def BegXS (C:CallW) (f:FuncId):Prop:=∀(h hm b hv ha:Nat) (id:Int) (x:Dx) (s:Stp) (l:List Int) S H (K:AV→St→Prop),CoX H h hm id b hv ha x→l.length≤1000000→badB id s l=false→K (.i 5) ⟨S,H⟩→C (.fn f) [.ptr (.heap h) 0,.s (.int .i64 id),.agg (stc s),lstN l] ⟨S,H⟩ K
theorem coord_BeginX_spec {C:CallW} (P:Program) {c:Nat→FuncId} (h0:∀s:Stp,FnS C (c 0) [.agg (stc s)] (.bool (goodS s))) (h1:PartsS C (c 1)):∀(h hm b hv ha:Nat) (id:Int) (x:Dx) (s:Stp) (l:List Int) S H (K:AV→St→Prop),CoX H h hm id b hv ha x→l.length≤1000000→badB id s l=false→K (.i 5) ⟨S,H⟩→runL C P (C_coord_Coord_Begin c) [.ptr (.heap h) 0,.s (.int .i64 id),.agg (stc s),lstN l] ⟨S,H⟩ K:=by
  intro h hm b hv ha id x s l S H K t hl hgood hK
  unfold badB at hgood
  simp only [Bool.or_eq_false_iff,decide_eq_false_iff_not,Bool.not_eq_false'] at hgood
  obtain ⟨⟨hid,hg⟩,hp⟩:=hgood
  have a0:=t.at0
  have hlk:=fun S'=>t.look (S:=S') id
  simp only [if_true] at hlk
  simp only [stc,lstN,C_coord_Coord_Begin,A_,simprocAttr,ne_eq,(U_coord_Coord_Begin _).1,hid]
  refine h0 s _ _ _ ?_
  rw [hg]
  simp only [stc,lstN,C_coord_Coord_Begin,A_,simprocAttr,ne_eq,(U_coord_Coord_Begin _).1,hid]
  refine h1 l _ _ _ (by omega) ?_
  rw [hp]
  simp only [stc,lstN,C_coord_Coord_Begin,A_,simprocAttr,ne_eq,(U_coord_Coord_Begin _).1,CHK_,Nat.reduceBEq,re0,re1,hid,a0,hlk]
  exact hK
end Go.AM
namespace Go.AM
open Go
set_option maxRecDepth 20000
theorem rd2h {S:List (List AV)} {H:List HObj} {b:Nat} {cs:List AV} (hb:H[b]? = some (.cells cs)) {off:Nat} {s:Stp} (h:(cs.drop off).take 2=[.s (.int .i64 s.t),u8 s.n]):readA ⟨S,H⟩ (.ptr (.heap b) off) 2=some (.agg [.s (.int .i64 s.t),u8 s.n]):=by
  have hbo:boxOf ⟨S,H⟩ (.heap b)=some cs:=by simp [boxOf,hb]
  have hl:off + 2≤cs.length:=by have:=congrArg List.length h; simp at this; omega
  simp [readA,readCells,hbo,hl]
  rw [←List.map_drop,←List.map_take,h]; rfl
def OfXS (C:CallW) (f:FuncId):Prop:=∀(h hm b hv ha:Nat) (id:Int) (x:Dx) (part:Int) S H (K:AV→St→Prop),CoX H h hm id b hv ha x→(part∈x.parts→K (.ptr (.heap b) 0) ⟨S,H⟩)→(part∉x.parts→K (.s .nilP) ⟨S,H⟩)→C (.fn f) [.ptr (.heap h) 0,.s (.int .i64 id),.s (.int .i64 part)] ⟨S,H⟩ K
theorem coord_of_spec {C:CallW} (P:Program) {c:Nat→FuncId} (h0:ContIS C (c 0)):∀(h hm b hv ha:Nat) (id:Int) (x:Dx) (part:Int) S H (K:AV→St→Prop),CoX H h hm id b hv ha x→(part∈x.parts→K (.ptr (.heap b) 0) ⟨S,H⟩)→(part∉x.parts→K (.s .nilP) ⟨S,H⟩)→runL C P (C_coord_Coord_of c) [.ptr (.heap h) 0,.s (.int .i64 id),.s (.int .i64 part)] ⟨S,H⟩ K:=by
  intro h hm b hv ha id x part S H K t hy hn
  have a0:=t.at0
  have ab:=t.atb
  simp only [dxc] at ab
  have hlk:=fun S'=>t.look (S:=S') id
  simp only [if_true] at hlk
  simp only [C_coord_Coord_of,A_,simprocAttr,ne_eq,(U_coord_Coord_of _).1,CHK_,Nat.reduceBEq,re0,re1,a0,hlk,ab]
  refine h0 x.parts part _ _ _ t.ok.len ?_
  by_cases hp:part∈x.parts
  · rw [decide_eq_true hp]
    simp only [C_coord_Coord_of,A_,simprocAttr,ne_eq,(U_coord_Coord_of _).1,CHK_,Nat.reduceBEq,re0,re1,a0,hlk,ab]
    exact hy hp
  · rw [decide_eq_false hp]
    simp only [C_coord_Coord_of,A_,simprocAttr,ne_eq,(U_coord_Coord_of _).1,CHK_,Nat.reduceBEq,re0,re1,a0,hlk,ab]
    exact hn hp
def voteD (x:Dx) (part:Int) (y:Bool) (a:Stp):Int×Dx :=
  if part∉x.parts then (4,x) else if y=true∧(goodS a=false∨cmpS a x.snap≤0) then (1,x) else if x.known=true∨part∈x.votes then (0,x)
  else if y=false then (0,{ x with votes:=x.votes ++ [part],known:=true,st:=⟨0,0⟩ })
  else if x.votes.length + 1=x.parts.length then (0,{ x with votes:=x.votes ++ [part],known:=true,yes:=true,st:=maxS x.st a })
  else (0,{ x with votes:=x.votes ++ [part],st:=maxS x.st a })
theorem voteD_none {x:Dx} {part:Int} {y:Bool} {a:Stp} (h:part∉x.parts):voteD x part y a=(4,x):=if_pos h
theorem voteD_bad {x:Dx} {part:Int} {y:Bool} {a:Stp} (h:part∈x.parts) (hb:y=true∧(goodS a=false∨cmpS a x.snap≤0)):voteD x part y a=(1,x):=by
  unfold voteD; rw [if_neg (fun q=>q h),if_pos hb]
theorem voteD_old {x:Dx} {part:Int} {y:Bool} {a:Stp} (h:part∈x.parts) (hb:¬(y=true∧(goodS a=false∨cmpS a x.snap≤0))) (ho:x.known=true∨part∈x.votes):voteD x part y a=(0,x):=by
  unfold voteD; rw [if_neg (fun q=>q h),if_neg hb,if_pos ho]
theorem voteD_no {x:Dx} {part:Int} {a:Stp} (h:part∈x.parts) (ho:¬(x.known=true∨part∈x.votes)):voteD x part false a=(0,{ x with votes:=x.votes ++ [part],known:=true,st:=⟨0,0⟩ }):=by
  unfold voteD; rw [if_neg (fun q=>q h),if_neg (by simp),if_neg ho,if_pos rfl]
theorem voteD_all {x:Dx} {part:Int} {a:Stp} (h:part∈x.parts) (hb:¬(goodS a=false∨cmpS a x.snap≤0)) (ho:¬(x.known=true∨part∈x.votes)) (hl:x.votes.length + 1=x.parts.length):voteD x part true a=(0,{ x with votes:=x.votes ++ [part],known:=true,yes:=true,st:=maxS x.st a }):=by
  unfold voteD; rw [if_neg (fun q=>q h),if_neg (fun q=>hb q.2),if_neg ho,if_neg (by simp),if_pos hl]
theorem voteD_yes {x:Dx} {part:Int} {a:Stp} (h:part∈x.parts) (hb:¬(goodS a=false∨cmpS a x.snap≤0)) (ho:¬(x.known=true∨part∈x.votes)) (hl:¬x.votes.length + 1=x.parts.length):voteD x part true a=(0,{ x with votes:=x.votes ++ [part],st:=maxS x.st a }):=by
  unfold voteD; rw [if_neg (fun q=>q h),if_neg (fun q=>hb q.2),if_neg ho,if_neg (by simp),if_neg hl]
def VoteS (C:CallW) (f:FuncId):Prop:=∀(h hm b hv ha:Nat) (id:Int) (x:Dx) (part:Int) (y:Bool) (a:Stp) S H (K:AV→St→Prop),CoX H h hm id b hv ha x→(∀H',Keep H H' [b,hv,ha]→CoX H' h hm id b hv ha (voteD x part y a).2→K (.s (.int .i64 (voteD x part y a).1)) ⟨S,H'⟩)→C (.fn f) [.ptr (.heap h) 0,.s (.int .i64 id),.s (.int .i64 part),.s (.bool y),.agg (stc a)] ⟨S,H⟩ K
set_option maxHeartbeats 8000000 in
theorem coord_Vote_spec {C:CallW} (P:Program) {c:Nat→FuncId} (h0:OfXS C (c 0)) (h1:∀s:Stp,FnS C (c 1) [.agg (stc s)] (.bool (goodS s))) (h2:CmpSS C (c 2)) (h3:MaxS C (c 3)):∀(h hm b hv ha:Nat) (id:Int) (x:Dx) (part:Int) (y:Bool) (a:Stp) S H (K:AV→St→Prop),CoX H h hm id b hv ha x→(∀H',Keep H H' [b,hv,ha]→CoX H' h hm id b hv ha (voteD x part y a).2→K (.s (.int .i64 (voteD x part y a).1)) ⟨S,H'⟩)→runL C P (C_coord_Coord_Vote c) [.ptr (.heap h) 0,.s (.int .i64 id),.s (.int .i64 part),.s (.bool y),.agg (stc a)] ⟨S,H⟩ K:=by
  intro h hm b hv ha id x part y a S H K t hK
  have ab:=t.atb
  have atv:=t.atv
  simp only [dxc] at ab
  have lkv:=fun S'=>look_b (S:=S') atv part
  simp only [stc,C_coord_Coord_Vote,A_,simprocAttr,ne_eq,(U_coord_Coord_Vote _).1]
  refine h0 h hm b hv ha id x part _ _ _ t (fun hp => ?_) (fun hp => ?_)
  case refine_2 =>
    rw [voteD_none hp] at hK
    simp only [C_coord_Coord_Vote,A_,simprocAttr,ne_eq,(U_coord_Coord_Vote _).1,re0,re1]
    exact hK H .refl t
  have fresh:¬(x.known=true∨part∈x.votes)→∃es c,(∀S',updateL (.one (.int .i64)) (.map hv) (.s (.int .i64 part)) (.s (.bool true)) ⟨S',H⟩=some ⟨S',H.set hv (.map es c)⟩)∧CoX (H.set hv (.map es c)) h hm id b hv ha { x with votes:=x.votes ++ [part] }:=by
    intro hf
    obtain ⟨es,c,a1,g⟩:=atv
    have hnew:∀y∈x.votes,y≠part:=fun y hy e=>hf (.inr (e▸hy))
    refine ⟨_,_,fun S'=>map_new keyK_int (k:=part) (v := .s (.bool true)) a1 g.rel hnew rfl,?_⟩
    refine t.setv (g.new (x:=part)) ?_
    rw [List.nodup_append]
    exact ⟨t.ok.vn,by simp,fun p hp q hq=>by rw [List.mem_singleton.1 hq]; exact hnew p hp⟩
  cases y with
  | false =>
    simp only [stc,C_coord_Coord_Vote,A_,simprocAttr,ne_eq,(U_coord_Coord_Vote _).1,re0,re1,ab,lkv]
    by_cases hkn:x.known=true
    · rw [voteD_old hp (by simp) (.inl hkn)] at hK
      simp only [stc,C_coord_Coord_Vote,A_,simprocAttr,ne_eq,(U_coord_Coord_Vote _).1,re0,re1,ab,lkv,hkn]
      exact hK H .refl t
    have hkn':x.known=false:=by simpa using hkn
    by_cases hv':part∈x.votes
    · rw [voteD_old hp (by simp) (.inr hv')] at hK
      simp only [stc,C_coord_Coord_Vote,A_,simprocAttr,ne_eq,(U_coord_Coord_Vote _).1,re0,re1,ab,lkv,hkn',decide_eq_true hv']
      exact hK H .refl t
    have hf:¬(x.known=true∨part∈x.votes):=fun q=>q.elim hkn hv'
    rw [voteD_no hp hf] at hK
    obtain ⟨es,c',u,t1⟩:=fresh hf
    have ab1:=t1.atb
    simp only [dxc] at ab1
    generalize hH1:H.set hv (.map es c')=H1 at u t1 ab1
    have s1:=fun S'=>st1h (S:=S') (off:=4) (v := .s (.bool true)) ab1 (by simp) rfl rfl rfl
    have b2:=hself ab1 (o' := .cells [.s (.int .i64 x.snap.t),u8 x.snap.n,.list .sh 1 (x.parts.map pI),.map hv,.s (.bool true),.bool x.yes,.s (.int .i64 x.st.t),u8 x.st.n,.map ha])
    have s2:=fun S'=>st2h (S:=S') (off:=6) (v := .s (.int .i64 0)) (w := .s (.int .u8 0)) b2 (by simp) rfl rfl
    rw [List.set_set] at s2
    simp only [stc,C_coord_Coord_Vote,A_,simprocAttr,ne_eq,(U_coord_Coord_Vote _).1,re0,re1,ab,lkv,hkn',decide_eq_false hv',u,ab1,s1,s2]
    refine hK _ ?_ (t1.setb (y:={ x with votes:=x.votes ++ [part],known:=true,st:=⟨0,0⟩ }) ⟨t.ok.ne,t.ok.len,t1.ok.vn,t.ok.an⟩ rfl rfl)
    rw [←hH1]
    exact (Keep.set (by simp)).trans (Keep.set (by simp))
  | true =>
    have rs:=fun S'=>rd2h (S:=S') (off:=0) (s:=x.snap) ab rfl
    simp only [stc,C_coord_Coord_Vote,A_,simprocAttr,ne_eq,(U_coord_Coord_Vote _).1,CHK_,Nat.reduceBEq,re0,re1,ab,rs]
    refine h1 a _ _ _ ?_
    cases hg:goodS a with
    | false =>
      rw [voteD_bad hp ⟨rfl,.inl hg⟩] at hK
      simp only [stc,C_coord_Coord_Vote,A_,simprocAttr,ne_eq,(U_coord_Coord_Vote _).1,CHK_,Nat.reduceBEq,re0,re1,ab,rs]
      exact hK H .refl t
    | true =>
    simp only [stc,C_coord_Coord_Vote,A_,simprocAttr,ne_eq,(U_coord_Coord_Vote _).1,CHK_,Nat.reduceBEq,re0,re1,ab,rs]
    refine h2 a x.snap _ _ _ ?_
    by_cases hc:cmpS a x.snap≤0
    · rw [voteD_bad hp ⟨rfl,.inr hc⟩] at hK
      simp only [stc,C_coord_Coord_Vote,A_,simprocAttr,ne_eq,(U_coord_Coord_Vote _).1,CHK_,Nat.reduceBEq,re0,re1,ab,rs,hc]
      exact hK H .refl t
    have hb:¬(goodS a=false∨cmpS a x.snap≤0):=fun q=>q.elim (fun q=>by rw [hg] at q; cases q) hc
    simp only [stc,C_coord_Coord_Vote,A_,simprocAttr,ne_eq,(U_coord_Coord_Vote _).1,CHK_,Nat.reduceBEq,re0,re1,ab,rs,lkv,hc]
    by_cases hkn:x.known=true
    · rw [voteD_old hp (fun q=>hb q.2) (.inl hkn)] at hK
      simp only [stc,C_coord_Coord_Vote,A_,simprocAttr,ne_eq,(U_coord_Coord_Vote _).1,CHK_,Nat.reduceBEq,re0,re1,ab,rs,lkv,hkn]
      exact hK H .refl t
    have hkn':x.known=false:=by simpa using hkn
    by_cases hv':part∈x.votes
    · rw [voteD_old hp (fun q=>hb q.2) (.inr hv')] at hK
      simp only [stc,C_coord_Coord_Vote,A_,simprocAttr,ne_eq,(U_coord_Coord_Vote _).1,CHK_,Nat.reduceBEq,re0,re1,ab,rs,lkv,hkn',decide_eq_true hv']
      exact hK H .refl t
    have hf:¬(x.known=true∨part∈x.votes):=fun q=>q.elim hkn hv'
    obtain ⟨es,c',u,t1⟩:=fresh hf
    have ab1:=t1.atb
    simp only [dxc] at ab1
    generalize hH1:H.set hv (.map es c')=H1 at u t1 ab1
    have rt:=fun S'=>rd2h (S:=S') (off:=6) (s:=x.st) ab1 rfl
    have k1:Keep H H1 [b,hv,ha]:=by rw [←hH1]; exact Keep.set (by simp)
    simp only [stc,C_coord_Coord_Vote,A_,simprocAttr,ne_eq,(U_coord_Coord_Vote _).1,CHK_,Nat.reduceBEq,re0,re1,ab,rs,lkv,hkn',decide_eq_false hv',u,ab1,rt]
    refine h3 x.st a _ _ _ ?_
    have s1:=fun S'=>st2h (S:=S') (off:=6) (v := .s (.int .i64 (maxS x.st a).t)) (w:=u8 (maxS x.st a).n) ab1 (by simp) rfl rfl
    have t2:=t1.setb (y:={ x with votes:=x.votes ++ [part],st:=maxS x.st a }) ⟨t.ok.ne,t.ok.len,t1.ok.vn,t.ok.an⟩ rfl rfl
    have ab2:=t2.atb
    have lv2:=fun S'=>len_b (S:=S') t2.atv
    have e2:dxc { x with votes:=x.votes ++ [part],st:=maxS x.st a } hv ha=[.s (.int .i64 x.snap.t),u8 x.snap.n,.list .sh 1 (x.parts.map pI),.map hv,.bool x.known,.bool x.yes,.s (.int .i64 (maxS x.st a).t),u8 (maxS x.st a).n,.map ha]:=rfl
    have s1:∀S',storeL 2 (.ptr (.heap b) 6) (.agg [.s (.int .i64 (maxS x.st a).t),u8 (maxS x.st a).n]) ⟨S',H1⟩=some ⟨S',H1.set b (.cells (dxc { x with votes:=x.votes ++ [part],st:=maxS x.st a } hv ha))⟩:=s1
    generalize hH2:H1.set b (.cells (dxc { x with votes:=x.votes ++ [part],st:=maxS x.st a } hv ha))=H2 at s1 t2 ab2 lv2
    simp only [dxc] at ab2
    have k2:Keep H H2 [b,hv,ha]:=by rw [←hH2]; exact k1.trans (Keep.set (by simp))
    by_cases hlen:x.votes.length + 1=x.parts.length
    · rw [voteD_all hp hb hf hlen] at hK
      have hl':(((x.votes ++ [part]).length:Int)=(x.parts.length:Int))=True:=eq_true (by rw [List.length_append]; simp; omega)
      have hl2:((x.votes.length:Int) + 1=(x.parts.length:Int))=True:=eq_true (by omega)
      have hl3:(((x.votes.length + 1:Nat):Int)=(x.parts.length:Int))=True:=eq_true (by omega)
      have w1:=fun S'=>st1h (S:=S') (off:=4) (v := .s (.bool true)) ab2 (by simp) rfl rfl rfl
      have b2:=hself ab2 (o' := .cells [.s (.int .i64 x.snap.t),u8 x.snap.n,.list .sh 1 (x.parts.map pI),.map hv,.s (.bool true),.bool x.yes,.s (.int .i64 (maxS x.st a).t),u8 (maxS x.st a).n,.map ha])
      have w2:=fun S'=>st1h (S:=S') (off:=5) (v := .s (.bool true)) b2 (by simp) rfl rfl rfl
      rw [List.set_set] at w2
      simp only [stc,C_coord_Coord_Vote,A_,simprocAttr,ne_eq,(U_coord_Coord_Vote _).1,CHK_,Nat.reduceBEq,re0,re1,ab1,ab2,s1,lv2,hl',hl2,hl3,List.length_append,w1,w2]
      refine hK _ ?_ (t2.setb (y:={ x with votes:=x.votes ++ [part],known:=true,yes:=true,st:=maxS x.st a }) ⟨t.ok.ne,t.ok.len,t1.ok.vn,t.ok.an⟩ rfl rfl)
      exact k2.trans (Keep.set (by simp))
    · rw [voteD_yes hp hb hf hlen] at hK
      have hl3:(((x.votes.length + 1:Nat):Int)=(x.parts.length:Int))=False:=eq_false (by omega)
      have hl2:((x.votes.length:Int) + 1=(x.parts.length:Int))=False:=eq_false (by omega)
      simp only [stc,C_coord_Coord_Vote,A_,simprocAttr,ne_eq,(U_coord_Coord_Vote _).1,CHK_,Nat.reduceBEq,re0,re1,ab1,ab2,s1,lv2,hl2,hl3,List.length_append]
      exact hK _ k2 t2
end Go.AM
namespace Go.AM
open Go
set_option maxRecDepth 20000
end Go.AM
namespace Go.AM
open Go
set_option maxRecDepth 20000
def decD (x:Dx):Bool×Bool×Stp:=if x.known=true then (true,x.yes,x.st) else (false,false,⟨0,0⟩)
def DecS (C:CallW) (f:FuncId):Prop:=∀(h hm b hv ha:Nat) (id:Int) (x:Dx) S H (K:AV→St→Prop),CoX H h hm id b hv ha x→K (.tup [.s (.bool (decD x).1),.s (.bool (decD x).2.1),.agg (stc (decD x).2.2)]) ⟨S,H⟩→C (.fn f) [.ptr (.heap h) 0,.s (.int .i64 id)] ⟨S,H⟩ K
set_option maxHeartbeats 4000000 in
theorem coord_Decision_spec {C:CallW} (P:Program):∀(h hm b hv ha:Nat) (id:Int) (x:Dx) S H (K:AV→St→Prop),CoX H h hm id b hv ha x→K (.tup [.s (.bool (decD x).1),.s (.bool (decD x).2.1),.agg (stc (decD x).2.2)]) ⟨S,H⟩→runL C P C_coord_Coord_Decision [.ptr (.heap h) 0,.s (.int .i64 id)] ⟨S,H⟩ K:=by
  intro h hm b hv ha id x S H K t hK
  have a0:=t.at0
  have ab:=t.atb
  simp only [dxc] at ab
  have rs:=fun S'=>rd2h (S:=S') (off:=6) (s:=x.st) ab rfl
  have hlk:=fun S'=>t.look (S:=S') id
  simp only [if_true] at hlk
  unfold decD at hK
  by_cases hkn:x.known=true
  · rw [if_pos hkn] at hK
    simp only [C_coord_Coord_Decision,A_,simprocAttr,ne_eq,U_coord_Coord_Decision.1,CHK_,Nat.reduceBEq,re0,re1,a0,hlk,ab,hkn,rs]
    exact hK
  · rw [if_neg hkn] at hK
    have hkn':x.known=false:=by simpa using hkn
    simp only [C_coord_Coord_Decision,A_,simprocAttr,ne_eq,U_coord_Coord_Decision.1,CHK_,Nat.reduceBEq,re0,re1,a0,hlk,ab,hkn',rs]
    exact hK
def ackD (x:Dx) (part:Int):Int×Dx:=if part∉x.parts then (4,x) else if x.known=false then (8,x) else (0,{ x with acked:=putB (fun i=>i) x.acked part })
def AckS (C:CallW) (f:FuncId):Prop:=∀(h hm b hv ha:Nat) (id:Int) (x:Dx) (part:Int) S H (K:AV→St→Prop),CoX H h hm id b hv ha x→(∀H',Keep H H' [b,hv,ha]→CoX H' h hm id b hv ha (ackD x part).2→K (.s (.int .i64 (ackD x part).1)) ⟨S,H'⟩)→C (.fn f) [.ptr (.heap h) 0,.s (.int .i64 id),.s (.int .i64 part)] ⟨S,H⟩ K
theorem putB_nodup {l:List Int} {v:Int} (h:l.Nodup):(putB (fun i=>i) l v).Nodup:=by
  by_cases hv:v∈l
  · rw [putB_same (kp:=fun i:Int=>i) (by simpa using h) hv]; exact h
  · rw [putB_new (kp:=fun i:Int=>i) fun y hy (e:y=v)=>hv (e▸hy),List.nodup_append]
    exact ⟨h,by simp,fun a ha b hb=>by rw [List.mem_singleton.1 hb]; exact fun e:a=v=>hv (e▸ha)⟩
set_option maxHeartbeats 4000000 in
theorem coord_Ack_spec {C:CallW} (P:Program) {c:Nat→FuncId} (h0:OfXS C (c 0)):∀(h hm b hv ha:Nat) (id:Int) (x:Dx) (part:Int) S H (K:AV→St→Prop),CoX H h hm id b hv ha x→(∀H',Keep H H' [b,hv,ha]→CoX H' h hm id b hv ha (ackD x part).2→K (.s (.int .i64 (ackD x part).1)) ⟨S,H'⟩)→runL C P (C_coord_Coord_Ack c) [.ptr (.heap h) 0,.s (.int .i64 id),.s (.int .i64 part)] ⟨S,H⟩ K:=by
  intro h hm b hv ha id x part S H K t hK
  have ab:=t.atb
  simp only [dxc] at ab
  simp only [C_coord_Coord_Ack,A_,simprocAttr,ne_eq,(U_coord_Coord_Ack _).1]
  refine h0 h hm b hv ha id x part _ _ _ t (fun hp => ?_) (fun hp => ?_)
  case refine_2 =>
    have e:ackD x part=(4,x):=if_pos hp
    rw [e] at hK
    simp only [C_coord_Coord_Ack,A_,simprocAttr,ne_eq,(U_coord_Coord_Ack _).1,re0,re1]
    exact hK H .refl t
  by_cases hkn:x.known=true
  · have e:ackD x part=(0,{ x with acked:=putB (fun i=>i) x.acked part }):=by unfold ackD; rw [if_neg (fun q=>q hp),if_neg (by simp [hkn])]
    rw [e] at hK
    obtain ⟨es,c',a1,g⟩:=t.ata
    obtain ⟨es',c2,u,g'⟩:=g.upd keyK_int (x:=part) a1 (by simpa using t.ok.an) rfl
    have u:∀S',updateL (.one (.int .i64)) (.map ha) (.s (.int .i64 part)) (.s (.bool true)) ⟨S',H⟩=some ⟨S',H.set ha (.map es' c2)⟩:=u
    simp only [C_coord_Coord_Ack,A_,simprocAttr,ne_eq,(U_coord_Coord_Ack _).1,re0,re1,ab,hkn,u]
    exact hK _ (Keep.set (by simp)) (t.seta g' (putB_nodup t.ok.an))
  · have hkn':x.known=false:=by simpa using hkn
    have e:ackD x part=(8,x):=by unfold ackD; rw [if_neg (fun q=>q hp),if_pos hkn']
    rw [e] at hK
    simp only [C_coord_Coord_Ack,A_,simprocAttr,ne_eq,(U_coord_Coord_Ack _).1,re0,re1,ab,hkn']
    exact hK H .refl t
def giveD (x:Dx):Dx:=if x.known=true then x else { x with known:=true,st:=⟨0,0⟩ }
def GiveS (C:CallW) (f:FuncId):Prop:=∀(h hm b hv ha:Nat) (id:Int) (x:Dx) S H (K:AV→St→Prop),CoX H h hm id b hv ha x→(∀H',Keep H H' [b,hv,ha]→CoX H' h hm id b hv ha (giveD x)→K (.tup [.s (.bool x.yes),.s (.int .i64 0)]) ⟨S,H'⟩)→C (.fn f) [.ptr (.heap h) 0,.s (.int .i64 id)] ⟨S,H⟩ K
set_option maxHeartbeats 4000000 in
theorem coord_Give_spec {C:CallW} (P:Program):∀(h hm b hv ha:Nat) (id:Int) (x:Dx) S H (K:AV→St→Prop),CoX H h hm id b hv ha x→(∀H',Keep H H' [b,hv,ha]→CoX H' h hm id b hv ha (giveD x)→K (.tup [.s (.bool x.yes),.s (.int .i64 0)]) ⟨S,H'⟩)→runL C P C_coord_Coord_Give [.ptr (.heap h) 0,.s (.int .i64 id)] ⟨S,H⟩ K:=by
  intro h hm b hv ha id x S H K t hK
  have a0:=t.at0
  have ab:=t.atb
  simp only [dxc] at ab
  have hlk:=fun S'=>t.look (S:=S') id
  simp only [if_true] at hlk
  by_cases hkn:x.known=true
  · have e:giveD x=x:=if_pos hkn
    rw [e] at hK
    simp only [C_coord_Coord_Give,A_,simprocAttr,ne_eq,U_coord_Coord_Give.1,re0,re1,a0,hlk,ab,hkn]
    exact hK H .refl t
  · have e:giveD x={ x with known:=true,st:=⟨0,0⟩ }:=if_neg hkn
    rw [e] at hK
    have hkn':x.known=false:=by simpa using hkn
    have s1:=fun S'=>st1h (S:=S') (off:=4) (v := .s (.bool true)) ab (by simp) rfl rfl rfl
    have b2:=hself ab (o' := .cells [.s (.int .i64 x.snap.t),u8 x.snap.n,.list .sh 1 (x.parts.map pI),.map hv,.s (.bool true),.bool x.yes,.s (.int .i64 x.st.t),u8 x.st.n,.map ha])
    have s2:=fun S'=>st2h (S:=S') (off:=6) (v := .s (.int .i64 0)) (w := .s (.int .u8 0)) b2 (by simp) rfl rfl
    have b3:=hself ab (o' := .cells [.s (.int .i64 x.snap.t),u8 x.snap.n,.list .sh 1 (x.parts.map pI),.map hv,.s (.bool true),.bool x.yes,.s (.int .i64 0),.s (.int .u8 0),.map ha])
    rw [List.set_set] at s2
    simp only [C_coord_Coord_Give,A_,simprocAttr,ne_eq,U_coord_Coord_Give.1,re0,re1,a0,hlk,ab,hkn',s1,s2,b3]
    exact hK _ (Keep.set (by simp)) (t.setb (y:={ x with known:=true,st:=⟨0,0⟩ }) ⟨t.ok.ne,t.ok.len,t.ok.vn,t.ok.an⟩ rfl rfl)
end Go.AM
namespace Go.AM
open Go
open AV renaming undef → uu
set_option maxRecDepth 20000
def Owes1S (C:CallW) (f:FuncId):Prop:=∀(h hm b hv ha:Nat) (id:Int) (x:Dx) (v:Int) (r:Nat) S H (K:AV→St→Prop),CoX H h hm id b hv ha x→S[r]? = some [.ptr (.heap b) 0]→K (.bool (decide (v∈x.acked))) ⟨S,H⟩→C (.fn f) [.s (.int .i64 v),.ptr (.stk r) 0] ⟨S,H⟩ K
theorem coord_Owes1_spec {C:CallW} (P:Program):∀(h hm b hv ha:Nat) (id:Int) (x:Dx) (v:Int) (r:Nat) S H (K:AV→St→Prop),CoX H h hm id b hv ha x→S[r]? = some [.ptr (.heap b) 0]→K (.bool (decide (v∈x.acked))) ⟨S,H⟩→runL C P C_coord_Coord_Owes_1 [.s (.int .i64 v),.ptr (.stk r) 0] ⟨S,H⟩ K:=by
  intro h hm b hv ha id x v r S H K t hr hK
  have ab:=t.atb
  simp only [dxc] at ab
  have hrd:load1L false (.ptr (.stk r) 0) ⟨S,H⟩=some (.ptr (.heap b) 0,⟨S,H⟩):=by
    simp only [load1L,boxOf_stk,hr,Option.bind_some]; rfl
  have lka:=fun S'=>look_b (S:=S') t.ata v
  simp only [C_coord_Coord_Owes_1,A_,simprocAttr,ne_eq,U_coord_Coord_Owes_1.1,hrd,ab,lka]
  exact hK
def owesD (x:Dx):List Int:=x.parts.filter fun v => !decide (v∈x.acked)
def OwesS (C:CallW) (f:FuncId):Prop:=∀(h hm b hv ha:Nat) (id:Int) (x:Dx) S H (K:AV→St→Prop),CoX H h hm id b hv ha x→K (lstN (owesD x)) ⟨S,H⟩→C (.fn f) [.ptr (.heap h) 0,.s (.int .i64 id)] ⟨S,H⟩ K
set_option maxHeartbeats 4000000 in
theorem coord_Owes_spec {C:CallW} (P:Program) {c:Nat→FuncId} (h0:CloneIS C (c 0)) (h1:Owes1S C (c 1)) (h2:DelFS C (c 2)):∀(h hm b hv ha:Nat) (id:Int) (x:Dx) S H (K:AV→St→Prop),CoX H h hm id b hv ha x→K (lstN (owesD x)) ⟨S,H⟩→runL C P (C_coord_Coord_Owes c) [.ptr (.heap h) 0,.s (.int .i64 id)] ⟨S,H⟩ K:=by
  intro h hm b hv ha id x S H K t hK
  have a0:=t.at0
  have ab:=t.atb
  simp only [dxc] at ab
  have hlk:=fun S'=>t.look (S:=S') id
  simp only [if_true] at hlk
  have st:storeL 1 (.ptr (.stk S.length) 0) (.ptr (.heap b) 0) ⟨S ++ [[.s .nilP]],H⟩=some ⟨S ++ [[.ptr (.heap b) 0]],H⟩:=by
    simp [storeL,AV.cells,AV.fit,writeCells,boxOf,mayHold,AV.under.go,AV.under,splice,setBox]
  simp only [C_coord_Coord_Owes,A_,simprocAttr,ne_eq,(U_coord_Coord_Owes _).1,re0,re1,a0,hlk,ab,st]
  refine h0 x.parts _ _ _ t.ok.ne t.ok.len ?_
  simp only [C_coord_Coord_Owes,A_,simprocAttr,ne_eq,(U_coord_Coord_Owes _).1,re0,re1,a0,hlk,ab]
  refine h2 x.parts (c 1) S.length (fun v=>decide (v∈x.acked)) _ _ _ t.ok.ne t.ok.len (by simp) (fun v T K hK => ?_) ?_
  · refine h1 h hm b hv ha id x v S.length _ _ _ t ?_ hK
    simp
  · simp only [lstN,C_coord_Coord_Owes,A_,simprocAttr,ne_eq,(U_coord_Coord_Owes _).1,re0,re1,a0,hlk,ab]
    exact hK
def openD (id:Int) (x:Dx):List Int:=if x.known=false∨owesD x≠[] then [id] else []
def OpenS (C:CallW) (f:FuncId):Prop:=∀(h hm b hv ha:Nat) (id:Int) (x:Dx) S H (K:AV→St→Prop),CoX H h hm id b hv ha x→(∀G,K (lstN (openD id x)) ⟨S,H ++ G⟩)→C (.fn f) [.ptr (.heap h) 0] ⟨S,H⟩ K
set_option maxHeartbeats 8000000 in
theorem coord_Open_spec {C:CallW} (hC:LeC C C) (P:Program) {c:Nat→FuncId} {g:FuncId} (h0:KeysS C (c 0) g) (h1:SortedS C (c 1) g) (h2:OwesS C (c 2)):∀(h hm b hv ha:Nat) (id:Int) (x:Dx) S H (K:AV→St→Prop),CoX H h hm id b hv ha x→(∀G,K (lstN (openD id x)) ⟨S,H ++ G⟩)→runL C P (C_coord_Coord_Open c) [.ptr (.heap h) 0] ⟨S,H⟩ (WkK K):=by
  intro h hm b hv ha' id x S H K t hK
  have a0:=t.at0
  obtain ⟨es,cc,am,g1⟩:=t.atm
  have hes:es.length=1:=by have:=congrArg List.length g1.rel; simpa [RelM] using this
  have hek:∀e∈es,e.key=iA id:=by
    intro e he
    have hr:=g1.rel
    unfold RelM at hr
    have hm2:(e.key,e.val)∈es.map (fun e=>(e.key,e.val)):=List.mem_map.2 ⟨e,he,rfl⟩
    rw [hr] at hm2
    have:=List.mem_singleton.1 hm2
    exact (Prod.mk.inj this).1
  simp only [C_coord_Coord_Open,A_,simprocAttr,ne_eq,(U_coord_Coord_Open _).1,a0]
  refine h0 hm _ _ _ ?_
  simp only [C_coord_Coord_Open,A_,simprocAttr,ne_eq,(U_coord_Coord_Open _).1]
  refine h1 H.length hm cc es (fun _=>id) _ _ _ ⟨by simp,happ am,g1.nd,g1.lt,hek,by omega⟩ fun ids G hp hs => ?_
  have hids:ids=[id]:=by
    have:es.map (fun _=>id)=[id]:=by
      match es,hes with
      | [e],_=>rfl
    rw [this] at hp
    exact List.perm_singleton.1 hp
  subst hids
  rw [List.append_assoc]
  generalize [HObj.cells [AV.map hm]] ++ G=G1
  have t1:=t.app (G:=G1)
  have a1:=t1.at0
  have ab:=t1.atb
  simp only [dxc] at ab
  have hlk:=fun S'=>t1.look (S:=S') id
  simp only [if_true] at hlk
  have hK1:=hK G1
  generalize H ++ G1=H1 at t1 a1 ab hlk hK1 ⊢
  clear hK
  have x1:∀k:IntKind,indexAddrL (.sl 1) (.list .sh 1 [iA id]) (.s (.int k 0))=some (.rop [.s (.int .i64 id)]):=fun k=>rfl
  simp only [lstZ,List.map_cons,List.map_nil,C_coord_Coord_Open,A_,simprocAttr,ne_eq,(U_coord_Coord_Open _).1]
  refine loop_rule hC (α:=Bool) (fun a=>if a then 0 else 1) (fun a=>[.ptr (.heap h) 0,uu,uu,if a then slG 1 ((openD id x).map iA) else .s .nilS,uu,uu,uu,uu,uu,uu,uu,.list .sh 1 [iA id],.s (.int .i64 1),.s (.int .i64 (if a then 1 else 0)),uu,uu,uu,uu,uu,uu,uu,uu,uu,uu,uu,uu,uu,uu,uu,uu,uu,uu,uu,uu,uu,uu,uu,uu,uu,uu]) (fun _=>S) (fun a=>H1) (fun a=>True) false trivial (by simp [keep,zm]) (by simp) rfl (fun a _=>by cases a <;> simp [AV.under,AV.under.go,slG_under]) ?_
  rintro (_ | _) _ ih
  · simp only [if_false,Bool.false_eq_true]
    have ha:∀(e:ET) (σ:St),e.c=1→e.bytes=8→appendL e false (.s .nilS) (.list .full 1 [.s (.int .i64 id)]) σ=some (.list .uniq 1 [iA id],σ):=fun e σ h1 h2=>app_slZ (l:=[]) h1 h2 (by simp)
    by_cases hkn:x.known=true
    · simp only [C_coord_Coord_Open,A_,simprocAttr,ne_eq,(U_coord_Coord_Open _).1,x1,a1,hlk,ab,hkn]
      refine h2 h hm b hv ha' id x _ _ _ t1 ?_
      by_cases ho:owesD x=[]
      · have hd:openD id x=[]:=by unfold openD; rw [if_neg (by rw [hkn,ho]; simp)]
        simp only [lstN,ho,C_coord_Coord_Open,A_,simprocAttr,ne_eq,(U_coord_Coord_Open _).1,x1,a1,hlk,ab,hkn]
        exact ih true _ _ _ (by decide) trivial (by rw [hd]; simp [keep,zm,slG]) (by simp) rfl
      · have hd:openD id x=[id]:=by unfold openD; rw [if_pos (.inr ho)]
        have hlen:((0:Int) < ((owesD x).length:Int))=True:=eq_true (by have:=List.length_pos_iff.2 ho; omega)
        simp only [lstN,C_coord_Coord_Open,A_,simprocAttr,ne_eq,(U_coord_Coord_Open _).1,x1,a1,hlk,ab,hkn,hlen,ha]
        exact ih true _ _ _ (by decide) trivial (by rw [hd]; simp [keep,zm,slG]) (by simp) rfl
    · have hkn':x.known=false:=by simpa using hkn
      have hd:openD id x=[id]:=by unfold openD; rw [if_pos (.inl hkn')]
      simp only [C_coord_Coord_Open,A_,simprocAttr,ne_eq,(U_coord_Coord_Open _).1,x1,a1,hlk,ab,hkn',ha]
      exact ih true _ _ _ (by decide) trivial (by rw [hd]; simp [keep,zm,slG]) (by simp) rfl
  · simp only [if_true]
    simp only [C_coord_Coord_Open,A_,simprocAttr,ne_eq,(U_coord_Coord_Open _).1]
    refine ⟨_,.inr ?_,hK1⟩
    by_cases e:openD id x=[]
    · rw [e]; exact .nilS (by omega) .nil
    · unfold slG
      rw [if_neg (by simpa using e)]
      exact .same .nil
end Go.AM
namespace Go.AM
open Go
set_option maxRecDepth 20000
def AwCS (C:CallW) (f:FuncId):Prop:=∀S H (K:AV→St→Prop),(∀H',K (.bool true) ⟨S,H'⟩)→C (.fn f) [] ⟨S,H⟩ K
theorem lst_wk {a b c:AV} {l:List Int}:WkF [a,b,c,.list .full 1 (l.map pI)] [a,b,c,lstN l] := .same (.same (.same (.wk (show WkL [.list .full 1 (l.map pI)] [lstN l] from .full .nil) .nil)))
theorem lst_wk2 {a:AV} {l:List Int}:WkF [a,.list .full 1 (l.map pI)] [a,lstN l] := .same (.wk (show WkL [.list .full 1 (l.map pI)] [lstN l] from .full .nil) .nil)
def xA0:Dx:=⟨⟨0,0⟩,[0,1],[],false,false,⟨0,0⟩,[]⟩
def xA1:Dx:=⟨⟨0,0⟩,[0,1],[0],false,false,⟨5,0⟩,[]⟩
def xA2:Dx:=⟨⟨0,0⟩,[0,1],[0,1],true,true,⟨7,1⟩,[]⟩
set_option maxHeartbeats 8000000 in
theorem law18_awake_spec {C:CallW} (hC:LeC C C) (hW:WkC C) (P:Program) {c:Nat→FuncId} (h0:NewCS C (c 0)) (h1:∀t:Int,FnS C (c 1) [.s (.int .i64 t)] (.agg (stc ⟨t,0⟩))) (h2:BegS C (c 2)) (h3:VoteS C (c 3)) (h4:DecS C (c 4)) (h5:OwesS C (c 5)) (h6:SameIS C (c 6)) (h7:OpenS C (c 7)) (h8:SameIS C (c 8)):∀S H (K:AV→St→Prop),(∀H',K (.bool true) ⟨S,H'⟩)→runL C P (C_hourglasslaw18_awake c) [] ⟨S,H⟩ K:=by
  intro S H K hK
  have v1:voteD xA0 0 true ⟨5,0⟩=(0,xA1):=rfl
  have v2:voteD xA1 1 true ⟨7,1⟩=(0,xA2):=rfl
  simp only [C_hourglasslaw18_awake,A_,simprocAttr,ne_eq,(U_hourglasslaw18_awake _).1]
  refine h0 _ _ _ ?_
  have t0:=newC (H:=H)
  generalize H ++ [HObj.map [] 0,.cells [.map H.length]]=H0 at t0 ⊢
  generalize H.length + 1=h at t0 ⊢
  generalize H.length=hm at t0
  simp only [C_hourglasslaw18_awake,A_,simprocAttr,ne_eq,(U_hourglasslaw18_awake _).1,re0,re1]
  refine h1 0 _ _ _ ?_
  simp only [stc,C_hourglasslaw18_awake,A_,simprocAttr,ne_eq,(U_hourglasslaw18_awake _).1,re0,re1,bslL,fillE,List.isEmpty_cons,List.isEmpty_nil]
  refine hW _ _ _ _ _ (lst_wk (l:=[0,1])) (h2 h hm 1 ⟨0,0⟩ [0,1] _ _ _ t0 (by decide) (fun q=>absurd q (by decide)) fun _ H1 b hv ha _ _ _ _ t => ?_)
  have t:CoX H1 h hm 1 b hv ha xA0:=t
  simp only [C_hourglasslaw18_awake,A_,simprocAttr,ne_eq,(U_hourglasslaw18_awake _).1]
  refine h1 5 _ _ _ ?_
  simp only [stc,C_hourglasslaw18_awake,A_,simprocAttr,ne_eq,(U_hourglasslaw18_awake _).1]
  refine h3 h hm b hv ha 1 xA0 0 true ⟨5,0⟩ _ _ _ t fun H2 _ t => ?_
  rw [v1] at t ⊢
  have t:CoX H2 h hm 1 b hv ha xA1:=t
  simp only [C_hourglasslaw18_awake,A_,simprocAttr,ne_eq,(U_hourglasslaw18_awake _).1]
  refine h4 h hm b hv ha 1 xA1 _ _ _ t ?_
  simp only [show decD xA1=(false,false,⟨0,0⟩) from rfl,stc,C_hourglasslaw18_awake,A_,simprocAttr,ne_eq,(U_hourglasslaw18_awake _).1]
  refine h3 h hm b hv ha 1 xA1 1 true ⟨7,1⟩ _ _ _ t fun H3 _ t => ?_
  rw [v2] at t ⊢
  have t:CoX H3 h hm 1 b hv ha xA2:=t
  simp only [C_hourglasslaw18_awake,A_,simprocAttr,ne_eq,(U_hourglasslaw18_awake _).1]
  refine h4 h hm b hv ha 1 xA2 _ _ _ t ?_
  have u1:(u8 1:AV) = .s (.int .u8 1):=rfl
  simp only [show decD xA2=(true,true,⟨7,1⟩) from rfl,stc,u1,C_hourglasslaw18_awake,A_,simprocAttr,ne_eq,(U_hourglasslaw18_awake _).1]
  refine h5 h hm b hv ha 1 xA2 _ _ _ t ?_
  simp only [show owesD xA2=[0,1] from rfl,C_hourglasslaw18_awake,A_,simprocAttr,ne_eq,(U_hourglasslaw18_awake _).1,bslL,fillE,List.isEmpty_cons,List.isEmpty_nil]
  refine hW _ _ _ _ _ (lst_wk2 (l:=[0,1])) (h6 [0,1] [0,1] _ _ _ (by decide) (by decide) ?_)
  rw [decide_eq_true rfl]
  simp only [C_hourglasslaw18_awake,A_,simprocAttr,ne_eq,(U_hourglasslaw18_awake _).1]
  refine h7 h hm b hv ha 1 xA2 _ _ _ t fun G => ?_
  simp only [show openD 1 xA2=[1] from rfl,C_hourglasslaw18_awake,A_,simprocAttr,ne_eq,(U_hourglasslaw18_awake _).1,bslL,fillE,List.isEmpty_cons,List.isEmpty_nil]
  refine hW _ _ _ _ _ (lst_wk2 (l:=[1])) (h8 [1] [1] _ _ _ (by decide) (by decide) ?_)
  rw [decide_eq_true rfl]
  simp only [C_hourglasslaw18_awake,A_,simprocAttr,ne_eq,(U_hourglasslaw18_awake _).1]
  exact hK _
end Go.AM
namespace Go.AM
open Go
set_option maxRecDepth 20000
structure CAct where
  op:Int
  id:Int
  st:Stp
  parts:List Int
  part:Int
  yes:Bool
  r:Rec
def cactc (a:CAct):List AV:=[.s (.int .i64 a.op),.s (.int .i64 a.id),.s (.int .i64 a.st.t),u8 a.st.n,.list .sh 1 (a.parts.map pI),.s (.int .i64 a.part),.s (.bool a.yes),.s (.int .i64 a.r.kind),.s (.int .i64 a.r.id),.s (.int .i64 a.r.snap.t),u8 a.r.snap.n,.s (.int .i64 a.r.stamp.t),u8 a.r.stamp.n,.list .sh 18 (a.r.writes.map wA),.s (.bool a.r.yes),.list .sh 1 (a.r.parts.map pI)]
def cactA (a:CAct):AV := .agg (cactc a)
theorem ixl_cact {l:List CAct} {i:Nat} (h:i < l.length) (k:IntKind):indexAddrL (.sl 16) (.list .sh 16 (l.map cactA)) (.s (.int k (i:Int)))=some (.rop (cactc l[i])):=ixl_map h (by omega)
structure LogI (parts:List Int) (x:Dx):Prop where
  parts:x.parts=parts
  good:goodS x.st=true
  no:x.known=true→x.yes=false→x.st=⟨0,0⟩
  un:x.known=false→x.yes=false
theorem LogI.ack {parts:List Int} {x:Dx} (h:LogI parts x) (part:Int):LogI parts (ackD x part).2:=by
  unfold ackD
  split
  · exact h
  split
  · exact h
  · exact ⟨h.parts,h.good,h.no,h.un⟩
end Go.AM
namespace Go.AM
open Go
set_option maxRecDepth 20000
theorem CoX.low {H:List HObj} {h hm b hv ha:Nat} {id:Int} {x:Dx} (t:CoX H h hm id b hv ha x):h < H.length∧hm < H.length∧b < H.length∧hv < H.length∧ha < H.length:=by
  obtain ⟨a0,⟨_,_,a1,_⟩,a2,⟨_,_,a3,_⟩,⟨_,_,a4,_⟩,_⟩:=t
  exact ⟨hlt a0,hlt a1,hlt a2,hlt a3,hlt a4⟩
end Go.AM
namespace Go.AM
open Go
set_option maxRecDepth 20000
structure VSt where
  best:Wr
  top:Stp
  found:Bool
end Go.AM
namespace Go.AM
open Go
set_option maxRecDepth 20000
end Go.AM
namespace Go.AM
open Go
set_option maxRecDepth 20000
end Go.AM
namespace Go.AM
open Go
theorem cmpS_flip (a b:Stp):cmpS b a = - cmpS a b:=by
  unfold cmpS
  have hu:∀x y:UInt8,x < y→¬y < x:=fun x y h h'=>by rw [UInt8.lt_iff_toNat_lt] at h h'; omega
  by_cases h1:a.t < b.t
  · have:¬b.t < a.t:=by omega
    simp [h1,this]
  · by_cases h2:b.t < a.t
    · simp [h1,h2]
    · by_cases h3:a.n < b.n
      · simp [h1,h2,h3,hu _ _ h3]
      · by_cases h4:b.n < a.n
        · simp [h1,h2,h3,h4]
        · simp [h1,h2,h3,h4]
theorem cmpS_trans {a b c:Stp} (h1:cmpS a b≤0) (h2:cmpS b c≤0):cmpS a c≤0:=by
  unfold cmpS at *
  simp only [UInt8.lt_iff_toNat_lt] at *
  repeat' split at h1
  all_goals repeat' split at h2
  all_goals repeat' split
  all_goals omega
end Go.AM
namespace Go.AM
open Go
set_option maxRecDepth 20000
theorem cmpS_pos {a b c:Stp} (h1:0 < cmpS b c) (h2:0≤cmpS a b):0 < cmpS a c:=by
  rcases Int.lt_or_le 0 (cmpS a c) with h | h
  · exact h
  · have h3:cmpS b a≤0:=by rw [cmpS_flip a b]; omega
    have:=cmpS_trans h3 h
    omega
theorem maxS_pos {a b c:Stp} (h:0 < cmpS b c):0 < cmpS (maxS a b) c:=by
  unfold maxS
  split
  · exact h
  · exact cmpS_pos h (by omega)
theorem gparts_lt:∀{l:List Int} {p:Int},gparts p l=true→(∀x∈l,p < x)∧l.Nodup
  | [],p,_=>⟨fun x h=>(by cases h),.nil⟩
  | x :: l,p,h=>by
    unfold gparts at h
    split at h
    · cases h
    split at h
    · cases h
    split at h
    · cases h
    rename_i _ _ hx
    obtain ⟨h1,h2⟩:=gparts_lt h
    refine ⟨fun y hy => ?_,List.nodup_cons.2 ⟨fun hm => ?_,h2⟩⟩
    · rcases List.mem_cons.1 hy with rfl | hy
      · omega
      · have:=h1 y hy; omega
    · have:=h1 x hm; omega
theorem goodParts_nodup {l:List Int} (h:goodParts l=true):l.Nodup:=by
  unfold goodParts at h
  simp only [Bool.and_eq_true] at h
  exact (gparts_lt h.1).2
theorem nd_ne {l:List Int} (hn:l.Nodup) {i j:Nat} (hi:i < l.length) (hj:j < l.length) (h:i≠j):l[i]≠l[j]:=by
  have:=List.pairwise_iff_getElem.1 hn
  rcases Nat.lt_or_gt_of_ne h with h | h
  · exact this i j hi hj h
  · exact (this j i hj hi h).symm
structure Ys (parts votes:List Int) (ys:Array Bool):Prop where
  len:ys.size=parts.length
  at_:∀k (h:k < parts.length),(ys[k]! = true↔parts[k]∈votes)
theorem Ys.add {parts votes:List Int} {ys:Array Bool} (h:Ys parts votes ys) (hn:parts.Nodup) {m:Nat} (hm:m < parts.length):Ys parts (votes ++ [parts[m]]) (ys.setIfInBounds m true):=by
  refine ⟨by simpa using h.len,fun k hk => ?_⟩
  have hks:k < ys.size:=by rw [h.len]; exact hk
  have hms:m < ys.size:=by rw [h.len]; exact hm
  rw [List.mem_append,List.mem_singleton,←h.at_ k hk]
  simp only [Array.getElem!_eq_getD,Array.getD_eq_getD_getElem?,Array.getElem?_setIfInBounds]
  by_cases e:m=k
  · subst e
    simp [hms]
  · have hne:parts[k]≠parts[m]:=nd_ne hn hk hm (Ne.symm e)
    simp [e,hne]
theorem Ys.all {parts votes:List Int} {ys:Array Bool} (h:Ys parts votes ys) (hn:parts.Nodup) (hv:votes.length < parts.length):¬∀j,j < parts.length→ys[j]! = true:=by
  intro ha
  have:parts.length≤votes.length:=hn.length_le_of_subset fun z hz=>by
    obtain ⟨k,hk,rfl⟩:=List.mem_iff_getElem.1 hz
    exact (h.at_ k hk).1 (ha k hk)
  omega
theorem Ys.full {parts votes:List Int} {ys:Array Bool} (h:Ys parts votes ys) (hvn:votes.Nodup) (hs:∀v∈votes,v∈parts) (hl:votes.length=parts.length):∀j,j < parts.length→ys[j]! = true:=by
  intro j hj
  rw [h.at_ j hj]
  by_cases q:parts[j]∈votes
  · exact q
  · have hn2:(parts[j] :: votes).Nodup:=List.nodup_cons.2 ⟨q,hvn⟩
    have:=hn2.length_le_of_subset (l₂ := parts) fun z hz=>by
      rcases List.mem_cons.1 hz with rfl | hz
      · exact List.getElem_mem hj
      · exact hs z hz
    simp at this
    omega
structure Undec (snap:Stp) (parts:List Int) (x:Dx) (ys:Array Bool) (mo:Stp):Prop where
  kn:x.known=false
  ye:x.yes=false
  ys:Ys parts x.votes ys
  st:x.st=mo
  sub:∀v∈x.votes,v∈parts
  lt:x.votes.length < parts.length
structure OnceI (snap:Stp) (parts:List Int) (x:Dx) (ys:Array Bool) (kn cm:Bool) (mo wh:Stp):Prop where
  sn:x.snap=snap
  pa:x.parts=parts
  yl:ys.size=parts.length
  kt:kn=true→x.known=true∧x.yes=cm∧x.st=wh
  kf:kn=false→Undec snap parts x ys mo∧cm=false∧wh=⟨0,0⟩
  gt:cm=true→0 < cmpS wh snap
structure MidI (snap:Stp) (parts:List Int) (x:Dx) (ys:Array Bool) (kn cm:Bool) (mo wh:Stp):Prop where
  sn:x.snap=snap
  pa:x.parts=parts
  yl:ys.size=parts.length
  kt:kn=true→x.known=true∧x.yes=cm∧x.st=wh
  kf:kn=false→cm=false∧wh=⟨0,0⟩∧(Undec snap parts x ys mo∨((∀j,j < parts.length→ys[j]! = true)∧x.known=true∧x.yes=true∧x.st=mo∧0 < cmpS mo snap))
  gt:cm=true→0 < cmpS wh snap
theorem OnceI.mid {snap:Stp} {parts:List Int} {x:Dx} {ys:Array Bool} {kn cm:Bool} {mo wh:Stp} (h:OnceI snap parts x ys kn cm mo wh):MidI snap parts x ys kn cm mo wh :=
  ⟨h.sn,h.pa,h.yl,h.kt,fun q=>⟨(h.kf q).2.1,(h.kf q).2.2,.inl (h.kf q).1⟩,h.gt⟩
theorem MidI.some {snap:Stp} {parts:List Int} {x:Dx} {ys:Array Bool} {kn cm:Bool} {mo wh:Stp} (h:MidI snap parts x ys kn cm mo wh) (hn:parts.Nodup) (ha:kn=true∨¬∀j,j < parts.length→ys[j]! = true):OnceI snap parts x ys kn cm mo wh:=by
  refine ⟨h.sn,h.pa,h.yl,h.kt,fun q => ?_,h.gt⟩
  obtain ⟨h1,h2,h3⟩:=h.kf q
  rcases h3 with h3 | h3
  · exact ⟨h3,h1,h2⟩
  · rcases ha with ha | ha
    · rw [q] at ha; cases ha
    · exact absurd h3.1 ha
theorem MidI.all {snap:Stp} {parts:List Int} {x:Dx} {ys:Array Bool} {cm:Bool} {mo wh:Stp} (h:MidI snap parts x ys false cm mo wh) (hn:parts.Nodup) (ha:∀j,j < parts.length→ys[j]! = true):OnceI snap parts x ys true true mo mo:=by
  obtain ⟨h1,h2,h3⟩:=h.kf rfl
  rcases h3 with h3 | h3
  · exact absurd ha (h3.ys.all hn h3.lt)
  · exact ⟨h.sn,h.pa,h.yl,fun _=>⟨h3.2.1,h3.2.2.1,h3.2.2.2.1⟩,fun q=>(by cases q),fun _=>h3.2.2.2.2⟩
theorem OnceI.dec {snap:Stp} {parts:List Int} {x:Dx} {ys:Array Bool} {kn cm:Bool} {mo wh:Stp} (h:OnceI snap parts x ys kn cm mo wh):decD x=(kn,cm,wh):=by
  unfold decD
  cases kn with
  | true =>
    obtain ⟨h1,h2,h3⟩:=h.kt rfl
    rw [if_pos h1,h2,h3]
  | false =>
    obtain ⟨h1,h2,h3⟩:=h.kf rfl
    rw [if_neg (by rw [h1.kn]; simp),h2,h3]
theorem OnceI.ack {snap:Stp} {parts:List Int} {x:Dx} {ys:Array Bool} {kn cm:Bool} {mo wh:Stp} (h:OnceI snap parts x ys kn cm mo wh) (part:Int):OnceI snap parts (ackD x part).2 ys kn cm mo wh:=by
  unfold ackD
  split
  · exact h
  split
  · exact h
  · exact ⟨h.sn,h.pa,h.yl,h.kt,fun q=>⟨⟨(h.kf q).1.kn,(h.kf q).1.ye,(h.kf q).1.ys,(h.kf q).1.st,(h.kf q).1.sub,(h.kf q).1.lt⟩,(h.kf q).2⟩,h.gt⟩
theorem OnceI.give {snap:Stp} {parts:List Int} {x:Dx} {ys:Array Bool} {kn cm:Bool} {mo wh:Stp} (h:OnceI snap parts x ys kn cm mo wh):MidI snap parts (giveD x) ys true cm mo wh:=by
  unfold giveD
  cases kn with
  | true =>
    obtain ⟨h1,h2,h3⟩:=h.kt rfl
    rw [if_pos h1]
    exact ⟨h.sn,h.pa,h.yl,fun _=>⟨h1,h2,h3⟩,fun q=>(by cases q),h.gt⟩
  | false =>
    obtain ⟨h1,h2,h3⟩:=h.kf rfl
    rw [if_neg (by rw [h1.kn]; simp)]
    exact ⟨h.sn,h.pa,h.yl,fun _=>⟨rfl,h1.ye.trans h2.symm,h3.symm⟩,fun q=>(by cases q),h.gt⟩
theorem OnceI.no {snap:Stp} {parts:List Int} {x:Dx} {ys:Array Bool} {cm:Bool} {mo wh:Stp} (h:OnceI snap parts x ys false cm mo wh) (part:Int):MidI snap parts { x with votes:=x.votes ++ [part],known:=true,st:=⟨0,0⟩ } ys true cm mo wh:=by
  obtain ⟨h1,h2,h3⟩:=h.kf rfl
  exact ⟨h.sn,h.pa,h.yl,fun _=>⟨rfl,h1.ye.trans h2.symm,h3.symm⟩,fun q=>(by cases q),h.gt⟩
theorem OnceI.one {snap:Stp} {parts:List Int} {x:Dx} {ys:Array Bool} {cm:Bool} {mo wh:Stp} (h:OnceI snap parts x ys false cm mo wh) (hn:parts.Nodup) (m:Nat) (hm:m < parts.length) (a:Stp) (hl:¬x.votes.length + 1=x.parts.length):MidI snap parts { x with votes:=x.votes ++ [parts[m]],st:=maxS x.st a } (ys.setIfInBounds m true) false cm (maxS mo a) wh:=by
  obtain ⟨h1,h2,h3⟩:=h.kf rfl
  refine ⟨h.sn,h.pa,by simpa using h.yl,fun q=>(by cases q),fun _=>⟨h2,h3,.inl ⟨h1.kn,h1.ye,h1.ys.add hn hm,by dsimp only; rw [h1.st],fun v hv => ?_,?_⟩⟩,h.gt⟩
  · rcases List.mem_append.1 hv with hv | hv
    · exact h1.sub v hv
    · rw [List.mem_singleton.1 hv]; exact List.getElem_mem hm
  · have:=h1.lt
    rw [h.pa] at hl
    simp
    omega
theorem OnceI.last {snap:Stp} {parts:List Int} {x:Dx} {ys:Array Bool} {cm:Bool} {mo wh:Stp} (h:OnceI snap parts x ys false cm mo wh) (hn:parts.Nodup) (hvn:x.votes.Nodup) (m:Nat) (hm:m < parts.length) (hv:parts[m]∉x.votes) (a:Stp) (ha:0 < cmpS a snap) (hl:x.votes.length + 1=x.parts.length):MidI snap parts { x with votes:=x.votes ++ [parts[m]],known:=true,yes:=true,st:=maxS x.st a } (ys.setIfInBounds m true) false cm (maxS mo a) wh:=by
  obtain ⟨h1,h2,h3⟩:=h.kf rfl
  refine ⟨h.sn,h.pa,by simpa using h.yl,fun q=>(by cases q),fun _=>⟨h2,h3,.inr ⟨?_,rfl,rfl,by dsimp only; rw [h1.st],maxS_pos ha⟩⟩,h.gt⟩
  refine (h1.ys.add hn hm).full ?_ ?_ ?_
  · rw [List.nodup_append]
    exact ⟨hvn,by simp,fun p hp q hq=>by rw [List.mem_singleton.1 hq]; exact fun e=>hv (e▸hp)⟩
  · intro v hv
    rcases List.mem_append.1 hv with hv | hv
    · exact h1.sub v hv
    · rw [List.mem_singleton.1 hv]; exact List.getElem_mem hm
  · rw [h.pa] at hl; simp; omega
end Go.AM
namespace Go.AM
open Go
theorem loop_ruleS {C : CallW} {P : Program} {rd : Bool} (hC : LeC C C) {m : List Bool} {b : LCode} {n0 : Nat} {is : List Item} {fr : Fr} {S : List (List AV)} {H : List HObj} {K : KC} {α : Type} (μ : α → Nat) (F : α → Fr) (I : α → Prop) (a0 : α)
    (h0:I a0) (hk:keep m fr=F a0) (hS:S.take n0=S) (hu:∀a,I a→underL n0 (F a)=true)
    (step:∀a,I a→(∀a' fr' S' H',μ a' < μ a→I a'→keep m fr'=F a'→S'.take n0=S→H'=H→runLp C P rd m b n0 is fr' ⟨S',H'⟩ K)→runC C P rd b (.lp m b n0 :: is) (F a) ⟨S,H⟩ K) :
    runLp C P rd m b n0 is fr ⟨S,H⟩ K :=
  loop_rule hC μ F (fun _=>S) (fun _=>H) I a0 h0 hk hS rfl hu step
end Go.AM
namespace Go.AM
open Go
open AV renaming undef → uu
set_option maxRecDepth 20000
def bz (ys:Array Bool):List AV:=ys.toList.map fun b => .s (.bool b)
theorem bz_low (n:Nat) (ys:Array Bool):AV.under.go n (bz ys)=true:=by
  unfold bz
  generalize ys.toList=l
  induction l with
  | nil=>rfl
  | cons x l ih=>rw [List.map_cons]; exact ih
theorem bz_rep:∀n:Nat,(List.replicate n (AV.s (.bool false)).cells).flatten=bz (Array.replicate n false):=by
  intro n
  unfold bz
  rw [Array.toList_replicate,List.map_replicate]
  induction n with
  | zero=>rfl
  | succ n ih=>rw [List.replicate_succ,List.flatten_cons,ih]; rfl
theorem mk_bz {S:List (List AV)} {H:List HObj} {n:Nat} (hn:n≤1000):mkslL false false ⟨1,false,1,.s (.bool false)⟩ (.s (.int .i64 (n:Int))) (.s (.int .i64 (n:Int))) ⟨S,H⟩=some (.row (.stk S.length) 0 n n,⟨S ++ [bz (Array.replicate n false)],H⟩):=by
  unfold mkslL
  dsimp only
  rw [if_pos (by omega)]
  simp only [Int.toNat_natCast,bz_rep]
  rw [newBox_stk (bz_low _ _)]
  rfl
theorem bz_get {ys:Array Bool} {i:Nat} (hi:i < ys.size):(bz ys)[i]? = some (.s (.bool ys[i]!)):=by
  unfold bz
  rw [List.getElem?_map,Array.getElem?_toList,Array.getElem?_eq_getElem hi]
  simp [hi]
theorem rdb {S:List (List AV)} {H:List HObj} {j i:Nat} {ys:Array Bool} (h:S[j]? = some (bz ys)) (hi:i < ys.size):load1L false (.ptr (.stk j) i) ⟨S,H⟩=some (.s (.bool ys[i]!),⟨S,H⟩):=by
  simp only [load1L,boxOf_stk,h,Option.bind_some,bz_get hi]; rfl
theorem wrb {S:List (List AV)} {H:List HObj} {j i:Nat} {ys:Array Bool} {v:Bool} (h:S[j]? = some (bz ys)) (hi:i < ys.size):storeL 1 (.ptr (.stk j) i) (.s (.bool v)) ⟨S,H⟩=some ⟨S.set j (bz (ys.setIfInBounds i v)),H⟩:=by
  have hl:(bz ys).length=ys.size:=by simp [bz]
  have e:(bz ys).set i (.s (.bool v))=bz (ys.setIfInBounds i v):=by unfold bz; rw [Array.toList_setIfInBounds,List.map_set]
  have hb:boxOf ⟨S,H⟩ (.stk j)=some (bz ys):=by rw [boxOf_stk,h]
  simp [storeL,AV.cells,AV.fit,writeCells,hb,splice,e,mayHold,AV.under.go,AV.under,setBox,hl,Nat.succ_le_of_lt hi]
theorem ixl_p {l:List Int} {i:Nat} (h:i < l.length) (k:IntKind):indexAddrL (.sl 1) (.list .sh 1 (l.map pI)) (.s (.int k (i:Int)))=some (.rop [.s (.int .i64 l[i])]):=ixl_map h (by omega)
structure OA where
  i:Nat
  H:List HObj
  x:Dx
  ys:Array Bool
  kn:Bool
  cm:Bool
  mo:Stp
  wh:Stp
def PlI (parts:List Int) (part:Int) (k:Nat) (p:Int):Prop:=(p = -1∧∀j (h:j < parts.length),j < k→parts[j]≠part)∨∃m,∃h:m < parts.length,m < k∧p=(m:Int)∧parts[m]=part
theorem PlI.step {parts:List Int} {part p:Int} {k:Nat} (h:PlI parts part k p) (hk:k < parts.length) (e:parts[k]≠part):PlI parts part (k + 1) p:=by
  rcases h with ⟨h1,h2⟩ | ⟨m,h,h1,h2,h3⟩
  · refine .inl ⟨h1,fun j hj q => ?_⟩
    rcases Nat.lt_or_ge j k with q' | q'
    · exact h2 j hj q'
    · have:j=k:=by omega
      subst this; exact e
  · exact .inr ⟨m,h,by omega,h2,h3⟩
theorem PlI.end_ {parts:List Int} {part p:Int} (h:PlI parts part parts.length p):(p = -1∧part∉parts)∨∃m,∃h:m < parts.length,p=(m:Int)∧parts[m]=part:=by
  rcases h with ⟨h1,h2⟩ | ⟨m,h,h1,h2,h3⟩
  · refine .inl ⟨h1,fun q => ?_⟩
    obtain ⟨j,hj,e⟩:=List.mem_iff_getElem.1 q
    exact h2 j hj hj e
  · exact .inr ⟨m,h,h2,h3⟩
set_option maxHeartbeats 32000000 in
theorem CoordOnce_spec {C:CallW} (hC:LeC C C) (P:Program) {c:Nat→FuncId} (h0:AwCS C (c 0)) (h1:NewCS C (c 1)) (h2:BegS C (c 2)) (h3:VoteS C (c 3)) (h4:MaxS C (c 4)) (h5:AckS C (c 5)) (h6:GiveS C (c 6)) (h7:DecS C (c 7)) (h8:CmpSS C (c 8)):∀(snap:Stp) (parts:List Int) (l:List CAct) S H (K:AV→St→Prop),parts.length≤9223372036854775807→l.length≤9223372036854775807→(∀H',K (.bool true) ⟨S,H'⟩)→runL C P (C_hourglasslaw18_CoordOnce c) [.agg (stc snap),lstN parts,.list .sh 16 (l.map cactA)] ⟨S,H⟩ K:=by
  intro snap parts l S H K hpl hl hK
  simp only [stc,lstN,C_hourglasslaw18_CoordOnce,A_,simprocAttr,ne_eq,(U_hourglasslaw18_CoordOnce _).1]
  refine h0 _ _ _ fun H1 => ?_
  by_cases h8':8 < parts.length
  · have e1:((8:Int) < (parts.length:Int))=True:=eq_true (by omega)
    simp only [C_hourglasslaw18_CoordOnce,A_,simprocAttr,ne_eq,(U_hourglasslaw18_CoordOnce _).1,e1]
    exact hK _
  have e1:((8:Int) < (parts.length:Int))=False:=eq_false (by omega)
  by_cases h40:60 < l.length
  · have e2:((60:Int) < (l.length:Int))=True:=eq_true (by omega)
    simp only [C_hourglasslaw18_CoordOnce,A_,simprocAttr,ne_eq,(U_hourglasslaw18_CoordOnce _).1,e1,e2]
    exact hK _
  have e2:((60:Int) < (l.length:Int))=False:=eq_false (by omega)
  simp only [C_hourglasslaw18_CoordOnce,A_,simprocAttr,ne_eq,(U_hourglasslaw18_CoordOnce _).1,e1,e2]
  refine h1 _ _ _ ?_
  have t0:=newC (H:=H1)
  generalize H1 ++ [HObj.map [] 0,.cells [.map H1.length]]=H0 at t0 ⊢
  generalize H1.length + 1=h at t0 ⊢
  generalize H1.length=hm at t0
  simp only [C_hourglasslaw18_CoordOnce,A_,simprocAttr,ne_eq,(U_hourglasslaw18_CoordOnce _).1]
  refine h2 h hm 5 snap parts _ _ _ t0 (by omega) (fun hb => ?_) (fun hb H2 b hv ha k _ _ _ t => ?_)
  · simp only [C_hourglasslaw18_CoordOnce,A_,simprocAttr,ne_eq,(U_hourglasslaw18_CoordOnce _).1]
    exact hK _
  have hp:goodParts parts=true:=by
    unfold badB at hb
    simp only [Bool.or_eq_false_iff,Bool.not_eq_false'] at hb
    exact hb.2
  have hnd:=goodParts_nodup hp
  have mk:=fun S' H'=>mk_bz (S:=S') (H:=H') (n:=parts.length) (by omega)
  simp only [C_hourglasslaw18_CoordOnce,A_,simprocAttr,ne_eq,(U_hourglasslaw18_CoordOnce _).1,mk]
  refine loop_rule hC (α:=OA) (fun a=>l.length - a.i) (fun a=>[.undef,.list .sh 1 (parts.map pI),.list .sh 16 (l.map cactA),.ptr (.stk S.length) 0,uu,uu,uu,.ptr (.heap h) 0,.row (.stk (S.length + 1)) 0 parts.length parts.length,.s (.bool a.kn),.s (.bool a.cm),.ptr (.stk (S.length + 2)) 0,.ptr (.stk (S.length + 3)) 0,.s (.int .i64 (a.i:Nat)),uu,uu,uu,uu,uu,uu,uu,uu,uu,uu,uu,uu,uu,uu,uu,uu,uu,uu,uu,uu,uu,uu,uu,uu,uu,uu,uu,uu,uu,uu,uu,uu,uu,uu,uu,uu,uu,uu,uu,uu,uu,uu,uu,uu,uu,uu,uu,uu,uu,uu,uu,uu,uu,uu,uu,uu,uu,uu,uu,uu,uu,uu,uu,uu,uu,uu,uu,uu,uu,uu,uu,uu,uu,uu,uu,uu,uu,uu,uu,uu,uu,uu,uu,uu,uu,uu,uu,uu,uu,uu,uu,uu,uu,uu,uu,uu,uu,uu,uu,uu,uu,uu,uu,uu,uu,uu,uu,uu,uu,uu,uu,uu,uu,uu,uu,uu,uu,uu,uu,uu,uu,uu,uu,uu,uu,uu,uu,uu,uu,uu,uu,uu,uu,uu,uu,uu,uu,uu,uu,uu,uu,uu,uu,uu,uu,uu,uu,uu,uu]) (fun a=>S ++ [[.s (.int .i64 snap.t),u8 snap.n],bz a.ys,[.s (.int .i64 a.mo.t),u8 a.mo.n],[.s (.int .i64 a.wh.t),u8 a.wh.n]]) (fun a=>a.H) (fun a=>a.i≤l.length∧CoX a.H h hm 5 b hv ha a.x∧OnceI snap parts a.x a.ys a.kn a.cm a.mo a.wh) ⟨0,H2,_,Array.replicate parts.length false,false,false,⟨0,0⟩,⟨0,0⟩⟩ ⟨Nat.zero_le _,t,?_⟩ (by simp [keep,zm]) (by rw [app_take_add]; rfl) rfl (fun a _=>by simp [AV.under,AV.under.go]) ?_
  · refine ⟨rfl,rfl,by simp,fun q=>(by cases q),fun _=>⟨⟨rfl,rfl,⟨by simp,fun k hk=>by simp [hk]⟩,rfl,fun v hv=>(by cases hv),?_⟩,rfl,rfl⟩,fun q=>(by cases q)⟩
    exact List.length_pos_iff.2 t.ok.ne
  clear t k
  rintro ⟨i,H3,x,ys,kn,cm,mo,wh⟩ ⟨hi,t,inv⟩ ih
  dsimp only at hi t inv ih ⊢
  by_cases hil:i < l.length
  case neg =>
    have hlt:¬((i:Int) < (l.length:Int)):=by omega
    simp only [C_hourglasslaw18_CoordOnce,A_,simprocAttr,ne_eq,(U_hourglasslaw18_CoordOnce _).1,hlt]
    exact hK _
  have hlt:((i:Int) < (l.length:Int)):=by omega
  have hw:=wrap_succ (i:=i) (by omega)
  have x1:=ixl_cact hil
  generalize l[i]=a at x1
  simp only [cactc] at x1
  simp only [C_hourglasslaw18_CoordOnce,A_,simprocAttr,ne_eq,(U_hourglasslaw18_CoordOnce _).1,CHK_,Nat.reduceBEq,hlt,x1]
  have tail:∀(H4:List HObj) (x':Dx) (ys':Array Bool) (kn':Bool) (mo':Stp) (XC:List AV) (fr:Fr),keep (zm false [1,3,3,7,4,2,143]) fr=[.undef,.list .sh 1 (parts.map pI),.list .sh 16 (l.map cactA),.ptr (.stk S.length) 0,uu,uu,uu,.ptr (.heap h) 0,.row (.stk (S.length + 1)) 0 parts.length parts.length,.s (.bool kn'),.s (.bool cm),.ptr (.stk (S.length + 2)) 0,.ptr (.stk (S.length + 3)) 0,.s (.int .i64 (i:Nat)),uu,uu,uu,uu,.s (.bool true),.s (.int .i64 0),uu,uu,uu,uu,uu,uu,uu,uu,uu,uu,uu,uu,uu,uu,uu,uu,uu,uu,uu,uu,uu,uu,uu,uu,uu,uu,uu,uu,uu,uu,uu,uu,uu,uu,uu,uu,uu,uu,uu,uu,uu,uu,uu,uu,uu,uu,uu,uu,uu,uu,uu,uu,uu,uu,uu,uu,uu,uu,uu,uu,uu,uu,uu,uu,uu,uu,uu,uu,uu,uu,uu,uu,uu,uu,uu,uu,uu,uu,uu,uu,uu,uu,uu,uu,uu,uu,uu,uu,uu,uu,uu,uu,uu,uu,uu,uu,uu,uu,uu,uu,uu,uu,uu,uu,uu,uu,uu,uu,uu,uu,uu,uu,uu,uu,uu,uu,uu,uu,uu,uu,uu,uu,uu,uu,uu,uu,uu,uu,uu,uu,uu,uu,uu,uu,uu,uu,uu,uu,uu,uu,uu,uu,uu]→CoX H4 h hm 5 b hv ha x'→MidI snap parts x' ys' kn' cm mo' wh→runLp C P false (zm false [1,3,3,7,4,2,143]) (y20t17 c) (S.length + 5) [.blk 5,.c (y20t22 c),.blk 1,.c (y20t26 c),.lp (zm false [1,3,3,7,149]) (y20t28 c) (S.length + 4),.blk 0,.c ((LCode.sq [zs 6 (LOp.mv true zT)]).seq LCode.ret)] fr ⟨S ++ [[.s (.int .i64 snap.t),u8 snap.n],bz ys',[.s (.int .i64 mo'.t),u8 mo'.n],[.s (.int .i64 wh.t),u8 wh.n],XC],H4⟩ (fin S.length [.t 6] K):=by
    intro H4 x' ys' kn' mo' XC fr hfr t' mid
    refine loop_ruleS hC (α:=Nat×Bool) (fun q=>parts.length - q.1) (fun q=>[.undef,.list .sh 1 (parts.map pI),.list .sh 16 (l.map cactA),.ptr (.stk S.length) 0,uu,uu,uu,.ptr (.heap h) 0,.row (.stk (S.length + 1)) 0 parts.length parts.length,.s (.bool kn'),.s (.bool cm),.ptr (.stk (S.length + 2)) 0,.ptr (.stk (S.length + 3)) 0,.s (.int .i64 (i:Nat)),uu,uu,uu,uu,.s (.bool q.2),.s (.int .i64 (q.1:Nat)),uu,uu,uu,uu,uu,uu,uu,uu,uu,uu,uu,uu,uu,uu,uu,uu,uu,uu,uu,uu,uu,uu,uu,uu,uu,uu,uu,uu,uu,uu,uu,uu,uu,uu,uu,uu,uu,uu,uu,uu,uu,uu,uu,uu,uu,uu,uu,uu,uu,uu,uu,uu,uu,uu,uu,uu,uu,uu,uu,uu,uu,uu,uu,uu,uu,uu,uu,uu,uu,uu,uu,uu,uu,uu,uu,uu,uu,uu,uu,uu,uu,uu,uu,uu,uu,uu,uu,uu,uu,uu,uu,uu,uu,uu,uu,uu,uu,uu,uu,uu,uu,uu,uu,uu,uu,uu,uu,uu,uu,uu,uu,uu,uu,uu,uu,uu,uu,uu,uu,uu,uu,uu,uu,uu,uu,uu,uu,uu,uu,uu,uu,uu,uu,uu,uu,uu,uu,uu,uu,uu,uu,uu,uu]) (fun q=>q.1≤parts.length∧(q.2=true↔∀j,j < q.1→ys'[j]! = true)) (0,true) ⟨Nat.zero_le _,by simp⟩ hfr (by rw [app_take_add]; rfl) (fun q _=>by simp [AV.under,AV.under.go]) ?_
    rintro ⟨k,al⟩ ⟨hk,hal⟩ ih3
    dsimp only at hk hal ih3 ⊢
    by_cases hkl:k < parts.length
    · have hlt2:((k:Int) < (parts.length:Int)):=by omega
      have hw2:=wrap_succ (i:=k) (by omega)
      have hix:=fun k'=>ixr_n (r := .stk (S.length + 1)) (off:=0) (cap:=parts.length) (c:=1) (k:=k') hkl (by decide)
      have rb:=rdb (S:=S ++ [[.s (.int .i64 snap.t),u8 snap.n],bz ys',[.s (.int .i64 mo'.t),u8 mo'.n],[.s (.int .i64 wh.t),u8 wh.n],XC]) (H:=H4) (i:=k) (app_get _ _ 1) (by rw [mid.yl]; exact hkl)
      cases al with
      | true =>
        simp only [C_hourglasslaw18_CoordOnce,A_,simprocAttr,ne_eq,(U_hourglasslaw18_CoordOnce _).1,CHK_,Nat.reduceBEq,hlt2,hix,Nat.mul_one,Nat.zero_add,rb,hw2]
        refine ih3 (k + 1,ys'[k]!) _ _ _ (by dsimp only; omega) ⟨by dsimp only; omega,?_⟩ (by simp [keep,zm]) (by rw [app_take_add]; rfl) rfl
        dsimp only
        constructor
        · intro e j hj
          rcases Nat.lt_or_ge j k with q | q
          · exact hal.1 rfl j q
          · have:j=k:=by omega
            subst this; exact e
        · intro e; exact e k (by omega)
      | false =>
        simp only [C_hourglasslaw18_CoordOnce,A_,simprocAttr,ne_eq,(U_hourglasslaw18_CoordOnce _).1,CHK_,Nat.reduceBEq,hlt2,hw2]
        refine ih3 (k + 1,false) _ _ _ (by dsimp only; omega) ⟨by dsimp only; omega,?_⟩ (by simp [keep,zm]) (by rw [app_take_add]; rfl) rfl
        dsimp only
        constructor
        · intro e; cases e
        · intro e; exact absurd (hal.2 fun j hj=>e j (by omega)) (by simp)
    have hk':k=parts.length:=by omega
    subst hk'
    clear ih3
    have hlt2:¬((parts.length:Int) < (parts.length:Int)):=by omega
    cases al with
    | true =>
      have hall:=hal.1 rfl
      cases kn' with
      | false =>
        have inv2:=mid.all hnd hall
        have t2:=inv2.dec
        simp only [C_hourglasslaw18_CoordOnce,A_,simprocAttr,ne_eq,(U_hourglasslaw18_CoordOnce _).1,CHK_,Nat.reduceBEq,WR_,hlt2]
        refine h7 h hm b hv ha 5 x' _ _ _ t' ?_
        rw [t2]
        simp only [stc,C_hourglasslaw18_CoordOnce,A_,simprocAttr,ne_eq,(U_hourglasslaw18_CoordOnce _).1,CHK_,Nat.reduceBEq,WR_]
        refine h8 mo' snap _ _ _ ?_
        have e9:=inv2.gt rfl
        have e9:¬(cmpS mo' snap≤0):=by omega
        simp only [stc,C_hourglasslaw18_CoordOnce,A_,simprocAttr,ne_eq,(U_hourglasslaw18_CoordOnce _).1,CHK_,Nat.reduceBEq,WR_,e9,hw]
        exact ih ⟨i + 1,H4,x',ys',true,true,mo',mo'⟩ _ _ _ (by dsimp only; omega) ⟨by dsimp only; omega,t',inv2⟩ (by simp [keep,zm]) (by rw [app_take_add]; rfl) rfl
      | true =>
        have inv2:=mid.some hnd (.inl rfl)
        cases cm with
        | false =>
          have t2:=inv2.dec
          simp only [C_hourglasslaw18_CoordOnce,A_,simprocAttr,ne_eq,(U_hourglasslaw18_CoordOnce _).1,CHK_,Nat.reduceBEq,WR_,hlt2]
          refine h7 h hm b hv ha 5 x' _ _ _ t' ?_
          rw [t2]
          simp only [stc,C_hourglasslaw18_CoordOnce,A_,simprocAttr,ne_eq,(U_hourglasslaw18_CoordOnce _).1,CHK_,Nat.reduceBEq,WR_]
          simp only [hw]
          exact ih ⟨i + 1,H4,x',ys',true,false,mo',wh⟩ _ _ _ (by dsimp only; omega) ⟨by dsimp only; omega,t',inv2⟩ (by simp [keep,zm]) (by rw [app_take_add]; rfl) rfl
        | true =>
          have t2:=inv2.dec
          simp only [C_hourglasslaw18_CoordOnce,A_,simprocAttr,ne_eq,(U_hourglasslaw18_CoordOnce _).1,CHK_,Nat.reduceBEq,WR_,hlt2]
          refine h7 h hm b hv ha 5 x' _ _ _ t' ?_
          rw [t2]
          simp only [stc,C_hourglasslaw18_CoordOnce,A_,simprocAttr,ne_eq,(U_hourglasslaw18_CoordOnce _).1,CHK_,Nat.reduceBEq,WR_]
          refine h8 wh snap _ _ _ ?_
          have e9:=inv2.gt rfl
          have e9:¬(cmpS wh snap≤0):=by omega
          simp only [stc,C_hourglasslaw18_CoordOnce,A_,simprocAttr,ne_eq,(U_hourglasslaw18_CoordOnce _).1,CHK_,Nat.reduceBEq,WR_,e9,hw]
          exact ih ⟨i + 1,H4,x',ys',true,true,mo',wh⟩ _ _ _ (by dsimp only; omega) ⟨by dsimp only; omega,t',inv2⟩ (by simp [keep,zm]) (by rw [app_take_add]; rfl) rfl
    | false =>
      have inv2:=mid.some hnd (.inr fun e=>by have:=hal.2 e; cases this)
      cases kn' with
      | false =>
        have hcm:=(mid.kf rfl).1
        subst hcm
        have t2:=inv2.dec
        simp only [C_hourglasslaw18_CoordOnce,A_,simprocAttr,ne_eq,(U_hourglasslaw18_CoordOnce _).1,CHK_,Nat.reduceBEq,WR_,hlt2]
        refine h7 h hm b hv ha 5 x' _ _ _ t' ?_
        rw [t2]
        simp only [stc,C_hourglasslaw18_CoordOnce,A_,simprocAttr,ne_eq,(U_hourglasslaw18_CoordOnce _).1,CHK_,Nat.reduceBEq,WR_]
        simp only [hw]
        exact ih ⟨i + 1,H4,x',ys',false,false,mo',wh⟩ _ _ _ (by dsimp only; omega) ⟨by dsimp only; omega,t',inv2⟩ (by simp [keep,zm]) (by rw [app_take_add]; rfl) rfl
      | true =>
        cases cm with
        | false =>
          have t2:=inv2.dec
          simp only [C_hourglasslaw18_CoordOnce,A_,simprocAttr,ne_eq,(U_hourglasslaw18_CoordOnce _).1,CHK_,Nat.reduceBEq,WR_,hlt2]
          refine h7 h hm b hv ha 5 x' _ _ _ t' ?_
          rw [t2]
          simp only [stc,C_hourglasslaw18_CoordOnce,A_,simprocAttr,ne_eq,(U_hourglasslaw18_CoordOnce _).1,CHK_,Nat.reduceBEq,WR_]
          simp only [hw]
          exact ih ⟨i + 1,H4,x',ys',true,false,mo',wh⟩ _ _ _ (by dsimp only; omega) ⟨by dsimp only; omega,t',inv2⟩ (by simp [keep,zm]) (by rw [app_take_add]; rfl) rfl
        | true =>
          have t2:=inv2.dec
          simp only [C_hourglasslaw18_CoordOnce,A_,simprocAttr,ne_eq,(U_hourglasslaw18_CoordOnce _).1,CHK_,Nat.reduceBEq,WR_,hlt2]
          refine h7 h hm b hv ha 5 x' _ _ _ t' ?_
          rw [t2]
          simp only [stc,C_hourglasslaw18_CoordOnce,A_,simprocAttr,ne_eq,(U_hourglasslaw18_CoordOnce _).1,CHK_,Nat.reduceBEq,WR_]
          refine h8 wh snap _ _ _ ?_
          have e9:=inv2.gt rfl
          have e9:¬(cmpS wh snap≤0):=by omega
          simp only [stc,C_hourglasslaw18_CoordOnce,A_,simprocAttr,ne_eq,(U_hourglasslaw18_CoordOnce _).1,CHK_,Nat.reduceBEq,WR_,e9,hw]
          exact ih ⟨i + 1,H4,x',ys',true,true,mo',wh⟩ _ _ _ (by dsimp only; omega) ⟨by dsimp only; omega,t',inv2⟩ (by simp [keep,zm]) (by rw [app_take_add]; rfl) rfl
  refine loop_ruleS hC (α:=Nat×Int) (fun q=>parts.length - q.1) (fun q=>[.undef,.list .sh 1 (parts.map pI),.list .sh 16 (l.map cactA),.ptr (.stk S.length) 0,uu,uu,uu,.ptr (.heap h) 0,.row (.stk (S.length + 1)) 0 parts.length parts.length,.s (.bool kn),.s (.bool cm),.ptr (.stk (S.length + 2)) 0,.ptr (.stk (S.length + 3)) 0,.s (.int .i64 (i:Nat)),.ptr (.stk (S.length + 4)) 0,.s (.int .i64 q.2),.s (.int .i64 (q.1:Nat)),uu,uu,uu,uu,uu,uu,uu,uu,uu,uu,uu,uu,uu,uu,uu,uu,uu,uu,uu,uu,uu,uu,uu,uu,uu,uu,uu,uu,uu,uu,uu,uu,uu,uu,uu,uu,uu,uu,uu,uu,uu,uu,uu,uu,uu,uu,uu,uu,uu,uu,uu,uu,uu,uu,uu,uu,uu,uu,uu,uu,uu,uu,uu,uu,uu,uu,uu,uu,uu,uu,uu,uu,uu,uu,uu,uu,uu,uu,uu,uu,uu,uu,uu,uu,uu,uu,uu,uu,uu,uu,uu,uu,uu,uu,uu,uu,uu,uu,uu,uu,uu,uu,uu,uu,uu,uu,uu,uu,uu,uu,uu,uu,uu,uu,uu,uu,uu,uu,uu,uu,uu,uu,uu,uu,uu,uu,uu,uu,uu,uu,uu,uu,uu,uu,uu,uu,uu,uu,uu,uu,uu,uu,uu,uu,uu,uu]) (fun q=>q.1≤parts.length∧PlI parts a.part q.1 q.2) (0,-1) ⟨Nat.zero_le _,.inl ⟨rfl,fun j _ q=>by omega⟩⟩ (by simp [keep,zm]) (by rw [app_take_add]; rfl) (fun q _=>by simp [AV.under,AV.under.go]) ?_
  rintro ⟨k,p⟩ ⟨hk,hpl2⟩ ih2
  dsimp only at hk hpl2 ih2 ⊢
  by_cases hkl:k < parts.length
  · have hlt2:((k:Int) < (parts.length:Int)):=by omega
    have hw2:=wrap_succ (i:=k) (by omega)
    have x2:=ixl_p hkl
    by_cases e:parts[k]=a.part
    · have e':(parts[k]=a.part)=True:=eq_true e
      simp only [C_hourglasslaw18_CoordOnce,A_,simprocAttr,ne_eq,(U_hourglasslaw18_CoordOnce _).1,CHK_,Nat.reduceBEq,hlt2,x2,e',hw2]
      exact ih2 (k + 1,(k:Int)) _ _ _ (by dsimp only; omega) ⟨by dsimp only; omega,.inr ⟨k,hkl,by dsimp only; omega,rfl,e⟩⟩ (by simp [keep,zm]) (by rw [app_take_add]; rfl) rfl
    · have e':(parts[k]=a.part)=False:=eq_false e
      simp only [C_hourglasslaw18_CoordOnce,A_,simprocAttr,ne_eq,(U_hourglasslaw18_CoordOnce _).1,CHK_,Nat.reduceBEq,hlt2,x2,e',hw2]
      exact ih2 (k + 1,p) _ _ _ (by dsimp only; omega) ⟨by dsimp only; omega,hpl2.step hkl e⟩ (by simp [keep,zm]) (by rw [app_take_add]; rfl) rfl
  have hk':k=parts.length:=by omega
  subst hk'
  clear ih2
  have hplc:=hpl2.end_
  have hlt2:¬((parts.length:Int) < (parts.length:Int)):=by omega
  by_cases ho1:a.op=1
  · have ho1':(a.op=1)=True:=eq_true ho1
    simp only [C_hourglasslaw18_CoordOnce,A_,simprocAttr,ne_eq,(U_hourglasslaw18_CoordOnce _).1,CHK_,Nat.reduceBEq,hlt2,ho1']
    refine h3 h hm b hv ha 5 x a.part a.yes a.st _ _ _ t fun H4 _ t' => ?_
    by_cases hpp:a.part∈parts
    case neg =>
      have hvd:=voteD_none (y:=a.yes) (a:=a.st) (show a.part∉x.parts by rw [inv.pa]; exact hpp)
      rw [hvd] at t' ⊢
      simp only [C_hourglasslaw18_CoordOnce,A_,simprocAttr,ne_eq,(U_hourglasslaw18_CoordOnce _).1,CHK_,Nat.reduceBEq,WR_,show ((4:Int)=0)=False from by simp]
      exact tail _ _ _ _ _ _ _ (by simp [keep,zm]) t' inv.mid
    have hpx:a.part∈x.parts:=by rw [inv.pa]; exact hpp
    obtain ⟨m,hm',hpm,hpe⟩:∃m,∃h:m < parts.length,p=(m:Int)∧parts[m]=a.part:=by
      rcases hplc with q | q
      · exact absurd hpp q.2
      · exact q
    subst hpm
    have hge:((0:Int)≤(m:Int))=True:=eq_true (by omega)
    have hix:=fun k'=>ixr_n (r := .stk (S.length + 1)) (off:=0) (cap:=parts.length) (c:=1) (k:=k') hm' (by decide)
    have hms:m < ys.size:=by rw [inv.yl]; exact hm'
    have rb:=fun mo wh XC=>rdb (S:=S ++ [[.s (.int .i64 snap.t),u8 snap.n],bz ys,mo,wh,XC]) (H:=H4) (i:=m) (app_get _ _ 1) hms
    have wb:=fun mo wh XC=>wrb (S:=S ++ [[.s (.int .i64 snap.t),u8 snap.n],bz ys,mo,wh,XC]) (H:=H4) (i:=m) (v:=true) (app_get _ _ 1) hms
    by_cases hb:a.yes=true∧(goodS a.st=false∨cmpS a.st x.snap≤0)
    · have hvd:=voteD_bad hpx hb
      rw [hvd] at t' ⊢
      simp only [C_hourglasslaw18_CoordOnce,A_,simprocAttr,ne_eq,(U_hourglasslaw18_CoordOnce _).1,CHK_,Nat.reduceBEq,WR_,show ((1:Int)=0)=False from by simp]
      exact tail _ _ _ _ _ _ _ (by simp [keep,zm]) t' inv.mid
    by_cases ho:x.known=true∨a.part∈x.votes
    · have hvd:=voteD_old hpx hb ho
      rw [hvd] at t' ⊢
      cases kn with
      | true =>
        simp only [C_hourglasslaw18_CoordOnce,A_,simprocAttr,ne_eq,(U_hourglasslaw18_CoordOnce _).1,CHK_,Nat.reduceBEq,WR_,hge]
        exact tail _ _ _ _ _ _ _ (by simp [keep,zm]) t' inv.mid
      | false =>
        have hu:=(inv.kf rfl).1
        have hv2:a.part∈x.votes:=ho.resolve_left fun q=>by rw [hu.kn] at q; cases q
        have hym:ys[m]! = true:=(hu.ys.at_ m hm').2 (hpe▸hv2)
        simp only [C_hourglasslaw18_CoordOnce,A_,simprocAttr,ne_eq,(U_hourglasslaw18_CoordOnce _).1,CHK_,Nat.reduceBEq,WR_,hge,hix,Nat.mul_one,Nat.zero_add,rb,hym]
        exact tail _ _ _ _ _ _ _ (by simp [keep,zm]) t' inv.mid
    have hkn:kn=false:=by
      cases kn with
      | false=>rfl
      | true=>exact absurd (.inl (inv.kt rfl).1) ho
    subst hkn
    have hu:=(inv.kf rfl).1
    have hv2:parts[m]∉x.votes:=fun q=>ho (.inr (hpe▸q))
    have hym:ys[m]! = false:=by
      cases hq:ys[m]! with
      | false=>rfl
      | true=>exact absurd ((hu.ys.at_ m hm').1 hq) hv2
    cases hy:a.yes with
    | false =>
      have hvd:=voteD_no (a:=a.st) hpx ho
      rw [hy] at t'
      rw [hvd] at t' ⊢
      simp only [C_hourglasslaw18_CoordOnce,A_,simprocAttr,ne_eq,(U_hourglasslaw18_CoordOnce _).1,CHK_,Nat.reduceBEq,WR_,hge,hix,Nat.mul_one,Nat.zero_add,rb,hym,hy]
      exact tail _ _ _ _ _ _ _ (by simp [keep,zm]) t' (inv.no _)
    | true =>
      have hb':¬(goodS a.st=false∨cmpS a.st x.snap≤0):=fun q=>hb ⟨hy,q⟩
      have hac:0 < cmpS a.st snap:=by
        have hq:¬(cmpS a.st x.snap≤0):=fun q=>hb' (.inr q)
        rw [inv.sn] at hq
        omega
      rw [hy] at t'
      by_cases hlen:x.votes.length + 1=x.parts.length
      · have hvd:=voteD_all hpx hb' ho hlen
        rw [hvd] at t' ⊢
        simp only [C_hourglasslaw18_CoordOnce,A_,simprocAttr,ne_eq,(U_hourglasslaw18_CoordOnce _).1,CHK_,Nat.reduceBEq,WR_,hge,hix,Nat.mul_one,Nat.zero_add,rb,wb,hym,hy]
        refine h4 mo a.st _ _ _ ?_
        simp only [stc,C_hourglasslaw18_CoordOnce,A_,simprocAttr,ne_eq,(U_hourglasslaw18_CoordOnce _).1,CHK_,Nat.reduceBEq,WR_]
        refine tail _ _ _ false _ _ _ (by simp [keep,zm]) t' ?_
        rw [←hpe]
        exact inv.last hnd t.ok.vn m hm' hv2 a.st hac hlen
      · have hvd:=voteD_yes hpx hb' ho hlen
        rw [hvd] at t' ⊢
        simp only [C_hourglasslaw18_CoordOnce,A_,simprocAttr,ne_eq,(U_hourglasslaw18_CoordOnce _).1,CHK_,Nat.reduceBEq,WR_,hge,hix,Nat.mul_one,Nat.zero_add,rb,wb,hym,hy]
        refine h4 mo a.st _ _ _ ?_
        simp only [stc,C_hourglasslaw18_CoordOnce,A_,simprocAttr,ne_eq,(U_hourglasslaw18_CoordOnce _).1,CHK_,Nat.reduceBEq,WR_]
        refine tail _ _ _ false _ _ _ (by simp [keep,zm]) t' ?_
        rw [←hpe]
        exact inv.one hnd m hm' a.st hlen
  have ho1':(a.op=1)=False:=eq_false ho1
  by_cases ho2:a.op=2
  · have ho2':(a.op=2)=True:=eq_true ho2
    simp only [C_hourglasslaw18_CoordOnce,A_,simprocAttr,ne_eq,(U_hourglasslaw18_CoordOnce _).1,CHK_,Nat.reduceBEq,hlt2,ho1',ho2']
    refine h5 h hm b hv ha 5 x a.part _ _ _ t fun H4 _ t' => ?_
    simp only [C_hourglasslaw18_CoordOnce,A_,simprocAttr,ne_eq,(U_hourglasslaw18_CoordOnce _).1,CHK_,Nat.reduceBEq]
    refine tail _ _ _ _ _ _ _ (by simp [keep,zm]) t' (inv.ack _).mid
  have ho2':(a.op=2)=False:=eq_false ho2
  by_cases ho3:a.op=3
  · have ho3':(a.op=3)=True:=eq_true ho3
    simp only [C_hourglasslaw18_CoordOnce,A_,simprocAttr,ne_eq,(U_hourglasslaw18_CoordOnce _).1,CHK_,Nat.reduceBEq,hlt2,ho1',ho2',ho3']
    refine h6 h hm b hv ha 5 x _ _ _ t fun H4 _ t' => ?_
    simp only [C_hourglasslaw18_CoordOnce,A_,simprocAttr,ne_eq,(U_hourglasslaw18_CoordOnce _).1,CHK_,Nat.reduceBEq]
    refine tail _ _ _ _ _ _ _ (by simp [keep,zm]) t' inv.give
  · have ho3':(a.op=3)=False:=eq_false ho3
    simp only [C_hourglasslaw18_CoordOnce,A_,simprocAttr,ne_eq,(U_hourglasslaw18_CoordOnce _).1,CHK_,Nat.reduceBEq,hlt2,ho1',ho2',ho3']
    refine tail _ _ _ _ _ _ _ (by simp [keep,zm]) t inv.mid
end Go.AM
namespace Go.AM
open Go
set_option maxRecDepth 20000
end Go.AM
namespace Go.AM
open Go
set_option maxRecDepth 20000
theorem law13_at_spec {C:CallW} (P:Program):∀(t:Int) S H (K:AV→St→Prop),K (.agg (stc ⟨t,0⟩)) ⟨S,H⟩→runL C P C_hourglasslaw13_at [.s (.int .i64 t)] ⟨S,H⟩ K:=by
  intro t S H K hK
  simp only [C_hourglasslaw13_at,A_,simprocAttr,ne_eq,U_hourglasslaw13_at.1]
  exact hK
end Go.AM
namespace Go.AM
open Go
section
variable {H:Type} {enc:TypeId×Value→H} {P:Program} {w:World} {sp:Nat→Bool} {held:Bool}
theorem of_each {α β:Type} {f:β→α}:∀(l:List α),(∀x∈l,∃b,x=f b)→∃bs:List β,l=bs.map f
  | [],_=>⟨[],rfl⟩
  | x :: l,h=>by
    obtain ⟨b,rfl⟩:=h x List.mem_cons_self
    obtain ⟨bs,rfl⟩:=of_each l fun y hy=>h y (List.mem_cons_of_mem _ hy)
    exact ⟨b :: bs,rfl⟩
theorem trodAll_stays {W W' : World} (hl : laidOutB P = true) (hb : RowKit.Below W.heap.size W W') : ∀ {ts : List TypeId} {vs : List Value} {ds : List (DataW H)} {ps : List MemPlace}, (∀ t ∈ ts, P.readableRec t = true ∧ t < P.types.size) →
    DataW.TrodAll enc P W 0 (fun _=>true) true ts vs ds ps→DataW.TrodAll enc P W' 0 (fun b=>decide (b < W.heap.size)) true ts vs ds ps
  | [],[],[],_,_,h=>h
  | t :: ts,v :: vs,d :: ds,ps,ht,⟨p,q,h1,h2,e⟩=>by
    obtain ⟨n,hn⟩:=h1
    exact ⟨p,q,RowKit.Below.trod hl (ht t List.mem_cons_self).1 (ht t List.mem_cons_self).2 ⟨n,hn⟩ hb (DataW.trod_lt n _ _ _ hn),trodAll_stays hl hb (fun t h=>ht t (List.mem_cons_of_mem _ h)) h2,e⟩
  | [],[],_ :: _,_,_,h=>h.elim
  | [],_ :: _,_,_,_,h=>h.elim
  | _ :: _,[],_,_,_,h=>h.elim
  | _ :: _,_ :: _,[],_,_,h=>h.elim
end
end Go.AM
namespace Go.AM
open Go
section
variable {H:Type} {enc:TypeId×Value→H} {P:Program} {w:World} {sp:Nat→Bool} {held:Bool}
def contig (P:Program):List Field→Nat→Nat→Bool
  | [],o,tot=>o == tot
  | f :: l,o,tot=>f.offset == o && contig P l (o + P.cellsOf f.type) tot
def plainT (P:Program):Nat→TypeId→Bool
  | 0,_=>false
  | d + 1,t=>match P.underlying t with
    | some .bool | some (.int _) | some .string=>true
    | some (.slice e)=>decide (0 < P.cellsOf e) && (isAgg P e || P.cellsOf e == 1) && plainT P d e
    | some (.struct fs)=>contig P fs.toList 0 (P.cellsOf t) && fs.toList.all fun f=>plainT P d f.type
    | some (.array m e)=>P.cellsOf t == m * P.cellsOf e && plainT P d e
    | _=>false
def shp (P:Program):Nat→TypeId→List AV→Prop
  | 0,_,_=>False
  | d + 1,t,as=>match P.underlying t with
    | some .bool=>∃b,as=[.s (.bool b)]
    | some (.int k)=>∃i,as=[.s (.int k i)]∧(Lit.int k i).wf=true
    | some .string=>∃l,as=[.s (.str l)]∧l.length≤maxLen
    | some (.slice e)=>∃es:List AV,as=[.list .sh (P.cellsOf e) es]∧es.length≤maxLen∧∀x∈es,shp P d e x.cells∧(isAgg P e=true→x = .agg x.cells)∧(isAgg P e=false→x.cells=[x])
    | some (.struct fs)=>fs.toList.foldr (fun f (Q:List AV→Prop) as=>∃a b,as=a ++ b∧shp P d f.type a∧Q b) (fun as=>as=[]) as
    | some (.array m e)=>∃ps:List (List AV),ps.length=m∧as=ps.flatten∧∀p∈ps,shp P d e p
    | _=>False
structure Tells (w:World) (as:List AV) (cs:List Value):Prop where
  vl:VL G.none w as cs
  cell:∀c∈as,c.isCell=true
  low:AV.under.go 0 as=true
theorem Tells.nil:Tells w [] []:=⟨.nil,(fun _ h=>by cases h),rfl⟩
theorem Tells.app {a b:List AV} {c d:List Value} (h:Tells w a c) (h':Tells w b d):Tells w (a ++ b) (c ++ d) :=
  ⟨h.vl.app h'.vl,fun x hx=>(List.mem_append.1 hx).elim (h.cell x) (h'.cell x),by rw [under_app',h.low,h'.low]; rfl⟩
theorem Tells.flat:∀{ps:List (List AV)} {qs:List (List Value)},ps.length=qs.length→(∀(i:Nat) (p:List AV) (q:List Value),ps[i]? = some p→qs[i]? = some q→Tells w p q)→Tells w ps.flatten qs.flatten
  | [],[],_,_ => .nil
  | [],_ :: _,h,_=>by simp at h
  | _ :: _,[],h,_=>by simp at h
  | p :: ps,q :: qs,h,hall=>by
    rw [List.flatten_cons,List.flatten_cons]
    exact (hall 0 p q rfl rfl).app (Tells.flat (by simpa using h) fun i a b ha hb=>hall (i + 1) a b (by simpa using ha) (by simpa using hb))
theorem Tells.sc (x:Sc):Tells w [.s x] [x.toV]:=⟨.sc x .nil,fun c hc=>by rw [List.mem_singleton.1 hc]; rfl,rfl⟩
theorem lies_flat {b c:Nat}:∀(qs:List (List Value)) (off:Nat),(∀i q,qs[i]? = some q→w.cells? 0 ⟨b,off + i * c,none⟩ c=some q)→∀j v,qs.flatten[j]? = some v→w.cell? ⟨b,off + j,none⟩=some v
  | [],off,_,j,v,h=>by simp at h
  | q :: qs,off,hall,j,v,h=>by
    have hk:=hall 0 q rfl
    rw [Nat.zero_mul,Nat.add_zero] at hk
    have hs:=World.cells?_some hk
    rw [List.flatten_cons] at h
    by_cases hj:j < c
    · rw [List.getElem?_append_left (by omega)] at h
      have:=hs.2.2 j hj
      rw [Addr.add_lit] at this
      rw [this]; exact h
    · rw [List.getElem?_append_right (by omega),hs.2.1] at h
      have:=lies_flat qs (off + c) (fun i q hi=>by
        have:=hall (i + 1) q (by simpa using hi)
        rw [show off + c + i * c=off + (i + 1) * c by rw [Nat.add_mul]; omega]
        exact this) (j - c) v h
      rwa [show off + c + (j - c)=off + j by omega] at this
theorem choose_list {β:Type} {n:Nat} {p:Nat→β→Prop} (h:∀i,i < n→∃b,p i b):∃l:List β,l.length=n∧∀i b,l[i]? = some b→p i b:=by
  induction n with
  | zero=>exact ⟨[],rfl,fun i b h=>by simp at h⟩
  | succ n ih =>
    obtain ⟨l,hl,hall⟩:=ih fun i hi=>h i (by omega)
    obtain ⟨b,hb⟩:=h n (by omega)
    refine ⟨l ++ [b],by simp [hl],fun i c hc => ?_⟩
    by_cases hi:i < l.length
    · rw [List.getElem?_append_left hi] at hc; exact hall i c hc
    · rw [List.getElem?_append_right (by omega)] at hc
      have:i=n:=by
        have:=(List.getElem?_eq_some_iff.1 hc).1
        simp at this; omega
      subst this
      rw [hl,Nat.sub_self] at hc
      injection hc with hc; subst hc; exact hb
def elemA (ag:Bool) (as:List AV):AV:=match ag with
  | true => .agg as
  | false=>as.getD 0 .undef
theorem elemA_cells {w:World} {ag:Bool} {as:List AV} {cs:List Value} (h:Tells w as cs) (hl:ag=true∨as.length=1):(elemA ag as).cells=as:=by
  cases ag with
  | true=>rfl
  | false =>
    obtain ⟨a,rfl⟩:=List.length_eq_one_iff.1 (hl.resolve_left (by simp))
    have hc:=h.cell a (by simp)
    show a.cells=[a]
    cases a <;> simp [AV.isCell] at hc <;> rfl
theorem elemA_low {w:World} {ag:Bool} {as:List AV} {cs:List Value} (h:Tells w as cs) (hl:ag=true∨as.length=1):AV.under 0 (elemA ag as)=true:=by
  cases ag with
  | true=>exact h.low
  | false =>
    obtain ⟨a,rfl⟩:=List.length_eq_one_iff.1 (hl.resolve_left (by simp))
    have:=h.low
    simpa [elemA,AV.under.go] using this
theorem trod_struct_shp {d m tot : Nat} {cs : List Value} (ih : ∀ t, plainT P d t = true → ∀ N cs x, DataW.trod enc P w 0 sp held N t cs = some x → ∃ as, shp P d t as ∧ Tells w as cs) (htot : cs.length = tot) :
    ∀(l:List Field) (o:Nat),contig P l o tot=true→(l.all fun f=>plainT P d f.type)=true→(∀f∈l,∃x,DataW.trod enc P w 0 sp held m f.type ((cs.drop f.offset).take (P.cellsOf f.type))=some x) →
    ∃as,l.foldr (fun f (Q:List AV→Prop) as=>∃a b,as=a ++ b∧shp P d f.type a∧Q b) (fun as=>as=[]) as∧Tells w as (cs.drop o)
  | [],o,hc,_,_=>by
    have:o=tot:=by simpa [contig] using hc
    subst this
    rw [List.drop_of_length_le (by omega)]
    exact ⟨[],rfl,.nil⟩
  | f :: l,o,hc,hp,hall=>by
    simp only [contig,Bool.and_eq_true,beq_iff_eq] at hc
    simp only [List.all_cons,Bool.and_eq_true] at hp
    obtain ⟨x,hx⟩:=hall f List.mem_cons_self
    obtain ⟨a,ha,hta⟩:=ih _ hp.1 _ _ _ hx
    obtain ⟨b,hb,htb⟩:=trod_struct_shp ih htot l _ hc.2 hp.2 fun g hg=>hall g (List.mem_cons_of_mem _ hg)
    refine ⟨a ++ b,⟨a,b,rfl,ha,hb⟩,?_⟩
    rw [hc.1] at hta
    have:cs.drop o=(cs.drop o).take (P.cellsOf f.type) ++ cs.drop (o + P.cellsOf f.type):=by
      rw [←List.drop_drop,List.take_append_drop]
    rw [this]
    exact hta.app htb
theorem flat_parts {c:Nat}:∀(m:Nat) (cs:List Value),cs.length=m * c→((List.range m).map fun i=>(cs.drop (i * c)).take c).flatten=cs
  | 0,cs,h=>by simp at h; subst h; rfl
  | m + 1,cs,h=>by
    rw [List.range_succ_eq_map,List.map_cons,List.map_map,List.flatten_cons,Nat.zero_mul,List.drop_zero]
    have:=flat_parts (c:=c) m (cs.drop c) (by rw [List.length_drop,h,Nat.add_mul]; omega)
    have e:((fun i=>(cs.drop (i * c)).take c) ∘ Nat.succ)=fun i=>((cs.drop c).drop (i * c)).take c:=by
      funext i
      simp only [Function.comp,List.drop_drop,Nat.succ_eq_add_one,Nat.add_mul,Nat.one_mul]
      rw [Nat.add_comm c]
    rw [e,this,List.take_append_drop]
theorem trod_shp:∀(d:Nat) (t:TypeId),plainT P d t=true→∀(N:Nat) (cs:List Value) (x:DataW H×List MemPlace),DataW.trod enc P w 0 sp held N t cs=some x→∃as,shp P d t as∧Tells w as cs
  | 0,t,h,_,_,_,_=>by simp [plainT] at h
  | d + 1,t,h,N,cs,x,hx=>by
    have ih:=trod_shp d
    unfold plainT at h
    unfold shp
    cases hu:P.underlying t with
    | none=>rw [hu] at h; cases h
    | some D =>
      rw [hu] at h
      cases D with
      | bool =>
        obtain ⟨b,rfl,_⟩:=DataW.trod_bool hu hx
        exact ⟨_,⟨b,rfl⟩,.sc (.bool b)⟩
      | int k =>
        obtain ⟨n,rfl,_,hw⟩:=DataW.trod_int hu hx
        exact ⟨_,⟨n,rfl,hw⟩,.sc (.int k n)⟩
      | string =>
        obtain ⟨s,rfl,_,hl⟩:=DataW.trod_string hu hx
        refine ⟨_,⟨s.data.toList,rfl,by simpa using hl⟩,?_⟩
        have:=Tells.sc (w:=w) (.str s.data.toList)
        simpa [Sc.toV] using this
      | slice e =>
        simp only [Bool.and_eq_true,decide_eq_true_eq,Bool.or_eq_true,beq_iff_eq] at h
        obtain ⟨⟨hpos,hag⟩,hpe⟩:=h
        rcases DataW.trod_slice hu hx with ⟨rfl,_⟩ | ⟨a,len,cap,elems,rest,n,_,rfl,_,_,hle,hcap,hlen,hel,_,_⟩
        · exact ⟨_,⟨[],rfl,Nat.zero_le _,fun _ h=>by cases h⟩,⟨.lnil hpos .nil,fun c hc=>by rw [List.mem_singleton.1 hc]; rfl,rfl⟩⟩
        · have each:∀i,i < len→∃z:List Value×List AV,w.cells? 0 (a.add (i * P.cellsOf e)) (P.cellsOf e)=some z.1∧shp P d e z.2∧Tells w z.2 z.1:=fun i hi=>by
            have h1:=hel i hi
            rw [List.getElem?_eq_getElem (by omega)] at h1
            obtain ⟨q,hq,hq2⟩:=Option.bind_eq_some_iff.1 h1
            obtain ⟨as,h2,h3⟩:=ih e hpe _ _ _ hq2
            exact ⟨(q,as),hq,h2,h3⟩
          obtain ⟨l,hl,hall⟩:=choose_list each
          have hin:∀z∈l,(∃i,w.cells? 0 (a.add (i * P.cellsOf e)) (P.cellsOf e)=some z.1)∧shp P d e z.2∧Tells w z.2 z.1:=fun z hz=>by
            obtain ⟨i,hi⟩:=List.getElem?_of_mem hz
            exact ⟨⟨i,(hall i z hi).1⟩,(hall i z hi).2⟩
          have hone:∀z∈l,z.2.length=P.cellsOf e:=fun z hz=>by
            obtain ⟨⟨i,h1⟩,_,h2⟩:=hin z hz
            rw [←h2.vl.length]; exact (World.cells?_some h1).2.1
          have hag':∀z∈l,isAgg P e=true∨z.2.length=1:=fun z hz=>hag.imp id fun h=>by rw [hone z hz,h]
          let es:List AV:=l.map fun z=>elemA (isAgg P e) z.2
          have hcells:es.flatMap AV.cells=(l.map (·.2)).flatten:=by
            have:∀(l':List (List Value×List AV)),(∀z∈l',z∈l)→(l'.map fun z=>elemA (isAgg P e) z.2).flatMap AV.cells=(l'.map (·.2)).flatten:=by
              intro l'
              induction l' with
              | nil=>intro _; rfl
              | cons z l' ihl =>
                intro hs
                rw [List.map_cons,List.flatMap_cons,List.map_cons,List.flatten_cons,ihl fun y hy=>hs y (List.mem_cons_of_mem _ hy)]
                have hz:=hs z List.mem_cons_self
                rw [elemA_cells (hin z hz).2.2 (hag' z hz)]
            exact this l fun _ h=>h
          have hspot:es=[]∨a.spot=none:=by
            by_cases h0:len=0
            · left; apply List.length_eq_zero_iff.1; simp [es,hl,h0]
            · right
              obtain ⟨z,hz,_⟩:=each 0 (by omega)
              have h1:=(World.cells?_some hz).2.2 0 hpos
              have h2:(a.add (0 * P.cellsOf e)).add 0=a:=by simp [Addr.add]
              rw [h2,List.getElem?_eq_getElem (by rw [(World.cells?_some hz).2.1]; exact hpos)] at h1
              unfold World.cell? at h1
              split at h1
              · split at h1
                · cases h1
                · rename_i h3; simpa using h3
              · cases h1
          have htell:Tells w (l.map (·.2)).flatten (l.map (·.1)).flatten:=Tells.flat (by simp) fun i p q hp hq=>by
            rw [List.getElem?_map] at hp hq
            cases hz:l[i]? with
            | none=>rw [hz] at hp; cases hp
            | some z =>
              rw [hz] at hp hq
              injection hp with hp; injection hq with hq; subst hp; subst hq
              exact (hall i z hz).2.2
          refine ⟨_,⟨es,rfl,by simp [es,hl]; omega,fun y hy => ?_⟩,⟨?_,fun c hc=>by rw [List.mem_singleton.1 hc]; rfl,rfl⟩⟩
          · obtain ⟨z,hz,rfl⟩:=List.mem_map.1 hy
            rw [elemA_cells (hin z hz).2.2 (hag' z hz)]
            refine ⟨(hin z hz).2.1,fun h=>by rw [h]; rfl,fun h => ?_⟩
            obtain ⟨a,ha⟩:=List.length_eq_one_iff.1 ((hag' z hz).resolve_left (by rw [h]; simp))
            rw [ha,h]; rfl
          · refine .list (xs:=(l.map (·.1)).flatten) (.inl rfl) (by simp [es,hl]) hle hpos hspot (fun y hy => ?_) ?_ (by rw [hcells]; exact htell.vl) (fun i v hv=>⟨?_,fun h=>(show False from h)⟩) .nil
            · obtain ⟨z,hz,rfl⟩:=List.mem_map.1 hy
              rw [elemA_cells (hin z hz).2.2 (hag' z hz)]
              exact ⟨hone z hz,(hin z hz).2.2.cell⟩
            · refine under_mem.2 fun y hy => ?_
              obtain ⟨z,hz,rfl⟩:=List.mem_map.1 hy
              exact elemA_low (hin z hz).2.2 (hag' z hz)
            · rcases hspot with h0 | h0
              · have:l=[]:=by simpa [es] using h0
                rw [this] at hv; simp at hv
              · obtain ⟨ab,ao,as⟩:=a
                dsimp only at h0; subst h0
                refine lies_flat (c:=P.cellsOf e) _ ao (fun j q hq => ?_) i v hv
                rw [List.getElem?_map] at hq
                cases hz:l[j]? with
                | none=>rw [hz] at hq; cases hq
                | some z =>
                  rw [hz] at hq
                  injection hq with hq; subst hq
                  have:=(hall j z hz).1
                  rwa [Addr.add_lit] at this
      | struct fs =>
        simp only [Bool.and_eq_true] at h
        obtain ⟨xs,n,_,_,hl,hxl,hf⟩:=DataW.trod_struct hu hx
        obtain ⟨as,h1,h2⟩:=trod_struct_shp (m:=n) ih hl fs.toList 0 h.1 h.2 fun f hm=>by
          obtain ⟨i,hi⟩:=List.getElem?_of_mem hm
          have hi':fs[i]? = some f:=by simpa using hi
          have:=hf i f hi'
          have hlt:=(Array.getElem?_eq_some_iff.1 hi').1
          rw [List.getElem?_eq_getElem (by omega)] at this
          exact ⟨_,this⟩
        exact ⟨as,h1,by simpa using h2⟩
      | array m e =>
        simp only [Bool.and_eq_true,beq_iff_eq] at h
        obtain ⟨xs,n,_,_,hl,hxl,hf⟩:=DataW.trod_array hu hx
        obtain ⟨ps,hpl,hall⟩:=choose_list (n:=m) (p:=fun i as=>shp P d e as∧Tells w as ((cs.drop (i * P.cellsOf e)).take (P.cellsOf e))) fun i hi=>by
          have:=hf i hi
          rw [List.getElem?_eq_getElem (by omega)] at this
          exact ih e h.2 _ _ _ this
        refine ⟨ps.flatten,⟨ps,hpl,rfl,fun p hp => ?_⟩,?_⟩
        · obtain ⟨i,hi⟩:=List.getElem?_of_mem hp
          exact (hall i p hi).1
        · rw [←flat_parts (c:=P.cellsOf e) m cs (by rw [hl,h.1])]
          refine Tells.flat (by simp [hpl]) fun i p q hp hq => ?_
          have hlt:i < m:=by have:=(List.getElem?_eq_some_iff.1 hp).1; omega
          have:q=(cs.drop (i * P.cellsOf e)).take (P.cellsOf e):=by
            rw [List.getElem?_map,List.getElem?_range hlt] at hq
            injection hq with hq; exact hq.symm
          subst this
          exact (hall i p hp).2
      | _=>cases h
def argA (ag:Bool) (as:List AV):AV:=elemA ag as
theorem trod_arg {d : Nat} {t : TypeId} {v : Value} {D : DataW H} {ps : List MemPlace} (hp : plainT P d t = true) (hok : Value.okWide P w .any 0 t v) (h : DataW.Trod enc P w 0 sp held t v D ps) :
    ∃as,shp P d t as∧V G.none w (argA (isAgg P t) as) v:=by
  obtain ⟨n,hn⟩:=h
  obtain ⟨as,h1,h2⟩:=trod_shp d t hp n _ _ hn
  refine ⟨as,h1,?_⟩
  cases hu:P.underlying t with
  | none =>
    cases d with
    | zero=>simp [plainT] at hp
    | succ d=>rw [plainT,hu] at hp; cases hp
  | some D =>
    have scalar:isAgg P t=false→(∀xs,v≠.agg xs)→V G.none w (argA (isAgg P t) as) v:=fun hf hv=>by
      rw [hf]
      have e:v.cells.toList=[v]:=by
        cases v <;> first | rfl | exact (hv _ rfl).elim
      rw [e] at h2
      obtain ⟨a,as',rfl,h3,h4⟩:∃a as',as=a :: as'∧V G.none w a v∧VL G.none w as' []:=by
        cases as with
        | nil=>have:=h2.vl.length; simp at this
        | cons a as' =>
          obtain ⟨v',vs',hh,h3,h4⟩:=h2.vl.cons_left
          injection hh with hh1 hh2; subst hh1; subst hh2
          exact ⟨a,as',rfl,h3,h4⟩
      exact h3
    cases D with
    | struct fs =>
      simp only [Value.okWide,hu] at hok
      obtain ⟨cs,rfl,_,_⟩:=hok
      rw [show isAgg P t=true by simp [isAgg,hu]]
      exact .agg h2.cell (by simpa [Value.cells] using h2.vl) .nil
    | array m e =>
      simp only [Value.okWide,hu] at hok
      obtain ⟨cs,rfl,_,_⟩:=hok
      rw [show isAgg P t=true by simp [isAgg,hu]]
      exact .agg h2.cell (by simpa [Value.cells] using h2.vl) .nil
    | _ =>
      refine scalar (by simp [isAgg,hu]) fun xs hv => ?_
      subst hv
      simp [Value.okWide,Cell.okWide,Cell.ok,hu] at hok
end
end Go.AM
namespace Go.AM
open Go
section
variable {P:Program}
def parts (P:Program) (d:Nat):List TypeId→List AV→Prop
  | [],as=>as=[]
  | u :: ts,as=>∃a b,as=a ++ b∧shp P d u a∧parts P d ts b
theorem parts_of {d:Nat}:∀{fs:List Field} {as:List AV},fs.foldr (fun f (Q:List AV→Prop) as=>∃a b,as=a ++ b∧shp P d f.type a∧Q b) (fun as=>as=[]) as→parts P d (fs.map (·.type)) as
  | [],_,h=>h
  | f :: fs,as,h=>by
    obtain ⟨a,b,h1,h2,h3⟩:=h
    exact ⟨a,b,h1,h2,parts_of h3⟩
theorem shp_struct {d:Nat} {t:TypeId} {fs:Array Field} {ts:List TypeId} {as:List AV} (ht:P.underlying t=some (.struct fs)) (hts:fs.toList.map (·.type)=ts) (h:shp P (d + 1) t as):parts P d ts as:=by
  unfold shp at h
  rw [ht] at h
  subst hts
  exact parts_of h
theorem shp_int {d:Nat} {t:TypeId} {k:IntKind} {as:List AV} (ht:P.underlying t=some (.int k)) (h:shp P (d + 1) t as):∃i,as=[.s (.int k i)]∧(Lit.int k i).wf=true:=by
  unfold shp at h; rw [ht] at h; exact h
theorem shp_bool {d:Nat} {t:TypeId} {as:List AV} (ht:P.underlying t=some .bool) (h:shp P (d + 1) t as):∃b,as=[.s (.bool b)]:=by
  unfold shp at h; rw [ht] at h; exact h
theorem shp_str {d:Nat} {t:TypeId} {as:List AV} (ht:P.underlying t=some .string) (h:shp P (d + 1) t as):∃l,as=[.s (.str l)]∧l.length≤maxLen:=by
  unfold shp at h; rw [ht] at h; exact h
theorem shp_u8 {d:Nat} {t:TypeId} {as:List AV} (ht:P.underlying t=some (.int .u8)) (h:shp P (d + 1) t as):∃b:UInt8,as=[u8 b]:=by
  obtain ⟨i,rfl,hw⟩:=shp_int ht h
  have:=bounds_u8 hw
  refine ⟨UInt8.ofNat i.toNat,?_⟩
  have:((UInt8.ofNat i.toNat).toNat:Int)=i:=by rw [UInt8.toNat_ofNat']; omega
  show _=[AV.s (.int .u8 _)]
  rw [this]
theorem shp_key {d:Nat} {t u:TypeId} {as:List AV} (ht:P.underlying t=some (.array 16 u)) (hu:P.underlying u=some (.int .u8)) (h:shp P (d + 2) t as):∃k:Key,as=bs k.b:=by
  unfold shp at h; rw [ht] at h
  obtain ⟨ps,hl,rfl,hall⟩:=h
  obtain ⟨l,rfl⟩:=of_each (f:=fun b=>[u8 b]) ps fun p hp=>shp_u8 hu (hall p hp)
  refine ⟨⟨l,by simpa using hl⟩,?_⟩
  show _=l.map u8
  clear hl hall
  induction l with
  | nil=>rfl
  | cons b l ih=>simp only [List.map_cons,List.flatten_cons,ih]; rfl
theorem shp_wr {d : Nat} {t tk u ts tb : TypeId} {fs : Array Field} {as : List AV} (ht : P.underlying t = some (.struct fs)) (hf : fs.toList.map (·.type) = [tk, ts, tb]) (hk : P.underlying tk = some (.array 16 u)) (hu : P.underlying u = some (.int .u8)) (hs : P.underlying ts = some .string) (hb : P.underlying tb = some .bool)
    (h:shp P (d + 3) t as):∃w:Wr,as=wc w:=by
  obtain ⟨a,r,rfl,h1,a2,r2,rfl,h2,a3,r3,rfl,h3,rfl⟩:=shp_struct ht hf h
  obtain ⟨k,rfl⟩:=shp_key hk hu h1
  obtain ⟨l,rfl,_⟩:=shp_str hs h2
  obtain ⟨b,rfl⟩:=shp_bool hb h3
  exact ⟨⟨k,l,b⟩,rfl⟩
end
end Go.AM
namespace Go.AM
open Go
section
variable {P:Program}
theorem shp_stamp {d:Nat} {t ti tn:TypeId} {fs:Array Field} {as:List AV} (ht:P.underlying t=some (.struct fs)) (hf:fs.toList.map (·.type)=[ti,tn]) (hi:P.underlying ti=some (.int .i64)) (hn:P.underlying tn=some (.int .u8)) (h:shp P (d + 2) t as):∃s:Stp,as=stc s:=by
  obtain ⟨a,r,rfl,h1,a2,r2,rfl,h2,rfl⟩:=shp_struct ht hf h
  obtain ⟨i,rfl,_⟩:=shp_int hi h1
  obtain ⟨b,rfl⟩:=shp_u8 hn h2
  exact ⟨⟨i,b⟩,rfl⟩
end
end Go.AM
namespace Go.AM
open Go
variable {P:Program}
theorem wT {α:Type} {p:α→Prop} (h:∃x,p x):∃x,p x∧True:=h.imp fun _ e=>⟨e,trivial⟩
theorem of_eachQ {α:Type} {f:α→AV} {Q:α→Prop}:∀(es:List AV),(∀x∈es,∃a,x=f a∧Q a)→∃l:List α,es=l.map f∧∀a∈l,Q a
  | [],_=>⟨[],rfl,fun a h=>by cases h⟩
  | x :: es,h=>by
    obtain ⟨a,rfl,hq⟩:=h x (List.mem_cons_self ..)
    obtain ⟨l,rfl,hl⟩:=of_eachQ es fun y hy=>h y (List.mem_cons_of_mem _ hy)
    exact ⟨a :: l,rfl,fun b hb=>by rcases List.mem_cons.1 hb with rfl | hb; exact hq; exact hl b hb⟩
theorem shp_sliceQ {d : Nat} {t e : TypeId} {c : Nat} {as : List AV} {α : Type} (f : α → AV) (Q : α → Prop) (ht : P.underlying t = some (.slice e)) (hc : P.cellsOf e = c) (he : ∀ x : AV, shp P d e x.cells → (isAgg P e = true → x = .agg x.cells) → (isAgg P e = false → x.cells = [x]) → ∃ a, x = f a ∧ Q a) (h : shp P (d + 1) t as) :
    ∃l:List α,as=[.list .sh c (l.map f)]∧l.length≤9223372036854775807∧∀a∈l,Q a:=by
  subst hc
  unfold shp at h; rw [ht] at h
  obtain ⟨es,rfl,hl,hall⟩:=h
  obtain ⟨l,rfl,hq⟩:=of_eachQ (f:=f) es fun x hx=>he x (hall x hx).1 (hall x hx).2.1 (hall x hx).2.2
  refine ⟨l,rfl,?_,hq⟩
  rw [List.length_map] at hl
  unfold maxLen at hl; omega
theorem shp_i64 {d:Nat} {t:TypeId} {as:List AV} (ht:P.underlying t=some (.int .i64)) (h:shp P (d + 1) t as):∃i:Int,as=[.s (.int .i64 i)]∧-9223372036854775808≤i∧i≤9223372036854775807:=by
  obtain ⟨i,rfl,hw⟩:=shp_int ht h
  refine ⟨i,rfl,?_⟩
  unfold Lit.wf at hw
  rw [Bool.and_eq_true] at hw
  have h1:=of_decide_eq_true hw.1
  have h2:=of_decide_eq_true hw.2
  simp [IntKind.min,IntKind.max,IntKind.signed,IntKind.bits] at h1 h2
  omega
end Go.AM
