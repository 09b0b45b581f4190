import Derived.Test.YtadcnggbhkpcbaaM10
set_option linter.unusedSimpArgs false
set_option linter.unusedVariables false
namespace Go.AM
open Go
set_option maxRecDepth 20000
def y9a1 (c:Nat→FuncId):LCode:=(.seq (.sq [(zs 5 (.mv false (.t 0))),(zs 6 (.call (.f (c 0)) [(.t 5)])),(zs 7 (.mv false (.t 6))),(zt 8 7 (.mv false (.t 1))),(zt 9 7 (.call (.f (c 0)) [(.t 8)])),(zt 10 7 (.un .not (.t 9))),(zs 11 (.pick (.t 7) (.t 10) zF)),(zs 12 (.mv false (.t 11))),(zf 13 12 (.mv false (.t 0))),(zf 14 12 (.mv false (.t 1))),(zf 15 12 (.bin .lss .sc (.t 13) (.t 14))),(zs 16 (.pick (.t 12) zT (.t 15))),(zs 4 (.mv true (.t 16)))]) .ret)
def U_cmp_Less_int64 (c:Nat→FuncId):=PLift.up (@unfC _ _ (y9a1.eq_1 c))
def C_cmp_Less_int64 (c:Nat→FuncId):LFn:=⟨17,[.t 4],(.seq (.sq [(zs 4 (.mv true zF))]) (y9a1 c))⟩
def y9b1 (c:Nat→FuncId):LCode:=(.sq [(zs 31 (.mv false (.t 7))),(zs 32 (.bin .sub .sc (.t 31) (zi 1))),(zs 7 (.mv true (.t 32)))])
def y9b2 (c:Nat→FuncId):LCode:=(.seq (.block 3 (.tree (.rd (zs 33 (.mv false (.t 0))) 0 false (.rd (zs 34 (.mv false (.t 7))) 1 false (.rd (zs 35 (.mv false (.t 0))) 2 true (.rd (zs 36 (.mv false (.t 7))) 3 true (.rd (zs 37 (.bin .sub .sc (.t 36) (zi 1))) 4 true (.rd (zs 38 (.mv false (.t 0))) 5 false (.rd (zs 39 (.mv false (.t 7))) 6 false (.rd (zs 40 (.bin .sub .sc (.t 39) (zi 1))) 7 false (.rd (zs 41 (.ixa (.sl 1) (.t 38) (.t 40))) 8 false (.rd (zs 42 (.load1 false (.t 41))) 9 false (.rd (zs 43 (.mv false (.t 0))) 10 false (.rd (zs 44 (.mv false (.t 7))) 11 false (.rd (zs 45 (.ixa (.sl 1) (.t 43) (.t 44))) 12 false (.rd (zs 46 (.load1 false (.t 45))) 13 false (.rd (zs 47 (.ixa (.sl 1) (.t 33) (.t 34))) 14 false (.mv (zn (.store 1 (.t 47) (.t 42))) [0,1,5,6,7,8,9,10,11,12,13,14] (.rd (zs 48 (.ixa (.sl 1) (.t 35) (.t 37))) 16 false (.mv (zn (.store 1 (.t 48) (.t 46))) [0,1,2,3,4,5,6,7,8,9,10,11,12,13,14,15,16] .done .stop)) .stop)))))))))))))))))) (y9b1 c))
def y9b3 (c:Nat→FuncId):LCode:=(.seq (.seq (.tree (.rd (zs 16 (.mv false (.t 7))) 0 false (.rd (zs 17 (.mv false (.t 1))) 1 false (.rd (zs 18 (.bin .gtr .sc (.t 16) (.t 17))) 2 false (.rd (zs 19 (.mv false (.t 18))) 3 false (.rd (zt 20 19 (.mv false (.t 0))) 4 false (.rd (zt 21 19 (.mv false (.t 7))) 5 false (.rd (zt 22 19 (.ixa (.sl 1) (.t 20) (.t 21))) 6 false (.rd (zt 23 19 (.load1 false (.t 22))) 7 false (.rd (zt 24 19 (.mv false (.t 0))) 8 false (.rd (zt 25 19 (.mv false (.t 7))) 9 false (.rd (zt 26 19 (.bin .sub .sc (.t 25) (zi 1))) 10 false (.rd (zt 27 19 (.ixa (.sl 1) (.t 24) (.t 26))) 11 false (.rd (zt 28 19 (.load1 false (.t 27))) 12 false (.mv (zt 29 19 (.call (.f (c 0)) [(.t 23),(.t 28)])) [0,1,2,3,4,5,6,7,8,9,10,11,12] (.rd (zs 30 (.pick (.t 19) (.t 29) zF)) 14 false .done) .stop))))))))))))))) (.cond (.t 30) .skip (.exit 2))) (y9b2 c))
def y9b4 (c:Nat→FuncId):LCode:=(.block 2 (.loop (zm false [0,3,3,2,41]) (y9b3 c)))
def y9b5 (c:Nat→FuncId):LCode:=(.sq [(zs 13 (.mv false (.t 6))),(zs 14 (.bin .add .sc (.t 13) (zi 1))),(zs 6 (.mv true (.t 14)))])
def y9b6 (c:Nat→FuncId):LCode:=(.seq (.block 1 (.seq (.sq [(zs 15 (.mv false (.t 6))),(zs 7 (.mv true (.t 15)))]) (y9b4 c))) (y9b5 c))
def y9b7 (c:Nat→FuncId):LCode:=(.seq (.seq (.sq [(zs 10 (.mv false (.t 6))),(zs 11 (.mv false (.t 2))),(zs 12 (.bin .lss .sc (.t 10) (.t 11)))]) (.cond (.t 12) .skip (.exit 0))) (y9b6 c))
def y9b8 (c:Nat→FuncId):LCode:=(.block 0 (.loop (zm false [0,3,3,1,42]) (y9b7 c)))
def U_slices_insertionSortOrdered_int64 (c:Nat→FuncId):=PLift.up (zc (zc (zc (@unfC _ _ (y9b1.eq_1 c)) (@unfC _ _ (y9b2.eq_1 c))) (zc (@unfC _ _ (y9b3.eq_1 c)) (@unfC _ _ (y9b4.eq_1 c)))) (zc (zc (@unfC _ _ (y9b5.eq_1 c)) (@unfC _ _ (y9b6.eq_1 c))) (zc (@unfC _ _ (y9b7.eq_1 c)) (@unfC _ _ (y9b8.eq_1 c)))))
def C_slices_insertionSortOrdered_int64 (c:Nat→FuncId):LFn:=⟨49,[],(.seq (.sq [(zs 8 (.mv false (.t 1))),(zs 9 (.bin .add .sc (.t 8) (zi 1))),(zs 6 (.mv true (.t 9)))]) (y9b8 c))⟩
def y9c1 (c:Nat→FuncId):LCode:=(.sq [(zs 37 (.mv false (.t 9))),(zs 38 (.bin .add .sc (.t 37) (zi 1))),(zs 9 (.mv true (.t 38)))])
def y9c2 (c:Nat→FuncId):LCode:=(.seq (.tree (.rd (zs 53 (.mv false (.t 0))) 0 false (.rd (zs 54 (.mv false (.t 3))) 1 false (.rd (zs 55 (.mv false (.t 8))) 2 false (.rd (zs 56 (.bin .add .sc (.t 54) (.t 55))) 3 false (.rd (zs 57 (.mv false (.t 0))) 4 true (.rd (zs 58 (.mv false (.t 3))) 5 true (.rd (zs 59 (.mv false (.t 9))) 6 true (.rd (zs 60 (.bin .add .sc (.t 58) (.t 59))) 7 true (.rd (zs 61 (.mv false (.t 0))) 8 false (.rd (zs 62 (.mv false (.t 3))) 9 false (.rd (zs 63 (.mv false (.t 9))) 10 false (.rd (zs 64 (.bin .add .sc (.t 62) (.t 63))) 11 false (.rd (zs 65 (.ixa (.sl 1) (.t 61) (.t 64))) 12 false (.rd (zs 66 (.load1 false (.t 65))) 13 false (.rd (zs 67 (.mv false (.t 0))) 14 false (.rd (zs 68 (.mv false (.t 3))) 15 false (.rd (zs 69 (.mv false (.t 8))) 16 false (.rd (zs 70 (.bin .add .sc (.t 68) (.t 69))) 17 false (.rd (zs 71 (.ixa (.sl 1) (.t 67) (.t 70))) 18 false (.rd (zs 72 (.load1 false (.t 71))) 19 false (.rd (zs 73 (.ixa (.sl 1) (.t 53) (.t 56))) 20 false (.mv (zn (.store 1 (.t 73) (.t 66))) [0,1,2,3,8,9,10,11,12,13,14,15,16,17,18,19,20] (.rd (zs 74 (.ixa (.sl 1) (.t 57) (.t 60))) 22 false (.mv (zn (.store 1 (.t 74) (.t 72))) [0,1,2,3,4,5,6,7,8,9,10,11,12,13,14,15,16,17,18,19,20,21,22] .done .stop)) .stop))))))))))))))))))))))) (.sq [(zs 75 (.mv false (.t 9))),(zs 8 (.mv true (.t 75)))]))
def y9c3 (c:Nat→FuncId):LCode:=(.seq (.seq (.tree (.rd (zs 39 (.mv false (.t 0))) 0 false (.rd (zs 40 (.mv false (.t 3))) 1 false (.rd (zs 41 (.mv false (.t 8))) 2 false (.rd (zs 42 (.bin .add .sc (.t 40) (.t 41))) 3 false (.rd (zs 43 (.ixa (.sl 1) (.t 39) (.t 42))) 4 false (.rd (zs 44 (.load1 false (.t 43))) 5 false (.rd (zs 45 (.mv false (.t 0))) 6 false (.rd (zs 46 (.mv false (.t 3))) 7 false (.rd (zs 47 (.mv false (.t 9))) 8 false (.rd (zs 48 (.bin .add .sc (.t 46) (.t 47))) 9 false (.rd (zs 49 (.ixa (.sl 1) (.t 45) (.t 48))) 10 false (.rd (zs 50 (.load1 false (.t 49))) 11 false (.mv (zs 51 (.call (.f (c 0)) [(.t 44),(.t 50)])) [0,1,2,3,4,5,6,7,8,9,10,11] (.rd (zs 52 (.un .not (.t 51))) 13 false .done) .stop)))))))))))))) (.cond (.t 52) .ret .skip)) (y9c2 c))
def y9c4 (c:Nat→FuncId):LCode:=(.seq (.seq (.tree (.rd (zs 17 (.mv false (.t 9))) 0 false (.rd (zs 18 (.bin .add .sc (.t 17) (zi 1))) 1 false (.rd (zs 19 (.mv false (.t 2))) 2 false (.rd (zs 20 (.bin .lss .sc (.t 18) (.t 19))) 3 false (.rd (zs 21 (.mv false (.t 20))) 4 false (.rd (zt 22 21 (.mv false (.t 0))) 5 false (.rd (zt 23 21 (.mv false (.t 3))) 6 false (.rd (zt 24 21 (.mv false (.t 9))) 7 false (.rd (zt 25 21 (.bin .add .sc (.t 23) (.t 24))) 8 false (.rd (zt 26 21 (.ixa (.sl 1) (.t 22) (.t 25))) 9 false (.rd (zt 27 21 (.load1 false (.t 26))) 10 false (.rd (zt 28 21 (.mv false (.t 0))) 11 false (.rd (zt 29 21 (.mv false (.t 3))) 12 false (.rd (zt 30 21 (.mv false (.t 9))) 13 false (.rd (zt 31 21 (.bin .add .sc (.t 29) (.t 30))) 14 false (.rd (zt 32 21 (.bin .add .sc (.t 31) (zi 1))) 15 false (.rd (zt 33 21 (.ixa (.sl 1) (.t 28) (.t 32))) 16 false (.rd (zt 34 21 (.load1 false (.t 33))) 17 false (.mv (zt 35 21 (.call (.f (c 0)) [(.t 27),(.t 34)])) [0,1,2,3,4,5,6,7,8,9,10,11,12,13,14,15,16,17] (.rd (zs 36 (.pick (.t 21) (.t 35) zF)) 19 false .done) .stop)))))))))))))))))))) (.cond (.t 36) (y9c1 c) .skip)) (y9c3 c))
def y9c5 (c:Nat→FuncId):LCode:=(.seq (.seq (.sq [(zs 14 (.mv false (.t 9))),(zs 15 (.mv false (.t 2))),(zs 16 (.bin .geq .sc (.t 14) (.t 15)))]) (.cond (.t 16) (.exit 0) .skip)) (y9c4 c))
def y9c6 (c:Nat→FuncId):LCode:=(.block 1 (.seq (.sq [(zs 11 (.mv false (.t 8))),(zs 12 (.bin .mul .sc (zi 2) (.t 11))),(zs 13 (.bin .add .sc (.t 12) (zi 1))),(zs 9 (.mv true (.t 13)))]) (y9c5 c)))
def y9c7 (c:Nat→FuncId):LCode:=(.block 0 (.loop (zm false [0,1,1,2,4,1,67]) (y9c6 c)))
def U_slices_siftDownOrdered_int64 (c:Nat→FuncId):=PLift.up (zc (zc (@unfC _ _ (y9c1.eq_1 c)) (zc (@unfC _ _ (y9c2.eq_1 c)) (@unfC _ _ (y9c3.eq_1 c)))) (zc (zc (@unfC _ _ (y9c4.eq_1 c)) (@unfC _ _ (y9c5.eq_1 c))) (zc (@unfC _ _ (y9c6.eq_1 c)) (@unfC _ _ (y9c7.eq_1 c)))))
def C_slices_siftDownOrdered_int64 (c:Nat→FuncId):LFn:=⟨76,[],(.seq (.sq [(zs 10 (.mv false (.t 1))),(zs 8 (.mv true (.t 10)))]) (y9c7 c))⟩
def y9d1 (c:Nat→FuncId):LCode:=(.sq [(zs 20 (.mv false (.t 9))),(zs 21 (.bin .sub .sc (.t 20) (zi 1))),(zs 9 (.mv true (.t 21)))])
def y9d2 (c:Nat→FuncId):LCode:=(.seq (.block 1 (.sq [(zs 22 (.mv false (.t 0))),(zs 23 (.mv false (.t 9))),(zs 24 (.mv false (.t 8))),(zs 25 (.mv false (.t 6))),(zs 26 (.call (.f (c 0)) [(.t 22),(.t 23),(.t 24),(.t 25)]))])) (y9d1 c))
def y9d3 (c:Nat→FuncId):LCode:=(.seq (.seq (.sq [(zs 18 (.mv false (.t 9))),(zs 19 (.bin .geq .sc (.t 18) (zi 0)))]) (.cond (.t 19) .skip (.exit 0))) (y9d2 c))
def y9d4 (c:Nat→FuncId):LCode:=(.block 0 (.loop (zm false [0,1,5,4,46]) (y9d3 c)))
def y9d5 (c:Nat→FuncId):LCode:=(.sq [(zs 51 (.mv false (.t 0))),(zs 52 (.mv false (.t 7))),(zs 53 (.mv false (.t 10))),(zs 54 (.mv false (.t 6))),(zs 55 (.call (.f (c 0)) [(.t 51),(.t 52),(.t 53),(.t 54)]))])
def y9d6 (c:Nat→FuncId):LCode:=(.sq [(zs 31 (.mv false (.t 10))),(zs 32 (.bin .sub .sc (.t 31) (zi 1))),(zs 10 (.mv true (.t 32)))])
def y9d7 (c:Nat→FuncId):LCode:=(.seq (.block 3 (.seq (.tree (.rd (zs 33 (.mv false (.t 0))) 0 false (.rd (zs 34 (.mv false (.t 6))) 1 false (.rd (zs 35 (.mv false (.t 0))) 2 true (.rd (zs 36 (.mv false (.t 6))) 3 true (.rd (zs 37 (.mv false (.t 10))) 4 true (.rd (zs 38 (.bin .add .sc (.t 36) (.t 37))) 5 true (.rd (zs 39 (.mv false (.t 0))) 6 false (.rd (zs 40 (.mv false (.t 6))) 7 false (.rd (zs 41 (.mv false (.t 10))) 8 false (.rd (zs 42 (.bin .add .sc (.t 40) (.t 41))) 9 false (.rd (zs 43 (.ixa (.sl 1) (.t 39) (.t 42))) 10 false (.rd (zs 44 (.load1 false (.t 43))) 11 false (.rd (zs 45 (.mv false (.t 0))) 12 false (.rd (zs 46 (.mv false (.t 6))) 13 false (.rd (zs 47 (.ixa (.sl 1) (.t 45) (.t 46))) 14 false (.rd (zs 48 (.load1 false (.t 47))) 15 false (.rd (zs 49 (.ixa (.sl 1) (.t 33) (.t 34))) 16 false (.mv (zn (.store 1 (.t 49) (.t 44))) [0,1,6,7,8,9,10,11,12,13,14,15,16] (.rd (zs 50 (.ixa (.sl 1) (.t 35) (.t 38))) 18 false (.mv (zn (.store 1 (.t 50) (.t 48))) [0,1,2,3,4,5,6,7,8,9,10,11,12,13,14,15,16,17,18] .done .stop)) .stop))))))))))))))))))) (y9d5 c))) (y9d6 c))
def y9d8 (c:Nat→FuncId):LCode:=(.seq (.seq (.sq [(zs 29 (.mv false (.t 10))),(zs 30 (.bin .geq .sc (.t 29) (zi 0)))]) (.cond (.t 30) .skip (.exit 2))) (y9d7 c))
def y9d9 (c:Nat→FuncId):LCode:=(.block 2 (.loop (zm false [0,1,5,2,2,1,45]) (y9d8 c)))
def y9d10 (c:Nat→FuncId):LCode:=(.seq (.sq [(zs 27 (.mv false (.t 8))),(zs 28 (.bin .sub .sc (.t 27) (zi 1))),(zs 10 (.mv true (.t 28)))]) (y9d9 c))
def y9d11 (c:Nat→FuncId):LCode:=(.seq (.seq (.sq [(zs 15 (.mv false (.t 8))),(zs 16 (.bin .sub .sc (.t 15) (zi 1))),(zs 17 (.bin .quo .sc (.t 16) (zi 2))),(zs 9 (.mv true (.t 17)))]) (y9d4 c)) (y9d10 c))
def y9d12 (c:Nat→FuncId):LCode:=(.seq (.sq [(zs 12 (.mv false (.t 2))),(zs 13 (.mv false (.t 1))),(zs 14 (.bin .sub .sc (.t 12) (.t 13))),(zs 8 (.mv true (.t 14)))]) (y9d11 c))
def U_slices_heapSortOrdered_int64 (c:Nat→FuncId):=PLift.up (zc (zc (zc (@unfC _ _ (y9d1.eq_1 c)) (zc (@unfC _ _ (y9d2.eq_1 c)) (@unfC _ _ (y9d3.eq_1 c)))) (zc (@unfC _ _ (y9d4.eq_1 c)) (zc (@unfC _ _ (y9d5.eq_1 c)) (@unfC _ _ (y9d6.eq_1 c))))) (zc (zc (@unfC _ _ (y9d7.eq_1 c)) (zc (@unfC _ _ (y9d8.eq_1 c)) (@unfC _ _ (y9d9.eq_1 c)))) (zc (@unfC _ _ (y9d10.eq_1 c)) (zc (@unfC _ _ (y9d11.eq_1 c)) (@unfC _ _ (y9d12.eq_1 c))))))
def C_slices_heapSortOrdered_int64 (c:Nat→FuncId):LFn:=⟨56,[],(.seq (.sq [(zs 11 (.mv false (.t 1))),(zs 6 (.mv true (.t 11)))]) (.seq (.sq [(zs 7 (.mv true (zi 0)))]) (y9d12 c)))⟩
def y9f1:LCode:=(.seq (.sq [(zs 5 (.mv false (.t 0))),(zs 6 (.bin .shr .sc (.t 5) (.c (.int .u64 32)))),(zs 0 (.mv true (.t 6)))]) (.sq [(zs 2 (.mv true (zi 32)))]))
def y9f2:LCode:=(.sq [(zs 11 (.mv false (.t 2))),(zs 12 (.bin .add .sc (.t 11) (zi 16))),(zs 2 (.mv true (.t 12)))])
def y9f3:LCode:=(.seq (.sq [(zs 9 (.mv false (.t 0))),(zs 10 (.bin .shr .sc (.t 9) (.c (.int .u64 16)))),(zs 0 (.mv true (.t 10)))]) y9f2)
def y9f4:LCode:=(.sq [(zs 17 (.mv false (.t 2))),(zs 18 (.bin .add .sc (.t 17) (zi 8))),(zs 2 (.mv true (.t 18)))])
def y9f5:LCode:=(.seq (.sq [(zs 15 (.mv false (.t 0))),(zs 16 (.bin .shr .sc (.t 15) (.c (.int .u64 8)))),(zs 0 (.mv true (.t 16)))]) y9f4)
def y9f6:LCode:=(.seq (.sq [(zs 19 (.mv false (.t 2))),(zs 20 (.mv false (.t 0))),(zs 21 (.conv (.int .u8) (.t 20))),(zs 22 (.ixs (.c (.str [0,1,2,2,3,3,3,3,4,4,4,4,4,4,4,4,5,5,5,5,5,5,5,5,5,5,5,5,5,5,5,5,6,6,6,6,6,6,6,6,6,6,6,6,6,6,6,6,6,6,6,6,6,6,6,6,6,6,6,6,6,6,6,6,7,7,7,7,7,7,7,7,7,7,7,7,7,7,7,7,7,7,7,7,7,7,7,7,7,7,7,7,7,7,7,7,7,7,7,7,7,7,7,7,7,7,7,7,7,7,7,7,7,7,7,7,7,7,7,7,7,7,7,7,7,7,7,7,8,8,8,8,8,8,8,8,8,8,8,8,8,8,8,8,8,8,8,8,8,8,8,8,8,8,8,8,8,8,8,8,8,8,8,8,8,8,8,8,8,8,8,8,8,8,8,8,8,8,8,8,8,8,8,8,8,8,8,8,8,8,8,8,8,8,8,8,8,8,8,8,8,8,8,8,8,8,8,8,8,8,8,8,8,8,8,8,8,8,8,8,8,8,8,8,8,8,8,8,8,8,8,8,8,8,8,8,8,8,8,8,8,8,8,8,8,8,8,8,8,8,8,8,8,8,8,8])) (.t 21))),(zs 23 (.conv (.int .i64) (.t 22))),(zs 24 (.bin .add .sc (.t 19) (.t 23))),(zs 2 (.mv true (.t 24)))]) .ret)
def y9f7:LCode:=(.seq (.seq (.sq [(zs 13 (.mv false (.t 0))),(zs 14 (.bin .geq .sc (.t 13) (.c (.int .u64 256))))]) (.cond (.t 14) y9f5 .skip)) y9f6)
def y9f8:LCode:=(.seq (.seq (.sq [(zs 7 (.mv false (.t 0))),(zs 8 (.bin .geq .sc (.t 7) (.c (.int .u64 65536))))]) (.cond (.t 8) y9f3 .skip)) y9f7)
def y9f9:LCode:=(.seq (.seq (.sq [(zs 3 (.mv false (.t 0))),(zs 4 (.bin .geq .sc (.t 3) (.c (.int .u64 4294967296))))]) (.cond (.t 4) y9f1 .skip)) y9f8)
def U_math_bits_Len64:=PLift.up (zc (zc (zc (@unfC _ _ (y9f1.eq_1)) (@unfC _ _ (y9f2.eq_1))) (zc (@unfC _ _ (y9f3.eq_1)) (@unfC _ _ (y9f4.eq_1)))) (zc (zc (@unfC _ _ (y9f5.eq_1)) (@unfC _ _ (y9f6.eq_1))) (zc (@unfC _ _ (y9f7.eq_1)) (zc (@unfC _ _ (y9f8.eq_1)) (@unfC _ _ (y9f9.eq_1))))))
def C_math_bits_Len64:LFn:=⟨25,[.t 2],(.seq (.sq [(zs 2 (.mv true (zi 0)))]) y9f9)⟩
def y9g1 (c:Nat→FuncId):LCode:=(.seq (.sq [(zs 3 (.mv false (.t 0))),(zs 4 (.conv (.int .u32) (.t 3))),(zs 5 (.call (.f (c 0)) [(.t 4)])),(zs 2 (.mv true (.t 5)))]) .ret)
def y9g2 (c:Nat→FuncId):LCode:=(.seq (.sq [(zs 6 (.mv false (.t 0))),(zs 7 (.call (.f (c 1)) [(.t 6)])),(zs 2 (.mv true (.t 7)))]) .ret)
def U_math_bits_Len (c:Nat→FuncId):=PLift.up (zc (@unfC _ _ (y9g1.eq_1 c)) (@unfC _ _ (y9g2.eq_1 c)))
def C_math_bits_Len (c:Nat→FuncId):LFn:=⟨8,[.t 2],(.seq (.sq [(zs 2 (.mv true (zi 0)))]) (.seq (.cond zF (y9g1 c) .skip) (y9g2 c)))⟩
def y9h1 (c:Nat→FuncId):LCode:=(.seq (.sq [(zs 3 (.mv false (.t 0))),(zs 4 (.conv (.int .u64) (.t 3))),(zs 5 (.call (.f (c 0)) [(.t 4)])),(zs 6 (.bin .shl .sc (.c (.int .u64 1)) (.t 5))),(zs 2 (.mv true (.t 6)))]) .ret)
def U_slices_nextPowerOfTwo (c:Nat→FuncId):=PLift.up (@unfC _ _ (y9h1.eq_1 c))
def C_slices_nextPowerOfTwo (c:Nat→FuncId):LFn:=⟨7,[.t 2],(.seq (.sq [(zs 2 (.mv true (.c (.int .u64 0))))]) (y9h1 c))⟩
def y9i1:LCode:=(.seq (.sq [(zs 30 (.mv false (.t 0))),(zs 31 (.nilc (.t 30))),(zs 32 (.load1 false (.t 31))),(zs 2 (.mv true (.t 32)))]) .ret)
def y9i2:LCode:=(.seq (.tree (.rd (zs 21 (.mv false (.t 0))) 0 false (.rd (zs 22 (.nilc (.t 21))) 1 false (.rd (zs 23 (.load1 false (.t 22))) 2 false (.rd (zs 24 (.mv false (.t 0))) 3 false (.rd (zs 25 (.nilc (.t 24))) 4 false (.rd (zs 26 (.load1 false (.t 25))) 5 false (.rd (zs 27 (.bin .shl .sc (.t 26) (.c (.int .u64 17)))) 6 false (.rd (zs 28 (.bin .xor .sc (.t 23) (.t 27))) 7 false (.rd (zs 29 (.nilc (.t 21))) 8 false (.mv (zn (.store 1 (.t 29) (.t 28))) [0,1,2,3,4,5,6,7,8] .done .stop))))))))))) y9i1)
def y9i3:LCode:=(.seq (.tree (.rd (zs 12 (.mv false (.t 0))) 0 false (.rd (zs 13 (.nilc (.t 12))) 1 false (.rd (zs 14 (.load1 false (.t 13))) 2 false (.rd (zs 15 (.mv false (.t 0))) 3 false (.rd (zs 16 (.nilc (.t 15))) 4 false (.rd (zs 17 (.load1 false (.t 16))) 5 false (.rd (zs 18 (.bin .shr .sc (.t 17) (.c (.int .u64 7)))) 6 false (.rd (zs 19 (.bin .xor .sc (.t 14) (.t 18))) 7 false (.rd (zs 20 (.nilc (.t 12))) 8 false (.mv (zn (.store 1 (.t 20) (.t 19))) [0,1,2,3,4,5,6,7,8] .done .stop))))))))))) y9i2)
def y9i4:LCode:=(.seq (.tree (.rd (zs 3 (.mv false (.t 0))) 0 false (.rd (zs 4 (.nilc (.t 3))) 1 false (.rd (zs 5 (.load1 false (.t 4))) 2 false (.rd (zs 6 (.mv false (.t 0))) 3 false (.rd (zs 7 (.nilc (.t 6))) 4 false (.rd (zs 8 (.load1 false (.t 7))) 5 false (.rd (zs 9 (.bin .shl .sc (.t 8) (.c (.int .u64 13)))) 6 false (.rd (zs 10 (.bin .xor .sc (.t 5) (.t 9))) 7 false (.rd (zs 11 (.nilc (.t 3))) 8 false (.mv (zn (.store 1 (.t 11) (.t 10))) [0,1,2,3,4,5,6,7,8] .done .stop))))))))))) y9i3)
def U_slices_xorshift_Next:=PLift.up (zc (zc (@unfC _ _ (y9i1.eq_1)) (@unfC _ _ (y9i2.eq_1))) (zc (@unfC _ _ (y9i3.eq_1)) (@unfC _ _ (y9i4.eq_1))))
def C_slices_xorshift_Next:LFn:=⟨33,[.t 2],(.seq (.sq [(zs 2 (.mv true (.c (.int .u64 0))))]) y9i4)⟩
def y9j1 (c:Nat→FuncId):LCode:=(.sq [(zs 44 (.mv false (.t 10))),(zs 45 (.mv false (.t 6))),(zs 46 (.bin .sub .sc (.t 44) (.t 45))),(zs 10 (.mv true (.t 46)))])
def y9j2 (c:Nat→FuncId):LCode:=(.tree (.rd (zs 47 (.mv false (.t 0))) 0 false (.rd (zs 48 (.mv false (.t 9))) 1 false (.rd (zs 49 (.mv false (.t 0))) 2 true (.rd (zs 50 (.mv false (.t 1))) 3 true (.rd (zs 51 (.mv false (.t 10))) 4 true (.rd (zs 52 (.bin .add .sc (.t 50) (.t 51))) 5 true (.rd (zs 53 (.mv false (.t 0))) 6 false (.rd (zs 54 (.mv false (.t 1))) 7 false (.rd (zs 55 (.mv false (.t 10))) 8 false (.rd (zs 56 (.bin .add .sc (.t 54) (.t 55))) 9 false (.rd (zs 57 (.ixa (.sl 1) (.t 53) (.t 56))) 10 false (.rd (zs 58 (.load1 false (.t 57))) 11 false (.rd (zs 59 (.mv false (.t 0))) 12 false (.rd (zs 60 (.mv false (.t 9))) 13 false (.rd (zs 61 (.ixa (.sl 1) (.t 59) (.t 60))) 14 false (.rd (zs 62 (.load1 false (.t 61))) 15 false (.rd (zs 63 (.ixa (.sl 1) (.t 47) (.t 48))) 16 false (.mv (zn (.store 1 (.t 63) (.t 58))) [0,1,6,7,8,9,10,11,12,13,14,15,16] (.rd (zs 64 (.ixa (.sl 1) (.t 49) (.t 52))) 18 false (.mv (zn (.store 1 (.t 64) (.t 62))) [0,1,2,3,4,5,6,7,8,9,10,11,12,13,14,15,16,17,18] .done .stop)) .stop)))))))))))))))))))
def y9j3 (c:Nat→FuncId):LCode:=(.seq (.seq (.sq [(zs 41 (.mv false (.t 10))),(zs 42 (.mv false (.t 6))),(zs 43 (.bin .geq .sc (.t 41) (.t 42)))]) (.cond (.t 43) (y9j1 c) .skip)) (y9j2 c))
def y9j4 (c:Nat→FuncId):LCode:=(.sq [(zs 34 (.mv false (.t 9))),(zs 35 (.bin .add .sc (.t 34) (zi 1))),(zs 9 (.mv true (.t 35)))])
def y9j5 (c:Nat→FuncId):LCode:=(.seq (.block 1 (.seq (.sq [(zs 36 (.call (.f (c 1)) [(.t 7)])),(zs 37 (.mv false (.t 8))),(zs 38 (.bin .sub .sc (.t 37) (.c (.int .u64 1)))),(zs 39 (.bin .and .sc (.t 36) (.t 38))),(zs 40 (.conv (.int .i64) (.t 39))),(zs 10 (.mv true (.t 40)))]) (y9j3 c))) (y9j4 c))
def y9j6 (c:Nat→FuncId):LCode:=(.seq (.seq (.sq [(zs 26 (.mv false (.t 9))),(zs 27 (.mv false (.t 1))),(zs 28 (.mv false (.t 6))),(zs 29 (.bin .quo .sc (.t 28) (zi 4))),(zs 30 (.bin .mul .sc (.t 29) (zi 2))),(zs 31 (.bin .add .sc (.t 27) (.t 30))),(zs 32 (.bin .add .sc (.t 31) (zi 1))),(zs 33 (.bin .leq .sc (.t 26) (.t 32)))]) (.cond (.t 33) .skip (.exit 0))) (y9j5 c))
def y9j7 (c:Nat→FuncId):LCode:=(.block 0 (.loop (zm false [0,2,4,4,55]) (y9j6 c)))
def y9j8 (c:Nat→FuncId):LCode:=(.seq (.sq [(zs 20 (.mv false (.t 1))),(zs 21 (.mv false (.t 6))),(zs 22 (.bin .quo .sc (.t 21) (zi 4))),(zs 23 (.bin .mul .sc (.t 22) (zi 2))),(zs 24 (.bin .add .sc (.t 20) (.t 23))),(zs 25 (.bin .sub .sc (.t 24) (zi 1))),(zs 9 (.mv true (.t 25)))]) (y9j7 c))
def y9j9 (c:Nat→FuncId):LCode:=(.seq (.sq [(zs 18 (.mv false (.t 6))),(zs 19 (.call (.f (c 0)) [(.t 18)])),(zs 8 (.mv true (.t 19)))]) (y9j8 c))
def y9j10 (c:Nat→FuncId):LCode:=(.seq (.sq [(zs 16 (.mv false (.t 6))),(zs 17 (.conv (.int .u64) (.t 16))),(zs 7 (.alloc false [(.s (.int .u64 0))])),(zn (.store 1 (.t 7) (.t 17)))]) (y9j9 c))
def y9j11 (c:Nat→FuncId):LCode:=(.seq (.sq [(zs 14 (.mv false (.t 6))),(zs 15 (.bin .geq .sc (.t 14) (zi 8)))]) (.cond (.t 15) (y9j10 c) .skip))
def U_slices_breakPatternsOrdered_int64 (c:Nat→FuncId):=PLift.up (zc (zc (zc (@unfC _ _ (y9j1.eq_1 c)) (@unfC _ _ (y9j2.eq_1 c))) (zc (@unfC _ _ (y9j3.eq_1 c)) (zc (@unfC _ _ (y9j4.eq_1 c)) (@unfC _ _ (y9j5.eq_1 c))))) (zc (zc (@unfC _ _ (y9j6.eq_1 c)) (zc (@unfC _ _ (y9j7.eq_1 c)) (@unfC _ _ (y9j8.eq_1 c)))) (zc (@unfC _ _ (y9j9.eq_1 c)) (zc (@unfC _ _ (y9j10.eq_1 c)) (@unfC _ _ (y9j11.eq_1 c))))))
def C_slices_breakPatternsOrdered_int64 (c:Nat→FuncId):LFn:=⟨65,[],(.seq (.sq [(zs 11 (.mv false (.t 2))),(zs 12 (.mv false (.t 1))),(zs 13 (.bin .sub .sc (.t 11) (.t 12))),(zs 6 (.mv true (.t 13)))]) (y9j11 c))⟩
def y9k1 (c:Nat→FuncId):LCode:=(.seq (.sq [(zs 24 (.mv false (.t 2))),(zs 25 (.mv false (.t 1))),(zs 8 (.mv true (.t 24))),(zs 9 (.mv true (.t 25)))]) .ret)
def y9k2 (c:Nat→FuncId):LCode:=(.seq (.sq [(zs 19 (.mv false (.t 3))),(zs 20 (.nilc (.t 19))),(zs 21 (.load1 false (.t 20))),(zs 22 (.bin .add .sc (.t 21) (zi 1))),(zs 23 (.nilc (.t 19))),(zn (.store 1 (.t 23) (.t 22)))]) (y9k1 c))
def y9k3 (c:Nat→FuncId):LCode:=(.seq (.sq [(zs 26 (.mv false (.t 1))),(zs 27 (.mv false (.t 2))),(zs 8 (.mv true (.t 26))),(zs 9 (.mv true (.t 27)))]) .ret)
def y9k4 (c:Nat→FuncId):LCode:=(.seq (.seq (.tree (.rd (zs 10 (.mv false (.t 0))) 0 false (.rd (zs 11 (.mv false (.t 2))) 1 false (.rd (zs 12 (.ixa (.sl 1) (.t 10) (.t 11))) 2 false (.rd (zs 13 (.load1 false (.t 12))) 3 false (.rd (zs 14 (.mv false (.t 0))) 4 false (.rd (zs 15 (.mv false (.t 1))) 5 false (.rd (zs 16 (.ixa (.sl 1) (.t 14) (.t 15))) 6 false (.rd (zs 17 (.load1 false (.t 16))) 7 false (.mv (zs 18 (.call (.f (c 0)) [(.t 13),(.t 17)])) [0,1,2,3,4,5,6,7] .done .stop)))))))))) (.cond (.t 18) (y9k2 c) .skip)) (y9k3 c))
def U_slices_order2Ordered_int64 (c:Nat→FuncId):=PLift.up (zc (zc (@unfC _ _ (y9k1.eq_1 c)) (@unfC _ _ (y9k2.eq_1 c))) (zc (@unfC _ _ (y9k3.eq_1 c)) (@unfC _ _ (y9k4.eq_1 c))))
def C_slices_order2Ordered_int64 (c:Nat→FuncId):LFn:=⟨28,[.t 8,.t 9],(.seq (.sq [(zs 8 (.mv true (zi 0))),(zs 9 (.mv true (zi 0)))]) (y9k4 c))⟩
def y9l1 (c:Nat→FuncId):LCode:=(.seq (.sq [(zs 28 (.mv true (.t 0))),(zs 29 (.mv false (.t 1))),(zs 30 (.mv false (.t 2))),(zs 31 (.mv false (.t 4))),(zs 32 (.call (.f (c 0)) [(.t 28),(.t 29),(.t 30),(.t 31)])),(zs 27 (.mv false (.t 32))),(zs 33 (.ext (.t 27) 0)),(zs 34 (.ext (.t 27) 1)),(zs 1 (.mv true (.t 33))),(zs 2 (.mv true (.t 34)))]) (.seq (.sq [(zs 35 (.mv false (.t 2))),(zs 10 (.mv true (.t 35)))]) .ret))
def y9l2 (c:Nat→FuncId):LCode:=(.seq (.sq [(zs 20 (.mv false (.t 0))),(zs 21 (.mv false (.t 2))),(zs 22 (.mv false (.t 3))),(zs 23 (.mv false (.t 4))),(zs 24 (.call (.f (c 0)) [(.t 20),(.t 21),(.t 22),(.t 23)])),(zs 19 (.mv false (.t 24))),(zs 25 (.ext (.t 19) 0)),(zs 26 (.ext (.t 19) 1)),(zs 2 (.mv true (.t 25))),(zs 3 (.mv true (.t 26)))]) (y9l1 c))
def y9l3 (c:Nat→FuncId):LCode:=(.seq (.sq [(zs 12 (.mv false (.t 0))),(zs 13 (.mv false (.t 1))),(zs 14 (.mv false (.t 2))),(zs 15 (.mv false (.t 4))),(zs 16 (.call (.f (c 0)) [(.t 12),(.t 13),(.t 14),(.t 15)])),(zs 11 (.mv false (.t 16))),(zs 17 (.ext (.t 11) 0)),(zs 18 (.ext (.t 11) 1)),(zs 1 (.mv true (.t 17))),(zs 2 (.mv true (.t 18)))]) (y9l2 c))
def U_slices_medianOrdered_int64 (c:Nat→FuncId):=PLift.up (zc (@unfC _ _ (y9l1.eq_1 c)) (zc (@unfC _ _ (y9l2.eq_1 c)) (@unfC _ _ (y9l3.eq_1 c))))
def C_slices_medianOrdered_int64 (c:Nat→FuncId):LFn:=⟨36,[.t 10],(.seq (.sq [(zs 10 (.mv true (zi 0)))]) (y9l3 c))⟩
def y9m1 (c:Nat→FuncId):LCode:=(.seq (.sq [(zs 7 (.mv true (.t 0))),(zs 8 (.mv false (.t 1))),(zs 9 (.bin .sub .sc (.t 8) (zi 1))),(zs 10 (.mv false (.t 1))),(zs 11 (.mv false (.t 1))),(zs 12 (.bin .add .sc (.t 11) (zi 1))),(zs 13 (.mv false (.t 2))),(zs 14 (.call (.f (c 0)) [(.t 7),(.t 9),(.t 10),(.t 12),(.t 13)])),(zs 6 (.mv true (.t 14)))]) .ret)
def U_slices_medianAdjacentOrdered_int64 (c:Nat→FuncId):=PLift.up (@unfC _ _ (y9m1.eq_1 c))
def C_slices_medianAdjacentOrdered_int64 (c:Nat→FuncId):LFn:=⟨15,[.t 6],(.seq (.sq [(zs 6 (.mv true (zi 0)))]) (y9m1 c))⟩
def y9n1 (c:Nat→FuncId):LCode:=(.sq [(zs 41 (.mv false (.t 0))),(zs 42 (.mv false (.t 12))),(zs 43 (.call (.f (c 0)) [(.t 41),(.t 42),(.t 9)])),(zs 12 (.mv true (.t 43)))])
def y9n2 (c:Nat→FuncId):LCode:=(.seq (.sq [(zs 38 (.mv false (.t 0))),(zs 39 (.mv false (.t 11))),(zs 40 (.call (.f (c 0)) [(.t 38),(.t 39),(.t 9)])),(zs 11 (.mv true (.t 40)))]) (y9n1 c))
def y9n3 (c:Nat→FuncId):LCode:=(.seq (.sq [(zs 35 (.mv false (.t 0))),(zs 36 (.mv false (.t 10))),(zs 37 (.call (.f (c 0)) [(.t 35),(.t 36),(.t 9)])),(zs 10 (.mv true (.t 37)))]) (y9n2 c))
def y9n4 (c:Nat→FuncId):LCode:=(.sq [(zs 44 (.mv true (.t 0))),(zs 45 (.mv false (.t 10))),(zs 46 (.mv false (.t 11))),(zs 47 (.mv false (.t 12))),(zs 48 (.call (.f (c 1)) [(.t 44),(.t 45),(.t 46),(.t 47),(.t 9)])),(zs 11 (.mv true (.t 48)))])
def y9n5 (c:Nat→FuncId):LCode:=(.seq (.seq (.sq [(zs 33 (.mv false (.t 8))),(zs 34 (.bin .geq .sc (.t 33) (zi 50)))]) (.cond (.t 34) (y9n3 c) .skip)) (y9n4 c))
def y9n6 (c:Nat→FuncId):LCode:=(.seq (.sq [(zs 53 (.mv false (.t 11))),(zs 6 (.mv true (.t 53))),(zs 7 (.mv true (zi 1)))]) .ret)
def y9n7 (c:Nat→FuncId):LCode:=(.seq (.sq [(zs 56 (.mv false (.t 11))),(zs 6 (.mv true (.t 56))),(zs 7 (.mv true (zi 2)))]) .ret)
def y9n8 (c:Nat→FuncId):LCode:=(.seq (.sq [(zs 50 (.mv false (.t 11))),(zs 6 (.mv true (.t 50))),(zs 7 (.mv true (zi 0)))]) .ret)
def y9n9 (c:Nat→FuncId):LCode:=(.seq (.sq [(zs 55 (.bin .eql .sc (.t 49) (zi 12))),(zs 54 (.mv true (.t 55)))]) (.cond (.t 54) (y9n7 c) (y9n8 c)))
def y9n10 (c:Nat→FuncId):LCode:=(.block 0 (.seq (.sq [(zs 52 (.bin .eql .sc (.t 49) (zi 0))),(zs 51 (.mv true (.t 52)))]) (.cond (.t 51) (y9n6 c) (y9n9 c))))
def y9n11 (c:Nat→FuncId):LCode:=(.seq (.seq (.sq [(zs 31 (.mv false (.t 8))),(zs 32 (.bin .geq .sc (.t 31) (zi 8)))]) (.cond (.t 32) (y9n5 c) .skip)) (.seq (.sq [(zs 49 (.load1 false (.t 9)))]) (y9n10 c)))
def y9n12 (c:Nat→FuncId):LCode:=(.seq (.sq [(zs 26 (.mv false (.t 1))),(zs 27 (.mv false (.t 8))),(zs 28 (.bin .quo .sc (.t 27) (zi 4))),(zs 29 (.bin .mul .sc (.t 28) (zi 3))),(zs 30 (.bin .add .sc (.t 26) (.t 29))),(zs 12 (.mv true (.t 30)))]) (y9n11 c))
def y9n13 (c:Nat→FuncId):LCode:=(.seq (.sq [(zs 21 (.mv false (.t 1))),(zs 22 (.mv false (.t 8))),(zs 23 (.bin .quo .sc (.t 22) (zi 4))),(zs 24 (.bin .mul .sc (.t 23) (zi 2))),(zs 25 (.bin .add .sc (.t 21) (.t 24))),(zs 11 (.mv true (.t 25)))]) (y9n12 c))
def y9n14 (c:Nat→FuncId):LCode:=(.seq (.sq [(zs 16 (.mv false (.t 1))),(zs 17 (.mv false (.t 8))),(zs 18 (.bin .quo .sc (.t 17) (zi 4))),(zs 19 (.bin .mul .sc (.t 18) (zi 1))),(zs 20 (.bin .add .sc (.t 16) (.t 19))),(zs 10 (.mv true (.t 20)))]) (y9n13 c))
def y9n15 (c:Nat→FuncId):LCode:=(.seq (.sq [(zs 13 (.mv false (.t 2))),(zs 14 (.mv false (.t 1))),(zs 15 (.bin .sub .sc (.t 13) (.t 14))),(zs 8 (.mv true (.t 15)))]) (.seq (.sq [(zs 9 (.alloc false [(.s (.int .i64 0))]))]) (y9n14 c)))
def U_slices_choosePivotOrdered_int64 (c:Nat→FuncId):=PLift.up (zc (zc (zc (@unfC _ _ (y9n1.eq_1 c)) (zc (@unfC _ _ (y9n2.eq_1 c)) (@unfC _ _ (y9n3.eq_1 c)))) (zc (zc (@unfC _ _ (y9n4.eq_1 c)) (@unfC _ _ (y9n5.eq_1 c))) (zc (@unfC _ _ (y9n6.eq_1 c)) (@unfC _ _ (y9n7.eq_1 c))))) (zc (zc (zc (@unfC _ _ (y9n8.eq_1 c)) (@unfC _ _ (y9n9.eq_1 c))) (zc (@unfC _ _ (y9n10.eq_1 c)) (@unfC _ _ (y9n11.eq_1 c)))) (zc (zc (@unfC _ _ (y9n12.eq_1 c)) (@unfC _ _ (y9n13.eq_1 c))) (zc (@unfC _ _ (y9n14.eq_1 c)) (@unfC _ _ (y9n15.eq_1 c))))))
def C_slices_choosePivotOrdered_int64 (c:Nat→FuncId):LFn:=⟨57,[.t 6,.t 7],(.seq (.sq [(zs 6 (.mv true (zi 0))),(zs 7 (.mv true (zi 0)))]) (y9n15 c))⟩
def y9o1:LCode:=(.sq [(zs 30 (.mv false (.t 7))),(zs 31 (.bin .sub .sc (.t 30) (zi 1))),(zs 7 (.mv true (.t 31)))])
def y9o2:LCode:=(.seq (.sq [(zs 28 (.mv false (.t 6))),(zs 29 (.bin .add .sc (.t 28) (zi 1))),(zs 6 (.mv true (.t 29)))]) y9o1)
def y9o3:LCode:=(.block 1 (.seq (.tree (.rd (zs 14 (.mv false (.t 0))) 0 false (.rd (zs 15 (.mv false (.t 6))) 1 false (.rd (zs 16 (.mv false (.t 0))) 2 true (.rd (zs 17 (.mv false (.t 7))) 3 true (.rd (zs 18 (.mv false (.t 0))) 4 false (.rd (zs 19 (.mv false (.t 7))) 5 false (.rd (zs 20 (.ixa (.sl 1) (.t 18) (.t 19))) 6 false (.rd (zs 21 (.load1 false (.t 20))) 7 false (.rd (zs 22 (.mv false (.t 0))) 8 false (.rd (zs 23 (.mv false (.t 6))) 9 false (.rd (zs 24 (.ixa (.sl 1) (.t 22) (.t 23))) 10 false (.rd (zs 25 (.load1 false (.t 24))) 11 false (.rd (zs 26 (.ixa (.sl 1) (.t 14) (.t 15))) 12 false (.mv (zn (.store 1 (.t 26) (.t 21))) [0,1,4,5,6,7,8,9,10,11,12] (.rd (zs 27 (.ixa (.sl 1) (.t 16) (.t 17))) 14 false (.mv (zn (.store 1 (.t 27) (.t 25))) [0,1,2,3,4,5,6,7,8,9,10,11,12,13,14] .done .stop)) .stop))))))))))))))) y9o2))
def y9o4:LCode:=(.seq (.seq (.sq [(zs 11 (.mv false (.t 6))),(zs 12 (.mv false (.t 7))),(zs 13 (.bin .lss .sc (.t 11) (.t 12)))]) (.cond (.t 13) .skip (.exit 0))) y9o3)
def y9o5:LCode:=(.block 0 (.loop (zm false [0,1,5,2,24]) y9o4))
def y9o6:LCode:=(.seq (.sq [(zs 9 (.mv false (.t 2))),(zs 10 (.bin .sub .sc (.t 9) (zi 1))),(zs 7 (.mv true (.t 10)))]) y9o5)
def U_slices_reverseRangeOrdered_int64:=PLift.up (zc (zc (@unfC _ _ (y9o1.eq_1)) (zc (@unfC _ _ (y9o2.eq_1)) (@unfC _ _ (y9o3.eq_1)))) (zc (@unfC _ _ (y9o4.eq_1)) (zc (@unfC _ _ (y9o5.eq_1)) (@unfC _ _ (y9o6.eq_1)))))
def C_slices_reverseRangeOrdered_int64:LFn:=⟨32,[],(.seq (.sq [(zs 8 (.mv false (.t 1))),(zs 6 (.mv true (.t 8)))]) y9o6)⟩
def y9p1 (c:Nat→FuncId):LCode:=(.block 3 (.sq [(zs 33 (.mv false (.t 7))),(zs 34 (.bin .add .sc (.t 33) (zi 1))),(zs 7 (.mv true (.t 34)))]))
def y9p2 (c:Nat→FuncId):LCode:=(.seq (.seq (.tree (.rd (zs 17 (.mv false (.t 7))) 0 false (.rd (zs 18 (.mv false (.t 2))) 1 false (.rd (zs 19 (.bin .lss .sc (.t 17) (.t 18))) 2 false (.rd (zs 20 (.mv false (.t 19))) 3 false (.rd (zt 21 20 (.mv false (.t 0))) 4 false (.rd (zt 22 20 (.mv false (.t 7))) 5 false (.rd (zt 23 20 (.ixa (.sl 1) (.t 21) (.t 22))) 6 false (.rd (zt 24 20 (.load1 false (.t 23))) 7 false (.rd (zt 25 20 (.mv false (.t 0))) 8 false (.rd (zt 26 20 (.mv false (.t 7))) 9 false (.rd (zt 27 20 (.bin .sub .sc (.t 26) (zi 1))) 10 false (.rd (zt 28 20 (.ixa (.sl 1) (.t 25) (.t 27))) 11 false (.rd (zt 29 20 (.load1 false (.t 28))) 12 false (.mv (zt 30 20 (.call (.f (c 0)) [(.t 24),(.t 29)])) [0,1,2,3,4,5,6,7,8,9,10,11,12] (.rd (zt 31 20 (.un .not (.t 30))) 14 false (.rd (zs 32 (.pick (.t 20) (.t 31) zF)) 15 false .done)) .stop))))))))))))))) (.cond (.t 32) .skip (.exit 2))) (y9p1 c))
def y9p3 (c:Nat→FuncId):LCode:=(.tree (.rd (zs 79 (.mv false (.t 0))) 0 false (.rd (zs 80 (.mv false (.t 9))) 1 false (.rd (zs 81 (.mv false (.t 0))) 2 true (.rd (zs 82 (.mv false (.t 9))) 3 true (.rd (zs 83 (.bin .sub .sc (.t 82) (zi 1))) 4 true (.rd (zs 84 (.mv false (.t 0))) 5 false (.rd (zs 85 (.mv false (.t 9))) 6 false (.rd (zs 86 (.bin .sub .sc (.t 85) (zi 1))) 7 false (.rd (zs 87 (.ixa (.sl 1) (.t 84) (.t 86))) 8 false (.rd (zs 88 (.load1 false (.t 87))) 9 false (.rd (zs 89 (.mv false (.t 0))) 10 false (.rd (zs 90 (.mv false (.t 9))) 11 false (.rd (zs 91 (.ixa (.sl 1) (.t 89) (.t 90))) 12 false (.rd (zs 92 (.load1 false (.t 91))) 13 false (.rd (zs 93 (.ixa (.sl 1) (.t 79) (.t 80))) 14 false (.mv (zn (.store 1 (.t 93) (.t 88))) [0,1,5,6,7,8,9,10,11,12,13,14] (.rd (zs 94 (.ixa (.sl 1) (.t 81) (.t 83))) 16 false (.mv (zn (.store 1 (.t 94) (.t 92))) [0,1,2,3,4,5,6,7,8,9,10,11,12,13,14,15,16] .done .stop)) .stop)))))))))))))))))
def y9p4 (c:Nat→FuncId):LCode:=(.sq [(zs 66 (.mv false (.t 9))),(zs 67 (.bin .sub .sc (.t 66) (zi 1))),(zs 9 (.mv true (.t 67)))])
def y9p5 (c:Nat→FuncId):LCode:=(.seq (.block 5 (.seq (.seq (.tree (.rd (zs 68 (.mv false (.t 0))) 0 false (.rd (zs 69 (.mv false (.t 9))) 1 false (.rd (zs 70 (.ixa (.sl 1) (.t 68) (.t 69))) 2 false (.rd (zs 71 (.load1 false (.t 70))) 3 false (.rd (zs 72 (.mv false (.t 0))) 4 false (.rd (zs 73 (.mv false (.t 9))) 5 false (.rd (zs 74 (.bin .sub .sc (.t 73) (zi 1))) 6 false (.rd (zs 75 (.ixa (.sl 1) (.t 72) (.t 74))) 7 false (.rd (zs 76 (.load1 false (.t 75))) 8 false (.mv (zs 77 (.call (.f (c 0)) [(.t 71),(.t 76)])) [0,1,2,3,4,5,6,7,8] (.rd (zs 78 (.un .not (.t 77))) 10 false .done) .stop))))))))))) (.cond (.t 78) (.exit 4) .skip)) (y9p3 c))) (y9p4 c))
def y9p6 (c:Nat→FuncId):LCode:=(.seq (.seq (.sq [(zs 64 (.mv false (.t 9))),(zs 65 (.bin .geq .sc (.t 64) (zi 1)))]) (.cond (.t 65) .skip (.exit 4))) (y9p5 c))
def y9p7 (c:Nat→FuncId):LCode:=(.block 4 (.loop (zm false [0,3,4,3,123]) (y9p6 c)))
def y9p8 (c:Nat→FuncId):LCode:=(.seq (.sq [(zs 62 (.mv false (.t 7))),(zs 63 (.bin .sub .sc (.t 62) (zi 1))),(zs 9 (.mv true (.t 63)))]) (y9p7 c))
def y9p9 (c:Nat→FuncId):LCode:=(.tree (.rd (zs 117 (.mv false (.t 0))) 0 false (.rd (zs 118 (.mv false (.t 10))) 1 false (.rd (zs 119 (.mv false (.t 0))) 2 true (.rd (zs 120 (.mv false (.t 10))) 3 true (.rd (zs 121 (.bin .sub .sc (.t 120) (zi 1))) 4 true (.rd (zs 122 (.mv false (.t 0))) 5 false (.rd (zs 123 (.mv false (.t 10))) 6 false (.rd (zs 124 (.bin .sub .sc (.t 123) (zi 1))) 7 false (.rd (zs 125 (.ixa (.sl 1) (.t 122) (.t 124))) 8 false (.rd (zs 126 (.load1 false (.t 125))) 9 false (.rd (zs 127 (.mv false (.t 0))) 10 false (.rd (zs 128 (.mv false (.t 10))) 11 false (.rd (zs 129 (.ixa (.sl 1) (.t 127) (.t 128))) 12 false (.rd (zs 130 (.load1 false (.t 129))) 13 false (.rd (zs 131 (.ixa (.sl 1) (.t 117) (.t 118))) 14 false (.mv (zn (.store 1 (.t 131) (.t 126))) [0,1,5,6,7,8,9,10,11,12,13,14] (.rd (zs 132 (.ixa (.sl 1) (.t 119) (.t 121))) 16 false (.mv (zn (.store 1 (.t 132) (.t 130))) [0,1,2,3,4,5,6,7,8,9,10,11,12,13,14,15,16] .done .stop)) .stop)))))))))))))))))
def y9p10 (c:Nat→FuncId):LCode:=(.sq [(zs 104 (.mv false (.t 10))),(zs 105 (.bin .add .sc (.t 104) (zi 1))),(zs 10 (.mv true (.t 105)))])
def y9p11 (c:Nat→FuncId):LCode:=(.seq (.block 7 (.seq (.seq (.tree (.rd (zs 106 (.mv false (.t 0))) 0 false (.rd (zs 107 (.mv false (.t 10))) 1 false (.rd (zs 108 (.ixa (.sl 1) (.t 106) (.t 107))) 2 false (.rd (zs 109 (.load1 false (.t 108))) 3 false (.rd (zs 110 (.mv false (.t 0))) 4 false (.rd (zs 111 (.mv false (.t 10))) 5 false (.rd (zs 112 (.bin .sub .sc (.t 111) (zi 1))) 6 false (.rd (zs 113 (.ixa (.sl 1) (.t 110) (.t 112))) 7 false (.rd (zs 114 (.load1 false (.t 113))) 8 false (.mv (zs 115 (.call (.f (c 0)) [(.t 109),(.t 114)])) [0,1,2,3,4,5,6,7,8] (.rd (zs 116 (.un .not (.t 115))) 10 false .done) .stop))))))))))) (.cond (.t 116) (.exit 6) .skip)) (y9p9 c))) (y9p10 c))
def y9p12 (c:Nat→FuncId):LCode:=(.seq (.seq (.sq [(zs 101 (.mv false (.t 10))),(zs 102 (.mv false (.t 2))),(zs 103 (.bin .lss .sc (.t 101) (.t 102)))]) (.cond (.t 103) .skip (.exit 6))) (y9p11 c))
def y9p13 (c:Nat→FuncId):LCode:=(.block 6 (.loop (zm false [0,3,4,2,1,1,122]) (y9p12 c)))
def y9p14 (c:Nat→FuncId):LCode:=(.seq (.sq [(zs 99 (.mv false (.t 7))),(zs 100 (.bin .add .sc (.t 99) (zi 1))),(zs 10 (.mv true (.t 100)))]) (y9p13 c))
def y9p15 (c:Nat→FuncId):LCode:=(.seq (.sq [(zs 95 (.mv false (.t 2))),(zs 96 (.mv false (.t 7))),(zs 97 (.bin .sub .sc (.t 95) (.t 96))),(zs 98 (.bin .geq .sc (.t 97) (zi 2)))]) (.cond (.t 98) (y9p14 c) .skip))
def y9p16 (c:Nat→FuncId):LCode:=(.seq (.seq (.sq [(zs 58 (.mv false (.t 7))),(zs 59 (.mv false (.t 1))),(zs 60 (.bin .sub .sc (.t 58) (.t 59))),(zs 61 (.bin .geq .sc (.t 60) (zi 2)))]) (.cond (.t 61) (y9p8 c) .skip)) (y9p15 c))
def y9p17 (c:Nat→FuncId):LCode:=(.seq (.tree (.rd (zs 42 (.mv false (.t 0))) 0 false (.rd (zs 43 (.mv false (.t 7))) 1 false (.rd (zs 44 (.mv false (.t 0))) 2 true (.rd (zs 45 (.mv false (.t 7))) 3 true (.rd (zs 46 (.bin .sub .sc (.t 45) (zi 1))) 4 true (.rd (zs 47 (.mv false (.t 0))) 5 false (.rd (zs 48 (.mv false (.t 7))) 6 false (.rd (zs 49 (.bin .sub .sc (.t 48) (zi 1))) 7 false (.rd (zs 50 (.ixa (.sl 1) (.t 47) (.t 49))) 8 false (.rd (zs 51 (.load1 false (.t 50))) 9 false (.rd (zs 52 (.mv false (.t 0))) 10 false (.rd (zs 53 (.mv false (.t 7))) 11 false (.rd (zs 54 (.ixa (.sl 1) (.t 52) (.t 53))) 12 false (.rd (zs 55 (.load1 false (.t 54))) 13 false (.rd (zs 56 (.ixa (.sl 1) (.t 42) (.t 43))) 14 false (.mv (zn (.store 1 (.t 56) (.t 51))) [0,1,5,6,7,8,9,10,11,12,13,14] (.rd (zs 57 (.ixa (.sl 1) (.t 44) (.t 46))) 16 false (.mv (zn (.store 1 (.t 57) (.t 55))) [0,1,2,3,4,5,6,7,8,9,10,11,12,13,14,15,16] .done .stop)) .stop))))))))))))))))) (y9p16 c))
def y9p18 (c:Nat→FuncId):LCode:=(.seq (.seq (.sq [(zs 38 (.mv false (.t 2))),(zs 39 (.mv false (.t 1))),(zs 40 (.bin .sub .sc (.t 38) (.t 39))),(zs 41 (.bin .lss .sc (.t 40) (zi 50)))]) (.cond (.t 41) (.seq (.sq [(zs 6 (.mv true zF))]) .ret) .skip)) (y9p17 c))
def y9p19 (c:Nat→FuncId):LCode:=(.seq (.seq (.sq [(zs 35 (.mv false (.t 7))),(zs 36 (.mv false (.t 2))),(zs 37 (.bin .eql .sc (.t 35) (.t 36)))]) (.cond (.t 37) (.seq (.sq [(zs 6 (.mv true zT))]) .ret) .skip)) (y9p18 c))
def y9p20 (c:Nat→FuncId):LCode:=(.sq [(zs 15 (.mv false (.t 8))),(zs 16 (.bin .add .sc (.t 15) (zi 1))),(zs 8 (.mv true (.t 16)))])
def y9p21 (c:Nat→FuncId):LCode:=(.seq (.block 1 (.seq (.block 2 (.loop (zm false [0,3,4,2,124]) (y9p2 c))) (y9p19 c))) (y9p20 c))
def y9p22 (c:Nat→FuncId):LCode:=(.seq (.seq (.sq [(zs 13 (.mv false (.t 8))),(zs 14 (.bin .lss .sc (.t 13) (zi 5)))]) (.cond (.t 14) .skip (.exit 0))) (y9p21 c))
def y9p23 (c:Nat→FuncId):LCode:=(.block 0 (.loop (zm false [0,3,4,2,124]) (y9p22 c)))
def y9p24 (c:Nat→FuncId):LCode:=(.seq (.seq (.sq [(zs 8 (.mv true (zi 0)))]) (y9p23 c)) (.seq (.sq [(zs 6 (.mv true zF))]) .ret))
def y9p25 (c:Nat→FuncId):LCode:=(.seq (.sq [(zs 11 (.mv false (.t 1))),(zs 12 (.bin .add .sc (.t 11) (zi 1))),(zs 7 (.mv true (.t 12)))]) (y9p24 c))
def U_slices_partialInsertionSortOrdered_int64 (c:Nat→FuncId):=PLift.up (zc (zc (zc (zc (@unfC _ _ (y9p1.eq_1 c)) (zc (@unfC _ _ (y9p2.eq_1 c)) (@unfC _ _ (y9p3.eq_1 c)))) (zc (@unfC _ _ (y9p4.eq_1 c)) (zc (@unfC _ _ (y9p5.eq_1 c)) (@unfC _ _ (y9p6.eq_1 c))))) (zc (zc (@unfC _ _ (y9p7.eq_1 c)) (zc (@unfC _ _ (y9p8.eq_1 c)) (@unfC _ _ (y9p9.eq_1 c)))) (zc (@unfC _ _ (y9p10.eq_1 c)) (zc (@unfC _ _ (y9p11.eq_1 c)) (@unfC _ _ (y9p12.eq_1 c)))))) (zc (zc (zc (@unfC _ _ (y9p13.eq_1 c)) (zc (@unfC _ _ (y9p14.eq_1 c)) (@unfC _ _ (y9p15.eq_1 c)))) (zc (@unfC _ _ (y9p16.eq_1 c)) (zc (@unfC _ _ (y9p17.eq_1 c)) (@unfC _ _ (y9p18.eq_1 c))))) (zc (zc (@unfC _ _ (y9p19.eq_1 c)) (zc (@unfC _ _ (y9p20.eq_1 c)) (@unfC _ _ (y9p21.eq_1 c)))) (zc (zc (@unfC _ _ (y9p22.eq_1 c)) (@unfC _ _ (y9p23.eq_1 c))) (zc (@unfC _ _ (y9p24.eq_1 c)) (@unfC _ _ (y9p25.eq_1 c)))))))
def C_slices_partialInsertionSortOrdered_int64 (c:Nat→FuncId):LFn:=⟨133,[.t 6],(.seq (.sq [(zs 6 (.mv true zF))]) (y9p25 c))⟩
def y9q1 (c:Nat→FuncId):LCode:=(.block 3 (.sq [(zs 44 (.mv false (.t 9))),(zs 45 (.bin .add .sc (.t 44) (zi 1))),(zs 9 (.mv true (.t 45)))]))
def y9q2 (c:Nat→FuncId):LCode:=(.seq (.seq (.tree (.rd (zs 29 (.mv false (.t 9))) 0 false (.rd (zs 30 (.mv false (.t 10))) 1 false (.rd (zs 31 (.bin .leq .sc (.t 29) (.t 30))) 2 false (.rd (zs 32 (.mv false (.t 31))) 3 false (.rd (zt 33 32 (.mv false (.t 0))) 4 false (.rd (zt 34 32 (.mv false (.t 1))) 5 false (.rd (zt 35 32 (.ixa (.sl 1) (.t 33) (.t 34))) 6 false (.rd (zt 36 32 (.load1 false (.t 35))) 7 false (.rd (zt 37 32 (.mv false (.t 0))) 8 false (.rd (zt 38 32 (.mv false (.t 9))) 9 false (.rd (zt 39 32 (.ixa (.sl 1) (.t 37) (.t 38))) 10 false (.rd (zt 40 32 (.load1 false (.t 39))) 11 false (.mv (zt 41 32 (.call (.f (c 0)) [(.t 36),(.t 40)])) [0,1,2,3,4,5,6,7,8,9,10,11] (.rd (zt 42 32 (.un .not (.t 41))) 13 false (.rd (zs 43 (.pick (.t 32) (.t 42) zF)) 14 false .done)) .stop)))))))))))))) (.cond (.t 43) .skip (.exit 2))) (y9q1 c))
def y9q3 (c:Nat→FuncId):LCode:=(.block 5 (.sq [(zs 60 (.mv false (.t 10))),(zs 61 (.bin .sub .sc (.t 60) (zi 1))),(zs 10 (.mv true (.t 61)))]))
def y9q4 (c:Nat→FuncId):LCode:=(.seq (.seq (.tree (.rd (zs 46 (.mv false (.t 9))) 0 false (.rd (zs 47 (.mv false (.t 10))) 1 false (.rd (zs 48 (.bin .leq .sc (.t 46) (.t 47))) 2 false (.rd (zs 49 (.mv false (.t 48))) 3 false (.rd (zt 50 49 (.mv false (.t 0))) 4 false (.rd (zt 51 49 (.mv false (.t 1))) 5 false (.rd (zt 52 49 (.ixa (.sl 1) (.t 50) (.t 51))) 6 false (.rd (zt 53 49 (.load1 false (.t 52))) 7 false (.rd (zt 54 49 (.mv false (.t 0))) 8 false (.rd (zt 55 49 (.mv false (.t 10))) 9 false (.rd (zt 56 49 (.ixa (.sl 1) (.t 54) (.t 55))) 10 false (.rd (zt 57 49 (.load1 false (.t 56))) 11 false (.mv (zt 58 49 (.call (.f (c 0)) [(.t 53),(.t 57)])) [0,1,2,3,4,5,6,7,8,9,10,11] (.rd (zs 59 (.pick (.t 49) (.t 58) zF)) 13 false .done) .stop)))))))))))))) (.cond (.t 59) .skip (.exit 4))) (y9q3 c))
def y9q5 (c:Nat→FuncId):LCode:=(.sq [(zs 81 (.mv false (.t 10))),(zs 82 (.bin .sub .sc (.t 81) (zi 1))),(zs 10 (.mv true (.t 82)))])
def y9q6 (c:Nat→FuncId):LCode:=(.seq (.sq [(zs 79 (.mv false (.t 9))),(zs 80 (.bin .add .sc (.t 79) (zi 1))),(zs 9 (.mv true (.t 80)))]) (y9q5 c))
def y9q7 (c:Nat→FuncId):LCode:=(.seq (.tree (.rd (zs 65 (.mv false (.t 0))) 0 false (.rd (zs 66 (.mv false (.t 9))) 1 false (.rd (zs 67 (.mv false (.t 0))) 2 true (.rd (zs 68 (.mv false (.t 10))) 3 true (.rd (zs 69 (.mv false (.t 0))) 4 false (.rd (zs 70 (.mv false (.t 10))) 5 false (.rd (zs 71 (.ixa (.sl 1) (.t 69) (.t 70))) 6 false (.rd (zs 72 (.load1 false (.t 71))) 7 false (.rd (zs 73 (.mv false (.t 0))) 8 false (.rd (zs 74 (.mv false (.t 9))) 9 false (.rd (zs 75 (.ixa (.sl 1) (.t 73) (.t 74))) 10 false (.rd (zs 76 (.load1 false (.t 75))) 11 false (.rd (zs 77 (.ixa (.sl 1) (.t 65) (.t 66))) 12 false (.mv (zn (.store 1 (.t 77) (.t 72))) [0,1,4,5,6,7,8,9,10,11,12] (.rd (zs 78 (.ixa (.sl 1) (.t 67) (.t 68))) 14 false (.mv (zn (.store 1 (.t 78) (.t 76))) [0,1,2,3,4,5,6,7,8,9,10,11,12,13,14] .done .stop)) .stop))))))))))))))) (y9q6 c))
def y9q8 (c:Nat→FuncId):LCode:=(.seq (.seq (.sq [(zs 62 (.mv false (.t 9))),(zs 63 (.mv false (.t 10))),(zs 64 (.bin .gtr .sc (.t 62) (.t 63)))]) (.cond (.t 64) (.exit 0) .skip)) (y9q7 c))
def y9q9 (c:Nat→FuncId):LCode:=(.seq (.block 4 (.loop (zm false [0,2,7,2,73]) (y9q4 c))) (y9q8 c))
def y9q10 (c:Nat→FuncId):LCode:=(.block 1 (.seq (.block 2 (.loop (zm false [0,2,7,2,73]) (y9q2 c))) (y9q9 c)))
def y9q11 (c:Nat→FuncId):LCode:=(.seq (.block 0 (.loop (zm false [0,2,7,2,73]) (y9q10 c))) (.seq (.sq [(zs 83 (.mv false (.t 9))),(zs 8 (.mv true (.t 83)))]) .ret))
def y9q12 (c:Nat→FuncId):LCode:=(.seq (.sq [(zs 25 (.mv false (.t 1))),(zs 26 (.bin .add .sc (.t 25) (zi 1))),(zs 27 (.mv false (.t 2))),(zs 28 (.bin .sub .sc (.t 27) (zi 1))),(zs 9 (.mv true (.t 26))),(zs 10 (.mv true (.t 28)))]) (y9q11 c))
def y9q13 (c:Nat→FuncId):LCode:=(.seq (.tree (.rd (zs 11 (.mv false (.t 0))) 0 false (.rd (zs 12 (.mv false (.t 1))) 1 false (.rd (zs 13 (.mv false (.t 0))) 2 true (.rd (zs 14 (.mv false (.t 3))) 3 true (.rd (zs 15 (.mv false (.t 0))) 4 false (.rd (zs 16 (.mv false (.t 3))) 5 false (.rd (zs 17 (.ixa (.sl 1) (.t 15) (.t 16))) 6 false (.rd (zs 18 (.load1 false (.t 17))) 7 false (.rd (zs 19 (.mv false (.t 0))) 8 false (.rd (zs 20 (.mv false (.t 1))) 9 false (.rd (zs 21 (.ixa (.sl 1) (.t 19) (.t 20))) 10 false (.rd (zs 22 (.load1 false (.t 21))) 11 false (.rd (zs 23 (.ixa (.sl 1) (.t 11) (.t 12))) 12 false (.mv (zn (.store 1 (.t 23) (.t 18))) [0,1,4,5,6,7,8,9,10,11,12] (.rd (zs 24 (.ixa (.sl 1) (.t 13) (.t 14))) 14 false (.mv (zn (.store 1 (.t 24) (.t 22))) [0,1,2,3,4,5,6,7,8,9,10,11,12,13,14] .done .stop)) .stop))))))))))))))) (y9q12 c))
def U_slices_partitionEqualOrdered_int64 (c:Nat→FuncId):=PLift.up (zc (zc (zc (@unfC _ _ (y9q1.eq_1 c)) (zc (@unfC _ _ (y9q2.eq_1 c)) (@unfC _ _ (y9q3.eq_1 c)))) (zc (@unfC _ _ (y9q4.eq_1 c)) (zc (@unfC _ _ (y9q5.eq_1 c)) (@unfC _ _ (y9q6.eq_1 c))))) (zc (zc (@unfC _ _ (y9q7.eq_1 c)) (zc (@unfC _ _ (y9q8.eq_1 c)) (@unfC _ _ (y9q9.eq_1 c)))) (zc (zc (@unfC _ _ (y9q10.eq_1 c)) (@unfC _ _ (y9q11.eq_1 c))) (zc (@unfC _ _ (y9q12.eq_1 c)) (@unfC _ _ (y9q13.eq_1 c))))))
def C_slices_partitionEqualOrdered_int64 (c:Nat→FuncId):LFn:=⟨84,[.t 8],(.seq (.sq [(zs 8 (.mv true (zi 0)))]) (y9q13 c))⟩
def y9r1 (c:Nat→FuncId):LCode:=(.block 1 (.sq [(zs 44 (.mv false (.t 10))),(zs 45 (.bin .add .sc (.t 44) (zi 1))),(zs 10 (.mv true (.t 45)))]))
def y9r2 (c:Nat→FuncId):LCode:=(.seq (.seq (.tree (.rd (zs 30 (.mv false (.t 10))) 0 false (.rd (zs 31 (.mv false (.t 11))) 1 false (.rd (zs 32 (.bin .leq .sc (.t 30) (.t 31))) 2 false (.rd (zs 33 (.mv false (.t 32))) 3 false (.rd (zt 34 33 (.mv false (.t 0))) 4 false (.rd (zt 35 33 (.mv false (.t 10))) 5 false (.rd (zt 36 33 (.ixa (.sl 1) (.t 34) (.t 35))) 6 false (.rd (zt 37 33 (.load1 false (.t 36))) 7 false (.rd (zt 38 33 (.mv false (.t 0))) 8 false (.rd (zt 39 33 (.mv false (.t 1))) 9 false (.rd (zt 40 33 (.ixa (.sl 1) (.t 38) (.t 39))) 10 false (.rd (zt 41 33 (.load1 false (.t 40))) 11 false (.mv (zt 42 33 (.call (.f (c 0)) [(.t 37),(.t 41)])) [0,1,2,3,4,5,6,7,8,9,10,11] (.rd (zs 43 (.pick (.t 33) (.t 42) zF)) 13 false .done) .stop)))))))))))))) (.cond (.t 43) .skip (.exit 0))) (y9r1 c))
def y9r3 (c:Nat→FuncId):LCode:=(.block 3 (.sq [(zs 61 (.mv false (.t 11))),(zs 62 (.bin .sub .sc (.t 61) (zi 1))),(zs 11 (.mv true (.t 62)))]))
def y9r4 (c:Nat→FuncId):LCode:=(.seq (.seq (.tree (.rd (zs 46 (.mv false (.t 10))) 0 false (.rd (zs 47 (.mv false (.t 11))) 1 false (.rd (zs 48 (.bin .leq .sc (.t 46) (.t 47))) 2 false (.rd (zs 49 (.mv false (.t 48))) 3 false (.rd (zt 50 49 (.mv false (.t 0))) 4 false (.rd (zt 51 49 (.mv false (.t 11))) 5 false (.rd (zt 52 49 (.ixa (.sl 1) (.t 50) (.t 51))) 6 false (.rd (zt 53 49 (.load1 false (.t 52))) 7 false (.rd (zt 54 49 (.mv false (.t 0))) 8 false (.rd (zt 55 49 (.mv false (.t 1))) 9 false (.rd (zt 56 49 (.ixa (.sl 1) (.t 54) (.t 55))) 10 false (.rd (zt 57 49 (.load1 false (.t 56))) 11 false (.mv (zt 58 49 (.call (.f (c 0)) [(.t 53),(.t 57)])) [0,1,2,3,4,5,6,7,8,9,10,11] (.rd (zt 59 49 (.un .not (.t 58))) 13 false (.rd (zs 60 (.pick (.t 49) (.t 59) zF)) 14 false .done)) .stop)))))))))))))) (.cond (.t 60) .skip (.exit 2))) (y9r3 c))
def y9r5 (c:Nat→FuncId):LCode:=(.seq (.sq [(zs 80 (.mv false (.t 11))),(zs 8 (.mv true (.t 80))),(zs 9 (.mv true zT))]) .ret)
def y9r6 (c:Nat→FuncId):LCode:=(.seq (.tree (.rd (zs 66 (.mv false (.t 0))) 0 false (.rd (zs 67 (.mv false (.t 11))) 1 false (.rd (zs 68 (.mv false (.t 0))) 2 true (.rd (zs 69 (.mv false (.t 1))) 3 true (.rd (zs 70 (.mv false (.t 0))) 4 false (.rd (zs 71 (.mv false (.t 1))) 5 false (.rd (zs 72 (.ixa (.sl 1) (.t 70) (.t 71))) 6 false (.rd (zs 73 (.load1 false (.t 72))) 7 false (.rd (zs 74 (.mv false (.t 0))) 8 false (.rd (zs 75 (.mv false (.t 11))) 9 false (.rd (zs 76 (.ixa (.sl 1) (.t 74) (.t 75))) 10 false (.rd (zs 77 (.load1 false (.t 76))) 11 false (.rd (zs 78 (.ixa (.sl 1) (.t 66) (.t 67))) 12 false (.mv (zn (.store 1 (.t 78) (.t 73))) [0,1,4,5,6,7,8,9,10,11,12] (.rd (zs 79 (.ixa (.sl 1) (.t 68) (.t 69))) 14 false (.mv (zn (.store 1 (.t 79) (.t 77))) [0,1,2,3,4,5,6,7,8,9,10,11,12,13,14] .done .stop)) .stop))))))))))))))) (y9r5 c))
def y9r7 (c:Nat→FuncId):LCode:=(.block 7 (.sq [(zs 113 (.mv false (.t 10))),(zs 114 (.bin .add .sc (.t 113) (zi 1))),(zs 10 (.mv true (.t 114)))]))
def y9r8 (c:Nat→FuncId):LCode:=(.seq (.seq (.tree (.rd (zs 99 (.mv false (.t 10))) 0 false (.rd (zs 100 (.mv false (.t 11))) 1 false (.rd (zs 101 (.bin .leq .sc (.t 99) (.t 100))) 2 false (.rd (zs 102 (.mv false (.t 101))) 3 false (.rd (zt 103 102 (.mv false (.t 0))) 4 false (.rd (zt 104 102 (.mv false (.t 10))) 5 false (.rd (zt 105 102 (.ixa (.sl 1) (.t 103) (.t 104))) 6 false (.rd (zt 106 102 (.load1 false (.t 105))) 7 false (.rd (zt 107 102 (.mv false (.t 0))) 8 false (.rd (zt 108 102 (.mv false (.t 1))) 9 false (.rd (zt 109 102 (.ixa (.sl 1) (.t 107) (.t 108))) 10 false (.rd (zt 110 102 (.load1 false (.t 109))) 11 false (.mv (zt 111 102 (.call (.f (c 0)) [(.t 106),(.t 110)])) [0,1,2,3,4,5,6,7,8,9,10,11] (.rd (zs 112 (.pick (.t 102) (.t 111) zF)) 13 false .done) .stop)))))))))))))) (.cond (.t 112) .skip (.exit 6))) (y9r7 c))
def y9r9 (c:Nat→FuncId):LCode:=(.block 9 (.sq [(zs 130 (.mv false (.t 11))),(zs 131 (.bin .sub .sc (.t 130) (zi 1))),(zs 11 (.mv true (.t 131)))]))
def y9r10 (c:Nat→FuncId):LCode:=(.seq (.seq (.tree (.rd (zs 115 (.mv false (.t 10))) 0 false (.rd (zs 116 (.mv false (.t 11))) 1 false (.rd (zs 117 (.bin .leq .sc (.t 115) (.t 116))) 2 false (.rd (zs 118 (.mv false (.t 117))) 3 false (.rd (zt 119 118 (.mv false (.t 0))) 4 false (.rd (zt 120 118 (.mv false (.t 11))) 5 false (.rd (zt 121 118 (.ixa (.sl 1) (.t 119) (.t 120))) 6 false (.rd (zt 122 118 (.load1 false (.t 121))) 7 false (.rd (zt 123 118 (.mv false (.t 0))) 8 false (.rd (zt 124 118 (.mv false (.t 1))) 9 false (.rd (zt 125 118 (.ixa (.sl 1) (.t 123) (.t 124))) 10 false (.rd (zt 126 118 (.load1 false (.t 125))) 11 false (.mv (zt 127 118 (.call (.f (c 0)) [(.t 122),(.t 126)])) [0,1,2,3,4,5,6,7,8,9,10,11] (.rd (zt 128 118 (.un .not (.t 127))) 13 false (.rd (zs 129 (.pick (.t 118) (.t 128) zF)) 14 false .done)) .stop)))))))))))))) (.cond (.t 129) .skip (.exit 8))) (y9r9 c))
def y9r11 (c:Nat→FuncId):LCode:=(.sq [(zs 151 (.mv false (.t 11))),(zs 152 (.bin .sub .sc (.t 151) (zi 1))),(zs 11 (.mv true (.t 152)))])
def y9r12 (c:Nat→FuncId):LCode:=(.seq (.sq [(zs 149 (.mv false (.t 10))),(zs 150 (.bin .add .sc (.t 149) (zi 1))),(zs 10 (.mv true (.t 150)))]) (y9r11 c))
def y9r13 (c:Nat→FuncId):LCode:=(.seq (.tree (.rd (zs 135 (.mv false (.t 0))) 0 false (.rd (zs 136 (.mv false (.t 10))) 1 false (.rd (zs 137 (.mv false (.t 0))) 2 true (.rd (zs 138 (.mv false (.t 11))) 3 true (.rd (zs 139 (.mv false (.t 0))) 4 false (.rd (zs 140 (.mv false (.t 11))) 5 false (.rd (zs 141 (.ixa (.sl 1) (.t 139) (.t 140))) 6 false (.rd (zs 142 (.load1 false (.t 141))) 7 false (.rd (zs 143 (.mv false (.t 0))) 8 false (.rd (zs 144 (.mv false (.t 10))) 9 false (.rd (zs 145 (.ixa (.sl 1) (.t 143) (.t 144))) 10 false (.rd (zs 146 (.load1 false (.t 145))) 11 false (.rd (zs 147 (.ixa (.sl 1) (.t 135) (.t 136))) 12 false (.mv (zn (.store 1 (.t 147) (.t 142))) [0,1,4,5,6,7,8,9,10,11,12] (.rd (zs 148 (.ixa (.sl 1) (.t 137) (.t 138))) 14 false (.mv (zn (.store 1 (.t 148) (.t 146))) [0,1,2,3,4,5,6,7,8,9,10,11,12,13,14] .done .stop)) .stop))))))))))))))) (y9r12 c))
def y9r14 (c:Nat→FuncId):LCode:=(.seq (.seq (.sq [(zs 132 (.mv false (.t 10))),(zs 133 (.mv false (.t 11))),(zs 134 (.bin .gtr .sc (.t 132) (.t 133)))]) (.cond (.t 134) (.exit 4) .skip)) (y9r13 c))
def y9r15 (c:Nat→FuncId):LCode:=(.seq (.block 8 (.loop (zm false [0,2,8,2,156]) (y9r10 c))) (y9r14 c))
def y9r16 (c:Nat→FuncId):LCode:=(.block 5 (.seq (.block 6 (.loop (zm false [0,2,8,2,156]) (y9r8 c))) (y9r15 c)))
def y9r17 (c:Nat→FuncId):LCode:=(.seq (.sq [(zs 167 (.mv false (.t 11))),(zs 8 (.mv true (.t 167))),(zs 9 (.mv true zF))]) .ret)
def y9r18 (c:Nat→FuncId):LCode:=(.seq (.tree (.rd (zs 153 (.mv false (.t 0))) 0 false (.rd (zs 154 (.mv false (.t 11))) 1 false (.rd (zs 155 (.mv false (.t 0))) 2 true (.rd (zs 156 (.mv false (.t 1))) 3 true (.rd (zs 157 (.mv false (.t 0))) 4 false (.rd (zs 158 (.mv false (.t 1))) 5 false (.rd (zs 159 (.ixa (.sl 1) (.t 157) (.t 158))) 6 false (.rd (zs 160 (.load1 false (.t 159))) 7 false (.rd (zs 161 (.mv false (.t 0))) 8 false (.rd (zs 162 (.mv false (.t 11))) 9 false (.rd (zs 163 (.ixa (.sl 1) (.t 161) (.t 162))) 10 false (.rd (zs 164 (.load1 false (.t 163))) 11 false (.rd (zs 165 (.ixa (.sl 1) (.t 153) (.t 154))) 12 false (.mv (zn (.store 1 (.t 165) (.t 160))) [0,1,4,5,6,7,8,9,10,11,12] (.rd (zs 166 (.ixa (.sl 1) (.t 155) (.t 156))) 14 false (.mv (zn (.store 1 (.t 166) (.t 164))) [0,1,2,3,4,5,6,7,8,9,10,11,12,13,14] .done .stop)) .stop))))))))))))))) (y9r17 c))
def y9r19 (c:Nat→FuncId):LCode:=(.seq (.block 4 (.loop (zm false [0,2,8,2,156]) (y9r16 c))) (y9r18 c))
def y9r20 (c:Nat→FuncId):LCode:=(.seq (.sq [(zs 97 (.mv false (.t 11))),(zs 98 (.bin .sub .sc (.t 97) (zi 1))),(zs 11 (.mv true (.t 98)))]) (y9r19 c))
def y9r21 (c:Nat→FuncId):LCode:=(.seq (.sq [(zs 95 (.mv false (.t 10))),(zs 96 (.bin .add .sc (.t 95) (zi 1))),(zs 10 (.mv true (.t 96)))]) (y9r20 c))
def y9r22 (c:Nat→FuncId):LCode:=(.seq (.tree (.rd (zs 81 (.mv false (.t 0))) 0 false (.rd (zs 82 (.mv false (.t 10))) 1 false (.rd (zs 83 (.mv false (.t 0))) 2 true (.rd (zs 84 (.mv false (.t 11))) 3 true (.rd (zs 85 (.mv false (.t 0))) 4 false (.rd (zs 86 (.mv false (.t 11))) 5 false (.rd (zs 87 (.ixa (.sl 1) (.t 85) (.t 86))) 6 false (.rd (zs 88 (.load1 false (.t 87))) 7 false (.rd (zs 89 (.mv false (.t 0))) 8 false (.rd (zs 90 (.mv false (.t 10))) 9 false (.rd (zs 91 (.ixa (.sl 1) (.t 89) (.t 90))) 10 false (.rd (zs 92 (.load1 false (.t 91))) 11 false (.rd (zs 93 (.ixa (.sl 1) (.t 81) (.t 82))) 12 false (.mv (zn (.store 1 (.t 93) (.t 88))) [0,1,4,5,6,7,8,9,10,11,12] (.rd (zs 94 (.ixa (.sl 1) (.t 83) (.t 84))) 14 false (.mv (zn (.store 1 (.t 94) (.t 92))) [0,1,2,3,4,5,6,7,8,9,10,11,12,13,14] .done .stop)) .stop))))))))))))))) (y9r21 c))
def y9r23 (c:Nat→FuncId):LCode:=(.seq (.seq (.sq [(zs 63 (.mv false (.t 10))),(zs 64 (.mv false (.t 11))),(zs 65 (.bin .gtr .sc (.t 63) (.t 64)))]) (.cond (.t 65) (y9r6 c) .skip)) (y9r22 c))
def y9r24 (c:Nat→FuncId):LCode:=(.seq (.block 2 (.loop (zm false [0,2,8,2,156]) (y9r4 c))) (y9r23 c))
def y9r25 (c:Nat→FuncId):LCode:=(.seq (.block 0 (.loop (zm false [0,2,8,2,156]) (y9r2 c))) (y9r24 c))
def y9r26 (c:Nat→FuncId):LCode:=(.seq (.sq [(zs 26 (.mv false (.t 1))),(zs 27 (.bin .add .sc (.t 26) (zi 1))),(zs 28 (.mv false (.t 2))),(zs 29 (.bin .sub .sc (.t 28) (zi 1))),(zs 10 (.mv true (.t 27))),(zs 11 (.mv true (.t 29)))]) (y9r25 c))
def y9r27 (c:Nat→FuncId):LCode:=(.seq (.tree (.rd (zs 12 (.mv false (.t 0))) 0 false (.rd (zs 13 (.mv false (.t 1))) 1 false (.rd (zs 14 (.mv false (.t 0))) 2 true (.rd (zs 15 (.mv false (.t 3))) 3 true (.rd (zs 16 (.mv false (.t 0))) 4 false (.rd (zs 17 (.mv false (.t 3))) 5 false (.rd (zs 18 (.ixa (.sl 1) (.t 16) (.t 17))) 6 false (.rd (zs 19 (.load1 false (.t 18))) 7 false (.rd (zs 20 (.mv false (.t 0))) 8 false (.rd (zs 21 (.mv false (.t 1))) 9 false (.rd (zs 22 (.ixa (.sl 1) (.t 20) (.t 21))) 10 false (.rd (zs 23 (.load1 false (.t 22))) 11 false (.rd (zs 24 (.ixa (.sl 1) (.t 12) (.t 13))) 12 false (.mv (zn (.store 1 (.t 24) (.t 19))) [0,1,4,5,6,7,8,9,10,11,12] (.rd (zs 25 (.ixa (.sl 1) (.t 14) (.t 15))) 14 false (.mv (zn (.store 1 (.t 25) (.t 23))) [0,1,2,3,4,5,6,7,8,9,10,11,12,13,14] .done .stop)) .stop))))))))))))))) (y9r26 c))
def U_slices_partitionOrdered_int64 (c:Nat→FuncId):=PLift.up (zc (zc (zc (zc (@unfC _ _ (y9r1.eq_1 c)) (zc (@unfC _ _ (y9r2.eq_1 c)) (@unfC _ _ (y9r3.eq_1 c)))) (zc (@unfC _ _ (y9r4.eq_1 c)) (zc (@unfC _ _ (y9r5.eq_1 c)) (@unfC _ _ (y9r6.eq_1 c))))) (zc (zc (@unfC _ _ (y9r7.eq_1 c)) (zc (@unfC _ _ (y9r8.eq_1 c)) (@unfC _ _ (y9r9.eq_1 c)))) (zc (zc (@unfC _ _ (y9r10.eq_1 c)) (@unfC _ _ (y9r11.eq_1 c))) (zc (@unfC _ _ (y9r12.eq_1 c)) (@unfC _ _ (y9r13.eq_1 c)))))) (zc (zc (zc (@unfC _ _ (y9r14.eq_1 c)) (zc (@unfC _ _ (y9r15.eq_1 c)) (@unfC _ _ (y9r16.eq_1 c)))) (zc (zc (@unfC _ _ (y9r17.eq_1 c)) (@unfC _ _ (y9r18.eq_1 c))) (zc (@unfC _ _ (y9r19.eq_1 c)) (@unfC _ _ (y9r20.eq_1 c))))) (zc (zc (@unfC _ _ (y9r21.eq_1 c)) (zc (@unfC _ _ (y9r22.eq_1 c)) (@unfC _ _ (y9r23.eq_1 c)))) (zc (zc (@unfC _ _ (y9r24.eq_1 c)) (@unfC _ _ (y9r25.eq_1 c))) (zc (@unfC _ _ (y9r26.eq_1 c)) (@unfC _ _ (y9r27.eq_1 c)))))))
def C_slices_partitionOrdered_int64 (c:Nat→FuncId):LFn:=⟨168,[.t 8,.t 9],(.seq (.sq [(zs 8 (.mv true (zi 0))),(zs 9 (.mv true zF))]) (y9r27 c))⟩
def y9s1 (c:Nat→FuncId):LCode:=(.seq (.sq [(zs 24 (.mv true (.t 0))),(zs 25 (.mv false (.t 1))),(zs 26 (.mv false (.t 2))),(zs 27 (.call (.f (c 0)) [(.t 24),(.t 25),(.t 26)]))]) .ret)
def y9s2 (c:Nat→FuncId):LCode:=(.seq (.sq [(zs 30 (.mv true (.t 0))),(zs 31 (.mv false (.t 1))),(zs 32 (.mv false (.t 2))),(zs 33 (.call (.f (c 1)) [(.t 30),(.t 31),(.t 32)]))]) .ret)
def y9s3 (c:Nat→FuncId):LCode:=(.sq [(zs 40 (.mv false (.t 3))),(zs 41 (.bin .sub .sc (.t 40) (zi 1))),(zs 3 (.mv true (.t 41)))])
def y9s4 (c:Nat→FuncId):LCode:=(.seq (.sq [(zs 36 (.mv false (.t 0))),(zs 37 (.mv false (.t 1))),(zs 38 (.mv false (.t 2))),(zs 39 (.call (.f (c 2)) [(.t 36),(.t 37),(.t 38)]))]) (y9s3 c))
def y9s5 (c:Nat→FuncId):LCode:=(.seq (.sq [(zs 55 (.mv false (.t 2))),(zs 56 (.bin .sub .sc (.t 55) (zi 1))),(zs 57 (.mv false (.t 11))),(zs 58 (.mv false (.t 1))),(zs 59 (.bin .sub .sc (.t 57) (.t 58))),(zs 60 (.bin .sub .sc (.t 56) (.t 59))),(zs 11 (.mv true (.t 60)))]) (.sq [(zs 12 (.mv true (zi 1)))]))
def y9s6 (c:Nat→FuncId):LCode:=(.seq (.sq [(zs 51 (.mv false (.t 0))),(zs 52 (.mv false (.t 1))),(zs 53 (.mv false (.t 2))),(zs 54 (.call (.f (c 4)) [(.t 51),(.t 52),(.t 53)]))]) (y9s5 c))
def y9s7 (c:Nat→FuncId):LCode:=(.seq (.sq [(zs 69 (.mv false (.t 0))),(zs 70 (.mv false (.t 1))),(zs 71 (.mv false (.t 2))),(zs 72 (.call (.f (c 5)) [(.t 69),(.t 70),(.t 71)]))]) (.cond (.t 72) .ret .skip))
def y9s8 (c:Nat→FuncId):LCode:=(.seq (.sq [(zs 88 (.mv false (.t 0))),(zs 89 (.mv false (.t 1))),(zs 90 (.mv false (.t 2))),(zs 91 (.mv false (.t 11))),(zs 92 (.call (.f (c 7)) [(.t 88),(.t 89),(.t 90),(.t 91)])),(zs 13 (.mv true (.t 92)))]) (.seq (.sq [(zs 93 (.mv false (.t 13))),(zs 1 (.mv true (.t 93)))]) (.exit 1)))
def y9s9 (c:Nat→FuncId):LCode:=(.sq [(zs 122 (.mv false (.t 14))),(zs 123 (.bin .add .sc (.t 122) (zi 1))),(zs 1 (.mv true (.t 123)))])
def y9s10 (c:Nat→FuncId):LCode:=(.seq (.sq [(zs 117 (.mv false (.t 0))),(zs 118 (.mv false (.t 1))),(zs 119 (.mv false (.t 14))),(zs 120 (.mv false (.t 3))),(zs 121 (.call (.f (c 9)) [(.t 117),(.t 118),(.t 119),(.t 120)]))]) (y9s9 c))
def y9s11 (c:Nat→FuncId):LCode:=(.seq (.sq [(zs 114 (.mv false (.t 16))),(zs 115 (.mv false (.t 18))),(zs 116 (.bin .geq .sc (.t 114) (.t 115))),(zs 8 (.mv true (.t 116)))]) (y9s10 c))
def y9s12 (c:Nat→FuncId):LCode:=(.seq (.sq [(zs 127 (.mv false (.t 0))),(zs 128 (.mv false (.t 14))),(zs 129 (.bin .add .sc (.t 128) (zi 1))),(zs 130 (.mv false (.t 2))),(zs 131 (.mv false (.t 3))),(zs 132 (.call (.f (c 9)) [(.t 127),(.t 129),(.t 130),(.t 131)]))]) (.sq [(zs 133 (.mv false (.t 14))),(zs 2 (.mv true (.t 133)))]))
def y9s13 (c:Nat→FuncId):LCode:=(.seq (.sq [(zs 124 (.mv false (.t 17))),(zs 125 (.mv false (.t 18))),(zs 126 (.bin .geq .sc (.t 124) (.t 125))),(zs 8 (.mv true (.t 126)))]) (y9s12 c))
def y9s14 (c:Nat→FuncId):LCode:=(.seq (.sq [(zs 111 (.mv false (.t 16))),(zs 112 (.mv false (.t 17))),(zs 113 (.bin .lss .sc (.t 111) (.t 112)))]) (.cond (.t 113) (y9s11 c) (y9s13 c)))
def y9s15 (c:Nat→FuncId):LCode:=(.seq (.sq [(zs 109 (.mv false (.t 10))),(zs 110 (.bin .quo .sc (.t 109) (zi 8))),(zs 18 (.mv true (.t 110)))]) (y9s14 c))
def y9s16 (c:Nat→FuncId):LCode:=(.seq (.sq [(zs 103 (.mv false (.t 14))),(zs 104 (.mv false (.t 1))),(zs 105 (.bin .sub .sc (.t 103) (.t 104))),(zs 106 (.mv false (.t 2))),(zs 107 (.mv false (.t 14))),(zs 108 (.bin .sub .sc (.t 106) (.t 107))),(zs 16 (.mv true (.t 105))),(zs 17 (.mv true (.t 108)))]) (y9s15 c))
def y9s17 (c:Nat→FuncId):LCode:=(.seq (.sq [(zs 102 (.mv false (.t 15))),(zs 9 (.mv true (.t 102)))]) (y9s16 c))
def y9s18 (c:Nat→FuncId):LCode:=(.seq (.sq [(zs 95 (.mv false (.t 0))),(zs 96 (.mv false (.t 1))),(zs 97 (.mv false (.t 2))),(zs 98 (.mv false (.t 11))),(zs 99 (.call (.f (c 8)) [(.t 95),(.t 96),(.t 97),(.t 98)])),(zs 94 (.mv false (.t 99))),(zs 100 (.ext (.t 94) 0)),(zs 101 (.ext (.t 94) 1)),(zs 14 (.mv true (.t 100))),(zs 15 (.mv true (.t 101)))]) (y9s17 c))
def y9s19 (c:Nat→FuncId):LCode:=(.seq (.seq (.tree (.rd (zs 73 (.mv false (.t 1))) 0 false (.rd (zs 74 (.bin .gtr .sc (.t 73) (zi 0))) 1 false (.rd (zs 75 (.mv false (.t 74))) 2 false (.rd (zt 76 75 (.mv false (.t 0))) 3 false (.rd (zt 77 75 (.mv false (.t 1))) 4 false (.rd (zt 78 75 (.bin .sub .sc (.t 77) (zi 1))) 5 false (.rd (zt 79 75 (.ixa (.sl 1) (.t 76) (.t 78))) 6 false (.rd (zt 80 75 (.load1 false (.t 79))) 7 false (.rd (zt 81 75 (.mv false (.t 0))) 8 false (.rd (zt 82 75 (.mv false (.t 11))) 9 false (.rd (zt 83 75 (.ixa (.sl 1) (.t 81) (.t 82))) 10 false (.rd (zt 84 75 (.load1 false (.t 83))) 11 false (.mv (zt 85 75 (.call (.f (c 6)) [(.t 80),(.t 84)])) [0,1,2,3,4,5,6,7,8,9,10,11] (.rd (zt 86 75 (.un .not (.t 85))) 13 false (.rd (zs 87 (.pick (.t 75) (.t 86) zF)) 14 false .done)) .stop)))))))))))))) (.cond (.t 87) (y9s8 c) .skip)) (y9s18 c))
def y9s20 (c:Nat→FuncId):LCode:=(.seq (.seq (.sq [(zs 61 (.mv false (.t 8))),(zs 62 (.mv false (.t 61))),(zt 63 62 (.mv false (.t 9))),(zs 64 (.pick (.t 62) (.t 63) zF)),(zs 65 (.mv false (.t 64))),(zt 66 65 (.mv false (.t 12))),(zt 67 65 (.bin .eql .sc (.t 66) (zi 1))),(zs 68 (.pick (.t 65) (.t 67) zF))]) (.cond (.t 68) (y9s7 c) .skip)) (y9s19 c))
def y9s21 (c:Nat→FuncId):LCode:=(.seq (.seq (.sq [(zs 49 (.mv false (.t 12))),(zs 50 (.bin .eql .sc (.t 49) (zi 2)))]) (.cond (.t 50) (y9s6 c) .skip)) (y9s20 c))
def y9s22 (c:Nat→FuncId):LCode:=(.seq (.sq [(zs 43 (.mv false (.t 0))),(zs 44 (.mv false (.t 1))),(zs 45 (.mv false (.t 2))),(zs 46 (.call (.f (c 3)) [(.t 43),(.t 44),(.t 45)])),(zs 42 (.mv false (.t 46))),(zs 47 (.ext (.t 42) 0)),(zs 48 (.ext (.t 42) 1)),(zs 11 (.mv true (.t 47))),(zs 12 (.mv true (.t 48)))]) (y9s21 c))
def y9s23 (c:Nat→FuncId):LCode:=(.seq (.seq (.sq [(zs 34 (.mv false (.t 8))),(zs 35 (.un .not (.t 34)))]) (.cond (.t 35) (y9s4 c) .skip)) (y9s22 c))
def y9s24 (c:Nat→FuncId):LCode:=(.seq (.seq (.sq [(zs 28 (.mv false (.t 3))),(zs 29 (.bin .eql .sc (.t 28) (zi 0)))]) (.cond (.t 29) (y9s2 c) .skip)) (y9s23 c))
def y9s25 (c:Nat→FuncId):LCode:=(.seq (.seq (.sq [(zs 22 (.mv false (.t 10))),(zs 23 (.bin .leq .sc (.t 22) (zi 12)))]) (.cond (.t 23) (y9s1 c) .skip)) (y9s24 c))
def y9s26 (c:Nat→FuncId):LCode:=(.block 1 (.seq (.sq [(zs 19 (.mv false (.t 2))),(zs 20 (.mv false (.t 1))),(zs 21 (.bin .sub .sc (.t 19) (.t 20))),(zs 10 (.mv true (.t 21)))]) (y9s25 c)))
def y9s27 (c:Nat→FuncId):LCode:=(.block 0 (.loop (zm false [0,4,4,2,124]) (y9s26 c)))
def U_slices_pdqsortOrdered_int64 (c:Nat→FuncId):=PLift.up (zc (zc (zc (zc (@unfC _ _ (y9s1.eq_1 c)) (zc (@unfC _ _ (y9s2.eq_1 c)) (@unfC _ _ (y9s3.eq_1 c)))) (zc (@unfC _ _ (y9s4.eq_1 c)) (zc (@unfC _ _ (y9s5.eq_1 c)) (@unfC _ _ (y9s6.eq_1 c))))) (zc (zc (@unfC _ _ (y9s7.eq_1 c)) (zc (@unfC _ _ (y9s8.eq_1 c)) (@unfC _ _ (y9s9.eq_1 c)))) (zc (zc (@unfC _ _ (y9s10.eq_1 c)) (@unfC _ _ (y9s11.eq_1 c))) (zc (@unfC _ _ (y9s12.eq_1 c)) (@unfC _ _ (y9s13.eq_1 c)))))) (zc (zc (zc (@unfC _ _ (y9s14.eq_1 c)) (zc (@unfC _ _ (y9s15.eq_1 c)) (@unfC _ _ (y9s16.eq_1 c)))) (zc (zc (@unfC _ _ (y9s17.eq_1 c)) (@unfC _ _ (y9s18.eq_1 c))) (zc (@unfC _ _ (y9s19.eq_1 c)) (@unfC _ _ (y9s20.eq_1 c))))) (zc (zc (@unfC _ _ (y9s21.eq_1 c)) (zc (@unfC _ _ (y9s22.eq_1 c)) (@unfC _ _ (y9s23.eq_1 c)))) (zc (zc (@unfC _ _ (y9s24.eq_1 c)) (@unfC _ _ (y9s25.eq_1 c))) (zc (@unfC _ _ (y9s26.eq_1 c)) (@unfC _ _ (y9s27.eq_1 c)))))))
def C_slices_pdqsortOrdered_int64 (c:Nat→FuncId):LFn:=⟨134,[],(.seq (.sq [(zs 8 (.mv true zT))]) (.seq (.sq [(zs 9 (.mv true zT))]) (y9s27 c)))⟩
end Go.AM
namespace Go.AM
open Go
open AV renaming undef → uu
set_option maxRecDepth 20000
def ltI (x y:Int):Bool:=decide (x < y)
def LessS (C:CallW) (f:FuncId):Prop:=∀x y:Int,FnS C f [.s (.int .i64 x),.s (.int .i64 y)] (.bool (ltI x y))
theorem cmp_Less_spec {C:CallW} (P:Program) {c:Nat→FuncId} (h0:∀x:Int,FnS C (c 0) [.s (.int .i64 x)] (.bool false)):∀x y S H K,K (.bool (ltI x y)) ⟨S,H⟩→runL C P (C_cmp_Less_int64 c) [.s (.int .i64 x),.s (.int .i64 y)] ⟨S,H⟩ K:=by
  intro x y S H K hK
  unfold ltI at hK
  simp only [C_cmp_Less_int64,A_,simprocAttr,ne_eq,(U_cmp_Less_int64 _).1]
  refine h0 x _ _ _ ?_
  simp only [A_,simprocAttr,ne_eq,(U_cmp_Less_int64 _).1]
  exact hK
def SrtS (C:CallW) (f:FuncId) (X:Array Int→Nat→Nat→Array Int):Prop:=∀(n:Nat) (d:Array Int) (a b:Nat) S H (K:AV→St→Prop),S[n]? = some (flat iA d)→a≤b→b≤d.size→d.size≤4611686018427387904→K (.tup []) ⟨S.set n (flat iA (X d a b)),H⟩→C (.fn f) [.row (.stk n) 0 d.size d.size,.s (.int .i64 a),.s (.int .i64 b)] ⟨S,H⟩ K
theorem ird {S:List (List AV)} {H:List HObj} {n i:Nat} {d:Array Int} (hS:S[n]? = some (flat iA d)) (hi:i < d.size):load1L false (.ptr (.stk n) i) ⟨S,H⟩=some (.s (.int .i64 d[i]!),⟨S,H⟩):=by
  have:=row_read1 iA_EK (H:=H) hS hi fun _=>rfl
  rwa [Nat.zero_add,Nat.mul_one] at this
theorem iwr {S:List (List AV)} {H:List HObj} {n i:Nat} {x:Int} {d:Array Int} (hS:S[n]? = some (flat iA d)) (hi:i < d.size):storeL 1 (.ptr (.stk n) i) (.s (.int .i64 x)) ⟨S,H⟩=some ⟨S.set n (flat iA (d.setIfInBounds i x)),H⟩:=by
  have:=row_write iA_EK (H:=H) (x:=x) hS hi
  rwa [Nat.zero_add,Nat.mul_one] at this
theorem ixi {r:Ref} {len cap i:Nat} {k:IntKind} (h:i < len):indexAddrL (.sl 1) (.row r 0 len cap) (.s (.int k (i:Int)))=some (.ptr r i):=by
  have:=ixr_n (r:=r) (off:=0) (cap:=cap) (c:=1) (k:=k) h (by omega)
  rwa [Nat.zero_add,Nat.mul_one] at this
theorem sset {S:List (List AV)} {n:Nat} {x y:List AV} (h:S[n]? = some x):(S.set n y)[n]? = some y:=by
  have:n < S.length:=by
    rcases Nat.lt_or_ge n S.length with h1 | h1
    · exact h1
    · rw [List.getElem?_eq_none h1] at h; cases h
  simp [this]
theorem slt {S:List (List AV)} {n:Nat} {x:List AV} (h:S[n]? = some x):n < S.length:=by
  rcases Nat.lt_or_ge n S.length with h1 | h1
  · exact h1
  · rw [List.getElem?_eq_none h1] at h; cases h
theorem sself {S:List (List AV)} {n:Nat} {x:List AV} (h:S[n]? = some x):S.set n x=S:=by
  refine List.ext_getElem? fun i => ?_
  by_cases e:n=i
  · subst e; rw [List.getElem?_set_self (slt h),h]
  · rw [List.getElem?_set_ne e]
theorem swp_size {d:Array Int} {i j:Nat}:(Sort.swp d i j).size=d.size:=by simp [Sort.swp]
set_option maxHeartbeats 16000000 in
theorem insertionSort_spec {C:CallW} (hC:LeC C C) (P:Program) {c:Nat→FuncId} (h0:LessS C (c 0)):∀(n:Nat) (d:Array Int) (a b:Nat) S H (K:AV→St→Prop),S[n]? = some (flat iA d)→a≤b→b≤d.size→d.size≤4611686018427387904→K (.tup []) ⟨S.set n (flat iA (Sort.insertionSort ltI d a b)),H⟩→runL C P (C_slices_insertionSortOrdered_int64 c) [.row (.stk n) 0 d.size d.size,.s (.int .i64 a),.s (.int .i64 b)] ⟨S,H⟩ K:=by
  intro n d a b S H K hS hab hbd hdl hK
  have hn:=slt hS
  have hw0:IntKind.i64.wrap ((a:Int) + 1)=((a + 1:Nat):Int):=by rw [wrap_i64 (by omega) (by omega)]; omega
  simp only [C_slices_insertionSortOrdered_int64,A_,simprocAttr,ne_eq,(U_slices_insertionSortOrdered_int64 _).1,hw0]
  refine loop_rule hC (α:=Nat×Array Int) (fun x=>b - x.1) (fun x=>[.row (.stk n) 0 d.size d.size,.s (.int .i64 a),.s (.int .i64 b),uu,uu,uu,.s (.int .i64 x.1),uu,uu,uu,uu,uu,uu,uu,uu,uu,uu,uu,uu,uu,uu,uu,uu,uu,uu,uu,uu,uu,uu,uu,uu,uu,uu,uu,uu,uu,uu,uu,uu,uu,uu,uu,uu,uu,uu,uu,uu,uu,uu]) (fun x=>S.set n (flat iA x.2)) (fun _=>H) (fun x=>a + 1≤x.1∧x.2.size=d.size∧Sort.insertionSort ltI d a b=Sort.insOuter ltI a b x.1 x.2) (a + 1,d) ⟨Nat.le_refl _,rfl,rfl⟩ (by simp [keep,zm]) (by rw [sself hS]; simp) rfl (fun x _=>by simp [AV.under,AV.under.go,hn]) ?_
  rintro ⟨i,e⟩ ⟨hi,hes,hinv⟩ ih
  dsimp only at hi hes hinv ih ⊢
  have hSe:(S.set n (flat iA e))[n]? = some (flat iA e):=sset hS
  by_cases hib:i < b
  case neg =>
    have hlt:¬((i:Int) < (b:Int)):=by omega
    rw [Sort.insOuter,if_neg hib] at hinv
    rw [hinv] at hK
    simp only [A_,simprocAttr,ne_eq,(U_slices_insertionSortOrdered_int64 _).1,hlt]
    exact hK
  have hlt:((i:Int) < (b:Int)):=by omega
  rw [Sort.insOuter,if_pos hib] at hinv
  simp only [A_,simprocAttr,ne_eq,(U_slices_insertionSortOrdered_int64 _).1,hlt]
  refine loop_rule hC (α:=Nat×Array Int) (fun x=>x.1) (fun x=>[.row (.stk n) 0 d.size d.size,.s (.int .i64 a),.s (.int .i64 b),uu,uu,uu,.s (.int .i64 i),.s (.int .i64 x.1),uu,uu,uu,uu,uu,uu,uu,uu,uu,uu,uu,uu,uu,uu,uu,uu,uu,uu,uu,uu,uu,uu,uu,uu,uu,uu,uu,uu,uu,uu,uu,uu,uu,uu,uu,uu,uu,uu,uu,uu,uu]) (fun x=>S.set n (flat iA x.2)) (fun _=>H) (fun x=>x.1≤i∧x.2.size=d.size∧Sort.insInner ltI a i e=Sort.insInner ltI a x.1 x.2) (i,e) ⟨Nat.le_refl _,hes,rfl⟩ (by simp [keep,zm]) (by rw [List.take_of_length_le]; simp) rfl (fun x _=>by simp [AV.under,AV.under.go,hn]) ?_
  rintro ⟨j,g⟩ ⟨hj,hgs,hjv⟩ ih2
  dsimp only at hj hgs hjv ih2 ⊢
  have hSg:(S.set n (flat iA g))[n]? = some (flat iA g):=sset hS
  have hwi:IntKind.i64.wrap ((i:Int) + 1)=((i + 1:Nat):Int):=by rw [wrap_i64 (by omega) (by omega)]; omega
  have stop:Sort.insInner ltI a i e=g→K (.tup []) ⟨S.set n (flat iA (Sort.insertionSort ltI d a b)),H⟩→∀fr' S',keep (zm false [0,3,3,1,42]) fr'=[.row (.stk n) 0 d.size d.size,.s (.int .i64 a),.s (.int .i64 b),uu,uu,uu,.s (.int .i64 (i + 1:Nat)),uu,uu,uu,uu,uu,uu,uu,uu,uu,uu,uu,uu,uu,uu,uu,uu,uu,uu,uu,uu,uu,uu,uu,uu,uu,uu,uu,uu,uu,uu,uu,uu,uu,uu,uu,uu,uu,uu,uu,uu,uu,uu]→S'.take S.length=S.set n (flat iA g)→runLp C P false (zm false [0,3,3,1,42]) (y9b7 c) S.length [Item.blk 0] fr' ⟨S',H⟩ (fin S.length [] K):=fun h1 h2 fr' S' h3 h4=>ih (i + 1,g) fr' S' H (by dsimp only; omega) ⟨by dsimp only; omega,hgs,by rw [hinv,h1]⟩ h3 h4 rfl
  have fin1:∀fr',keep (zm false [0,3,3,1,42]) fr'=[.row (.stk n) 0 d.size d.size,.s (.int .i64 a),.s (.int .i64 b),uu,uu,uu,.s (.int .i64 (i + 1:Nat)),uu,uu,uu,uu,uu,uu,uu,uu,uu,uu,uu,uu,uu,uu,uu,uu,uu,uu,uu,uu,uu,uu,uu,uu,uu,uu,uu,uu,uu,uu,uu,uu,uu,uu,uu,uu,uu,uu,uu,uu,uu,uu]→Sort.insInner ltI a i e=g→runLp C P false (zm false [0,3,3,1,42]) (y9b7 c) S.length [Item.blk 0] fr' ⟨S.set n (flat iA g),H⟩ (fin S.length [] K):=fun fr' h3 h1=>stop h1 hK fr' _ h3 (by rw [List.take_of_length_le]; simp)
  clear stop
  by_cases hja:a < j
  case neg =>
    have hjl:¬((a:Int) < (j:Int)):=by omega
    simp only [A_,simprocAttr,ne_eq,(U_slices_insertionSortOrdered_int64 _).1,hjl,hwi]
    refine fin1 _ (by simp [keep,zm]) ?_
    rw [hjv]
    cases j with
    | zero=>rfl
    | succ j=>rw [Sort.insInner,if_neg (by simp; omega)]
  obtain ⟨k,rfl⟩:∃k,j=k + 1:=⟨j - 1,by omega⟩
  have hjl:((a:Int) < ((k + 1:Nat):Int)):=by omega
  have hwk:IntKind.i64.wrap (((k + 1:Nat):Int) - 1)=((k:Nat):Int):=by rw [wrap_i64 (by omega) (by omega)]; omega
  have x1:∀kk:IntKind,indexAddrL (.sl 1) (.row (.stk n) 0 d.size d.size) (.s (.int kk ((k + 1:Nat):Int)))=some (.ptr (.stk n) (k + 1)):=fun kk=>ixi (by omega)
  have x2:∀kk:IntKind,indexAddrL (.sl 1) (.row (.stk n) 0 d.size d.size) (.s (.int kk (k:Int)))=some (.ptr (.stk n) k):=fun kk=>ixi (by omega)
  have r1:=ird (H:=H) hSg (i:=k + 1) (by omega)
  have r2:=ird (H:=H) hSg (i:=k) (by omega)
  simp only [A_,simprocAttr,ne_eq,(U_slices_insertionSortOrdered_int64 _).1,hjl,hwk,x1,x2,r1,r2]
  refine h0 _ _ _ _ _ ?_
  cases hlk:ltI g[k + 1]! g[k]! with
  | false =>
    simp only [A_,simprocAttr,ne_eq,(U_slices_insertionSortOrdered_int64 _).1,hwi]
    refine fin1 _ (by simp [keep,zm]) ?_
    rw [hjv,Sort.insInner,hlk,if_neg (by simp)]
  | true =>
    have w1:=iwr (H:=H) (x:=g[k]!) hSg (i:=k + 1) (by omega)
    have hSg2:(S.set n (flat iA (g.setIfInBounds (k + 1) g[k]!)))[n]? = some (flat iA (g.setIfInBounds (k + 1) g[k]!)):=sset hS
    have w2:=iwr (H:=H) (x:=g[k + 1]!) hSg2 (i:=k) (by simp; omega)
    rw [List.set_set] at w1 w2
    simp only [A_,simprocAttr,ne_eq,(U_slices_insertionSortOrdered_int64 _).1,hwk,x1,x2,r1,r2,w1,w2]
    refine ih2 (k,Sort.swp g (k + 1) k) _ _ _ (by dsimp only; omega) ⟨by dsimp only; omega,by rw [swp_size]; exact hgs,?_⟩ (by simp [keep,zm]) (by rw [List.take_of_length_le]; rfl; simp) rfl
    dsimp only
    rw [hjv,Sort.insInner,hlk,if_pos (by simp; omega)]
end Go.AM
namespace Go.AM
open Go
open AV renaming undef → uu
set_option maxRecDepth 20000
def SiftS (C:CallW) (f:FuncId):Prop:=∀(n:Nat) (d:Array Int) (lo hi first:Nat) S H (K:AV→St→Prop),S[n]? = some (flat iA d)→first + hi≤d.size→lo≤2305843009213693952→d.size≤2305843009213693952→K (.tup []) ⟨S.set n (flat iA (Sort.siftDown ltI hi first lo d)),H⟩→C (.fn f) [.row (.stk n) 0 d.size d.size,.s (.int .i64 lo),.s (.int .i64 hi),.s (.int .i64 first)] ⟨S,H⟩ K
set_option maxHeartbeats 16000000 in
theorem siftDown_spec {C:CallW} (hC:LeC C C) (P:Program) {c:Nat→FuncId} (h0:LessS C (c 0)):∀(n:Nat) (d:Array Int) (lo hi first:Nat) S H (K:AV→St→Prop),S[n]? = some (flat iA d)→first + hi≤d.size→lo≤2305843009213693952→d.size≤2305843009213693952→K (.tup []) ⟨S.set n (flat iA (Sort.siftDown ltI hi first lo d)),H⟩→runL C P (C_slices_siftDownOrdered_int64 c) [.row (.stk n) 0 d.size d.size,.s (.int .i64 lo),.s (.int .i64 hi),.s (.int .i64 first)] ⟨S,H⟩ K:=by
  intro n d lo hi first S H K hS hfh hlo hdl hK
  have hn:=slt hS
  generalize hX:Sort.siftDown ltI hi first lo d=X at hK
  simp only [C_slices_siftDownOrdered_int64,A_,simprocAttr,ne_eq,(U_slices_siftDownOrdered_int64 _).1]
  refine loop_rule hC (α:=Nat×Array Int) (fun x=>hi - x.1) (fun x=>[.row (.stk n) 0 d.size d.size,.undef,.s (.int .i64 hi),.s (.int .i64 first),uu,uu,uu,uu,.s (.int .i64 x.1),uu,uu,uu,uu,uu,uu,uu,uu,uu,uu,uu,uu,uu,uu,uu,uu,uu,uu,uu,uu,uu,uu,uu,uu,uu,uu,uu,uu,uu,uu,uu,uu,uu,uu,uu,uu,uu,uu,uu,uu,uu,uu,uu,uu,uu,uu,uu,uu,uu,uu,uu,uu,uu,uu,uu,uu,uu,uu,uu,uu,uu,uu,uu,uu,uu,uu,uu]) (fun x=>S.set n (flat iA x.2)) (fun _=>H) (fun x=>x.1≤2305843009213693952∧x.2.size=d.size∧X=Sort.siftDown ltI hi first x.1 x.2) (lo,d) ⟨hlo,rfl,hX.symm⟩ (by simp [keep,zm]) (by rw [sself hS]; simp) rfl (fun x _=>by simp [AV.under,AV.under.go,hn]) ?_
  rintro ⟨r,e⟩ ⟨hr,hes,hinv⟩ ih
  dsimp only at hr hes hinv ih ⊢
  have hSe:(S.set n (flat iA e))[n]? = some (flat iA e):=sset hS
  have hw2:IntKind.i64.wrap (2 * (r:Int))=((2 * r:Nat):Int):=by rw [wrap_i64 (by omega) (by omega)]; omega
  have hw3:IntKind.i64.wrap (((2 * r:Nat):Int) + 1)=((2 * r + 1:Nat):Int):=by rw [wrap_i64 (by omega) (by omega)]; omega
  rw [Sort.siftDown] at hinv
  by_cases hc:2 * r + 1≥hi
  · have hc':((hi:Int)≤((2 * r + 1:Nat):Int)):=by omega
    rw [dif_pos hc] at hinv
    rw [hinv] at hK
    simp only [A_,simprocAttr,ne_eq,(U_slices_siftDownOrdered_int64 _).1,hw2,hw3,hc']
    exact hK
  have hc':¬((hi:Int)≤((2 * r + 1:Nat):Int)):=by omega
  rw [dif_neg hc] at hinv
  have hw4:IntKind.i64.wrap (((2 * r + 1:Nat):Int) + 1)=((2 * r + 2:Nat):Int):=by rw [wrap_i64 (by omega) (by omega)]; omega
  have a0:IntKind.i64.wrap ((first:Int) + (r:Int))=((first + r:Nat):Int):=by rw [wrap_i64 (by omega) (by omega)]; omega
  have a1:IntKind.i64.wrap ((first:Int) + ((2 * r + 1:Nat):Int))=((first + (2 * r + 1):Nat):Int):=by rw [wrap_i64 (by omega) (by omega)]; omega
  have a2:IntKind.i64.wrap ((first:Int) + ((2 * r + 2:Nat):Int))=((first + (2 * r + 2):Nat):Int):=by rw [wrap_i64 (by omega) (by omega)]; omega
  have a3:IntKind.i64.wrap (((first + (2 * r + 1):Nat):Int) + 1)=((first + (2 * r + 2):Nat):Int):=by rw [wrap_i64 (by omega) (by omega)]; omega
  have x0:∀kk:IntKind,indexAddrL (.sl 1) (.row (.stk n) 0 d.size d.size) (.s (.int kk ((first + r:Nat):Int)))=some (.ptr (.stk n) (first + r)):=fun kk=>ixi (by omega)
  have x1:∀kk:IntKind,indexAddrL (.sl 1) (.row (.stk n) 0 d.size d.size) (.s (.int kk ((first + (2 * r + 1):Nat):Int)))=some (.ptr (.stk n) (first + (2 * r + 1))):=fun kk=>ixi (by omega)
  have r0:=ird (H:=H) hSe (i:=first + r) (by omega)
  have r1:=ird (H:=H) hSe (i:=first + (2 * r + 1)) (by omega)
  by_cases hc2:2 * r + 1 + 1 < hi
  · have hc2':(((2 * r + 2:Nat):Int) < (hi:Int)):=by omega
    have x2:∀kk:IntKind,indexAddrL (.sl 1) (.row (.stk n) 0 d.size d.size) (.s (.int kk ((first + (2 * r + 2):Nat):Int)))=some (.ptr (.stk n) (first + (2 * r + 2))):=fun kk=>ixi (by omega)
    have r2:=ird (H:=H) hSe (i:=first + (2 * r + 2)) (by omega)
    simp only [A_,simprocAttr,ne_eq,(U_slices_siftDownOrdered_int64 _).1,hw2,hw3,hw4,hc',hc2',a0,a1,a2,a3,x0,x1,x2,r0,r1,r2]
    refine h0 _ _ _ _ _ ?_
    cases hl1:ltI e[first + (2 * r + 1)]! e[first + (2 * r + 2)]! with
    | true =>
      rw [if_pos (by rw [Bool.and_eq_true]; exact ⟨decide_eq_true hc2,hl1⟩)] at hinv
      simp only [A_,simprocAttr,ne_eq,(U_slices_siftDownOrdered_int64 _).1,hw2,hw3,hw4,a0,a1,a2,a3,x0,x1,x2,r0,r1,r2]
      refine h0 _ _ _ _ _ ?_
      cases hl2:ltI e[first + r]! e[first + (2 * r + 2)]! with
      | false =>
        rw [hl2,if_pos (by rfl)] at hinv
        rw [hinv] at hK
        simp only [A_,simprocAttr,ne_eq,(U_slices_siftDownOrdered_int64 _).1]
        exact hK
      | true =>
        rw [hl2,if_neg (by simp),dif_pos hc2] at hinv
        have w1:=iwr (H:=H) (x:=e[first + (2 * r + 2)]!) hSe (i:=first + r) (by omega)
        have hS2:(S.set n (flat iA (e.setIfInBounds (first + r) e[first + (2 * r + 2)]!)))[n]? = some (flat iA (e.setIfInBounds (first + r) e[first + (2 * r + 2)]!)):=sset hS
        have w2:=iwr (H:=H) (x:=e[first + r]!) hS2 (i:=first + (2 * r + 2)) (by simp; omega)
        rw [List.set_set] at w1 w2
        simp only [A_,simprocAttr,ne_eq,(U_slices_siftDownOrdered_int64 _).1,hw2,hw3,hw4,a0,a1,a2,a3,x0,x1,x2,r0,r1,r2,w1,w2]
        exact ih (2 * r + 2,Sort.swp e (first + r) (first + (2 * r + 2))) _ _ _ (by dsimp only; omega) ⟨by dsimp only; omega,by rw [swp_size]; exact hes,hinv⟩ (by simp [keep,zm]) (by rw [List.take_of_length_le]; rfl; simp) rfl
    | false =>
      rw [if_neg (by rw [Bool.and_eq_true]; rintro ⟨_,h⟩; rw [show first + (2 * r + 1) + 1=first + (2 * r + 2) from rfl,hl1] at h; cases h)] at hinv
      simp only [A_,simprocAttr,ne_eq,(U_slices_siftDownOrdered_int64 _).1,hw2,hw3,hw4,a0,a1,a2,a3,x0,x1,x2,r0,r1,r2]
      refine h0 _ _ _ _ _ ?_
      cases hl2:ltI e[first + r]! e[first + (2 * r + 1)]! with
      | false =>
        rw [hl2,if_pos (by rfl)] at hinv
        rw [hinv] at hK
        simp only [A_,simprocAttr,ne_eq,(U_slices_siftDownOrdered_int64 _).1]
        exact hK
      | true =>
        rw [hl2,if_neg (by simp)] at hinv
        have w1:=iwr (H:=H) (x:=e[first + (2 * r + 1)]!) hSe (i:=first + r) (by omega)
        have hS2:(S.set n (flat iA (e.setIfInBounds (first + r) e[first + (2 * r + 1)]!)))[n]? = some (flat iA (e.setIfInBounds (first + r) e[first + (2 * r + 1)]!)):=sset hS
        have w2:=iwr (H:=H) (x:=e[first + r]!) hS2 (i:=first + (2 * r + 1)) (by simp; omega)
        rw [List.set_set] at w1 w2
        simp only [A_,simprocAttr,ne_eq,(U_slices_siftDownOrdered_int64 _).1,hw2,hw3,hw4,a0,a1,a2,a3,x0,x1,x2,r0,r1,r2,w1,w2]
        exact ih (2 * r + 1,Sort.swp e (first + r) (first + (2 * r + 1))) _ _ _ (by dsimp only; omega) ⟨by dsimp only; omega,by rw [swp_size]; exact hes,hinv⟩ (by simp [keep,zm]) (by rw [List.take_of_length_le]; rfl; simp) rfl
  · have hc2':¬(((2 * r + 2:Nat):Int) < (hi:Int)):=by omega
    rw [if_neg (by rw [Bool.and_eq_true]; rintro ⟨h,_⟩; exact hc2 (of_decide_eq_true h))] at hinv
    simp only [A_,simprocAttr,ne_eq,(U_slices_siftDownOrdered_int64 _).1,hw2,hw3,hw4,hc',hc2',a0,a1,a2,a3,x0,x1,r0,r1]
    refine h0 _ _ _ _ _ ?_
    cases hl2:ltI e[first + r]! e[first + (2 * r + 1)]! with
    | false =>
      rw [hl2,if_pos (by rfl)] at hinv
      rw [hinv] at hK
      simp only [A_,simprocAttr,ne_eq,(U_slices_siftDownOrdered_int64 _).1]
      exact hK
    | true =>
      rw [hl2,if_neg (by simp)] at hinv
      have w1:=iwr (H:=H) (x:=e[first + (2 * r + 1)]!) hSe (i:=first + r) (by omega)
      have hS2:(S.set n (flat iA (e.setIfInBounds (first + r) e[first + (2 * r + 1)]!)))[n]? = some (flat iA (e.setIfInBounds (first + r) e[first + (2 * r + 1)]!)):=sset hS
      have w2:=iwr (H:=H) (x:=e[first + r]!) hS2 (i:=first + (2 * r + 1)) (by simp; omega)
      rw [List.set_set] at w1 w2
      simp only [A_,simprocAttr,ne_eq,(U_slices_siftDownOrdered_int64 _).1,hw2,hw3,hw4,a0,a1,a2,a3,x0,x1,r0,r1,w1,w2]
      exact ih (2 * r + 1,Sort.swp e (first + r) (first + (2 * r + 1))) _ _ _ (by dsimp only; omega) ⟨by dsimp only; omega,by rw [swp_size]; exact hes,hinv⟩ (by simp [keep,zm]) (by rw [List.take_of_length_le]; rfl; simp) rfl
end Go.AM
namespace Go.AM
open Go
open AV renaming undef → uu
set_option maxRecDepth 20000
theorem siftDown_size (hi first:Nat):∀(m root:Nat) (d:Array Int),hi - root≤m→(Sort.siftDown ltI hi first root d).size=d.size:=by
  intro m
  induction m with
  | zero=>intro root d h; rw [Sort.siftDown,dif_pos (by omega)]
  | succ m ih =>
    intro root d h
    rw [Sort.siftDown]
    by_cases hc:2 * root + 1≥hi
    · rw [dif_pos hc]
    rw [dif_neg hc]
    split
    · split
      · rfl
      · split
        · rw [ih _ _ (by omega),swp_size]
        · rfl
    · split
      · rfl
      · rw [ih _ _ (by omega),swp_size]
def SrtT (C:CallW) (f:FuncId) (X:Array Int→Nat→Nat→Array Int):Prop:=∀(n:Nat) (d:Array Int) (a b:Nat) S H (K:AV→St→Prop),S[n]? = some (flat iA d)→a < b→b≤d.size→d.size≤2305843009213693952→K (.tup []) ⟨S.set n (flat iA (X d a b)),H⟩→C (.fn f) [.row (.stk n) 0 d.size d.size,.s (.int .i64 a),.s (.int .i64 b)] ⟨S,H⟩ K
set_option maxHeartbeats 16000000 in
theorem reverseRange_spec {C:CallW} (hC:LeC C C) (P:Program):∀(n:Nat) (d:Array Int) (a b:Nat) S H (K:AV→St→Prop),S[n]? = some (flat iA d)→a < b→b≤d.size→d.size≤2305843009213693952→K (.tup []) ⟨S.set n (flat iA (Sort.reverseRange d a b)),H⟩→runL C P C_slices_reverseRangeOrdered_int64 [.row (.stk n) 0 d.size d.size,.s (.int .i64 a),.s (.int .i64 b)] ⟨S,H⟩ K:=by
  intro n d a b S H K hS hab hbd hdl hK
  have hn:=slt hS
  unfold Sort.reverseRange at hK
  generalize hX:Sort.reverseLoop a (b - 1) d=X at hK
  have hw0:IntKind.i64.wrap ((b:Int) - 1)=((b - 1:Nat):Int):=by rw [wrap_i64 (by omega) (by omega)]; omega
  simp only [C_slices_reverseRangeOrdered_int64,A_,simprocAttr,ne_eq,U_slices_reverseRangeOrdered_int64.1,hw0]
  refine loop_rule hC (α:=Nat×Nat×Array Int) (fun x=>x.2.1 - x.1) (fun x=>[.row (.stk n) 0 d.size d.size,uu,uu,uu,uu,uu,.s (.int .i64 x.1),.s (.int .i64 x.2.1),uu,uu,uu,uu,uu,uu,uu,uu,uu,uu,uu,uu,uu,uu,uu,uu,uu,uu,uu,uu,uu,uu,uu,uu]) (fun x=>S.set n (flat iA x.2.2)) (fun _=>H) (fun x=>x.1≤d.size∧x.2.1 < d.size∧x.2.2.size=d.size∧X=Sort.reverseLoop x.1 x.2.1 x.2.2) (a,b - 1,d) ⟨by dsimp only; omega,by dsimp only; omega,rfl,hX.symm⟩ (by simp [keep,zm]) (by rw [sself hS]; simp) rfl (fun x _=>by simp [AV.under,AV.under.go,hn]) ?_
  rintro ⟨i,j,e⟩ ⟨hi,hj,hes,hinv⟩ ih
  dsimp only at hi hj hes hinv ih ⊢
  have hSe:(S.set n (flat iA e))[n]? = some (flat iA e):=sset hS
  rw [Sort.reverseLoop] at hinv
  by_cases hij:i < j
  case neg =>
    have h':¬((i:Int) < (j:Int)):=by omega
    rw [if_neg hij] at hinv
    rw [hinv] at hK
    simp only [A_,simprocAttr,ne_eq,U_slices_reverseRangeOrdered_int64.1,h']
    exact hK
  have h':((i:Int) < (j:Int)):=by omega
  rw [if_pos hij] at hinv
  have hw1:IntKind.i64.wrap ((i:Int) + 1)=((i + 1:Nat):Int):=by rw [wrap_i64 (by omega) (by omega)]; omega
  have hw2:IntKind.i64.wrap ((j:Int) - 1)=((j - 1:Nat):Int):=by rw [wrap_i64 (by omega) (by omega)]; omega
  have x1:∀kk:IntKind,indexAddrL (.sl 1) (.row (.stk n) 0 d.size d.size) (.s (.int kk (i:Int)))=some (.ptr (.stk n) i):=fun kk=>ixi (by omega)
  have x2:∀kk:IntKind,indexAddrL (.sl 1) (.row (.stk n) 0 d.size d.size) (.s (.int kk (j:Int)))=some (.ptr (.stk n) j):=fun kk=>ixi (by omega)
  have r1:=ird (H:=H) hSe (i:=i) (by omega)
  have r2:=ird (H:=H) hSe (i:=j) (by omega)
  have w1:=iwr (H:=H) (x:=e[j]!) hSe (i:=i) (by omega)
  have hS2:(S.set n (flat iA (e.setIfInBounds i e[j]!)))[n]? = some (flat iA (e.setIfInBounds i e[j]!)):=sset hS
  have w2:=iwr (H:=H) (x:=e[i]!) hS2 (i:=j) (by simp; omega)
  rw [List.set_set] at w1 w2
  simp only [A_,simprocAttr,ne_eq,U_slices_reverseRangeOrdered_int64.1,h',x1,x2,r1,r2,w1,w2,hw1,hw2]
  exact ih (i + 1,j - 1,Sort.swp e i j) _ _ _ (by dsimp only; omega) ⟨by dsimp only; omega,by dsimp only; omega,by rw [swp_size]; exact hes,hinv⟩ (by simp [keep,zm]) (by rw [List.take_of_length_le]; rfl; simp) rfl
set_option maxHeartbeats 16000000 in
theorem heapSort_spec {C:CallW} (hC:LeC C C) (P:Program) {c:Nat→FuncId} (h0:SiftS C (c 0)):∀(n:Nat) (d:Array Int) (a b:Nat) S H (K:AV→St→Prop),S[n]? = some (flat iA d)→a < b→b≤d.size→d.size≤2305843009213693952→K (.tup []) ⟨S.set n (flat iA (Sort.heapSort ltI d a b)),H⟩→runL C P (C_slices_heapSortOrdered_int64 c) [.row (.stk n) 0 d.size d.size,.s (.int .i64 a),.s (.int .i64 b)] ⟨S,H⟩ K:=by
  intro n d a b S H K hS hab hbd hdl hK
  have hn:=slt hS
  unfold Sort.heapSort at hK
  have hw0:IntKind.i64.wrap ((b:Int) - (a:Int))=((b - a:Nat):Int):=by rw [wrap_i64 (by omega) (by omega)]; omega
  have hw1:IntKind.i64.wrap (((b - a:Nat):Int) - 1)=((b - a - 1:Nat):Int):=by rw [wrap_i64 (by omega) (by omega)]; omega
  have hw2:IntKind.i64.wrap (((b - a - 1:Nat):Int).tdiv 2)=((((b - a - 1) / 2 + 1:Nat):Int) - 1):=by
    rw [show ((b - a - 1:Nat):Int).tdiv 2=(((b - a - 1) / 2:Nat):Int) from rfl,wrap_i64 (by omega) (by omega)]; omega
  generalize hhi:b - a=hi at *
  generalize hk0:(hi - 1) / 2 + 1=k0 at *
  simp only [C_slices_heapSortOrdered_int64,A_,simprocAttr,ne_eq,(U_slices_heapSortOrdered_int64 _).1,hw0,hw1,hw2]
  have hhs:a + hi≤d.size:=by omega
  have hk1:k0≤hi:=by omega
  refine loop_rule hC (α:=Nat×Array Int) (fun x=>x.1) (fun x=>[.row (.stk n) 0 d.size d.size,uu,uu,uu,uu,uu,.s (.int .i64 a),.s (.int .i64 0),.s (.int .i64 hi),.s (.int .i64 ((x.1:Int) - 1)),uu,uu,uu,uu,uu,uu,uu,uu,uu,uu,uu,uu,uu,uu,uu,uu,uu,uu,uu,uu,uu,uu,uu,uu,uu,uu,uu,uu,uu,uu,uu,uu,uu,uu,uu,uu,uu,uu,uu,uu,uu,uu,uu,uu,uu,uu]) (fun x=>S.set n (flat iA x.2)) (fun _=>H) (fun x=>x.1≤k0∧x.2.size=d.size∧Sort.heapBuild ltI hi a k0 d=Sort.heapBuild ltI hi a x.1 x.2) (k0,d) ⟨Nat.le_refl _,rfl,rfl⟩ (by simp [keep,zm]) (by rw [sself hS]; simp) rfl (fun x _=>by simp [AV.under,AV.under.go,hn]) ?_
  rintro ⟨k,e⟩ ⟨hk,hes,hinv⟩ ih
  dsimp only at hk hes hinv ih ⊢
  have hSe:(S.set n (flat iA e))[n]? = some (flat iA e):=sset hS
  cases k with
  | succ k =>
    have h':((0:Int)≤((k + 1:Nat):Int) - 1)=True:=eq_true (by omega)
    have e1:(((k + 1:Nat):Int) - 1)=((k:Nat):Int):=by omega
    have h'':((0:Int)≤(k:Int))=True:=eq_true (by omega)
    have e2:IntKind.i64.wrap ((k:Int) - 1)=(k:Int) - 1:=wrap_i64 (by omega) (by omega)
    simp only [A_,simprocAttr,ne_eq,(U_slices_heapSortOrdered_int64 _).1,h',e1,h'']
    rw [show d.size=e.size from hes.symm]
    refine h0 n e k hi a _ _ _ hSe (by omega) (by omega) (by omega) ?_
    rw [List.set_set]
    simp only [A_,simprocAttr,ne_eq,(U_slices_heapSortOrdered_int64 _).1,e2]
    refine ih (k,Sort.siftDown ltI hi a k e) _ _ _ (by dsimp only; omega) ⟨by dsimp only; omega,by rw [siftDown_size hi a _ _ _ (Nat.le_refl _)]; exact hes,by rw [hinv]; rfl⟩ (by simp [keep,zm,hes]) (by rw [List.take_of_length_le]; simp) rfl
  | zero =>
    have h':((0:Int)≤((0:Nat):Int) - 1)=False:=eq_false (by omega)
    have h'':((0:Int)≤0 - 1)=False:=eq_false (by omega)
    have h3:((0:Int)≤-1)=False:=eq_false (by omega)
    rw [hinv] at hK
    simp only [Sort.heapBuild] at hK
    have hw3:IntKind.i64.wrap ((hi:Int) - 1)=((hi:Int) - 1):=wrap_i64 (by omega) (by omega)
    simp only [A_,simprocAttr,ne_eq,(U_slices_heapSortOrdered_int64 _).1,h',h'',h3,hw3]
    clear ih hinv
    generalize hX:Sort.heapPop ltI a hi e=X at hK
    refine loop_rule hC (α:=Nat×Array Int) (fun x=>x.1) (fun x=>[.row (.stk n) 0 d.size d.size,uu,uu,uu,uu,uu,.s (.int .i64 a),.s (.int .i64 0),uu,uu,.s (.int .i64 ((x.1:Int) - 1)),uu,uu,uu,uu,uu,uu,uu,uu,uu,uu,uu,uu,uu,uu,uu,uu,uu,uu,uu,uu,uu,uu,uu,uu,uu,uu,uu,uu,uu,uu,uu,uu,uu,uu,uu,uu,uu,uu,uu,uu,uu,uu,uu,uu,uu]) (fun x=>S.set n (flat iA x.2)) (fun _=>H) (fun x=>x.1≤hi∧x.2.size=d.size∧X=Sort.heapPop ltI a x.1 x.2) (hi,e) ⟨Nat.le_refl _,hes,hX.symm⟩ (by simp [keep,zm]) (by rw [List.take_of_length_le]; simp) rfl (fun x _=>by simp [AV.under,AV.under.go,hn]) ?_
    rintro ⟨k,g⟩ ⟨hk2,hgs,hinv⟩ ih
    dsimp only at hk2 hgs hinv ih ⊢
    have hSg:(S.set n (flat iA g))[n]? = some (flat iA g):=sset hS
    cases k with
    | zero =>
      rw [hinv] at hK
      simp only [A_,simprocAttr,ne_eq,(U_slices_heapSortOrdered_int64 _).1,h',h'',h3]
      exact hK
    | succ k =>
      have h':((0:Int)≤((k + 1:Nat):Int) - 1)=True:=eq_true (by omega)
      have e1:(((k + 1:Nat):Int) - 1)=((k:Nat):Int):=by omega
      have h'':((0:Int)≤(k:Int))=True:=eq_true (by omega)
      have e2:IntKind.i64.wrap ((k:Int) - 1)=(k:Int) - 1:=wrap_i64 (by omega) (by omega)
      have e3:IntKind.i64.wrap ((a:Int) + (k:Int))=((a + k:Nat):Int):=by rw [wrap_i64 (by omega) (by omega)]; omega
      have x1:∀kk:IntKind,indexAddrL (.sl 1) (.row (.stk n) 0 d.size d.size) (.s (.int kk (a:Int)))=some (.ptr (.stk n) a):=fun kk=>ixi (by omega)
      have x2:∀kk:IntKind,indexAddrL (.sl 1) (.row (.stk n) 0 d.size d.size) (.s (.int kk ((a + k:Nat):Int)))=some (.ptr (.stk n) (a + k)):=fun kk=>ixi (by omega)
      have r1:=ird (H:=H) hSg (i:=a) (by omega)
      have r2:=ird (H:=H) hSg (i:=a + k) (by omega)
      have w1:=iwr (H:=H) (x:=g[a + k]!) hSg (i:=a) (by omega)
      have hS2:(S.set n (flat iA (g.setIfInBounds a g[a + k]!)))[n]? = some (flat iA (g.setIfInBounds a g[a + k]!)):=sset hS
      have w2:=iwr (H:=H) (x:=g[a]!) hS2 (i:=a + k) (by simp; omega)
      rw [List.set_set] at w1 w2
      simp only [A_,simprocAttr,ne_eq,(U_slices_heapSortOrdered_int64 _).1,h',e1,h'',e3,x1,x2,r1,r2,w1,w2]
      rw [show d.size=(Sort.swp g a (a + k)).size by rw [swp_size]; exact hgs.symm]
      have hS3:(S.set n (flat iA (Sort.swp g a (a + k))))[n]? = some (flat iA (Sort.swp g a (a + k))):=sset hS
      refine h0 n (Sort.swp g a (a + k)) 0 k a _ _ _ hS3 (by rw [swp_size]; omega) (by omega) (by rw [swp_size]; omega) ?_
      rw [List.set_set]
      simp only [A_,simprocAttr,ne_eq,(U_slices_heapSortOrdered_int64 _).1,e2]
      refine ih (k,Sort.siftDown ltI k a 0 (Sort.swp g a (a + k))) _ _ _ (by dsimp only; omega) ⟨by dsimp only; omega,by rw [siftDown_size k a _ _ _ (Nat.le_refl _),swp_size]; exact hgs,by rw [hinv]; rfl⟩ (by simp [keep,zm,swp_size,hgs]) (by rw [List.take_of_length_le]; simp) rfl
end Go.AM
namespace Go.AM
open Go
set_option maxRecDepth 20000
def swB (k:Nat):List AV:=[.s (.int .i64 k)]
def Ord2S (C:CallW) (f:FuncId):Prop:=∀(n m:Nat) (d:Array Int) (a b sw:Nat) S H (K:AV→St→Prop),S[n]? = some (flat iA d)→S[m]? = some (swB sw)→a < d.size→b < d.size→sw≤1000→K (.tup [.s (.int .i64 (Sort.order2 ltI d a b sw).1),.s (.int .i64 (Sort.order2 ltI d a b sw).2.1)]) ⟨S.set m (swB (Sort.order2 ltI d a b sw).2.2),H⟩→C (.fn f) [.row (.stk n) 0 d.size d.size,.s (.int .i64 a),.s (.int .i64 b),.ptr (.stk m) 0] ⟨S,H⟩ K
def MedS (C:CallW) (f:FuncId):Prop:=∀(n m:Nat) (d:Array Int) (a b c sw:Nat) S H (K:AV→St→Prop),n≠m→S[n]? = some (flat iA d)→S[m]? = some (swB sw)→a < d.size→b < d.size→c < d.size→sw≤900→K (.s (.int .i64 (Sort.median ltI d a b c sw).1)) ⟨S.set m (swB (Sort.median ltI d a b c sw).2),H⟩→C (.fn f) [.row (.stk n) 0 d.size d.size,.s (.int .i64 a),.s (.int .i64 b),.s (.int .i64 c),.ptr (.stk m) 0] ⟨S,H⟩ K
def MadS (C:CallW) (f:FuncId):Prop:=∀(n m:Nat) (d:Array Int) (a sw:Nat) S H (K:AV→St→Prop),n≠m→S[n]? = some (flat iA d)→S[m]? = some (swB sw)→1≤a→a + 1 < d.size→d.size≤2305843009213693952→sw≤900→K (.s (.int .i64 (Sort.medianAdjacent ltI d a sw).1)) ⟨S.set m (swB (Sort.medianAdjacent ltI d a sw).2),H⟩→C (.fn f) [.row (.stk n) 0 d.size d.size,.s (.int .i64 a),.ptr (.stk m) 0] ⟨S,H⟩ K
theorem sw_load {S:List (List AV)} {H:List HObj} {m k:Nat} (h:S[m]? = some (swB k)):load1L false (.ptr (.stk m) 0) ⟨S,H⟩=some (.s (.int .i64 k),⟨S,H⟩):=by
  simp only [load1L,boxOf_stk,h,Option.bind_some,swB]; rfl
theorem sw_store {S:List (List AV)} {H:List HObj} {m k j:Nat} (h:S[m]? = some (swB k)):storeL 1 (.ptr (.stk m) 0) (.s (.int .i64 j)) ⟨S,H⟩=some ⟨S.set m (swB j),H⟩:=by
  simp only [storeL,AV.cells,AV.fit,writeCells,boxOf_stk,h,Option.bind_some,mayHold,AV.under.go,AV.under,swB]; rfl
set_option maxHeartbeats 16000000 in
theorem order2_spec {C:CallW} (P:Program) {c:Nat→FuncId} (h0:LessS C (c 0)):∀(n m:Nat) (d:Array Int) (a b sw:Nat) S H (K:AV→St→Prop),S[n]? = some (flat iA d)→S[m]? = some (swB sw)→a < d.size→b < d.size→sw≤1000→K (.tup [.s (.int .i64 (Sort.order2 ltI d a b sw).1),.s (.int .i64 (Sort.order2 ltI d a b sw).2.1)]) ⟨S.set m (swB (Sort.order2 ltI d a b sw).2.2),H⟩→runL C P (C_slices_order2Ordered_int64 c) [.row (.stk n) 0 d.size d.size,.s (.int .i64 a),.s (.int .i64 b),.ptr (.stk m) 0] ⟨S,H⟩ K:=by
  intro n m d a b sw S H K hS hm ha hb hs hK
  unfold Sort.order2 at hK
  have x1:∀kk:IntKind,indexAddrL (.sl 1) (.row (.stk n) 0 d.size d.size) (.s (.int kk (a:Int)))=some (.ptr (.stk n) a):=fun kk=>ixi (by omega)
  have x2:∀kk:IntKind,indexAddrL (.sl 1) (.row (.stk n) 0 d.size d.size) (.s (.int kk (b:Int)))=some (.ptr (.stk n) b):=fun kk=>ixi (by omega)
  have r1:=ird (H:=H) hS (i:=a) (by omega)
  have r2:=ird (H:=H) hS (i:=b) (by omega)
  simp only [C_slices_order2Ordered_int64,A_,simprocAttr,ne_eq,(U_slices_order2Ordered_int64 _).1,x1,x2,r1,r2]
  refine h0 _ _ _ _ _ ?_
  cases hl:ltI d[b]! d[a]! with
  | true =>
    rw [hl,if_pos rfl] at hK
    have l1:=sw_load (H:=H) hm
    have s1:=sw_store (H:=H) (j:=sw + 1) hm
    have w1:IntKind.i64.wrap ((sw:Int) + 1)=((sw + 1:Nat):Int):=by rw [wrap_i64 (by omega) (by omega)]; omega
    simp only [A_,simprocAttr,ne_eq,(U_slices_order2Ordered_int64 _).1,l1,s1,w1]
    exact hK
  | false =>
    rw [hl,if_neg (by simp),sself hm] at hK
    simp only [A_,simprocAttr,ne_eq,(U_slices_order2Ordered_int64 _).1]
    exact hK
theorem order2_lt {d:Array Int} {a b sw N:Nat} (ha:a < N) (hb:b < N):(Sort.order2 ltI d a b sw).1 < N∧(Sort.order2 ltI d a b sw).2.1 < N∧(Sort.order2 ltI d a b sw).2.2≤sw + 1:=by
  unfold Sort.order2
  split
  · exact ⟨hb,ha,Nat.le_refl _⟩
  · exact ⟨ha,hb,Nat.le_succ _⟩
set_option maxHeartbeats 16000000 in
theorem median_spec {C:CallW} (P:Program) {c:Nat→FuncId} (h0:Ord2S C (c 0)):∀(n m:Nat) (d:Array Int) (a b e sw:Nat) S H (K:AV→St→Prop),n≠m→S[n]? = some (flat iA d)→S[m]? = some (swB sw)→a < d.size→b < d.size→e < d.size→sw≤900→K (.s (.int .i64 (Sort.median ltI d a b e sw).1)) ⟨S.set m (swB (Sort.median ltI d a b e sw).2),H⟩→runL C P (C_slices_medianOrdered_int64 c) [.row (.stk n) 0 d.size d.size,.s (.int .i64 a),.s (.int .i64 b),.s (.int .i64 e),.ptr (.stk m) 0] ⟨S,H⟩ K:=by
  intro n m d a b e sw S H K hnm hS hm ha hb he hs hK
  unfold Sort.median at hK
  have ng:∀x,(S.set m x)[n]? = some (flat iA d):=fun x=>by rw [List.getElem?_set_ne (fun h=>hnm h.symm)]; exact hS
  simp only [C_slices_medianOrdered_int64,A_,simprocAttr,ne_eq,(U_slices_medianOrdered_int64 _).1]
  obtain ⟨q1,q2,q3⟩:=order2_lt (d:=d) (sw:=sw) ha hb
  refine h0 n m d a b sw _ _ _ hS hm ha hb (by omega) ?_
  generalize Sort.order2 ltI d a b sw=r1 at hK q1 q2 q3 ⊢
  obtain ⟨p1,b2,s2⟩:=r1
  dsimp only at *
  simp only [A_,simprocAttr,ne_eq,(U_slices_medianOrdered_int64 _).1]
  obtain ⟨u1,u2,u3⟩:=order2_lt (d:=d) (sw:=s2) q2 he
  refine h0 n m d b2 e s2 _ _ _ (ng _) (sset hm) q2 he (by omega) ?_
  rw [List.set_set]
  generalize Sort.order2 ltI d b2 e s2=r2 at hK u1 u2 u3 ⊢
  obtain ⟨y1,y2,y3⟩:=r2
  dsimp only at *
  simp only [A_,simprocAttr,ne_eq,(U_slices_medianOrdered_int64 _).1]
  refine h0 n m d p1 y1 y3 _ _ _ (ng _) (sset hm) q1 u1 (by omega) ?_
  rw [List.set_set]
  simp only [A_,simprocAttr,ne_eq,(U_slices_medianOrdered_int64 _).1]
  exact hK
theorem medianAdjacent_spec {C:CallW} (P:Program) {c:Nat→FuncId} (h0:MedS C (c 0)):∀(n m:Nat) (d:Array Int) (a sw:Nat) S H (K:AV→St→Prop),n≠m→S[n]? = some (flat iA d)→S[m]? = some (swB sw)→1≤a→a + 1 < d.size→d.size≤2305843009213693952→sw≤900→K (.s (.int .i64 (Sort.medianAdjacent ltI d a sw).1)) ⟨S.set m (swB (Sort.medianAdjacent ltI d a sw).2),H⟩→runL C P (C_slices_medianAdjacentOrdered_int64 c) [.row (.stk n) 0 d.size d.size,.s (.int .i64 a),.ptr (.stk m) 0] ⟨S,H⟩ K:=by
  intro n m d a sw S H K hnm hS hm ha hb hd hs hK
  have w1:IntKind.i64.wrap ((a:Int) + 1)=((a + 1:Nat):Int):=by rw [wrap_i64 (by omega) (by omega)]; omega
  have w2:IntKind.i64.wrap ((a:Int) - 1)=((a - 1:Nat):Int):=by rw [wrap_i64 (by omega) (by omega)]; omega
  simp only [C_slices_medianAdjacentOrdered_int64,A_,simprocAttr,ne_eq,(U_slices_medianAdjacentOrdered_int64 _).1,w1,w2]
  refine h0 n m d (a - 1) a (a + 1) sw _ _ _ hnm hS hm (by omega) (by omega) hb hs ?_
  simp only [A_,simprocAttr,ne_eq,(U_slices_medianAdjacentOrdered_int64 _).1]
  exact hK
end Go.AM
namespace Go.AM
open Go
set_option maxRecDepth 20000
def hI:Sort.Hint→Int
  | .unknown=>0
  | .increasing=>1
  | .decreasing=>2
def ChpS (C:CallW) (f:FuncId):Prop:=∀(n:Nat) (d:Array Int) (a b:Nat) S H (K:AV→St→Prop),S[n]? = some (flat iA d)→a < b→b≤d.size→d.size≤2305843009213693952→K (.tup [.s (.int .i64 (Sort.choosePivot ltI d a b).1),.s (.int .i64 (hI (Sort.choosePivot ltI d a b).2))]) ⟨S,H⟩→C (.fn f) [.row (.stk n) 0 d.size d.size,.s (.int .i64 a),.s (.int .i64 b)] ⟨S,H⟩ K
theorem sapp {S:List (List AV)} {x y:List AV}:(S ++ [x]).set S.length y=S ++ [y]:=by simp
theorem sappg {S:List (List AV)} {n:Nat} {x:List AV} {d:Array Int} (h:S[n]? = some (flat iA d)):(S ++ [x])[n]? = some (flat iA d):=by rw [List.getElem?_append_left (slt h)]; exact h
theorem sappl {S:List (List AV)} {x:List AV}:(S ++ [x])[S.length]? = some x:=by simp
theorem order2_sw {d:Array Int} {a b sw:Nat}:(Sort.order2 ltI d a b sw).2.2≤sw + 1:=by
  unfold Sort.order2
  split
  · exact Nat.le_refl _
  · exact Nat.le_succ _
theorem median_sw {d:Array Int} {a b c sw:Nat}:(Sort.median ltI d a b c sw).2≤sw + 3:=by
  unfold Sort.median
  dsimp only
  have q1:=order2_sw (d:=d) (a:=a) (b:=b) (sw:=sw)
  have q2:=order2_sw (d:=d) (a:=(Sort.order2 ltI d a b sw).2.1) (b:=c) (sw:=(Sort.order2 ltI d a b sw).2.2)
  have q3:=order2_sw (d:=d) (a:=(Sort.order2 ltI d a b sw).1) (b:=(Sort.order2 ltI d (Sort.order2 ltI d a b sw).2.1 c (Sort.order2 ltI d a b sw).2.2).1) (sw:=(Sort.order2 ltI d (Sort.order2 ltI d a b sw).2.1 c (Sort.order2 ltI d a b sw).2.2).2.2)
  omega
theorem median_lt {d:Array Int} {a b c sw N:Nat} (ha:a < N) (hb:b < N) (hc:c < N):(Sort.median ltI d a b c sw).1 < N:=by
  unfold Sort.median
  dsimp only
  obtain ⟨q1,q2,_⟩:=order2_lt (d:=d) (sw:=sw) ha hb
  obtain ⟨u1,u2,_⟩:=order2_lt (d:=d) (sw:=(Sort.order2 ltI d a b sw).2.2) q2 hc
  exact (order2_lt q1 u1).2.1
set_option maxHeartbeats 16000000 in
theorem choosePivot_spec {C:CallW} (P:Program) {c:Nat→FuncId} (h0:MadS C (c 0)) (h1:MedS C (c 1)):∀(n:Nat) (d:Array Int) (a b:Nat) S H (K:AV→St→Prop),S[n]? = some (flat iA d)→a < b→b≤d.size→d.size≤2305843009213693952→K (.tup [.s (.int .i64 (Sort.choosePivot ltI d a b).1),.s (.int .i64 (hI (Sort.choosePivot ltI d a b).2))]) ⟨S,H⟩→runL C P (C_slices_choosePivotOrdered_int64 c) [.row (.stk n) 0 d.size d.size,.s (.int .i64 a),.s (.int .i64 b)] ⟨S,H⟩ K:=by
  intro n d a b S H K hS hab hb hd hK
  have hn:=slt hS
  have hnm:n≠S.length:=by omega
  have hw0:IntKind.i64.wrap ((b:Int) - (a:Int))=((b - a:Nat):Int):=by rw [wrap_i64 (by omega) (by omega)]; omega
  have hq:IntKind.i64.wrap (((b - a:Nat):Int).tdiv 4)=(((b - a) / 4:Nat):Int):=by
    rw [show ((b - a:Nat):Int).tdiv 4=(((b - a) / 4:Nat):Int) from rfl,wrap_i64 (by omega) (by omega)]
  unfold Sort.choosePivot at hK
  dsimp only at hK
  have hlb:b - a + a=b:=by omega
  generalize hl:b - a=l at *
  have hq4:l / 4 * 4≤l:=Nat.div_mul_le_self l 4
  have hq8:8≤l→2≤l / 4:=fun h=>by omega
  generalize hqq:l / 4=q at *
  have hm1:IntKind.i64.wrap ((q:Int) * 1)=((q * 1:Nat):Int):=by rw [wrap_i64 (by omega) (by omega)]; omega
  have hm2:IntKind.i64.wrap ((q:Int) * 2)=((q * 2:Nat):Int):=by rw [wrap_i64 (by omega) (by omega)]; omega
  have hm3:IntKind.i64.wrap ((q:Int) * 3)=((q * 3:Nat):Int):=by rw [wrap_i64 (by omega) (by omega)]; omega
  have ha1:IntKind.i64.wrap ((a:Int) + ((q * 1:Nat):Int))=((a + q * 1:Nat):Int):=by rw [wrap_i64 (by omega) (by omega)]; omega
  have ha2:IntKind.i64.wrap ((a:Int) + ((q * 2:Nat):Int))=((a + q * 2:Nat):Int):=by rw [wrap_i64 (by omega) (by omega)]; omega
  have ha3:IntKind.i64.wrap ((a:Int) + ((q * 3:Nat):Int))=((a + q * 3:Nat):Int):=by rw [wrap_i64 (by omega) (by omega)]; omega
  have fin1:∀(p sw:Nat) (K2:AV→St→Prop),(K2 (.tup [.s (.int .i64 p),.s (.int .i64 (hI (if sw=0 then .increasing else if sw=12 then .decreasing else .unknown)))]) ⟨S,H⟩→True):=fun _ _ _ _=>trivial
  clear fin1
  have hal:∀x y:Nat,(S ++ [swB x]).set S.length (swB y)=S ++ [swB y]:=fun _ _=>sapp
  by_cases h8:8≤l
  case neg =>
    have h8':¬((8:Int)≤(l:Int)):=by omega
    rw [if_neg h8] at hK
    simp only [C_slices_choosePivotOrdered_int64,A_,simprocAttr,ne_eq,(U_slices_choosePivotOrdered_int64 _).1,hw0,hq,hm1,hm2,hm3,ha1,ha2,ha3,h8']
    exact hK
  have h8':((8:Int)≤(l:Int)):=by omega
  rw [if_pos h8] at hK
  have tailK:∀(p sw:Nat),(p,sw)=(p,sw)→True:=fun _ _ _=>trivial
  clear tailK
  by_cases h50:50≤l
  case neg =>
    have h50':¬((50:Int)≤(l:Int)):=by omega
    rw [if_neg h50] at hK
    simp only [C_slices_choosePivotOrdered_int64,A_,simprocAttr,ne_eq,(U_slices_choosePivotOrdered_int64 _).1,hw0,hq,hm1,hm2,hm3,ha1,ha2,ha3,h8',h50']
    refine h1 n S.length d _ _ _ 0 _ _ _ hnm (sappg hS) sappl (by omega) (by omega) (by omega) (by omega) ?_
    have hsw:=median_sw (d:=d) (a:=a + q * 1) (b:=a + q * 2) (c:=a + q * 3) (sw:=0)
    generalize Sort.median ltI d (a + q * 1) (a + q * 2) (a + q * 3) 0=r at hK hsw ⊢
    obtain ⟨p,sw⟩:=r
    dsimp only at hK hsw ⊢
    rw [sapp]
    have hl1:=sw_load (S:=S ++ [swB sw]) (H:=H) (m:=S.length) (k:=sw) sappl
    by_cases e0:sw=0
    · subst e0
      simp only [A_,simprocAttr,ne_eq,(U_slices_choosePivotOrdered_int64 _).1,hl1]
      exact hK
    rw [if_neg e0] at hK
    by_cases e12:sw=12
    · subst e12
      simp only [A_,simprocAttr,ne_eq,(U_slices_choosePivotOrdered_int64 _).1,hl1]
      exact hK
    rw [if_neg e12] at hK
    have e0':¬((sw:Int)=0):=by omega
    have e12':¬((sw:Int)=12):=by omega
    simp only [A_,simprocAttr,ne_eq,(U_slices_choosePivotOrdered_int64 _).1,hl1,e0',e12']
    exact hK
  have h50':((50:Int)≤(l:Int)):=by omega
  rw [if_pos h50] at hK
  simp only [C_slices_choosePivotOrdered_int64,A_,simprocAttr,ne_eq,(U_slices_choosePivotOrdered_int64 _).1,hw0,hq,hm1,hm2,hm3,ha1,ha2,ha3,h8',h50']
  refine h0 n S.length d _ 0 _ _ _ hnm (sappg hS) sappl (by omega) (by omega) hd (by omega) ?_
  rw [sapp]
  have g1:=median_sw (d:=d) (a:=a + q * 1 - 1) (b:=a + q * 1) (c:=a + q * 1 + 1) (sw:=0)
  have t1:=median_lt (d:=d) (sw:=0) (a:=a + q * 1 - 1) (b:=a + q * 1) (c:=a + q * 1 + 1) (N:=d.size) (by omega) (by omega) (by omega)
  unfold Sort.medianAdjacent at hK ⊢
  generalize Sort.median ltI d (a + q * 1 - 1) (a + q * 1) (a + q * 1 + 1) 0=r1 at hK g1 t1 ⊢
  obtain ⟨i1,s1⟩:=r1
  dsimp only at hK g1 t1 ⊢
  simp only [A_,simprocAttr,ne_eq,(U_slices_choosePivotOrdered_int64 _).1]
  refine h0 n S.length d _ s1 _ _ _ hnm (sappg hS) sappl (by omega) (by omega) hd (by omega) ?_
  rw [sapp]
  have g2:=median_sw (d:=d) (a:=a + q * 2 - 1) (b:=a + q * 2) (c:=a + q * 2 + 1) (sw:=s1)
  have t2:=median_lt (d:=d) (sw:=s1) (a:=a + q * 2 - 1) (b:=a + q * 2) (c:=a + q * 2 + 1) (N:=d.size) (by omega) (by omega) (by omega)
  unfold Sort.medianAdjacent
  generalize Sort.median ltI d (a + q * 2 - 1) (a + q * 2) (a + q * 2 + 1) s1=r2 at hK g2 t2 ⊢
  obtain ⟨i2,s2⟩:=r2
  dsimp only at hK g2 t2 ⊢
  simp only [A_,simprocAttr,ne_eq,(U_slices_choosePivotOrdered_int64 _).1]
  refine h0 n S.length d _ s2 _ _ _ hnm (sappg hS) sappl (by omega) (by omega) hd (by omega) ?_
  rw [sapp]
  have g3:=median_sw (d:=d) (a:=a + q * 3 - 1) (b:=a + q * 3) (c:=a + q * 3 + 1) (sw:=s2)
  have t3:=median_lt (d:=d) (sw:=s2) (a:=a + q * 3 - 1) (b:=a + q * 3) (c:=a + q * 3 + 1) (N:=d.size) (by omega) (by omega) (by omega)
  unfold Sort.medianAdjacent
  generalize Sort.median ltI d (a + q * 3 - 1) (a + q * 3) (a + q * 3 + 1) s2=r3 at hK g3 t3 ⊢
  obtain ⟨i3,s3⟩:=r3
  dsimp only at hK g3 t3 ⊢
  simp only [A_,simprocAttr,ne_eq,(U_slices_choosePivotOrdered_int64 _).1]
  refine h1 n S.length d i1 i2 i3 s3 _ _ _ hnm (sappg hS) sappl t1 t2 t3 (by omega) ?_
  have hsw:=median_sw (d:=d) (a:=i1) (b:=i2) (c:=i3) (sw:=s3)
  generalize Sort.median ltI d i1 i2 i3 s3=r at hK hsw ⊢
  obtain ⟨p,sw⟩:=r
  dsimp only at hK hsw ⊢
  rw [sapp]
  have hl1:=sw_load (S:=S ++ [swB sw]) (H:=H) (m:=S.length) (k:=sw) sappl
  by_cases e0:sw=0
  · subst e0
    simp only [A_,simprocAttr,ne_eq,(U_slices_choosePivotOrdered_int64 _).1,hl1]
    exact hK
  rw [if_neg e0] at hK
  by_cases e12:sw=12
  · subst e12
    simp only [A_,simprocAttr,ne_eq,(U_slices_choosePivotOrdered_int64 _).1,hl1]
    exact hK
  rw [if_neg e12] at hK
  have e0':¬((sw:Int)=0):=by omega
  have e12':¬((sw:Int)=12):=by omega
  simp only [A_,simprocAttr,ne_eq,(U_slices_choosePivotOrdered_int64 _).1,hl1,e0',e12']
  exact hK
end Go.AM
namespace Go.AM
open Go
set_option maxRecDepth 20000
def rB (r:UInt64):List AV:=[.s (.int .u64 r.toNat)]
def XorS (C:CallW) (f:FuncId):Prop:=∀(m:Nat) (r:UInt64) S H (K:AV→St→Prop),S[m]? = some (rB r)→K (.s (.int .u64 (Sort.xorNext r).toNat)) ⟨S.set m (rB (Sort.xorNext r)),H⟩→C (.fn f) [.ptr (.stk m) 0] ⟨S,H⟩ K
theorem rB_load {S:List (List AV)} {H:List HObj} {m:Nat} {r:UInt64} (h:S[m]? = some (rB r)):load1L false (.ptr (.stk m) 0) ⟨S,H⟩=some (.s (.int .u64 r.toNat),⟨S,H⟩):=by
  simp only [load1L,boxOf_stk,h,Option.bind_some,rB]; rfl
theorem rB_store {S:List (List AV)} {H:List HObj} {m:Nat} {r:UInt64} {j:UInt64} (h:S[m]? = some (rB r)):storeL 1 (.ptr (.stk m) 0) (.s (.int .u64 j.toNat)) ⟨S,H⟩=some ⟨S.set m (rB j),H⟩:=by
  simp only [storeL,AV.cells,AV.fit,writeCells,boxOf_stk,h,Option.bind_some,mayHold,AV.under.go,AV.under,rB]; rfl
theorem wu64 {n:Nat} (h:n < 18446744073709551616):IntKind.u64.wrap (n:Int)=(n:Int):=by rw [wrap_u64]; omega
theorem ofNat64 (x:UInt64):BitVec.ofInt IntKind.u64.bits (x.toNat:Int)=x.toBitVec:=by
  apply BitVec.eq_of_toNat_eq
  rw [BitVec.toNat_ofInt]
  have:=x.toNat_lt
  show ((x.toNat:Int) % ((2 ^ 64:Nat):Int)).toNat=x.toNat
  omega
theorem xor64 (x y:UInt64):IntKind.u64.wrap ((BitVec.ofInt IntKind.u64.bits (x.toNat:Int) ^^^ BitVec.ofInt IntKind.u64.bits (y.toNat:Int)).toNat:Int)=((x ^^^ y).toNat:Int):=by
  rw [ofNat64,ofNat64]
  exact wu64 (x ^^^ y).toNat_lt
theorem shl64 (x:UInt64) {k:Nat} (hk:k < 64):IntKind.u64.wrap ((x.toNat:Int) * 2 ^ k)=((x <<< (UInt64.ofNat k)).toNat:Int):=by
  rw [wrap_u64,UInt64.toNat_shiftLeft,Nat.shiftLeft_eq]
  have e:(UInt64.ofNat k).toNat % 64=k:=by rw [UInt64.toNat_ofNat']; omega
  rw [e]
  have:((x.toNat:Int) * 2 ^ k)=((x.toNat * 2 ^ k:Nat):Int):=by push_cast; rfl
  rw [this]
  omega
theorem shr64 (x:UInt64) {k:Nat} (hk:k < 64):(x.toNat / 2 ^ k:Nat)=(x >>> (UInt64.ofNat k)).toNat:=by
  rw [UInt64.toNat_shiftRight,Nat.shiftRight_eq_div_pow]
  have e:(UInt64.ofNat k).toNat % 64=k:=by rw [UInt64.toNat_ofNat']; omega
  rw [e]
theorem xorshift_spec {C:CallW} (P:Program):∀(m:Nat) (r:UInt64) S H (K:AV→St→Prop),S[m]? = some (rB r)→K (.s (.int .u64 (Sort.xorNext r).toNat)) ⟨S.set m (rB (Sort.xorNext r)),H⟩→runL C P C_slices_xorshift_Next [.ptr (.stk m) 0] ⟨S,H⟩ K:=by
  intro m r S H K hm hK
  have l1:=rB_load (H:=H) hm
  have m13:min 13 IntKind.u64.bits=13:=rfl
  have m7:min 7 IntKind.u64.bits=7:=rfl
  have m17:min 17 IntKind.u64.bits=17:=rfl
  have s1:∀x:UInt64,IntKind.u64.wrap ((x.toNat:Int) * 8192)=((x <<< 13).toNat:Int):=fun x=>by rw [show (8192:Int)=2 ^ 13 from rfl]; exact shl64 x (k:=13) (by omega)
  have s2:∀x:UInt64,IntKind.u64.wrap ((x.toNat:Int) * 131072)=((x <<< 17).toNat:Int):=fun x=>by rw [show (131072:Int)=2 ^ 17 from rfl]; exact shl64 x (k:=17) (by omega)
  have s3:∀x:UInt64,(x.toNat:Int).fdiv 128=((x >>> 7).toNat:Int):=fun x=>by
    have e:=shr64 x (k:=7) (by omega)
    rw [Int.fdiv_eq_ediv_of_nonneg _ (by omega),show x >>> 7=x >>> UInt64.ofNat 7 from rfl,←e]
    omega
  have w:∀y:UInt64,storeL 1 (.ptr (.stk m) 0) (.s (.int .u64 y.toNat)) ⟨S,H⟩=some ⟨S.set m (rB y),H⟩:=fun y=>rB_store hm
  have w2:∀x y:UInt64,storeL 1 (.ptr (.stk m) 0) (.s (.int .u64 y.toNat)) ⟨S.set m (rB x),H⟩=some ⟨S.set m (rB y),H⟩:=fun x y=>by rw [rB_store (sset hm),List.set_set]
  have l2:∀x:UInt64,load1L false (.ptr (.stk m) 0) ⟨S.set m (rB x),H⟩=some (.s (.int .u64 x.toNat),⟨S.set m (rB x),H⟩):=fun x=>rB_load (sset hm)
  simp only [C_slices_xorshift_Next,A_,simprocAttr,ne_eq,U_slices_xorshift_Next.1,l1,m13,m7,m17,s1,s2,s3,xor64,w,w2,l2]
  exact hK
end Go.AM
namespace Go.AM
open Go
set_option maxRecDepth 20000
theorem bitsLen_iff {x k:Nat} (h1:2 ^ k≤x) (h2:x < 2 ^ (k + 1)):Sort.bitsLen x=k + 1:=by
  have hx:x≠0:=by have:=Nat.two_pow_pos k; omega
  unfold Sort.bitsLen
  rw [if_neg hx,(Nat.log2_eq_iff hx).2 ⟨h1,h2⟩]
theorem bitsLen_shift {x s:Nat} (h:2 ^ s≤x):Sort.bitsLen x=Sort.bitsLen (x / 2 ^ s) + s:=by
  have hp:=Nat.two_pow_pos s
  have hy:x / 2 ^ s≠0:=by
    have:=(Nat.le_div_iff_mul_le hp (x:=1) (y:=x)).2 (by omega)
    omega
  obtain ⟨h1,h2⟩:=(Nat.log2_eq_iff hy).1 rfl
  rw [bitsLen_iff h1 h2]
  generalize (x / 2 ^ s).log2=k at h1 h2
  have g1:=(Nat.le_div_iff_mul_le hp).1 h1
  have g2:=(Nat.div_lt_iff_lt_mul hp).1 h2
  rw [←Nat.pow_add] at g1 g2
  rw [bitsLen_iff (k:=k + s) g1 (by rw [show k + s + 1=k + 1 + s by omega]; exact g2)]
  omega
def LenS (C:CallW) (f:FuncId):Prop:=∀(x:Nat),x < 18446744073709551616→FnS C f [.s (.int .u64 x)] (.s (.int .i64 (Sort.bitsLen x:Nat)))
def tab8:List UInt8:=[0,1,2,2,3,3,3,3,4,4,4,4,4,4,4,4] ++ List.replicate 16 5 ++ List.replicate 32 6 ++ List.replicate 64 7 ++ List.replicate 128 8
theorem tab8_ok:∀k:Nat,k < 256→((tab8.getD k 0).toNat=Sort.bitsLen k):=by decide
theorem tab8_eq:([0,1,2,2,3,3,3,3,4,4,4,4,4,4,4,4,5,5,5,5,5,5,5,5,5,5,5,5,5,5,5,5,6,6,6,6,6,6,6,6,6,6,6,6,6,6,6,6,6,6,6,6,6,6,6,6,6,6,6,6,6,6,6,6,7,7,7,7,7,7,7,7,7,7,7,7,7,7,7,7,7,7,7,7,7,7,7,7,7,7,7,7,7,7,7,7,7,7,7,7,7,7,7,7,7,7,7,7,7,7,7,7,7,7,7,7,7,7,7,7,7,7,7,7,7,7,7,7,8,8,8,8,8,8,8,8,8,8,8,8,8,8,8,8,8,8,8,8,8,8,8,8,8,8,8,8,8,8,8,8,8,8,8,8,8,8,8,8,8,8,8,8,8,8,8,8,8,8,8,8,8,8,8,8,8,8,8,8,8,8,8,8,8,8,8,8,8,8,8,8,8,8,8,8,8,8,8,8,8,8,8,8,8,8,8,8,8,8,8,8,8,8,8,8,8,8,8,8,8,8,8,8,8,8,8,8,8,8,8,8,8,8,8,8,8,8,8,8,8,8,8,8,8,8,8,8]:List UInt8)=tab8:=rfl
theorem tab8_len:tab8.length=256:=by decide
theorem fdn {x m:Nat} (h:0 < m):((x:Int)).fdiv (m:Int)=((x / m:Nat):Int):=by
  rw [Int.fdiv_eq_ediv_of_nonneg _ (by omega)]; omega
theorem w8 {x:Nat} (h:x < 256):IntKind.u8.wrap (x:Int)=(x:Int):=by
  unfold IntKind.wrap
  simp [IntKind.signed,IntKind.bits]
  omega
set_option maxHeartbeats 4000000 in
theorem Len64_spec {C:CallW} (P:Program):∀(x:Nat) S H (K:AV→St→Prop),x < 18446744073709551616→K (.s (.int .i64 (Sort.bitsLen x:Nat))) ⟨S,H⟩→runL C P C_math_bits_Len64 [.s (.int .u64 x)] ⟨S,H⟩ K:=by
  intro x S H K hx hK
  have m32:min 32 IntKind.u64.bits=32:=rfl
  have m16:min 16 IntKind.u64.bits=16:=rfl
  have m8:min 8 IntKind.u64.bits=8:=rfl
  have f32:∀y:Nat,((y:Int)).fdiv 4294967296=((y / 4294967296:Nat):Int):=fun y=>fdn (m:=4294967296) (by omega)
  have f16:∀y:Nat,((y:Int)).fdiv 65536=((y / 65536:Nat):Int):=fun y=>fdn (m:=65536) (by omega)
  have f8:∀y:Nat,((y:Int)).fdiv 256=((y / 256:Nat):Int):=fun y=>fdn (m:=256) (by omega)
  by_cases g32:4294967296≤x
  · have g32':((4294967296:Int)≤((x:Nat):Int)):=by omega
    by_cases g16:65536≤x / 4294967296
    · have g16':((65536:Int)≤((x / 4294967296:Nat):Int)):=by omega
      by_cases g8:256≤x / 4294967296 / 65536
      · have g8':((256:Int)≤((x / 4294967296 / 65536:Nat):Int)):=by omega
        have hy:x / 4294967296 / 65536 / 256 < 256:=by omega
        have hc:=w8 hy
        have ht:=tab8_ok _ hy
        have hw:IntKind.i64.wrap ((56:Int) + ((Sort.bitsLen (x / 4294967296 / 65536 / 256):Nat):Int))=((Sort.bitsLen (x / 4294967296 / 65536 / 256) + 56:Nat):Int):=by rw [←ht]; have:=(tab8.getD (x / 4294967296 / 65536 / 256) 0).toNat_lt; rw [wrap_i64 (by omega) (by omega)]; omega
        have wb:IntKind.i64.wrap ((Sort.bitsLen (x / 4294967296 / 65536 / 256):Nat):Int)=((Sort.bitsLen (x / 4294967296 / 65536 / 256):Nat):Int):=by rw [←ht]; have:=(tab8.getD (x / 4294967296 / 65536 / 256) 0).toNat_lt; rw [wrap_i64 (by omega) (by omega)]
        have p1:((0:Int)≤((x / 4294967296 / 65536 / 256:Nat):Int))=True:=eq_true (by omega)
        have p2:(((x / 4294967296 / 65536 / 256:Nat):Int) < 256)=True:=eq_true (by omega)
        simp only [C_math_bits_Len64,A_,simprocAttr,ne_eq,U_math_bits_Len64.1,m32,m16,m8,f32,f16,f8,hx,g32',g16',g8',convL,hc,p1,p2,tab8_eq,tab8_len,ht,hw,wb]
        have e32:=bitsLen_shift (x:=x) (s:=32) (by omega)
        simp only [Nat.reducePow] at e32
        have e16:=bitsLen_shift (x:=x / 4294967296) (s:=16) (by omega)
        simp only [Nat.reducePow] at e16
        have e8:=bitsLen_shift (x:=x / 4294967296 / 65536) (s:=8) (by omega)
        simp only [Nat.reducePow] at e8
        rw [show Sort.bitsLen x=Sort.bitsLen (x / 4294967296 / 65536 / 256) + 56 by omega] at hK
        exact hK
      · have g8':¬((256:Int)≤((x / 4294967296 / 65536:Nat):Int)):=by omega
        have hy:x / 4294967296 / 65536 < 256:=by omega
        have hc:=w8 hy
        have ht:=tab8_ok _ hy
        have hw:IntKind.i64.wrap ((48:Int) + ((Sort.bitsLen (x / 4294967296 / 65536):Nat):Int))=((Sort.bitsLen (x / 4294967296 / 65536) + 48:Nat):Int):=by rw [←ht]; have:=(tab8.getD (x / 4294967296 / 65536) 0).toNat_lt; rw [wrap_i64 (by omega) (by omega)]; omega
        have wb:IntKind.i64.wrap ((Sort.bitsLen (x / 4294967296 / 65536):Nat):Int)=((Sort.bitsLen (x / 4294967296 / 65536):Nat):Int):=by rw [←ht]; have:=(tab8.getD (x / 4294967296 / 65536) 0).toNat_lt; rw [wrap_i64 (by omega) (by omega)]
        have p1:((0:Int)≤((x / 4294967296 / 65536:Nat):Int))=True:=eq_true (by omega)
        have p2:(((x / 4294967296 / 65536:Nat):Int) < 256)=True:=eq_true (by omega)
        simp only [C_math_bits_Len64,A_,simprocAttr,ne_eq,U_math_bits_Len64.1,m32,m16,m8,f32,f16,f8,hx,g32',g16',g8',convL,hc,p1,p2,tab8_eq,tab8_len,ht,hw,wb]
        have e32:=bitsLen_shift (x:=x) (s:=32) (by omega)
        simp only [Nat.reducePow] at e32
        have e16:=bitsLen_shift (x:=x / 4294967296) (s:=16) (by omega)
        simp only [Nat.reducePow] at e16
        rw [show Sort.bitsLen x=Sort.bitsLen (x / 4294967296 / 65536) + 48 by omega] at hK
        exact hK
    · have g16':¬((65536:Int)≤((x / 4294967296:Nat):Int)):=by omega
      by_cases g8:256≤x / 4294967296
      · have g8':((256:Int)≤((x / 4294967296:Nat):Int)):=by omega
        have hy:x / 4294967296 / 256 < 256:=by omega
        have hc:=w8 hy
        have ht:=tab8_ok _ hy
        have hw:IntKind.i64.wrap ((40:Int) + ((Sort.bitsLen (x / 4294967296 / 256):Nat):Int))=((Sort.bitsLen (x / 4294967296 / 256) + 40:Nat):Int):=by rw [←ht]; have:=(tab8.getD (x / 4294967296 / 256) 0).toNat_lt; rw [wrap_i64 (by omega) (by omega)]; omega
        have wb:IntKind.i64.wrap ((Sort.bitsLen (x / 4294967296 / 256):Nat):Int)=((Sort.bitsLen (x / 4294967296 / 256):Nat):Int):=by rw [←ht]; have:=(tab8.getD (x / 4294967296 / 256) 0).toNat_lt; rw [wrap_i64 (by omega) (by omega)]
        have p1:((0:Int)≤((x / 4294967296 / 256:Nat):Int))=True:=eq_true (by omega)
        have p2:(((x / 4294967296 / 256:Nat):Int) < 256)=True:=eq_true (by omega)
        simp only [C_math_bits_Len64,A_,simprocAttr,ne_eq,U_math_bits_Len64.1,m32,m16,m8,f32,f16,f8,hx,g32',g16',g8',convL,hc,p1,p2,tab8_eq,tab8_len,ht,hw,wb]
        have e32:=bitsLen_shift (x:=x) (s:=32) (by omega)
        simp only [Nat.reducePow] at e32
        have e8:=bitsLen_shift (x:=x / 4294967296) (s:=8) (by omega)
        simp only [Nat.reducePow] at e8
        rw [show Sort.bitsLen x=Sort.bitsLen (x / 4294967296 / 256) + 40 by omega] at hK
        exact hK
      · have g8':¬((256:Int)≤((x / 4294967296:Nat):Int)):=by omega
        have hy:x / 4294967296 < 256:=by omega
        have hc:=w8 hy
        have ht:=tab8_ok _ hy
        have hw:IntKind.i64.wrap ((32:Int) + ((Sort.bitsLen (x / 4294967296):Nat):Int))=((Sort.bitsLen (x / 4294967296) + 32:Nat):Int):=by rw [←ht]; have:=(tab8.getD (x / 4294967296) 0).toNat_lt; rw [wrap_i64 (by omega) (by omega)]; omega
        have wb:IntKind.i64.wrap ((Sort.bitsLen (x / 4294967296):Nat):Int)=((Sort.bitsLen (x / 4294967296):Nat):Int):=by rw [←ht]; have:=(tab8.getD (x / 4294967296) 0).toNat_lt; rw [wrap_i64 (by omega) (by omega)]
        have p1:((0:Int)≤((x / 4294967296:Nat):Int))=True:=eq_true (by omega)
        have p2:(((x / 4294967296:Nat):Int) < 256)=True:=eq_true (by omega)
        simp only [C_math_bits_Len64,A_,simprocAttr,ne_eq,U_math_bits_Len64.1,m32,m16,m8,f32,f16,f8,hx,g32',g16',g8',convL,hc,p1,p2,tab8_eq,tab8_len,ht,hw,wb]
        have e32:=bitsLen_shift (x:=x) (s:=32) (by omega)
        simp only [Nat.reducePow] at e32
        rw [show Sort.bitsLen x=Sort.bitsLen (x / 4294967296) + 32 by omega] at hK
        exact hK
  · have g32':¬((4294967296:Int)≤((x:Nat):Int)):=by omega
    by_cases g16:65536≤x
    · have g16':((65536:Int)≤((x:Nat):Int)):=by omega
      by_cases g8:256≤x / 65536
      · have g8':((256:Int)≤((x / 65536:Nat):Int)):=by omega
        have hy:x / 65536 / 256 < 256:=by omega
        have hc:=w8 hy
        have ht:=tab8_ok _ hy
        have hw:IntKind.i64.wrap ((24:Int) + ((Sort.bitsLen (x / 65536 / 256):Nat):Int))=((Sort.bitsLen (x / 65536 / 256) + 24:Nat):Int):=by rw [←ht]; have:=(tab8.getD (x / 65536 / 256) 0).toNat_lt; rw [wrap_i64 (by omega) (by omega)]; omega
        have wb:IntKind.i64.wrap ((Sort.bitsLen (x / 65536 / 256):Nat):Int)=((Sort.bitsLen (x / 65536 / 256):Nat):Int):=by rw [←ht]; have:=(tab8.getD (x / 65536 / 256) 0).toNat_lt; rw [wrap_i64 (by omega) (by omega)]
        have p1:((0:Int)≤((x / 65536 / 256:Nat):Int))=True:=eq_true (by omega)
        have p2:(((x / 65536 / 256:Nat):Int) < 256)=True:=eq_true (by omega)
        simp only [C_math_bits_Len64,A_,simprocAttr,ne_eq,U_math_bits_Len64.1,m32,m16,m8,f32,f16,f8,hx,g32',g16',g8',convL,hc,p1,p2,tab8_eq,tab8_len,ht,hw,wb]
        have e16:=bitsLen_shift (x:=x) (s:=16) (by omega)
        simp only [Nat.reducePow] at e16
        have e8:=bitsLen_shift (x:=x / 65536) (s:=8) (by omega)
        simp only [Nat.reducePow] at e8
        rw [show Sort.bitsLen x=Sort.bitsLen (x / 65536 / 256) + 24 by omega] at hK
        exact hK
      · have g8':¬((256:Int)≤((x / 65536:Nat):Int)):=by omega
        have hy:x / 65536 < 256:=by omega
        have hc:=w8 hy
        have ht:=tab8_ok _ hy
        have hw:IntKind.i64.wrap ((16:Int) + ((Sort.bitsLen (x / 65536):Nat):Int))=((Sort.bitsLen (x / 65536) + 16:Nat):Int):=by rw [←ht]; have:=(tab8.getD (x / 65536) 0).toNat_lt; rw [wrap_i64 (by omega) (by omega)]; omega
        have wb:IntKind.i64.wrap ((Sort.bitsLen (x / 65536):Nat):Int)=((Sort.bitsLen (x / 65536):Nat):Int):=by rw [←ht]; have:=(tab8.getD (x / 65536) 0).toNat_lt; rw [wrap_i64 (by omega) (by omega)]
        have p1:((0:Int)≤((x / 65536:Nat):Int))=True:=eq_true (by omega)
        have p2:(((x / 65536:Nat):Int) < 256)=True:=eq_true (by omega)
        simp only [C_math_bits_Len64,A_,simprocAttr,ne_eq,U_math_bits_Len64.1,m32,m16,m8,f32,f16,f8,hx,g32',g16',g8',convL,hc,p1,p2,tab8_eq,tab8_len,ht,hw,wb]
        have e16:=bitsLen_shift (x:=x) (s:=16) (by omega)
        simp only [Nat.reducePow] at e16
        rw [show Sort.bitsLen x=Sort.bitsLen (x / 65536) + 16 by omega] at hK
        exact hK
    · have g16':¬((65536:Int)≤((x:Nat):Int)):=by omega
      by_cases g8:256≤x
      · have g8':((256:Int)≤((x:Nat):Int)):=by omega
        have hy:x / 256 < 256:=by omega
        have hc:=w8 hy
        have ht:=tab8_ok _ hy
        have hw:IntKind.i64.wrap ((8:Int) + ((Sort.bitsLen (x / 256):Nat):Int))=((Sort.bitsLen (x / 256) + 8:Nat):Int):=by rw [←ht]; have:=(tab8.getD (x / 256) 0).toNat_lt; rw [wrap_i64 (by omega) (by omega)]; omega
        have wb:IntKind.i64.wrap ((Sort.bitsLen (x / 256):Nat):Int)=((Sort.bitsLen (x / 256):Nat):Int):=by rw [←ht]; have:=(tab8.getD (x / 256) 0).toNat_lt; rw [wrap_i64 (by omega) (by omega)]
        have p1:((0:Int)≤((x / 256:Nat):Int))=True:=eq_true (by omega)
        have p2:(((x / 256:Nat):Int) < 256)=True:=eq_true (by omega)
        simp only [C_math_bits_Len64,A_,simprocAttr,ne_eq,U_math_bits_Len64.1,m32,m16,m8,f32,f16,f8,hx,g32',g16',g8',convL,hc,p1,p2,tab8_eq,tab8_len,ht,hw,wb]
        have e8:=bitsLen_shift (x:=x) (s:=8) (by omega)
        simp only [Nat.reducePow] at e8
        rw [show Sort.bitsLen x=Sort.bitsLen (x / 256) + 8 by omega] at hK
        exact hK
      · have g8':¬((256:Int)≤((x:Nat):Int)):=by omega
        have hy:x < 256:=by omega
        have hc:=w8 hy
        have ht:=tab8_ok _ hy
        have hw:IntKind.i64.wrap ((0:Int) + ((Sort.bitsLen (x):Nat):Int))=((Sort.bitsLen (x) + 0:Nat):Int):=by rw [←ht]; have:=(tab8.getD (x) 0).toNat_lt; rw [wrap_i64 (by omega) (by omega)]; omega
        have wb:IntKind.i64.wrap ((Sort.bitsLen (x):Nat):Int)=((Sort.bitsLen (x):Nat):Int):=by rw [←ht]; have:=(tab8.getD (x) 0).toNat_lt; rw [wrap_i64 (by omega) (by omega)]
        have p1:((0:Int)≤((x:Nat):Int))=True:=eq_true (by omega)
        have p2:(((x:Nat):Int) < 256)=True:=eq_true (by omega)
        simp only [C_math_bits_Len64,A_,simprocAttr,ne_eq,U_math_bits_Len64.1,m32,m16,m8,f32,f16,f8,hx,g32',g16',g8',convL,hc,p1,p2,tab8_eq,tab8_len,ht,hw,wb]
        rw [show Sort.bitsLen x=Sort.bitsLen (x) + 0 by omega] at hK
        exact hK
end Go.AM
namespace Go.AM
open Go
open AV renaming undef → uu
set_option maxRecDepth 20000
theorem Len_spec {C:CallW} (P:Program) {c:Nat→FuncId} (h1:LenS C (c 1)):∀(x:Nat) S H (K:AV→St→Prop),x < 18446744073709551616→K (.s (.int .i64 (Sort.bitsLen x:Nat))) ⟨S,H⟩→runL C P (C_math_bits_Len c) [.s (.int .u64 x)] ⟨S,H⟩ K:=by
  intro x S H K hx hK
  simp only [C_math_bits_Len,A_,simprocAttr,ne_eq,(U_math_bits_Len _).1]
  refine h1 x hx _ _ _ ?_
  simp only [A_,simprocAttr,ne_eq,(U_math_bits_Len _).1]
  exact hK
theorem bitsLen_le {x k:Nat} (h:x < 2 ^ k):Sort.bitsLen x≤k:=by
  unfold Sort.bitsLen
  split
  · exact Nat.zero_le _
  · rename_i hx
    exact (Nat.log2_lt hx).2 h
theorem bitsLen_pow {x:Nat} (h:1≤x):2 ^ Sort.bitsLen x≤2 * x:=by
  have hx:x≠0:=by omega
  unfold Sort.bitsLen
  rw [if_neg hx,Nat.pow_succ]
  have:=(Nat.log2_eq_iff hx).1 rfl
  omega
def NpS (C:CallW) (f:FuncId):Prop:=∀(n:Nat),n≤2305843009213693952→FnS C f [.s (.int .i64 n)] (.s (.int .u64 ((2 ^ Sort.bitsLen n:Nat):Int)))
theorem nextPow_spec {C:CallW} (P:Program) {c:Nat→FuncId} (h0:LenS C (c 0)):∀(n:Nat) S H (K:AV→St→Prop),n≤2305843009213693952→K (.s (.int .u64 ((2 ^ Sort.bitsLen n:Nat):Int))) ⟨S,H⟩→runL C P (C_slices_nextPowerOfTwo c) [.s (.int .i64 n)] ⟨S,H⟩ K:=by
  intro n S H K hn hK
  have hc:IntKind.u64.wrap (n:Int)=(n:Int):=wu64 (by omega)
  have hl:=bitsLen_le (x:=n) (k:=62) (by omega)
  simp only [C_slices_nextPowerOfTwo,A_,simprocAttr,ne_eq,(U_slices_nextPowerOfTwo _).1,convL,hc]
  refine h0 n (by omega) _ _ _ ?_
  have hpos:((0:Int)≤(Sort.bitsLen n:Int))=True:=eq_true (by omega)
  have hneg:((Sort.bitsLen n:Int) < 0)=False:=eq_false (by omega)
  simp only [A_,simprocAttr,ne_eq,(U_slices_nextPowerOfTwo _).1,hpos,hneg]
  rw [Nat.min_eq_left (show Sort.bitsLen n≤IntKind.u64.bits from Nat.le_trans hl (by decide)),Int.one_mul]
  have e:(2:Int) ^ Sort.bitsLen n=((2 ^ Sort.bitsLen n:Nat):Int):=by push_cast; rfl
  have hp:2 ^ Sort.bitsLen n≤2 ^ 62:=Nat.pow_le_pow_right (by omega) hl
  rw [e,wu64 (by omega)]
  exact hK
def remS (a length modulus:Nat):Nat→Nat→UInt64×Array Int→Array Int
  | 0,_,st=>st.2
  | l + 1,idx,st=>remS a length modulus l (idx + 1) (Sort.breakStep a length modulus st idx)
theorem and64 (x:UInt64) {m:Nat} (h:m < 18446744073709551616):IntKind.u64.wrap ((BitVec.ofInt IntKind.u64.bits (x.toNat:Int) &&& BitVec.ofInt IntKind.u64.bits (m:Int)).toNat:Int)=((x.toNat &&& m:Nat):Int):=by
  have e:(m:Int)=((UInt64.ofNat m).toNat:Int):=by rw [UInt64.toNat_ofNat']; omega
  rw [e,ofNat64,ofNat64]
  have h2:(x.toBitVec &&& (UInt64.ofNat m).toBitVec).toNat=x.toNat &&& m:=by
    rw [BitVec.toNat_and]
    show x.toNat &&& (UInt64.ofNat m).toNat=_
    rw [UInt64.toNat_ofNat',Nat.mod_eq_of_lt h]
  exact (congrArg (fun k:Nat=>IntKind.u64.wrap (k:Int)) h2).trans (wu64 (Nat.lt_of_le_of_lt Nat.and_le_right h))
set_option maxHeartbeats 16000000 in
theorem breakPatterns_spec {C:CallW} (hC:LeC C C) (P:Program) {c:Nat→FuncId} (h0:NpS C (c 0)) (h1:XorS C (c 1)):∀(n:Nat) (d:Array Int) (a b:Nat) S H (K:AV→St→Prop),S[n]? = some (flat iA d)→a < b→b≤d.size→d.size≤2305843009213693952→K (.tup []) ⟨S.set n (flat iA (Sort.breakPatterns d a b)),H⟩→runL C P (C_slices_breakPatternsOrdered_int64 c) [.row (.stk n) 0 d.size d.size,.s (.int .i64 a),.s (.int .i64 b)] ⟨S,H⟩ K:=by
  intro n d a b S H K hS hab hbd hdl hK
  have hn:=slt hS
  have hw0:IntKind.i64.wrap ((b:Int) - (a:Int))=((b - a:Nat):Int):=by rw [wrap_i64 (by omega) (by omega)]; omega
  have hq:IntKind.i64.wrap (((b - a:Nat):Int).tdiv 4)=(((b - a) / 4:Nat):Int):=by
    rw [show ((b - a:Nat):Int).tdiv 4=(((b - a) / 4:Nat):Int) from rfl,wrap_i64 (by omega) (by omega)]
  unfold Sort.breakPatterns at hK
  dsimp only at hK
  have hlb:b - a + a=b:=by omega
  generalize hl:b - a=l at *
  by_cases h8:8≤l
  case neg =>
    have h8':¬((8:Int)≤(l:Int)):=by omega
    rw [if_neg h8,sself hS] at hK
    simp only [C_slices_breakPatternsOrdered_int64,A_,simprocAttr,ne_eq,(U_slices_breakPatternsOrdered_int64 _).1,hw0,h8']
    exact hK
  have h8':((8:Int)≤(l:Int)):=by omega
  rw [if_pos h8] at hK
  have hcl:IntKind.u64.wrap (l:Int)=(l:Int):=wu64 (by omega)
  have hul:((UInt64.ofNat l).toNat:Int)=(l:Int):=by rw [UInt64.toNat_ofNat']; omega
  have hst:storeL 1 (.ptr (.stk S.length) 0) (.s (.int .u64 l)) ⟨S ++ [[.s (.int .u64 0)]],H⟩=some ⟨S ++ [rB (UInt64.ofNat l)],H⟩:=by
    rw [show (AV.s (.int .u64 (l:Int))) = .s (.int .u64 ((UInt64.ofNat l).toNat:Int)) by rw [hul]]
    have:=rB_store (S:=S ++ [[.s (.int .u64 0)]]) (H:=H) (m:=S.length) (r:=0) (j:=UInt64.ofNat l) (by simp [rB])
    rw [this,sapp]
  simp only [C_slices_breakPatternsOrdered_int64,A_,simprocAttr,ne_eq,(U_slices_breakPatternsOrdered_int64 _).1,hw0,h8',convL,hcl,hst]
  refine h0 l (by omega) _ _ _ ?_
  have hq2:2≤l / 4:=by omega
  have hq4:l / 4 * 4≤l:=Nat.div_mul_le_self l 4
  generalize l / 4=q at hq hq2 hq4 hK ⊢
  have b1:IntKind.i64.wrap ((q:Int) * 2)=((q * 2:Nat):Int):=by rw [wrap_i64 (by omega) (by omega)]; omega
  have b2:IntKind.i64.wrap ((a:Int) + ((q * 2:Nat):Int))=((a + q * 2:Nat):Int):=by rw [wrap_i64 (by omega) (by omega)]; omega
  obtain ⟨A2,hA2⟩:∃A2,a + q * 2=A2:=⟨_,rfl⟩
  obtain ⟨I0,hI0⟩:∃I0,A2 - 1=I0:=⟨_,rfl⟩
  obtain ⟨T,hT⟩:∃T,A2 + 1=T:=⟨_,rfl⟩
  rw [hA2] at b2 hK
  rw [hI0] at hK
  have b3:IntKind.i64.wrap ((A2:Int) - 1)=(I0:Int):=by rw [wrap_i64 (by omega) (by omega)]; omega
  have b4:IntKind.i64.wrap ((A2:Int) + 1)=(T:Int):=by rw [wrap_i64 (by omega) (by omega)]; omega
  have hp:=bitsLen_pow (x:=l) (by omega)
  have hp0:=Nat.two_pow_pos (Sort.bitsLen l)
  rw [show (1 <<< Sort.bitsLen l:Nat)=2 ^ Sort.bitsLen l by rw [Nat.shiftLeft_eq,Nat.one_mul]] at hK
  generalize hM:2 ^ Sort.bitsLen l=M at *
  have b5:IntKind.u64.wrap ((M:Int) - 1)=((M - 1:Nat):Int):=by rw [show ((M:Int) - 1)=((M - 1:Nat):Int) by omega]; exact wu64 (by omega)
  simp only [A_,simprocAttr,ne_eq,(U_slices_breakPatternsOrdered_int64 _).1,hq,b1,b2,b3]
  generalize hX:(Sort.breakStep a l M (Sort.breakStep a l M (Sort.breakStep a l M (UInt64.ofNat l,d) I0) (I0 + 1)) (I0 + 2)).2=X at hK
  have hX2:X=remS a l M 3 I0 (UInt64.ofNat l,d):=hX.symm
  clear hX
  refine loop_rule hC (α:=Nat×Nat×UInt64×Array Int) (fun x=>x.1) (fun x=>[.row (.stk n) 0 d.size d.size,.s (.int .i64 a),uu,uu,uu,uu,.s (.int .i64 l),.ptr (.stk S.length) 0,.s (.int .u64 M),.s (.int .i64 x.2.1),uu,uu,uu,uu,uu,uu,uu,uu,uu,uu,uu,uu,uu,uu,uu,uu,uu,uu,uu,uu,uu,uu,uu,uu,uu,uu,uu,uu,uu,uu,uu,uu,uu,uu,uu,uu,uu,uu,uu,uu,uu,uu,uu,uu,uu,uu,uu,uu,uu,uu,uu,uu,uu,uu,uu]) (fun x=>S.set n (flat iA x.2.2.2) ++ [rB x.2.2.1]) (fun _=>H) (fun x=>x.1 + x.2.1=I0 + 3∧x.1≤3∧x.2.2.2.size=d.size∧X=remS a l M x.1 x.2.1 x.2.2) (3,I0,UInt64.ofNat l,d) ⟨by dsimp only; omega,Nat.le_refl _,rfl,hX2⟩ (by simp [keep,zm]) (by rw [sself hS,List.take_of_length_le]; simp) rfl (fun x _=>by simp [AV.under,AV.under.go]; omega) ?_
  rintro ⟨k,ix,r,e⟩ ⟨hki,hk3,hes,hinv⟩ ih
  dsimp only at hki hk3 hes hinv ih ⊢
  have hSe:(S.set n (flat iA e) ++ [rB r])[n]? = some (flat iA e):=sappg (sset hS)
  cases k with
  | zero =>
    have h':¬((ix:Int)≤(T:Int)):=by omega
    rw [hinv] at hK
    simp only [A_,simprocAttr,ne_eq,(U_slices_breakPatternsOrdered_int64 _).1,hq,b1,b2,b4,h']
    rw [List.take_left' (by simp)]
    exact hK
  | succ k =>
    have h':((ix:Int)≤(T:Int)):=by omega
    have hwi:IntKind.i64.wrap ((ix:Int) + 1)=((ix + 1:Nat):Int):=by rw [wrap_i64 (by omega) (by omega)]; omega
    have hSr:(S.set n (flat iA e) ++ [rB r])[S.length]? = some (rB r):=by simp
    simp only [A_,simprocAttr,ne_eq,(U_slices_breakPatternsOrdered_int64 _).1,hq,b1,b2,b4,h']
    refine h1 S.length r _ _ _ hSr ?_
    have hset:∀y,(S.set n (flat iA e) ++ [rB r]).set S.length y=S.set n (flat iA e) ++ [y]:=fun y=>by simp
    rw [hset]
    obtain ⟨r2,hr2⟩:∃r2,Sort.xorNext r=r2:=⟨_,rfl⟩
    rw [hr2]
    have hand:=and64 r2 (m:=M - 1) (by omega)
    have hol:r2.toNat &&& (M - 1)≤M - 1:=Nat.and_le_right
    rw [remS] at hinv
    unfold Sort.breakStep at hinv
    rw [hr2] at hinv
    dsimp only at hinv
    generalize r2.toNat &&& (M - 1)=o at hand hol hinv
    have hco:IntKind.i64.wrap (o:Int)=(o:Int):=wrap_i64 (by omega) (by omega)
    simp only [A_,simprocAttr,ne_eq,(U_slices_breakPatternsOrdered_int64 _).1,b5,hand,convL,hco]
    by_cases hol2:l≤o
    · have ho':((l:Int)≤(o:Int)):=by omega
      rw [if_pos hol2] at hinv
      have hwo:IntKind.i64.wrap ((o:Int) - (l:Int))=((o - l:Nat):Int):=by rw [wrap_i64 (by omega) (by omega)]; omega
      have hao:IntKind.i64.wrap ((a:Int) + ((o - l:Nat):Int))=((a + (o - l):Nat):Int):=by rw [wrap_i64 (by omega) (by omega)]; omega
      have hSe2:∀y,(S.set n (flat iA e) ++ [y])[n]? = some (flat iA e):=fun y=>sappg (sset hS)
      have x1:∀kk:IntKind,indexAddrL (.sl 1) (.row (.stk n) 0 d.size d.size) (.s (.int kk (ix:Int)))=some (.ptr (.stk n) ix):=fun kk=>ixi (by omega)
      have x2:∀kk:IntKind,indexAddrL (.sl 1) (.row (.stk n) 0 d.size d.size) (.s (.int kk ((a + (o - l):Nat):Int)))=some (.ptr (.stk n) (a + (o - l))):=fun kk=>ixi (by omega)
      have r1:=ird (H:=H) (hSe2 (rB r2)) (i:=ix) (by omega)
      have r3:=ird (H:=H) (hSe2 (rB r2)) (i:=a + (o - l)) (by omega)
      have w1:=iwr (H:=H) (x:=e[a + (o - l)]!) (hSe2 (rB r2)) (i:=ix) (by omega)
      have hs1:∀z:Array Int,(S.set n (flat iA e) ++ [rB r2]).set n (flat iA z)=S.set n (flat iA z) ++ [rB r2]:=fun z=>by rw [List.set_append_left _ _ (by simp; exact hn),List.set_set]
      rw [hs1] at w1
      have hS2:(S.set n (flat iA (e.setIfInBounds ix e[a + (o - l)]!)) ++ [rB r2])[n]? = some (flat iA (e.setIfInBounds ix e[a + (o - l)]!)):=sappg (sset hS)
      have w2:=iwr (H:=H) (x:=e[ix]!) hS2 (i:=a + (o - l)) (by simp; omega)
      have hs2:∀z y:Array Int,(S.set n (flat iA y) ++ [rB r2]).set n (flat iA z)=S.set n (flat iA z) ++ [rB r2]:=fun z y=>by rw [List.set_append_left _ _ (by simp; exact hn),List.set_set]
      rw [hs2] at w2
      simp only [A_,simprocAttr,ne_eq,(U_slices_breakPatternsOrdered_int64 _).1,ho',hwo,hao,x1,x2,r1,r3,w1,w2,hwi]
      exact ih (k,ix + 1,r2,Sort.swp e ix (a + (o - l))) _ _ _ (by dsimp only; omega) ⟨by dsimp only; omega,by dsimp only; omega,by rw [swp_size]; exact hes,hinv⟩ (by simp [keep,zm]) (by rw [List.take_of_length_le]; rfl; simp) rfl
    · have ho':¬((l:Int)≤(o:Int)):=by omega
      rw [if_neg hol2] at hinv
      have hwo:True:=trivial
      have hao:IntKind.i64.wrap ((a:Int) + (o:Int))=((a + o:Nat):Int):=by rw [wrap_i64 (by omega) (by omega)]; omega
      have hSe2:∀y,(S.set n (flat iA e) ++ [y])[n]? = some (flat iA e):=fun y=>sappg (sset hS)
      have x1:∀kk:IntKind,indexAddrL (.sl 1) (.row (.stk n) 0 d.size d.size) (.s (.int kk (ix:Int)))=some (.ptr (.stk n) ix):=fun kk=>ixi (by omega)
      have x2:∀kk:IntKind,indexAddrL (.sl 1) (.row (.stk n) 0 d.size d.size) (.s (.int kk ((a + o:Nat):Int)))=some (.ptr (.stk n) (a + o)):=fun kk=>ixi (by omega)
      have r1:=ird (H:=H) (hSe2 (rB r2)) (i:=ix) (by omega)
      have r3:=ird (H:=H) (hSe2 (rB r2)) (i:=a + o) (by omega)
      have w1:=iwr (H:=H) (x:=e[a + o]!) (hSe2 (rB r2)) (i:=ix) (by omega)
      have hs1:∀z:Array Int,(S.set n (flat iA e) ++ [rB r2]).set n (flat iA z)=S.set n (flat iA z) ++ [rB r2]:=fun z=>by rw [List.set_append_left _ _ (by simp; exact hn),List.set_set]
      rw [hs1] at w1
      have hS2:(S.set n (flat iA (e.setIfInBounds ix e[a + o]!)) ++ [rB r2])[n]? = some (flat iA (e.setIfInBounds ix e[a + o]!)):=sappg (sset hS)
      have w2:=iwr (H:=H) (x:=e[ix]!) hS2 (i:=a + o) (by simp; omega)
      have hs2:∀z y:Array Int,(S.set n (flat iA y) ++ [rB r2]).set n (flat iA z)=S.set n (flat iA z) ++ [rB r2]:=fun z y=>by rw [List.set_append_left _ _ (by simp; exact hn),List.set_set]
      rw [hs2] at w2
      simp only [A_,simprocAttr,ne_eq,(U_slices_breakPatternsOrdered_int64 _).1,ho',hwo,hao,x1,x2,r1,r3,w1,w2,hwi]
      exact ih (k,ix + 1,r2,Sort.swp e ix (a + o)) _ _ _ (by dsimp only; omega) ⟨by dsimp only; omega,by dsimp only; omega,by rw [swp_size]; exact hes,hinv⟩ (by simp [keep,zm]) (by rw [List.take_of_length_le]; rfl; simp) rfl
end Go.AM
namespace Go.AM
open Go
open AV renaming undef → uu
set_option maxRecDepth 20000
theorem sw2 {S:List (List AV)} {H:List HObj} {n i j:Nat} {d:Array Int} (hS:S[n]? = some (flat iA d)) (hi:i < d.size) (hj:j < d.size):storeL 1 (.ptr (.stk n) i) (.s (.int .i64 d[j]!)) ⟨S,H⟩=some ⟨S.set n (flat iA (d.setIfInBounds i d[j]!)),H⟩∧storeL 1 (.ptr (.stk n) j) (.s (.int .i64 d[i]!)) ⟨S.set n (flat iA (d.setIfInBounds i d[j]!)),H⟩=some ⟨S.set n (flat iA (Sort.swp d i j)),H⟩:=by
  refine ⟨iwr hS hi,?_⟩
  have:=iwr (H:=H) (x:=d[i]!) (sset hS (y:=flat iA (d.setIfInBounds i d[j]!))) (i:=j) (by simpa using hj)
  rw [List.set_set] at this
  exact this
set_option maxHeartbeats 16000000 in
theorem y9q2_loop {C:CallW} (hC:LeC C C) (P:Program) {c:Nat→FuncId} (h0:LessS C (c 0)) {n a j N n0:Nat} {e:Array Int} {S:List (List AV)} {H:List HObj} {is:List Item} {K:KC} (hS:S[n]? = some (flat iA e)) (hn0:n0=S.length) (hN:e.size=N) (ha:a < N) (hj:j < N) (hl:N≤2305843009213693952):∀(i:Nat) (fr:Fr),i≤j + 2→keep (zm false [0,2,7,2,73]) fr=[.row (.stk n) 0 N N,.s (.int .i64 a),uu,uu,uu,uu,uu,uu,uu,.s (.int .i64 (i:Nat)),.s (.int .i64 (j:Nat)),uu,uu,uu,uu,uu,uu,uu,uu,uu,uu,uu,uu,uu,uu,uu,uu,uu,uu,uu,uu,uu,uu,uu,uu,uu,uu,uu,uu,uu,uu,uu,uu,uu,uu,uu,uu,uu,uu,uu,uu,uu,uu,uu,uu,uu,uu,uu,uu,uu,uu,uu,uu,uu,uu,uu,uu,uu,uu,uu,uu,uu,uu,uu,uu,uu,uu,uu,uu,uu,uu,uu,uu,uu]→(∀fr',keep (zm false [0,2,7,2,73]) fr'=[.row (.stk n) 0 N N,.s (.int .i64 a),uu,uu,uu,uu,uu,uu,uu,.s (.int .i64 (Sort.scanUp (fun x => !ltI e[a]! x) e j i:Nat)),.s (.int .i64 (j:Nat)),uu,uu,uu,uu,uu,uu,uu,uu,uu,uu,uu,uu,uu,uu,uu,uu,uu,uu,uu,uu,uu,uu,uu,uu,uu,uu,uu,uu,uu,uu,uu,uu,uu,uu,uu,uu,uu,uu,uu,uu,uu,uu,uu,uu,uu,uu,uu,uu,uu,uu,uu,uu,uu,uu,uu,uu,uu,uu,uu,uu,uu,uu,uu,uu,uu,uu,uu,uu,uu,uu,uu,uu,uu]→nxt C P false is fr' ⟨S,H⟩ K)→runLp C P false (zm false [0,2,7,2,73]) (y9q2 c) n0 (.blk 2 :: is) fr ⟨S,H⟩ K:=by
  intro i fr hi hk hX
  generalize hR:Sort.scanUp (fun x => !ltI e[a]! x) e j i=R at hX
  subst hn0
  have hn:=slt hS
  refine loop_rule hC (α:=Nat) (fun x=>j + 2 - x) (fun x=>[.row (.stk n) 0 N N,.s (.int .i64 a),uu,uu,uu,uu,uu,uu,uu,.s (.int .i64 (x:Nat)),.s (.int .i64 (j:Nat)),uu,uu,uu,uu,uu,uu,uu,uu,uu,uu,uu,uu,uu,uu,uu,uu,uu,uu,uu,uu,uu,uu,uu,uu,uu,uu,uu,uu,uu,uu,uu,uu,uu,uu,uu,uu,uu,uu,uu,uu,uu,uu,uu,uu,uu,uu,uu,uu,uu,uu,uu,uu,uu,uu,uu,uu,uu,uu,uu,uu,uu,uu,uu,uu,uu,uu,uu,uu,uu,uu,uu,uu,uu]) (fun _=>S) (fun _=>H) (fun x=>x≤j + 2∧R=Sort.scanUp (fun x => !ltI e[a]! x) e j x) i ⟨hi,hR.symm⟩ hk (by rw [List.take_of_length_le (Nat.le_refl _)]) rfl (fun x _=>by simp [AV.under,AV.under.go,hn]) ?_
  rintro x ⟨hx,hinv⟩ ih
  by_cases hxj:x≤j
  case neg =>
    have hlt:¬((x:Int)≤(j:Int)):=by omega
    rw [Sort.scanUp,if_neg (by rw [Bool.and_eq_true,decide_eq_true_eq]; exact fun h=>hxj h.1)] at hinv
    rw [hinv] at hX
    simp only [C_slices_partitionEqualOrdered_int64,A_,simprocAttr,ne_eq,(U_slices_partitionEqualOrdered_int64 _).1,hlt]
    exact hX _ (by simp [keep,zm])
  have hlt:((x:Int)≤(j:Int)):=by omega
  have hw1:IntKind.i64.wrap ((x:Int) + 1)=((x + 1:Nat):Int):=by rw [wrap_i64 (by omega) (by omega)]; omega
  have x1:∀kk:IntKind,indexAddrL (.sl 1) (.row (.stk n) 0 N N) (.s (.int kk (x:Int)))=some (.ptr (.stk n) x):=fun kk=>ixi (by omega)
  have x2:∀kk:IntKind,indexAddrL (.sl 1) (.row (.stk n) 0 N N) (.s (.int kk (a:Int)))=some (.ptr (.stk n) a):=fun kk=>ixi (by omega)
  have r1:=ird (H:=H) hS (i:=x) (by omega)
  have r2:=ird (H:=H) hS (i:=a) (by omega)
  simp only [C_slices_partitionEqualOrdered_int64,A_,simprocAttr,ne_eq,(U_slices_partitionEqualOrdered_int64 _).1,hlt,x1,x2,r1,r2]
  refine h0 _ _ _ _ _ ?_
  cases hlk:ltI e[a]! e[x]! with
  | true =>
    rw [Sort.scanUp,if_neg (by rw [Bool.and_eq_true,hlk]; simp)] at hinv
    rw [hinv] at hX
    simp only [C_slices_partitionEqualOrdered_int64,A_,simprocAttr,ne_eq,(U_slices_partitionEqualOrdered_int64 _).1]
    exact hX _ (by simp [keep,zm])
  | false =>
    rw [Sort.scanUp,if_pos (by rw [Bool.and_eq_true,hlk]; exact ⟨decide_eq_true hxj,rfl⟩)] at hinv
    simp only [C_slices_partitionEqualOrdered_int64,A_,simprocAttr,ne_eq,(U_slices_partitionEqualOrdered_int64 _).1,hw1]
    exact ih (x + 1) _ _ _ (by omega) ⟨by omega,hinv⟩ (by simp [keep,zm]) (by rw [List.take_of_length_le (Nat.le_refl _)]) rfl
set_option maxHeartbeats 16000000 in
theorem y9q4_loop {C:CallW} (hC:LeC C C) (P:Program) {c:Nat→FuncId} (h0:LessS C (c 0)) {n a i N n0:Nat} {e:Array Int} {S:List (List AV)} {H:List HObj} {is:List Item} {K:KC} (hS:S[n]? = some (flat iA e)) (hn0:n0=S.length) (hN:e.size=N) (ha:a < N) (hi:1≤i) (hl:N≤2305843009213693952):∀(j:Nat) (fr:Fr),j < N→keep (zm false [0,2,7,2,73]) fr=[.row (.stk n) 0 N N,.s (.int .i64 a),uu,uu,uu,uu,uu,uu,uu,.s (.int .i64 (i:Nat)),.s (.int .i64 (j:Nat)),uu,uu,uu,uu,uu,uu,uu,uu,uu,uu,uu,uu,uu,uu,uu,uu,uu,uu,uu,uu,uu,uu,uu,uu,uu,uu,uu,uu,uu,uu,uu,uu,uu,uu,uu,uu,uu,uu,uu,uu,uu,uu,uu,uu,uu,uu,uu,uu,uu,uu,uu,uu,uu,uu,uu,uu,uu,uu,uu,uu,uu,uu,uu,uu,uu,uu,uu,uu,uu,uu,uu,uu,uu]→(∀x46 x47 x48 x49 x50 x51 x52 x53 x54 x55 x56 x57 x58 x59:AV,nxt C P false is [.row (.stk n) 0 N N,.s (.int .i64 a),uu,uu,uu,uu,uu,uu,uu,.s (.int .i64 (i:Nat)),.s (.int .i64 (Sort.scanDown (fun x=>ltI e[a]! x) e i j:Nat)),uu,uu,uu,uu,uu,uu,uu,uu,uu,uu,uu,uu,uu,uu,uu,uu,uu,uu,uu,uu,uu,uu,uu,uu,uu,uu,uu,uu,uu,uu,uu,uu,uu,uu,uu,x46,x47,x48,x49,x50,x51,x52,x53,x54,x55,x56,x57,x58,x59,uu,uu,uu,uu,uu,uu,uu,uu,uu,uu,uu,uu,uu,uu,uu,uu,uu,uu,uu,uu,uu,uu,uu,uu] ⟨S,H⟩ K)→runLp C P false (zm false [0,2,7,2,73]) (y9q4 c) n0 (.blk 4 :: is) fr ⟨S,H⟩ K:=by
  intro j fr hj hk hX
  generalize hR:Sort.scanDown (fun x=>ltI e[a]! x) e i j=R at hX
  subst hn0
  have hn:=slt hS
  refine loop_rule hC (α:=Nat) (fun x=>x) (fun x=>[.row (.stk n) 0 N N,.s (.int .i64 a),uu,uu,uu,uu,uu,uu,uu,.s (.int .i64 (i:Nat)),.s (.int .i64 (x:Nat)),uu,uu,uu,uu,uu,uu,uu,uu,uu,uu,uu,uu,uu,uu,uu,uu,uu,uu,uu,uu,uu,uu,uu,uu,uu,uu,uu,uu,uu,uu,uu,uu,uu,uu,uu,uu,uu,uu,uu,uu,uu,uu,uu,uu,uu,uu,uu,uu,uu,uu,uu,uu,uu,uu,uu,uu,uu,uu,uu,uu,uu,uu,uu,uu,uu,uu,uu,uu,uu,uu,uu,uu,uu]) (fun _=>S) (fun _=>H) (fun x=>x < N∧R=Sort.scanDown (fun x=>ltI e[a]! x) e i x) j ⟨hj,hR.symm⟩ hk (by rw [List.take_of_length_le (Nat.le_refl _)]) rfl (fun x _=>by simp [AV.under,AV.under.go,hn]) ?_
  rintro x ⟨hx,hinv⟩ ih
  by_cases hxj:i≤x
  case neg =>
    have hlt:¬((i:Int)≤(x:Int)):=by omega
    have hq:Sort.scanDown (fun x=>ltI e[a]! x) e i x=x:=by
      cases x with
      | zero=>rfl
      | succ x=>rw [Sort.scanDown,if_neg (by rw [Bool.and_eq_true,decide_eq_true_eq]; exact fun h=>hxj h.1)]
    rw [hinv,hq] at hX
    simp only [C_slices_partitionEqualOrdered_int64,A_,simprocAttr,ne_eq,(U_slices_partitionEqualOrdered_int64 _).1,hlt]
    exact hX _ _ _ _ _ _ _ _ _ _ _ _ _ _
  obtain ⟨y,rfl⟩:∃y,x=y + 1:=⟨x - 1,by omega⟩
  have hlt:((i:Int)≤((y + 1:Nat):Int)):=by omega
  have hw1:IntKind.i64.wrap (((y + 1:Nat):Int) - 1)=((y:Nat):Int):=by rw [wrap_i64 (by omega) (by omega)]; omega
  have x1:∀kk:IntKind,indexAddrL (.sl 1) (.row (.stk n) 0 N N) (.s (.int kk ((y + 1:Nat):Int)))=some (.ptr (.stk n) (y + 1)):=fun kk=>ixi (by omega)
  have x2:∀kk:IntKind,indexAddrL (.sl 1) (.row (.stk n) 0 N N) (.s (.int kk (a:Int)))=some (.ptr (.stk n) a):=fun kk=>ixi (by omega)
  have r1:=ird (H:=H) hS (i:=y + 1) (by omega)
  have r2:=ird (H:=H) hS (i:=a) (by omega)
  simp only [C_slices_partitionEqualOrdered_int64,A_,simprocAttr,ne_eq,(U_slices_partitionEqualOrdered_int64 _).1,hlt,x1,x2,r1,r2]
  refine h0 _ _ _ _ _ ?_
  cases hlk:ltI e[a]! e[y + 1]! with
  | false =>
    rw [Sort.scanDown,if_neg (by rw [Bool.and_eq_true,hlk]; simp)] at hinv
    rw [hinv] at hX
    simp only [C_slices_partitionEqualOrdered_int64,A_,simprocAttr,ne_eq,(U_slices_partitionEqualOrdered_int64 _).1]
    exact hX _ _ _ _ _ _ _ _ _ _ _ _ _ _
  | true =>
    rw [Sort.scanDown,if_pos (by rw [Bool.and_eq_true,hlk]; exact ⟨decide_eq_true hxj,rfl⟩)] at hinv
    simp only [C_slices_partitionEqualOrdered_int64,A_,simprocAttr,ne_eq,(U_slices_partitionEqualOrdered_int64 _).1,hw1]
    exact ih y _ _ _ (by omega) ⟨by omega,hinv⟩ (by simp [keep,zm]) (by rw [List.take_of_length_le (Nat.le_refl _)]) rfl
theorem scanUp_bd (p:Int→Bool) (d:Array Int) (j:Nat):∀(m i:Nat),j + 1 - i≤m→i≤Sort.scanUp p d j i∧(Sort.scanUp p d j i≤j + 1∨Sort.scanUp p d j i=i):=by
  intro m
  induction m with
  | zero =>
    intro i h
    have:¬((decide (i≤j) && p d[i]!)=true):=by rw [Bool.and_eq_true,decide_eq_true_eq]; exact fun h=>by omega
    rw [Sort.scanUp,if_neg this]
    exact ⟨Nat.le_refl _,.inr rfl⟩
  | succ m ih =>
    intro i h
    rw [Sort.scanUp]
    split
    · rename_i h1
      rw [Bool.and_eq_true,decide_eq_true_eq] at h1
      obtain ⟨q1,q2⟩:=ih (i + 1) (by omega)
      refine ⟨by omega,.inl ?_⟩
      omega
    · exact ⟨Nat.le_refl _,.inr rfl⟩
theorem scanDown_le (p:Int→Bool) (d:Array Int) (i:Nat):∀j:Nat,Sort.scanDown p d i j≤j
  | 0=>Nat.le_refl _
  | j + 1=>by
    rw [Sort.scanDown]
    split
    · exact Nat.le_trans (scanDown_le p d i j) (Nat.le_succ _)
    · exact Nat.le_refl _
def PeqS (C:CallW) (f:FuncId):Prop:=∀(n:Nat) (d:Array Int) (a b p:Nat) S H (K:AV→St→Prop),S[n]? = some (flat iA d)→a≤p→p < b→b≤d.size→d.size≤2305843009213693952→K (.s (.int .i64 (Sort.partitionEqual ltI d a b p).1)) ⟨S.set n (flat iA (Sort.partitionEqual ltI d a b p).2),H⟩→C (.fn f) [.row (.stk n) 0 d.size d.size,.s (.int .i64 a),.s (.int .i64 b),.s (.int .i64 p)] ⟨S,H⟩ K
set_option maxHeartbeats 16000000 in
theorem partitionEqual_spec {C:CallW} (hC:LeC C C) (P:Program) {c:Nat→FuncId} (h0:LessS C (c 0)):∀(n:Nat) (d:Array Int) (a b p:Nat) S H (K:AV→St→Prop),S[n]? = some (flat iA d)→a≤p→p < b→b≤d.size→d.size≤2305843009213693952→K (.s (.int .i64 (Sort.partitionEqual ltI d a b p).1)) ⟨S.set n (flat iA (Sort.partitionEqual ltI d a b p).2),H⟩→runL C P (C_slices_partitionEqualOrdered_int64 c) [.row (.stk n) 0 d.size d.size,.s (.int .i64 a),.s (.int .i64 b),.s (.int .i64 p)] ⟨S,H⟩ K:=by
  intro n d a b p S H K hS hap hpb hbd hdl hK
  have hn:=slt hS
  unfold Sort.partitionEqual at hK
  have hw0:IntKind.i64.wrap ((a:Int) + 1)=((a + 1:Nat):Int):=by rw [wrap_i64 (by omega) (by omega)]; omega
  have hw1:IntKind.i64.wrap ((b:Int) - 1)=((b - 1:Nat):Int):=by rw [wrap_i64 (by omega) (by omega)]; omega
  have x1:∀kk:IntKind,indexAddrL (.sl 1) (.row (.stk n) 0 d.size d.size) (.s (.int kk (a:Int)))=some (.ptr (.stk n) a):=fun kk=>ixi (by omega)
  have x2:∀kk:IntKind,indexAddrL (.sl 1) (.row (.stk n) 0 d.size d.size) (.s (.int kk (p:Int)))=some (.ptr (.stk n) p):=fun kk=>ixi (by omega)
  have r1:=ird (H:=H) hS (i:=a) (by omega)
  have r2:=ird (H:=H) hS (i:=p) (by omega)
  obtain ⟨w1,w2⟩:=sw2 (H:=H) hS (i:=a) (j:=p) (by omega) (by omega)
  simp only [C_slices_partitionEqualOrdered_int64,A_,simprocAttr,ne_eq,(U_slices_partitionEqualOrdered_int64 _).1,hw0,hw1,x1,x2,r1,r2,w1,w2]
  have hds:(Sort.swp d a p).size=d.size:=swp_size
  generalize Sort.swp d a p=d1 at hK hds ⊢
  clear x1 x2 r1 r2 w1 w2
  generalize hX:Sort.partEqLoop ltI a (a + 1) (b - 1) d1=X at hK
  refine loop_rule hC (α:=Nat×Nat×Array Int) (fun x=>x.2.1 + 1 - x.1) (fun x=>[.row (.stk n) 0 d.size d.size,.s (.int .i64 a),uu,uu,uu,uu,uu,uu,uu,.s (.int .i64 (x.1:Nat)),.s (.int .i64 (x.2.1:Nat)),uu,uu,uu,uu,uu,uu,uu,uu,uu,uu,uu,uu,uu,uu,uu,uu,uu,uu,uu,uu,uu,uu,uu,uu,uu,uu,uu,uu,uu,uu,uu,uu,uu,uu,uu,uu,uu,uu,uu,uu,uu,uu,uu,uu,uu,uu,uu,uu,uu,uu,uu,uu,uu,uu,uu,uu,uu,uu,uu,uu,uu,uu,uu,uu,uu,uu,uu,uu,uu,uu,uu,uu,uu]) (fun x=>S.set n (flat iA x.2.2)) (fun _=>H) (fun x=>1≤x.1∧x.1≤x.2.1 + 2∧x.2.1 < d.size∧x.2.2.size=d.size∧X=Sort.partEqLoop ltI a x.1 x.2.1 x.2.2) (a + 1,b - 1,d1) ⟨by dsimp only; omega,by dsimp only; omega,by dsimp only; omega,hds,hX.symm⟩ (by simp [keep,zm]) (by rw [List.take_of_length_le]; simp) rfl (fun x _=>by simp [AV.under,AV.under.go,hn]) ?_
  rintro ⟨i,j,e⟩ ⟨h1,h2,hj,hes,hinv⟩ ih
  dsimp only at h1 h2 hj hes hinv ih ⊢
  simp only [C_slices_partitionEqualOrdered_int64,A_,simprocAttr,ne_eq,(U_slices_partitionEqualOrdered_int64 _).1]
  refine y9q2_loop (a:=a) hC P h0 (sset hS) (by simp) hes (by omega) hj hdl i _ h2 (by simp [keep,zm]) fun fr' hk' => ?_
  simp only [C_slices_partitionEqualOrdered_int64,A_,simprocAttr,ne_eq,(U_slices_partitionEqualOrdered_int64 _).1]
  obtain ⟨u1,u2⟩:=scanUp_bd (fun x => !ltI e[a]! x) e j _ i (Nat.le_refl _)
  obtain ⟨i2,hi2⟩:∃i2,Sort.scanUp (fun x => !ltI e[a]! x) e j i=i2:=⟨_,rfl⟩
  rw [hi2] at hk' u1 u2
  refine y9q4_loop (a:=a) hC P h0 (sset hS) (by simp) hes (by omega) (by omega) hdl j _ hj hk' ?_
  have v1:=scanDown_le (fun x=>ltI e[a]! x) e i2 j
  obtain ⟨j2,hj2⟩:∃j2,Sort.scanDown (fun x=>ltI e[a]! x) e i2 j=j2:=⟨_,rfl⟩
  rw [hj2] at v1 ⊢
  intro x46 x47 x48 x49 x50 x51 x52 x53 x54 x55 x56 x57 x58 x59
  rw [Sort.partEqLoop] at hinv
  simp only [hi2,hj2] at hinv
  by_cases hij:j2 < i2
  · have hlt:((j2:Int) < (i2:Int)):=by omega
    rw [if_pos hij] at hinv
    rw [hinv] at hK
    simp only [C_slices_partitionEqualOrdered_int64,A_,simprocAttr,ne_eq,(U_slices_partitionEqualOrdered_int64 _).1,hlt]
    exact hK
  have hlt:¬((j2:Int) < (i2:Int)):=by omega
  rw [if_neg hij,dif_pos (by omega)] at hinv
  have hwi:IntKind.i64.wrap ((i2:Int) + 1)=((i2 + 1:Nat):Int):=by rw [wrap_i64 (by omega) (by omega)]; omega
  have hwj:IntKind.i64.wrap ((j2:Int) - 1)=((j2 - 1:Nat):Int):=by rw [wrap_i64 (by omega) (by omega)]; omega
  have x1:∀kk:IntKind,indexAddrL (.sl 1) (.row (.stk n) 0 d.size d.size) (.s (.int kk (i2:Int)))=some (.ptr (.stk n) i2):=fun kk=>ixi (by omega)
  have x2:∀kk:IntKind,indexAddrL (.sl 1) (.row (.stk n) 0 d.size d.size) (.s (.int kk (j2:Int)))=some (.ptr (.stk n) j2):=fun kk=>ixi (by omega)
  have hSe:(S.set n (flat iA e))[n]? = some (flat iA e):=sset hS
  have r1:=ird (H:=H) hSe (i:=i2) (by omega)
  have r2:=ird (H:=H) hSe (i:=j2) (by omega)
  obtain ⟨w1,w2⟩:=sw2 (H:=H) hSe (i:=i2) (j:=j2) (by omega) (by omega)
  rw [List.set_set] at w1 w2
  rw [List.set_set] at w2
  simp only [C_slices_partitionEqualOrdered_int64,A_,simprocAttr,ne_eq,(U_slices_partitionEqualOrdered_int64 _).1,hlt,x1,x2,r1,r2,w1,w2,hwi,hwj]
  exact ih (i2 + 1,j2 - 1,Sort.swp e i2 j2) _ _ _ (by dsimp only; omega) ⟨by dsimp only; omega,by dsimp only; omega,by dsimp only; omega,by rw [swp_size]; exact hes,hinv⟩ (by simp [keep,zm]) (by rw [List.take_of_length_le]; simp) rfl
end Go.AM
namespace Go.AM
open Go
open AV renaming undef → uu
set_option maxRecDepth 20000
set_option maxHeartbeats 16000000 in
theorem y9r2_loop {C:CallW} (hC:LeC C C) (P:Program) {c:Nat→FuncId} (h0:LessS C (c 0)) {n a j N n0:Nat} {e:Array Int} {S:List (List AV)} {H:List HObj} {is:List Item} {K:KC} (hS:S[n]? = some (flat iA e)) (hn0:n0=S.length) (hN:e.size=N) (ha:a < N) (hj:j < N) (hl:N≤2305843009213693952):∀(i:Nat) (fr:Fr),i≤j + 2→keep (zm false [0,2,8,2,156]) fr=[.row (.stk n) 0 N N,.s (.int .i64 a),uu,uu,uu,uu,uu,uu,uu,uu,.s (.int .i64 (i:Nat)),.s (.int .i64 (j:Nat)),uu,uu,uu,uu,uu,uu,uu,uu,uu,uu,uu,uu,uu,uu,uu,uu,uu,uu,uu,uu,uu,uu,uu,uu,uu,uu,uu,uu,uu,uu,uu,uu,uu,uu,uu,uu,uu,uu,uu,uu,uu,uu,uu,uu,uu,uu,uu,uu,uu,uu,uu,uu,uu,uu,uu,uu,uu,uu,uu,uu,uu,uu,uu,uu,uu,uu,uu,uu,uu,uu,uu,uu,uu,uu,uu,uu,uu,uu,uu,uu,uu,uu,uu,uu,uu,uu,uu,uu,uu,uu,uu,uu,uu,uu,uu,uu,uu,uu,uu,uu,uu,uu,uu,uu,uu,uu,uu,uu,uu,uu,uu,uu,uu,uu,uu,uu,uu,uu,uu,uu,uu,uu,uu,uu,uu,uu,uu,uu,uu,uu,uu,uu,uu,uu,uu,uu,uu,uu,uu,uu,uu,uu,uu,uu,uu,uu,uu,uu,uu,uu,uu,uu,uu,uu,uu,uu]→(∀fr',keep (zm false [0,2,8,2,156]) fr'=[.row (.stk n) 0 N N,.s (.int .i64 a),uu,uu,uu,uu,uu,uu,uu,uu,.s (.int .i64 (Sort.scanUp (fun x=>ltI x e[a]!) e j i:Nat)),.s (.int .i64 (j:Nat)),uu,uu,uu,uu,uu,uu,uu,uu,uu,uu,uu,uu,uu,uu,uu,uu,uu,uu,uu,uu,uu,uu,uu,uu,uu,uu,uu,uu,uu,uu,uu,uu,uu,uu,uu,uu,uu,uu,uu,uu,uu,uu,uu,uu,uu,uu,uu,uu,uu,uu,uu,uu,uu,uu,uu,uu,uu,uu,uu,uu,uu,uu,uu,uu,uu,uu,uu,uu,uu,uu,uu,uu,uu,uu,uu,uu,uu,uu,uu,uu,uu,uu,uu,uu,uu,uu,uu,uu,uu,uu,uu,uu,uu,uu,uu,uu,uu,uu,uu,uu,uu,uu,uu,uu,uu,uu,uu,uu,uu,uu,uu,uu,uu,uu,uu,uu,uu,uu,uu,uu,uu,uu,uu,uu,uu,uu,uu,uu,uu,uu,uu,uu,uu,uu,uu,uu,uu,uu,uu,uu,uu,uu,uu,uu,uu,uu,uu,uu,uu,uu,uu,uu,uu,uu,uu,uu]→nxt C P false is fr' ⟨S,H⟩ K)→runLp C P false (zm false [0,2,8,2,156]) (y9r2 c) n0 (.blk 0 :: is) fr ⟨S,H⟩ K:=by
  intro i fr hi hk hX
  generalize hR:Sort.scanUp (fun x=>ltI x e[a]!) e j i=R at hX
  subst hn0
  have hn:=slt hS
  refine loop_rule hC (α:=Nat) (fun x=>j + 2 - x) (fun x=>[.row (.stk n) 0 N N,.s (.int .i64 a),uu,uu,uu,uu,uu,uu,uu,uu,.s (.int .i64 (x:Nat)),.s (.int .i64 (j:Nat)),uu,uu,uu,uu,uu,uu,uu,uu,uu,uu,uu,uu,uu,uu,uu,uu,uu,uu,uu,uu,uu,uu,uu,uu,uu,uu,uu,uu,uu,uu,uu,uu,uu,uu,uu,uu,uu,uu,uu,uu,uu,uu,uu,uu,uu,uu,uu,uu,uu,uu,uu,uu,uu,uu,uu,uu,uu,uu,uu,uu,uu,uu,uu,uu,uu,uu,uu,uu,uu,uu,uu,uu,uu,uu,uu,uu,uu,uu,uu,uu,uu,uu,uu,uu,uu,uu,uu,uu,uu,uu,uu,uu,uu,uu,uu,uu,uu,uu,uu,uu,uu,uu,uu,uu,uu,uu,uu,uu,uu,uu,uu,uu,uu,uu,uu,uu,uu,uu,uu,uu,uu,uu,uu,uu,uu,uu,uu,uu,uu,uu,uu,uu,uu,uu,uu,uu,uu,uu,uu,uu,uu,uu,uu,uu,uu,uu,uu,uu,uu,uu,uu,uu,uu,uu,uu,uu]) (fun _=>S) (fun _=>H) (fun x=>x≤j + 2∧R=Sort.scanUp (fun x=>ltI x e[a]!) e j x) i ⟨hi,hR.symm⟩ hk (by rw [List.take_of_length_le (Nat.le_refl _)]) rfl (fun x _=>by simp [AV.under,AV.under.go,hn]) ?_
  rintro x ⟨hx,hinv⟩ ih
  by_cases hxj:x≤j
  case neg =>
    have hlt:¬((x:Int)≤(j:Int)):=by omega
    rw [Sort.scanUp,if_neg (by rw [Bool.and_eq_true,decide_eq_true_eq]; exact fun h=>hxj h.1)] at hinv
    rw [hinv] at hX
    simp only [C_slices_partitionOrdered_int64,A_,simprocAttr,ne_eq,(U_slices_partitionOrdered_int64 _).1,hlt]
    exact hX _ (by simp [keep,zm])
  have hlt:((x:Int)≤(j:Int)):=by omega
  have hw1:IntKind.i64.wrap ((x:Int) + 1)=((x + 1:Nat):Int):=by rw [wrap_i64 (by omega) (by omega)]; omega
  have x1:∀kk:IntKind,indexAddrL (.sl 1) (.row (.stk n) 0 N N) (.s (.int kk (x:Int)))=some (.ptr (.stk n) x):=fun kk=>ixi (by omega)
  have x2:∀kk:IntKind,indexAddrL (.sl 1) (.row (.stk n) 0 N N) (.s (.int kk (a:Int)))=some (.ptr (.stk n) a):=fun kk=>ixi (by omega)
  have r1:=ird (H:=H) hS (i:=x) (by omega)
  have r2:=ird (H:=H) hS (i:=a) (by omega)
  simp only [C_slices_partitionOrdered_int64,A_,simprocAttr,ne_eq,(U_slices_partitionOrdered_int64 _).1,hlt,x1,x2,r1,r2]
  refine h0 _ _ _ _ _ ?_
  cases hlk:ltI e[x]! e[a]! with
  | false =>
    rw [Sort.scanUp,if_neg (by rw [Bool.and_eq_true,hlk]; simp)] at hinv
    rw [hinv] at hX
    simp only [C_slices_partitionOrdered_int64,A_,simprocAttr,ne_eq,(U_slices_partitionOrdered_int64 _).1]
    exact hX _ (by simp [keep,zm])
  | true =>
    rw [Sort.scanUp,if_pos (by rw [Bool.and_eq_true,hlk]; exact ⟨decide_eq_true hxj,rfl⟩)] at hinv
    simp only [C_slices_partitionOrdered_int64,A_,simprocAttr,ne_eq,(U_slices_partitionOrdered_int64 _).1,hw1]
    exact ih (x + 1) _ _ _ (by omega) ⟨by omega,hinv⟩ (by simp [keep,zm]) (by rw [List.take_of_length_le (Nat.le_refl _)]) rfl
set_option maxHeartbeats 16000000 in
theorem y9r4_loop {C:CallW} (hC:LeC C C) (P:Program) {c:Nat→FuncId} (h0:LessS C (c 0)) {n a i N n0:Nat} {e:Array Int} {S:List (List AV)} {H:List HObj} {is:List Item} {K:KC} (hS:S[n]? = some (flat iA e)) (hn0:n0=S.length) (hN:e.size=N) (ha:a < N) (hi:1≤i) (hl:N≤2305843009213693952):∀(j:Nat) (fr:Fr),j < N→keep (zm false [0,2,8,2,156]) fr=[.row (.stk n) 0 N N,.s (.int .i64 a),uu,uu,uu,uu,uu,uu,uu,uu,.s (.int .i64 (i:Nat)),.s (.int .i64 (j:Nat)),uu,uu,uu,uu,uu,uu,uu,uu,uu,uu,uu,uu,uu,uu,uu,uu,uu,uu,uu,uu,uu,uu,uu,uu,uu,uu,uu,uu,uu,uu,uu,uu,uu,uu,uu,uu,uu,uu,uu,uu,uu,uu,uu,uu,uu,uu,uu,uu,uu,uu,uu,uu,uu,uu,uu,uu,uu,uu,uu,uu,uu,uu,uu,uu,uu,uu,uu,uu,uu,uu,uu,uu,uu,uu,uu,uu,uu,uu,uu,uu,uu,uu,uu,uu,uu,uu,uu,uu,uu,uu,uu,uu,uu,uu,uu,uu,uu,uu,uu,uu,uu,uu,uu,uu,uu,uu,uu,uu,uu,uu,uu,uu,uu,uu,uu,uu,uu,uu,uu,uu,uu,uu,uu,uu,uu,uu,uu,uu,uu,uu,uu,uu,uu,uu,uu,uu,uu,uu,uu,uu,uu,uu,uu,uu,uu,uu,uu,uu,uu,uu,uu,uu,uu,uu,uu,uu]→(∀x46 x47 x48 x49 x50 x51 x52 x53 x54 x55 x56 x57 x58 x59 x60:AV,nxt C P false is [.row (.stk n) 0 N N,.s (.int .i64 a),uu,uu,uu,uu,uu,uu,uu,uu,.s (.int .i64 (i:Nat)),.s (.int .i64 (Sort.scanDown (fun x => !ltI x e[a]!) e i j:Nat)),uu,uu,uu,uu,uu,uu,uu,uu,uu,uu,uu,uu,uu,uu,uu,uu,uu,uu,uu,uu,uu,uu,uu,uu,uu,uu,uu,uu,uu,uu,uu,uu,uu,uu,x46,x47,x48,x49,x50,x51,x52,x53,x54,x55,x56,x57,x58,x59,x60,uu,uu,uu,uu,uu,uu,uu,uu,uu,uu,uu,uu,uu,uu,uu,uu,uu,uu,uu,uu,uu,uu,uu,uu,uu,uu,uu,uu,uu,uu,uu,uu,uu,uu,uu,uu,uu,uu,uu,uu,uu,uu,uu,uu,uu,uu,uu,uu,uu,uu,uu,uu,uu,uu,uu,uu,uu,uu,uu,uu,uu,uu,uu,uu,uu,uu,uu,uu,uu,uu,uu,uu,uu,uu,uu,uu,uu,uu,uu,uu,uu,uu,uu,uu,uu,uu,uu,uu,uu,uu,uu,uu,uu,uu,uu,uu,uu,uu,uu,uu,uu,uu,uu,uu,uu,uu,uu] ⟨S,H⟩ K)→runLp C P false (zm false [0,2,8,2,156]) (y9r4 c) n0 (.blk 2 :: is) fr ⟨S,H⟩ K:=by
  intro j fr hj hk hX
  generalize hR:Sort.scanDown (fun x => !ltI x e[a]!) e i j=R at hX
  subst hn0
  have hn:=slt hS
  refine loop_rule hC (α:=Nat) (fun x=>x) (fun x=>[.row (.stk n) 0 N N,.s (.int .i64 a),uu,uu,uu,uu,uu,uu,uu,uu,.s (.int .i64 (i:Nat)),.s (.int .i64 (x:Nat)),uu,uu,uu,uu,uu,uu,uu,uu,uu,uu,uu,uu,uu,uu,uu,uu,uu,uu,uu,uu,uu,uu,uu,uu,uu,uu,uu,uu,uu,uu,uu,uu,uu,uu,uu,uu,uu,uu,uu,uu,uu,uu,uu,uu,uu,uu,uu,uu,uu,uu,uu,uu,uu,uu,uu,uu,uu,uu,uu,uu,uu,uu,uu,uu,uu,uu,uu,uu,uu,uu,uu,uu,uu,uu,uu,uu,uu,uu,uu,uu,uu,uu,uu,uu,uu,uu,uu,uu,uu,uu,uu,uu,uu,uu,uu,uu,uu,uu,uu,uu,uu,uu,uu,uu,uu,uu,uu,uu,uu,uu,uu,uu,uu,uu,uu,uu,uu,uu,uu,uu,uu,uu,uu,uu,uu,uu,uu,uu,uu,uu,uu,uu,uu,uu,uu,uu,uu,uu,uu,uu,uu,uu,uu,uu,uu,uu,uu,uu,uu,uu,uu,uu,uu,uu,uu,uu]) (fun _=>S) (fun _=>H) (fun x=>x < N∧R=Sort.scanDown (fun x => !ltI x e[a]!) e i x) j ⟨hj,hR.symm⟩ hk (by rw [List.take_of_length_le (Nat.le_refl _)]) rfl (fun x _=>by simp [AV.under,AV.under.go,hn]) ?_
  rintro x ⟨hx,hinv⟩ ih
  by_cases hxj:i≤x
  case neg =>
    have hlt:¬((i:Int)≤(x:Int)):=by omega
    have hq:Sort.scanDown (fun x => !ltI x e[a]!) e i x=x:=by
      cases x with
      | zero=>rfl
      | succ x=>rw [Sort.scanDown,if_neg (by rw [Bool.and_eq_true,decide_eq_true_eq]; exact fun h=>hxj h.1)]
    rw [hinv,hq] at hX
    simp only [C_slices_partitionOrdered_int64,A_,simprocAttr,ne_eq,(U_slices_partitionOrdered_int64 _).1,hlt]
    exact hX _ _ _ _ _ _ _ _ _ _ _ _ _ _ _
  obtain ⟨y,rfl⟩:∃y,x=y + 1:=⟨x - 1,by omega⟩
  have hlt:((i:Int)≤((y + 1:Nat):Int)):=by omega
  have hw1:IntKind.i64.wrap (((y + 1:Nat):Int) - 1)=((y:Nat):Int):=by rw [wrap_i64 (by omega) (by omega)]; omega
  have x1:∀kk:IntKind,indexAddrL (.sl 1) (.row (.stk n) 0 N N) (.s (.int kk ((y + 1:Nat):Int)))=some (.ptr (.stk n) (y + 1)):=fun kk=>ixi (by omega)
  have x2:∀kk:IntKind,indexAddrL (.sl 1) (.row (.stk n) 0 N N) (.s (.int kk (a:Int)))=some (.ptr (.stk n) a):=fun kk=>ixi (by omega)
  have r1:=ird (H:=H) hS (i:=y + 1) (by omega)
  have r2:=ird (H:=H) hS (i:=a) (by omega)
  simp only [C_slices_partitionOrdered_int64,A_,simprocAttr,ne_eq,(U_slices_partitionOrdered_int64 _).1,hlt,x1,x2,r1,r2]
  refine h0 _ _ _ _ _ ?_
  cases hlk:ltI e[y + 1]! e[a]! with
  | true =>
    rw [Sort.scanDown,if_neg (by rw [Bool.and_eq_true,hlk]; simp)] at hinv
    rw [hinv] at hX
    simp only [C_slices_partitionOrdered_int64,A_,simprocAttr,ne_eq,(U_slices_partitionOrdered_int64 _).1]
    exact hX _ _ _ _ _ _ _ _ _ _ _ _ _ _ _
  | false =>
    rw [Sort.scanDown,if_pos (by rw [Bool.and_eq_true,hlk]; exact ⟨decide_eq_true hxj,rfl⟩)] at hinv
    simp only [C_slices_partitionOrdered_int64,A_,simprocAttr,ne_eq,(U_slices_partitionOrdered_int64 _).1,hw1]
    exact ih y _ _ _ (by omega) ⟨by omega,hinv⟩ (by simp [keep,zm]) (by rw [List.take_of_length_le (Nat.le_refl _)]) rfl
set_option maxHeartbeats 16000000 in
theorem y9r8_loop {C:CallW} (hC:LeC C C) (P:Program) {c:Nat→FuncId} (h0:LessS C (c 0)) {n a j N n0:Nat} {e:Array Int} {S:List (List AV)} {H:List HObj} {is:List Item} {K:KC} (hS:S[n]? = some (flat iA e)) (hn0:n0=S.length) (hN:e.size=N) (ha:a < N) (hj:j < N) (hl:N≤2305843009213693952):∀(i:Nat) (fr:Fr),i≤j + 2→keep (zm false [0,2,8,2,156]) fr=[.row (.stk n) 0 N N,.s (.int .i64 a),uu,uu,uu,uu,uu,uu,uu,uu,.s (.int .i64 (i:Nat)),.s (.int .i64 (j:Nat)),uu,uu,uu,uu,uu,uu,uu,uu,uu,uu,uu,uu,uu,uu,uu,uu,uu,uu,uu,uu,uu,uu,uu,uu,uu,uu,uu,uu,uu,uu,uu,uu,uu,uu,uu,uu,uu,uu,uu,uu,uu,uu,uu,uu,uu,uu,uu,uu,uu,uu,uu,uu,uu,uu,uu,uu,uu,uu,uu,uu,uu,uu,uu,uu,uu,uu,uu,uu,uu,uu,uu,uu,uu,uu,uu,uu,uu,uu,uu,uu,uu,uu,uu,uu,uu,uu,uu,uu,uu,uu,uu,uu,uu,uu,uu,uu,uu,uu,uu,uu,uu,uu,uu,uu,uu,uu,uu,uu,uu,uu,uu,uu,uu,uu,uu,uu,uu,uu,uu,uu,uu,uu,uu,uu,uu,uu,uu,uu,uu,uu,uu,uu,uu,uu,uu,uu,uu,uu,uu,uu,uu,uu,uu,uu,uu,uu,uu,uu,uu,uu,uu,uu,uu,uu,uu,uu]→(∀fr',keep (zm false [0,2,8,2,156]) fr'=[.row (.stk n) 0 N N,.s (.int .i64 a),uu,uu,uu,uu,uu,uu,uu,uu,.s (.int .i64 (Sort.scanUp (fun x=>ltI x e[a]!) e j i:Nat)),.s (.int .i64 (j:Nat)),uu,uu,uu,uu,uu,uu,uu,uu,uu,uu,uu,uu,uu,uu,uu,uu,uu,uu,uu,uu,uu,uu,uu,uu,uu,uu,uu,uu,uu,uu,uu,uu,uu,uu,uu,uu,uu,uu,uu,uu,uu,uu,uu,uu,uu,uu,uu,uu,uu,uu,uu,uu,uu,uu,uu,uu,uu,uu,uu,uu,uu,uu,uu,uu,uu,uu,uu,uu,uu,uu,uu,uu,uu,uu,uu,uu,uu,uu,uu,uu,uu,uu,uu,uu,uu,uu,uu,uu,uu,uu,uu,uu,uu,uu,uu,uu,uu,uu,uu,uu,uu,uu,uu,uu,uu,uu,uu,uu,uu,uu,uu,uu,uu,uu,uu,uu,uu,uu,uu,uu,uu,uu,uu,uu,uu,uu,uu,uu,uu,uu,uu,uu,uu,uu,uu,uu,uu,uu,uu,uu,uu,uu,uu,uu,uu,uu,uu,uu,uu,uu,uu,uu,uu,uu,uu,uu]→nxt C P false is fr' ⟨S,H⟩ K)→runLp C P false (zm false [0,2,8,2,156]) (y9r8 c) n0 (.blk 6 :: is) fr ⟨S,H⟩ K:=by
  intro i fr hi hk hX
  generalize hR:Sort.scanUp (fun x=>ltI x e[a]!) e j i=R at hX
  subst hn0
  have hn:=slt hS
  refine loop_rule hC (α:=Nat) (fun x=>j + 2 - x) (fun x=>[.row (.stk n) 0 N N,.s (.int .i64 a),uu,uu,uu,uu,uu,uu,uu,uu,.s (.int .i64 (x:Nat)),.s (.int .i64 (j:Nat)),uu,uu,uu,uu,uu,uu,uu,uu,uu,uu,uu,uu,uu,uu,uu,uu,uu,uu,uu,uu,uu,uu,uu,uu,uu,uu,uu,uu,uu,uu,uu,uu,uu,uu,uu,uu,uu,uu,uu,uu,uu,uu,uu,uu,uu,uu,uu,uu,uu,uu,uu,uu,uu,uu,uu,uu,uu,uu,uu,uu,uu,uu,uu,uu,uu,uu,uu,uu,uu,uu,uu,uu,uu,uu,uu,uu,uu,uu,uu,uu,uu,uu,uu,uu,uu,uu,uu,uu,uu,uu,uu,uu,uu,uu,uu,uu,uu,uu,uu,uu,uu,uu,uu,uu,uu,uu,uu,uu,uu,uu,uu,uu,uu,uu,uu,uu,uu,uu,uu,uu,uu,uu,uu,uu,uu,uu,uu,uu,uu,uu,uu,uu,uu,uu,uu,uu,uu,uu,uu,uu,uu,uu,uu,uu,uu,uu,uu,uu,uu,uu,uu,uu,uu,uu,uu,uu]) (fun _=>S) (fun _=>H) (fun x=>x≤j + 2∧R=Sort.scanUp (fun x=>ltI x e[a]!) e j x) i ⟨hi,hR.symm⟩ hk (by rw [List.take_of_length_le (Nat.le_refl _)]) rfl (fun x _=>by simp [AV.under,AV.under.go,hn]) ?_
  rintro x ⟨hx,hinv⟩ ih
  by_cases hxj:x≤j
  case neg =>
    have hlt:¬((x:Int)≤(j:Int)):=by omega
    rw [Sort.scanUp,if_neg (by rw [Bool.and_eq_true,decide_eq_true_eq]; exact fun h=>hxj h.1)] at hinv
    rw [hinv] at hX
    simp only [C_slices_partitionOrdered_int64,A_,simprocAttr,ne_eq,(U_slices_partitionOrdered_int64 _).1,hlt]
    exact hX _ (by simp [keep,zm])
  have hlt:((x:Int)≤(j:Int)):=by omega
  have hw1:IntKind.i64.wrap ((x:Int) + 1)=((x + 1:Nat):Int):=by rw [wrap_i64 (by omega) (by omega)]; omega
  have x1:∀kk:IntKind,indexAddrL (.sl 1) (.row (.stk n) 0 N N) (.s (.int kk (x:Int)))=some (.ptr (.stk n) x):=fun kk=>ixi (by omega)
  have x2:∀kk:IntKind,indexAddrL (.sl 1) (.row (.stk n) 0 N N) (.s (.int kk (a:Int)))=some (.ptr (.stk n) a):=fun kk=>ixi (by omega)
  have r1:=ird (H:=H) hS (i:=x) (by omega)
  have r2:=ird (H:=H) hS (i:=a) (by omega)
  simp only [C_slices_partitionOrdered_int64,A_,simprocAttr,ne_eq,(U_slices_partitionOrdered_int64 _).1,hlt,x1,x2,r1,r2]
  refine h0 _ _ _ _ _ ?_
  cases hlk:ltI e[x]! e[a]! with
  | false =>
    rw [Sort.scanUp,if_neg (by rw [Bool.and_eq_true,hlk]; simp)] at hinv
    rw [hinv] at hX
    simp only [C_slices_partitionOrdered_int64,A_,simprocAttr,ne_eq,(U_slices_partitionOrdered_int64 _).1]
    exact hX _ (by simp [keep,zm])
  | true =>
    rw [Sort.scanUp,if_pos (by rw [Bool.and_eq_true,hlk]; exact ⟨decide_eq_true hxj,rfl⟩)] at hinv
    simp only [C_slices_partitionOrdered_int64,A_,simprocAttr,ne_eq,(U_slices_partitionOrdered_int64 _).1,hw1]
    exact ih (x + 1) _ _ _ (by omega) ⟨by omega,hinv⟩ (by simp [keep,zm]) (by rw [List.take_of_length_le (Nat.le_refl _)]) rfl
set_option maxHeartbeats 16000000 in
theorem y9r10_loop {C:CallW} (hC:LeC C C) (P:Program) {c:Nat→FuncId} (h0:LessS C (c 0)) {n a i N n0:Nat} {e:Array Int} {S:List (List AV)} {H:List HObj} {is:List Item} {K:KC} (hS:S[n]? = some (flat iA e)) (hn0:n0=S.length) (hN:e.size=N) (ha:a < N) (hi:1≤i) (hl:N≤2305843009213693952):∀(j:Nat) (fr:Fr),j < N→keep (zm false [0,2,8,2,156]) fr=[.row (.stk n) 0 N N,.s (.int .i64 a),uu,uu,uu,uu,uu,uu,uu,uu,.s (.int .i64 (i:Nat)),.s (.int .i64 (j:Nat)),uu,uu,uu,uu,uu,uu,uu,uu,uu,uu,uu,uu,uu,uu,uu,uu,uu,uu,uu,uu,uu,uu,uu,uu,uu,uu,uu,uu,uu,uu,uu,uu,uu,uu,uu,uu,uu,uu,uu,uu,uu,uu,uu,uu,uu,uu,uu,uu,uu,uu,uu,uu,uu,uu,uu,uu,uu,uu,uu,uu,uu,uu,uu,uu,uu,uu,uu,uu,uu,uu,uu,uu,uu,uu,uu,uu,uu,uu,uu,uu,uu,uu,uu,uu,uu,uu,uu,uu,uu,uu,uu,uu,uu,uu,uu,uu,uu,uu,uu,uu,uu,uu,uu,uu,uu,uu,uu,uu,uu,uu,uu,uu,uu,uu,uu,uu,uu,uu,uu,uu,uu,uu,uu,uu,uu,uu,uu,uu,uu,uu,uu,uu,uu,uu,uu,uu,uu,uu,uu,uu,uu,uu,uu,uu,uu,uu,uu,uu,uu,uu,uu,uu,uu,uu,uu,uu]→(∀x115 x116 x117 x118 x119 x120 x121 x122 x123 x124 x125 x126 x127 x128 x129:AV,nxt C P false is [.row (.stk n) 0 N N,.s (.int .i64 a),uu,uu,uu,uu,uu,uu,uu,uu,.s (.int .i64 (i:Nat)),.s (.int .i64 (Sort.scanDown (fun x => !ltI x e[a]!) e i j:Nat)),uu,uu,uu,uu,uu,uu,uu,uu,uu,uu,uu,uu,uu,uu,uu,uu,uu,uu,uu,uu,uu,uu,uu,uu,uu,uu,uu,uu,uu,uu,uu,uu,uu,uu,uu,uu,uu,uu,uu,uu,uu,uu,uu,uu,uu,uu,uu,uu,uu,uu,uu,uu,uu,uu,uu,uu,uu,uu,uu,uu,uu,uu,uu,uu,uu,uu,uu,uu,uu,uu,uu,uu,uu,uu,uu,uu,uu,uu,uu,uu,uu,uu,uu,uu,uu,uu,uu,uu,uu,uu,uu,uu,uu,uu,uu,uu,uu,uu,uu,uu,uu,uu,uu,x115,x116,x117,x118,x119,x120,x121,x122,x123,x124,x125,x126,x127,x128,x129,uu,uu,uu,uu,uu,uu,uu,uu,uu,uu,uu,uu,uu,uu,uu,uu,uu,uu,uu,uu,uu,uu,uu,uu,uu,uu,uu,uu,uu,uu,uu,uu,uu,uu,uu,uu,uu,uu] ⟨S,H⟩ K)→runLp C P false (zm false [0,2,8,2,156]) (y9r10 c) n0 (.blk 8 :: is) fr ⟨S,H⟩ K:=by
  intro j fr hj hk hX
  generalize hR:Sort.scanDown (fun x => !ltI x e[a]!) e i j=R at hX
  subst hn0
  have hn:=slt hS
  refine loop_rule hC (α:=Nat) (fun x=>x) (fun x=>[.row (.stk n) 0 N N,.s (.int .i64 a),uu,uu,uu,uu,uu,uu,uu,uu,.s (.int .i64 (i:Nat)),.s (.int .i64 (x:Nat)),uu,uu,uu,uu,uu,uu,uu,uu,uu,uu,uu,uu,uu,uu,uu,uu,uu,uu,uu,uu,uu,uu,uu,uu,uu,uu,uu,uu,uu,uu,uu,uu,uu,uu,uu,uu,uu,uu,uu,uu,uu,uu,uu,uu,uu,uu,uu,uu,uu,uu,uu,uu,uu,uu,uu,uu,uu,uu,uu,uu,uu,uu,uu,uu,uu,uu,uu,uu,uu,uu,uu,uu,uu,uu,uu,uu,uu,uu,uu,uu,uu,uu,uu,uu,uu,uu,uu,uu,uu,uu,uu,uu,uu,uu,uu,uu,uu,uu,uu,uu,uu,uu,uu,uu,uu,uu,uu,uu,uu,uu,uu,uu,uu,uu,uu,uu,uu,uu,uu,uu,uu,uu,uu,uu,uu,uu,uu,uu,uu,uu,uu,uu,uu,uu,uu,uu,uu,uu,uu,uu,uu,uu,uu,uu,uu,uu,uu,uu,uu,uu,uu,uu,uu,uu,uu,uu]) (fun _=>S) (fun _=>H) (fun x=>x < N∧R=Sort.scanDown (fun x => !ltI x e[a]!) e i x) j ⟨hj,hR.symm⟩ hk (by rw [List.take_of_length_le (Nat.le_refl _)]) rfl (fun x _=>by simp [AV.under,AV.under.go,hn]) ?_
  rintro x ⟨hx,hinv⟩ ih
  by_cases hxj:i≤x
  case neg =>
    have hlt:¬((i:Int)≤(x:Int)):=by omega
    have hq:Sort.scanDown (fun x => !ltI x e[a]!) e i x=x:=by
      cases x with
      | zero=>rfl
      | succ x=>rw [Sort.scanDown,if_neg (by rw [Bool.and_eq_true,decide_eq_true_eq]; exact fun h=>hxj h.1)]
    rw [hinv,hq] at hX
    simp only [C_slices_partitionOrdered_int64,A_,simprocAttr,ne_eq,(U_slices_partitionOrdered_int64 _).1,hlt]
    exact hX _ _ _ _ _ _ _ _ _ _ _ _ _ _ _
  obtain ⟨y,rfl⟩:∃y,x=y + 1:=⟨x - 1,by omega⟩
  have hlt:((i:Int)≤((y + 1:Nat):Int)):=by omega
  have hw1:IntKind.i64.wrap (((y + 1:Nat):Int) - 1)=((y:Nat):Int):=by rw [wrap_i64 (by omega) (by omega)]; omega
  have x1:∀kk:IntKind,indexAddrL (.sl 1) (.row (.stk n) 0 N N) (.s (.int kk ((y + 1:Nat):Int)))=some (.ptr (.stk n) (y + 1)):=fun kk=>ixi (by omega)
  have x2:∀kk:IntKind,indexAddrL (.sl 1) (.row (.stk n) 0 N N) (.s (.int kk (a:Int)))=some (.ptr (.stk n) a):=fun kk=>ixi (by omega)
  have r1:=ird (H:=H) hS (i:=y + 1) (by omega)
  have r2:=ird (H:=H) hS (i:=a) (by omega)
  simp only [C_slices_partitionOrdered_int64,A_,simprocAttr,ne_eq,(U_slices_partitionOrdered_int64 _).1,hlt,x1,x2,r1,r2]
  refine h0 _ _ _ _ _ ?_
  cases hlk:ltI e[y + 1]! e[a]! with
  | true =>
    rw [Sort.scanDown,if_neg (by rw [Bool.and_eq_true,hlk]; simp)] at hinv
    rw [hinv] at hX
    simp only [C_slices_partitionOrdered_int64,A_,simprocAttr,ne_eq,(U_slices_partitionOrdered_int64 _).1]
    exact hX _ _ _ _ _ _ _ _ _ _ _ _ _ _ _
  | false =>
    rw [Sort.scanDown,if_pos (by rw [Bool.and_eq_true,hlk]; exact ⟨decide_eq_true hxj,rfl⟩)] at hinv
    simp only [C_slices_partitionOrdered_int64,A_,simprocAttr,ne_eq,(U_slices_partitionOrdered_int64 _).1,hw1]
    exact ih y _ _ _ (by omega) ⟨by omega,hinv⟩ (by simp [keep,zm]) (by rw [List.take_of_length_le (Nat.le_refl _)]) rfl
def PartS (C:CallW) (f:FuncId):Prop:=∀(n:Nat) (d:Array Int) (a b p:Nat) S H (K:AV→St→Prop),S[n]? = some (flat iA d)→a≤p→p < b→b≤d.size→d.size≤2305843009213693952→K (.tup [.s (.int .i64 (Sort.partition ltI d a b p).1),.s (.bool (Sort.partition ltI d a b p).2.1)]) ⟨S.set n (flat iA (Sort.partition ltI d a b p).2.2),H⟩→C (.fn f) [.row (.stk n) 0 d.size d.size,.s (.int .i64 a),.s (.int .i64 b),.s (.int .i64 p)] ⟨S,H⟩ K
set_option maxHeartbeats 16000000 in
theorem partition_spec {C:CallW} (hC:LeC C C) (P:Program) {c:Nat→FuncId} (h0:LessS C (c 0)):∀(n:Nat) (d:Array Int) (a b p:Nat) S H (K:AV→St→Prop),S[n]? = some (flat iA d)→a≤p→p < b→b≤d.size→d.size≤2305843009213693952→K (.tup [.s (.int .i64 (Sort.partition ltI d a b p).1),.s (.bool (Sort.partition ltI d a b p).2.1)]) ⟨S.set n (flat iA (Sort.partition ltI d a b p).2.2),H⟩→runL C P (C_slices_partitionOrdered_int64 c) [.row (.stk n) 0 d.size d.size,.s (.int .i64 a),.s (.int .i64 b),.s (.int .i64 p)] ⟨S,H⟩ K:=by
  intro n d a b p S H K hS hap hpb hbd hdl hK
  have hn:=slt hS
  unfold Sort.partition at hK
  dsimp only at hK
  have hw0:IntKind.i64.wrap ((a:Int) + 1)=((a + 1:Nat):Int):=by rw [wrap_i64 (by omega) (by omega)]; omega
  have hw1:IntKind.i64.wrap ((b:Int) - 1)=((b - 1:Nat):Int):=by rw [wrap_i64 (by omega) (by omega)]; omega
  have xa:∀kk:IntKind,indexAddrL (.sl 1) (.row (.stk n) 0 d.size d.size) (.s (.int kk (a:Int)))=some (.ptr (.stk n) a):=fun kk=>ixi (by omega)
  have xb:∀kk:IntKind,indexAddrL (.sl 1) (.row (.stk n) 0 d.size d.size) (.s (.int kk (p:Int)))=some (.ptr (.stk n) p):=fun kk=>ixi (by omega)
  have ra:=ird (H:=H) hS (i:=a) (by omega)
  have rb:=ird (H:=H) hS (i:=p) (by omega)
  obtain ⟨wa,wb⟩:=sw2 (H:=H) hS (i:=a) (j:=p) (by omega) (by omega)
  simp only [C_slices_partitionOrdered_int64,A_,simprocAttr,ne_eq,(U_slices_partitionOrdered_int64 _).1,hw0,hw1,xa,xb,ra,rb,wa,wb]
  have hds:(Sort.swp d a p).size=d.size:=swp_size
  generalize Sort.swp d a p=d1 at hK hds ⊢
  clear xa xb ra rb wa wb
  refine y9r2_loop (a:=a) hC P h0 (sset hS) (by simp) hds (by omega) (j:=b - 1) (by omega) hdl (a + 1) _ (by omega) (by simp [keep,zm]) fun fr' hk' => ?_
  simp only [C_slices_partitionOrdered_int64,A_,simprocAttr,ne_eq,(U_slices_partitionOrdered_int64 _).1]
  obtain ⟨u1,u2⟩:=scanUp_bd (fun x=>ltI x d1[a]!) d1 (b - 1) _ (a + 1) (Nat.le_refl _)
  obtain ⟨i1,hi1⟩:∃i2,Sort.scanUp (fun x=>ltI x d1[a]!) d1 (b - 1) (a + 1)=i2:=⟨_,rfl⟩
  rw [hi1] at hk' u1 u2
  simp only [hi1] at hK
  refine y9r4_loop (a:=a) hC P h0 (sset hS) (by simp) hds (by omega) (by omega) hdl (b - 1) _ (by omega) hk' ?_
  have v1:=scanDown_le (fun x => !ltI x d1[a]!) d1 i1 (b - 1)
  obtain ⟨j1,hj1⟩:∃j2,Sort.scanDown (fun x => !ltI x d1[a]!) d1 i1 (b - 1)=j2:=⟨_,rfl⟩
  rw [hj1] at v1 ⊢
  simp only [hj1] at hK
  intro x46 x47 x48 x49 x50 x51 x52 x53 x54 x55 x56 x57 x58 x59 x60
  have hSd:(S.set n (flat iA d1))[n]? = some (flat iA d1):=sset hS
  by_cases hij:j1 < i1
  · have hlt:((j1:Int) < (i1:Int)):=by omega
    rw [if_pos hij] at hK
    have xa:∀kk:IntKind,indexAddrL (.sl 1) (.row (.stk n) 0 d.size d.size) (.s (.int kk (j1:Int)))=some (.ptr (.stk n) j1):=fun kk=>ixi (by omega)
    have xb:∀kk:IntKind,indexAddrL (.sl 1) (.row (.stk n) 0 d.size d.size) (.s (.int kk (a:Int)))=some (.ptr (.stk n) a):=fun kk=>ixi (by omega)
    have ra:=ird (H:=H) hSd (i:=j1) (by omega)
    have rb:=ird (H:=H) hSd (i:=a) (by omega)
    obtain ⟨wa,wb⟩:=sw2 (H:=H) hSd (i:=j1) (j:=a) (by omega) (by omega)
    rw [List.set_set] at wa wb
    rw [List.set_set] at wb
    simp only [C_slices_partitionOrdered_int64,A_,simprocAttr,ne_eq,(U_slices_partitionOrdered_int64 _).1,hlt,xa,xb,ra,rb,wa,wb]
    exact hK
  have hlt:¬((j1:Int) < (i1:Int)):=by omega
  rw [if_neg hij] at hK
  have hwi:IntKind.i64.wrap ((i1:Int) + 1)=((i1 + 1:Nat):Int):=by rw [wrap_i64 (by omega) (by omega)]; omega
  have hwj:IntKind.i64.wrap ((j1:Int) - 1)=((j1 - 1:Nat):Int):=by rw [wrap_i64 (by omega) (by omega)]; omega
  have xa:∀kk:IntKind,indexAddrL (.sl 1) (.row (.stk n) 0 d.size d.size) (.s (.int kk (i1:Int)))=some (.ptr (.stk n) i1):=fun kk=>ixi (by omega)
  have xb:∀kk:IntKind,indexAddrL (.sl 1) (.row (.stk n) 0 d.size d.size) (.s (.int kk (j1:Int)))=some (.ptr (.stk n) j1):=fun kk=>ixi (by omega)
  have ra:=ird (H:=H) hSd (i:=i1) (by omega)
  have rb:=ird (H:=H) hSd (i:=j1) (by omega)
  obtain ⟨wa,wb⟩:=sw2 (H:=H) hSd (i:=i1) (j:=j1) (by omega) (by omega)
  rw [List.set_set] at wa wb
  rw [List.set_set] at wb
  simp only [C_slices_partitionOrdered_int64,A_,simprocAttr,ne_eq,(U_slices_partitionOrdered_int64 _).1,hlt,xa,xb,ra,rb,wa,wb,hwi,hwj]
  have hgs:(Sort.swp d1 i1 j1).size=d.size:=by rw [swp_size]; exact hds
  generalize Sort.swp d1 i1 j1=g0 at hK hgs ⊢
  clear xa xb ra rb wa wb
  generalize hX:Sort.partLoop ltI a (i1 + 1) (j1 - 1) g0=X at hK
  refine loop_rule hC (α:=Nat×Nat×Array Int) (fun x=>x.2.1 + 1 - x.1) (fun x=>[.row (.stk n) 0 d.size d.size,.s (.int .i64 a),uu,uu,uu,uu,uu,uu,uu,uu,.s (.int .i64 (x.1:Nat)),.s (.int .i64 (x.2.1:Nat)),uu,uu,uu,uu,uu,uu,uu,uu,uu,uu,uu,uu,uu,uu,uu,uu,uu,uu,uu,uu,uu,uu,uu,uu,uu,uu,uu,uu,uu,uu,uu,uu,uu,uu,uu,uu,uu,uu,uu,uu,uu,uu,uu,uu,uu,uu,uu,uu,uu,uu,uu,uu,uu,uu,uu,uu,uu,uu,uu,uu,uu,uu,uu,uu,uu,uu,uu,uu,uu,uu,uu,uu,uu,uu,uu,uu,uu,uu,uu,uu,uu,uu,uu,uu,uu,uu,uu,uu,uu,uu,uu,uu,uu,uu,uu,uu,uu,uu,uu,uu,uu,uu,uu,uu,uu,uu,uu,uu,uu,uu,uu,uu,uu,uu,uu,uu,uu,uu,uu,uu,uu,uu,uu,uu,uu,uu,uu,uu,uu,uu,uu,uu,uu,uu,uu,uu,uu,uu,uu,uu,uu,uu,uu,uu,uu,uu,uu,uu,uu,uu,uu,uu,uu,uu,uu,uu]) (fun x=>S.set n (flat iA x.2.2)) (fun _=>H) (fun x=>1≤x.1∧x.1≤x.2.1 + 2∧x.2.1 < d.size∧x.2.2.size=d.size∧X=Sort.partLoop ltI a x.1 x.2.1 x.2.2) (i1 + 1,j1 - 1,g0) ⟨by dsimp only; omega,by dsimp only; omega,by dsimp only; omega,hgs,hX.symm⟩ (by simp [keep,zm]) (by rw [List.take_of_length_le]; simp) rfl (fun x _=>by simp [AV.under,AV.under.go,hn]) ?_
  rintro ⟨i,j,e⟩ ⟨h1,h2,hj,hes,hinv⟩ ih
  dsimp only at h1 h2 hj hes hinv ih ⊢
  simp only [C_slices_partitionOrdered_int64,A_,simprocAttr,ne_eq,(U_slices_partitionOrdered_int64 _).1]
  refine y9r8_loop (a:=a) hC P h0 (sset hS) (by simp) hes (by omega) hj hdl i _ h2 (by simp [keep,zm]) fun fr' hk' => ?_
  simp only [C_slices_partitionOrdered_int64,A_,simprocAttr,ne_eq,(U_slices_partitionOrdered_int64 _).1]
  obtain ⟨u1,u2⟩:=scanUp_bd (fun x=>ltI x e[a]!) e j _ i (Nat.le_refl _)
  obtain ⟨i2,hi2⟩:∃i2,Sort.scanUp (fun x=>ltI x e[a]!) e j i=i2:=⟨_,rfl⟩
  rw [hi2] at hk' u1 u2
  refine y9r10_loop (a:=a) hC P h0 (sset hS) (by simp) hes (by omega) (by omega) hdl j _ hj hk' ?_
  have v1:=scanDown_le (fun x => !ltI x e[a]!) e i2 j
  obtain ⟨j2,hj2⟩:∃j2,Sort.scanDown (fun x => !ltI x e[a]!) e i2 j=j2:=⟨_,rfl⟩
  rw [hj2] at v1 ⊢
  intro x115 x116 x117 x118 x119 x120 x121 x122 x123 x124 x125 x126 x127 x128 x129
  rw [Sort.partLoop] at hinv
  simp only [hi2,hj2] at hinv
  have hSe:(S.set n (flat iA e))[n]? = some (flat iA e):=sset hS
  by_cases hij:j2 < i2
  · have hlt:((j2:Int) < (i2:Int)):=by omega
    rw [if_pos hij] at hinv
    rw [hinv] at hK
    have xa:∀kk:IntKind,indexAddrL (.sl 1) (.row (.stk n) 0 d.size d.size) (.s (.int kk (j2:Int)))=some (.ptr (.stk n) j2):=fun kk=>ixi (by omega)
    have xb:∀kk:IntKind,indexAddrL (.sl 1) (.row (.stk n) 0 d.size d.size) (.s (.int kk (a:Int)))=some (.ptr (.stk n) a):=fun kk=>ixi (by omega)
    have ra:=ird (H:=H) hSe (i:=j2) (by omega)
    have rb:=ird (H:=H) hSe (i:=a) (by omega)
    obtain ⟨wa,wb⟩:=sw2 (H:=H) hSe (i:=j2) (j:=a) (by omega) (by omega)
    rw [List.set_set] at wa wb
    rw [List.set_set] at wb
    simp only [C_slices_partitionOrdered_int64,A_,simprocAttr,ne_eq,(U_slices_partitionOrdered_int64 _).1,hlt,xa,xb,ra,rb,wa,wb]
    exact hK
  have hlt:¬((j2:Int) < (i2:Int)):=by omega
  rw [if_neg hij,dif_pos (by omega)] at hinv
  have hwi:IntKind.i64.wrap ((i2:Int) + 1)=((i2 + 1:Nat):Int):=by rw [wrap_i64 (by omega) (by omega)]; omega
  have hwj:IntKind.i64.wrap ((j2:Int) - 1)=((j2 - 1:Nat):Int):=by rw [wrap_i64 (by omega) (by omega)]; omega
  have xa:∀kk:IntKind,indexAddrL (.sl 1) (.row (.stk n) 0 d.size d.size) (.s (.int kk (i2:Int)))=some (.ptr (.stk n) i2):=fun kk=>ixi (by omega)
  have xb:∀kk:IntKind,indexAddrL (.sl 1) (.row (.stk n) 0 d.size d.size) (.s (.int kk (j2:Int)))=some (.ptr (.stk n) j2):=fun kk=>ixi (by omega)
  have ra:=ird (H:=H) hSe (i:=i2) (by omega)
  have rb:=ird (H:=H) hSe (i:=j2) (by omega)
  obtain ⟨wa,wb⟩:=sw2 (H:=H) hSe (i:=i2) (j:=j2) (by omega) (by omega)
  rw [List.set_set] at wa wb
  rw [List.set_set] at wb
  simp only [C_slices_partitionOrdered_int64,A_,simprocAttr,ne_eq,(U_slices_partitionOrdered_int64 _).1,hlt,xa,xb,ra,rb,wa,wb,hwi,hwj]
  exact ih (i2 + 1,j2 - 1,Sort.swp e i2 j2) _ _ _ (by dsimp only; omega) ⟨by dsimp only; omega,by dsimp only; omega,by dsimp only; omega,by rw [swp_size]; exact hes,hinv⟩ (by simp [keep,zm]) (by rw [List.take_of_length_le]; simp) rfl
end Go.AM
namespace Go.AM
open Go
open AV renaming undef → uu
set_option maxRecDepth 20000
theorem shiftDown_size:∀(j:Nat) (d:Array Int),(Sort.shiftDown ltI j d).size=d.size
  | 0,d=>rfl
  | j + 1,d=>by
    rw [Sort.shiftDown]
    split
    · rfl
    · rw [shiftDown_size j,swp_size]
theorem shiftUp_size (b:Nat):∀(m j:Nat) (d:Array Int),b - j≤m→(Sort.shiftUp ltI b j d).size=d.size:=by
  intro m
  induction m with
  | zero=>intro j d h; rw [Sort.shiftUp,if_neg (by omega)]
  | succ m ih =>
    intro j d h
    rw [Sort.shiftUp]
    split
    · split
      · rfl
      · rw [ih _ _ (by omega),swp_size]
    · rfl
theorem scanSorted_bd (d:Array Int) (b:Nat):∀(m i:Nat),b - i≤m→i≤b→i≤Sort.scanSorted ltI d b i∧Sort.scanSorted ltI d b i≤b:=by
  intro m
  induction m with
  | zero=>intro i h hi; rw [Sort.scanSorted,if_neg (by rw [Bool.and_eq_true,decide_eq_true_eq]; exact fun h=>by omega)]; exact ⟨Nat.le_refl _,hi⟩
  | succ m ih =>
    intro i h hi
    rw [Sort.scanSorted]
    split
    · rename_i h1
      rw [Bool.and_eq_true,decide_eq_true_eq] at h1
      have:=ih (i + 1) (by omega) (by omega)
      omega
    · exact ⟨Nat.le_refl _,hi⟩
set_option maxHeartbeats 16000000 in
theorem y9p2_loop {C:CallW} (hC:LeC C C) (P:Program) {c:Nat→FuncId} (h0:LessS C (c 0)) {n a b N st n0:Nat} {e:Array Int} {S:List (List AV)} {H:List HObj} {is:List Item} {K:KC} (hS:S[n]? = some (flat iA e)) (hn0:n0=S.length) (hN:e.size=N) (hb:b≤N) (hl:N≤2305843009213693952):∀(i:Nat) (fr:Fr),1≤i→i≤b→keep (zm false [0,3,4,2,124]) fr=[.row (.stk n) 0 N N,.s (.int .i64 (a:Nat)),.s (.int .i64 (b:Nat)),uu,uu,uu,uu,.s (.int .i64 (i:Nat)),.s (.int .i64 (st:Nat)),uu,uu,uu,uu,uu,uu,uu,uu,uu,uu,uu,uu,uu,uu,uu,uu,uu,uu,uu,uu,uu,uu,uu,uu,uu,uu,uu,uu,uu,uu,uu,uu,uu,uu,uu,uu,uu,uu,uu,uu,uu,uu,uu,uu,uu,uu,uu,uu,uu,uu,uu,uu,uu,uu,uu,uu,uu,uu,uu,uu,uu,uu,uu,uu,uu,uu,uu,uu,uu,uu,uu,uu,uu,uu,uu,uu,uu,uu,uu,uu,uu,uu,uu,uu,uu,uu,uu,uu,uu,uu,uu,uu,uu,uu,uu,uu,uu,uu,uu,uu,uu,uu,uu,uu,uu,uu,uu,uu,uu,uu,uu,uu,uu,uu,uu,uu,uu,uu,uu,uu,uu,uu,uu,uu]→(∀x17 x18 x19 x20 x21 x22 x23 x24 x25 x26 x27 x28 x29 x30 x31 x32:AV,nxt C P false is [.row (.stk n) 0 N N,.s (.int .i64 (a:Nat)),.s (.int .i64 (b:Nat)),uu,uu,uu,uu,.s (.int .i64 (Sort.scanSorted ltI e b i:Nat)),.s (.int .i64 (st:Nat)),uu,uu,uu,uu,uu,uu,uu,uu,x17,x18,x19,x20,x21,x22,x23,x24,x25,x26,x27,x28,x29,x30,x31,x32,uu,uu,uu,uu,uu,uu,uu,uu,uu,uu,uu,uu,uu,uu,uu,uu,uu,uu,uu,uu,uu,uu,uu,uu,uu,uu,uu,uu,uu,uu,uu,uu,uu,uu,uu,uu,uu,uu,uu,uu,uu,uu,uu,uu,uu,uu,uu,uu,uu,uu,uu,uu,uu,uu,uu,uu,uu,uu,uu,uu,uu,uu,uu,uu,uu,uu,uu,uu,uu,uu,uu,uu,uu,uu,uu,uu,uu,uu,uu,uu,uu,uu,uu,uu,uu,uu,uu,uu,uu,uu,uu,uu,uu,uu,uu,uu,uu,uu,uu,uu] ⟨S,H⟩ K)→runLp C P false (zm false [0,3,4,2,124]) (y9p2 c) n0 (.blk 2 :: is) fr ⟨S,H⟩ K:=by
  intro i fr hi1 hi hk hX
  generalize hR:Sort.scanSorted ltI e b i=R at hX
  subst hn0
  have hn:=slt hS
  refine loop_rule hC (α:=Nat) (fun x=>b - x) (fun x=>[.row (.stk n) 0 N N,.s (.int .i64 (a:Nat)),.s (.int .i64 (b:Nat)),uu,uu,uu,uu,.s (.int .i64 (x:Nat)),.s (.int .i64 (st:Nat)),uu,uu,uu,uu,uu,uu,uu,uu,uu,uu,uu,uu,uu,uu,uu,uu,uu,uu,uu,uu,uu,uu,uu,uu,uu,uu,uu,uu,uu,uu,uu,uu,uu,uu,uu,uu,uu,uu,uu,uu,uu,uu,uu,uu,uu,uu,uu,uu,uu,uu,uu,uu,uu,uu,uu,uu,uu,uu,uu,uu,uu,uu,uu,uu,uu,uu,uu,uu,uu,uu,uu,uu,uu,uu,uu,uu,uu,uu,uu,uu,uu,uu,uu,uu,uu,uu,uu,uu,uu,uu,uu,uu,uu,uu,uu,uu,uu,uu,uu,uu,uu,uu,uu,uu,uu,uu,uu,uu,uu,uu,uu,uu,uu,uu,uu,uu,uu,uu,uu,uu,uu,uu,uu,uu]) (fun _=>S) (fun _=>H) (fun x=>1≤x∧x≤b∧R=Sort.scanSorted ltI e b x) i ⟨hi1,hi,hR.symm⟩ hk (by rw [List.take_of_length_le (Nat.le_refl _)]) rfl (fun x _=>by simp [AV.under,AV.under.go,hn]) ?_
  rintro x ⟨hx1,hx,hinv⟩ ih
  by_cases hxb:x < b
  case neg =>
    have hlt:¬((x:Int) < (b:Int)):=by omega
    rw [Sort.scanSorted,if_neg (by rw [Bool.and_eq_true,decide_eq_true_eq]; exact fun h=>hxb h.1)] at hinv
    rw [hinv] at hX
    simp only [C_slices_partialInsertionSortOrdered_int64,A_,simprocAttr,ne_eq,(U_slices_partialInsertionSortOrdered_int64 _).1,hlt]
    exact hX _ _ _ _ _ _ _ _ _ _ _ _ _ _ _ _
  have hlt:((x:Int) < (b:Int)):=by omega
  obtain ⟨y,rfl⟩:∃y,x=y + 1:=⟨x - 1,by omega⟩
  have hw0:IntKind.i64.wrap (((y + 1:Nat):Int) - 1)=((y:Nat):Int):=by rw [wrap_i64 (by omega) (by omega)]; omega
  have hw1:IntKind.i64.wrap (((y + 1:Nat):Int) + 1)=((y + 1 + 1:Nat):Int):=by rw [wrap_i64 (by omega) (by omega)]; omega
  have x1:∀kk:IntKind,indexAddrL (.sl 1) (.row (.stk n) 0 N N) (.s (.int kk ((y + 1:Nat):Int)))=some (.ptr (.stk n) (y + 1)):=fun kk=>ixi (by omega)
  have x2:∀kk:IntKind,indexAddrL (.sl 1) (.row (.stk n) 0 N N) (.s (.int kk ((y:Nat):Int)))=some (.ptr (.stk n) y):=fun kk=>ixi (by omega)
  have r1:=ird (H:=H) hS (i:=y + 1) (by omega)
  have r2:=ird (H:=H) hS (i:=y) (by omega)
  simp only [C_slices_partialInsertionSortOrdered_int64,A_,simprocAttr,ne_eq,(U_slices_partialInsertionSortOrdered_int64 _).1,hlt,hw0,x1,x2,r1,r2]
  refine h0 _ _ _ _ _ ?_
  cases hlk:ltI e[y + 1]! e[y]! with
  | true =>
    rw [Sort.scanSorted,if_neg (by rw [Nat.add_sub_cancel,Bool.and_eq_true,hlk]; simp)] at hinv
    rw [hinv] at hX
    simp only [C_slices_partialInsertionSortOrdered_int64,A_,simprocAttr,ne_eq,(U_slices_partialInsertionSortOrdered_int64 _).1]
    exact hX _ _ _ _ _ _ _ _ _ _ _ _ _ _ _ _
  | false =>
    rw [Sort.scanSorted,if_pos (by rw [Nat.add_sub_cancel,Bool.and_eq_true,hlk]; exact ⟨decide_eq_true hxb,rfl⟩)] at hinv
    simp only [C_slices_partialInsertionSortOrdered_int64,A_,simprocAttr,ne_eq,(U_slices_partialInsertionSortOrdered_int64 _).1,hw1]
    exact ih (y + 1 + 1) _ _ _ (by omega) ⟨by omega,by omega,hinv⟩ (by simp [keep,zm]; omega) (by rw [List.take_of_length_le (Nat.le_refl _)]) rfl
set_option maxHeartbeats 16000000 in
theorem y9p6_loop {C:CallW} (hC:LeC C C) (P:Program) {c:Nat→FuncId} (h0:LessS C (c 0)) {n a b i N st n0:Nat} {S:List (List AV)} {H:List HObj} {is:List Item} {K:KC} (hn:n < S.length) (hn0:n0=S.length) (hl:N≤2305843009213693952):∀(j:Nat) (d:Array Int) (fr:Fr),j < N→d.size=N→keep (zm false [0,3,4,3,123]) fr=[.row (.stk n) 0 N N,.s (.int .i64 (a:Nat)),.s (.int .i64 (b:Nat)),uu,uu,uu,uu,.s (.int .i64 (i:Nat)),.s (.int .i64 (st:Nat)),.s (.int .i64 (j:Nat)),uu,uu,uu,uu,uu,uu,uu,uu,uu,uu,uu,uu,uu,uu,uu,uu,uu,uu,uu,uu,uu,uu,uu,uu,uu,uu,uu,uu,uu,uu,uu,uu,uu,uu,uu,uu,uu,uu,uu,uu,uu,uu,uu,uu,uu,uu,uu,uu,uu,uu,uu,uu,uu,uu,uu,uu,uu,uu,uu,uu,uu,uu,uu,uu,uu,uu,uu,uu,uu,uu,uu,uu,uu,uu,uu,uu,uu,uu,uu,uu,uu,uu,uu,uu,uu,uu,uu,uu,uu,uu,uu,uu,uu,uu,uu,uu,uu,uu,uu,uu,uu,uu,uu,uu,uu,uu,uu,uu,uu,uu,uu,uu,uu,uu,uu,uu,uu,uu,uu,uu,uu,uu,uu]→(∀x9 x64 x65 x66 x67 x68 x69 x70 x71 x72 x73 x74 x75 x76 x77 x78:AV,nxt C P false is [.row (.stk n) 0 N N,.s (.int .i64 (a:Nat)),.s (.int .i64 (b:Nat)),uu,uu,uu,uu,.s (.int .i64 (i:Nat)),.s (.int .i64 (st:Nat)),x9,uu,uu,uu,uu,uu,uu,uu,uu,uu,uu,uu,uu,uu,uu,uu,uu,uu,uu,uu,uu,uu,uu,uu,uu,uu,uu,uu,uu,uu,uu,uu,uu,uu,uu,uu,uu,uu,uu,uu,uu,uu,uu,uu,uu,uu,uu,uu,uu,uu,uu,uu,uu,uu,uu,x64,x65,x66,x67,x68,x69,x70,x71,x72,x73,x74,x75,x76,x77,x78,uu,uu,uu,uu,uu,uu,uu,uu,uu,uu,uu,uu,uu,uu,uu,uu,uu,uu,uu,uu,uu,uu,uu,uu,uu,uu,uu,uu,uu,uu,uu,uu,uu,uu,uu,uu,uu,uu,uu,uu,uu,uu,uu,uu,uu,uu,uu,uu,uu,uu,uu,uu,uu,uu] ⟨S.set n (flat iA (Sort.shiftDown ltI j d)),H⟩ K)→runLp C P false (zm false [0,3,4,3,123]) (y9p6 c) n0 (.blk 4 :: is) fr ⟨S.set n (flat iA d),H⟩ K:=by
  intro j d fr hj hd hk hX
  generalize hR:Sort.shiftDown ltI j d=R at hX
  subst hn0
  obtain ⟨z,hz⟩:∃z,S[n]? = some z:=⟨_,List.getElem?_eq_getElem hn⟩
  refine loop_rule hC (α:=Nat×Array Int) (fun x=>x.1) (fun x=>[.row (.stk n) 0 N N,.s (.int .i64 (a:Nat)),.s (.int .i64 (b:Nat)),uu,uu,uu,uu,.s (.int .i64 (i:Nat)),.s (.int .i64 (st:Nat)),.s (.int .i64 (x.1:Nat)),uu,uu,uu,uu,uu,uu,uu,uu,uu,uu,uu,uu,uu,uu,uu,uu,uu,uu,uu,uu,uu,uu,uu,uu,uu,uu,uu,uu,uu,uu,uu,uu,uu,uu,uu,uu,uu,uu,uu,uu,uu,uu,uu,uu,uu,uu,uu,uu,uu,uu,uu,uu,uu,uu,uu,uu,uu,uu,uu,uu,uu,uu,uu,uu,uu,uu,uu,uu,uu,uu,uu,uu,uu,uu,uu,uu,uu,uu,uu,uu,uu,uu,uu,uu,uu,uu,uu,uu,uu,uu,uu,uu,uu,uu,uu,uu,uu,uu,uu,uu,uu,uu,uu,uu,uu,uu,uu,uu,uu,uu,uu,uu,uu,uu,uu,uu,uu,uu,uu,uu,uu,uu,uu]) (fun x=>S.set n (flat iA x.2)) (fun _=>H) (fun x=>x.1 < N∧x.2.size=N∧R=Sort.shiftDown ltI x.1 x.2) (j,d) ⟨hj,hd,hR.symm⟩ hk (by rw [List.take_of_length_le]; simp) rfl (fun x _=>by simp [AV.under,AV.under.go,hn]) ?_
  rintro ⟨x,e⟩ ⟨hx,hes,hinv⟩ ih
  dsimp only at hx hes hinv ih ⊢
  have hSe:(S.set n (flat iA e))[n]? = some (flat iA e):=sset hz
  cases x with
  | zero =>
    have hlt:((1:Int)≤((0:Nat):Int))=False:=eq_false (by omega)
    have hlt2:((1:Int)≤0)=False:=eq_false (by omega)
    rw [Sort.shiftDown] at hinv
    rw [hinv] at hX
    simp only [C_slices_partialInsertionSortOrdered_int64,A_,simprocAttr,ne_eq,(U_slices_partialInsertionSortOrdered_int64 _).1,hlt,hlt2]
    exact hX _ _ _ _ _ _ _ _ _ _ _ _ _ _ _ _
  | succ y =>
    have hlt:((1:Int)≤((y + 1:Nat):Int))=True:=eq_true (by omega)
    have hw0:IntKind.i64.wrap (((y + 1:Nat):Int) - 1)=((y:Nat):Int):=by rw [wrap_i64 (by omega) (by omega)]; omega
    have xa:∀kk:IntKind,indexAddrL (.sl 1) (.row (.stk n) 0 N N) (.s (.int kk ((y + 1:Nat):Int)))=some (.ptr (.stk n) (y + 1)):=fun kk=>ixi (by omega)
    have xb:∀kk:IntKind,indexAddrL (.sl 1) (.row (.stk n) 0 N N) (.s (.int kk ((y:Nat):Int)))=some (.ptr (.stk n) (y)):=fun kk=>ixi (by omega)
    have ra:=ird (H:=H) hSe (i:=y + 1) (by omega)
    have rb:=ird (H:=H) hSe (i:=y) (by omega)
    obtain ⟨wa,wb⟩:=sw2 (H:=H) hSe (i:=y + 1) (j:=y) (by omega) (by omega)
    rw [List.set_set] at wa wb
    rw [List.set_set] at wb
    simp only [C_slices_partialInsertionSortOrdered_int64,A_,simprocAttr,ne_eq,(U_slices_partialInsertionSortOrdered_int64 _).1,hlt,hw0,xa,xb,ra,rb]
    refine h0 _ _ _ _ _ ?_
    rw [Sort.shiftDown] at hinv
    cases hlk:ltI e[y + 1]! e[y]! with
    | false =>
      rw [hlk,if_pos (by rfl)] at hinv
      rw [hinv] at hX
      simp only [C_slices_partialInsertionSortOrdered_int64,A_,simprocAttr,ne_eq,(U_slices_partialInsertionSortOrdered_int64 _).1]
      exact hX _ _ _ _ _ _ _ _ _ _ _ _ _ _ _ _
    | true =>
      rw [hlk,if_neg (by simp)] at hinv
      simp only [C_slices_partialInsertionSortOrdered_int64,A_,simprocAttr,ne_eq,(U_slices_partialInsertionSortOrdered_int64 _).1,hw0,xa,xb,ra,rb,wa,wb]
      exact ih (y,Sort.swp e (y + 1) y) _ _ _ (by dsimp only; omega) ⟨by dsimp only; omega,by rw [swp_size]; exact hes,hinv⟩ (by simp [keep,zm]) (by rw [List.take_of_length_le]; simp) rfl
set_option maxHeartbeats 16000000 in
theorem y9p12_loop {C:CallW} (hC:LeC C C) (P:Program) {c:Nat→FuncId} (h0:LessS C (c 0)) {n a b i N st n0:Nat} {S:List (List AV)} {H:List HObj} {is:List Item} {K:KC} (hn:n < S.length) (hn0:n0=S.length) (hb:b≤N) (hl:N≤2305843009213693952):∀(j:Nat) (d:Array Int) (fr:Fr),1≤j→j≤b→d.size=N→keep (zm false [0,3,4,2,1,1,122]) fr=[.row (.stk n) 0 N N,.s (.int .i64 (a:Nat)),.s (.int .i64 (b:Nat)),uu,uu,uu,uu,.s (.int .i64 (i:Nat)),.s (.int .i64 (st:Nat)),.undef,.s (.int .i64 (j:Nat)),uu,uu,uu,uu,uu,uu,uu,uu,uu,uu,uu,uu,uu,uu,uu,uu,uu,uu,uu,uu,uu,uu,uu,uu,uu,uu,uu,uu,uu,uu,uu,uu,uu,uu,uu,uu,uu,uu,uu,uu,uu,uu,uu,uu,uu,uu,uu,uu,uu,uu,uu,uu,uu,uu,uu,uu,uu,uu,uu,uu,uu,uu,uu,uu,uu,uu,uu,uu,uu,uu,uu,uu,uu,uu,uu,uu,uu,uu,uu,uu,uu,uu,uu,uu,uu,uu,uu,uu,uu,uu,uu,uu,uu,uu,uu,uu,uu,uu,uu,uu,uu,uu,uu,uu,uu,uu,uu,uu,uu,uu,uu,uu,uu,uu,uu,uu,uu,uu,uu,uu,uu,uu]→(∀x10 x101 x102 x103 x104 x105 x106 x107 x108 x109 x110 x111 x112 x113 x114 x115 x116:AV,nxt C P false is [.row (.stk n) 0 N N,.s (.int .i64 (a:Nat)),.s (.int .i64 (b:Nat)),uu,uu,uu,uu,.s (.int .i64 (i:Nat)),.s (.int .i64 (st:Nat)),.undef,x10,uu,uu,uu,uu,uu,uu,uu,uu,uu,uu,uu,uu,uu,uu,uu,uu,uu,uu,uu,uu,uu,uu,uu,uu,uu,uu,uu,uu,uu,uu,uu,uu,uu,uu,uu,uu,uu,uu,uu,uu,uu,uu,uu,uu,uu,uu,uu,uu,uu,uu,uu,uu,uu,uu,uu,uu,uu,uu,uu,uu,uu,uu,uu,uu,uu,uu,uu,uu,uu,uu,uu,uu,uu,uu,uu,uu,uu,uu,uu,uu,uu,uu,uu,uu,uu,uu,uu,uu,uu,uu,x101,x102,x103,x104,x105,x106,x107,x108,x109,x110,x111,x112,x113,x114,x115,x116,uu,uu,uu,uu,uu,uu,uu,uu,uu,uu,uu,uu,uu,uu,uu,uu] ⟨S.set n (flat iA (Sort.shiftUp ltI b j d)),H⟩ K)→runLp C P false (zm false [0,3,4,2,1,1,122]) (y9p12 c) n0 (.blk 6 :: is) fr ⟨S.set n (flat iA d),H⟩ K:=by
  intro j d fr hj1 hj hd hk hX
  generalize hR:Sort.shiftUp ltI b j d=R at hX
  subst hn0
  obtain ⟨z,hz⟩:∃z,S[n]? = some z:=⟨_,List.getElem?_eq_getElem hn⟩
  refine loop_rule hC (α:=Nat×Array Int) (fun x=>b - x.1) (fun x=>[.row (.stk n) 0 N N,.s (.int .i64 (a:Nat)),.s (.int .i64 (b:Nat)),uu,uu,uu,uu,.s (.int .i64 (i:Nat)),.s (.int .i64 (st:Nat)),.undef,.s (.int .i64 (x.1:Nat)),uu,uu,uu,uu,uu,uu,uu,uu,uu,uu,uu,uu,uu,uu,uu,uu,uu,uu,uu,uu,uu,uu,uu,uu,uu,uu,uu,uu,uu,uu,uu,uu,uu,uu,uu,uu,uu,uu,uu,uu,uu,uu,uu,uu,uu,uu,uu,uu,uu,uu,uu,uu,uu,uu,uu,uu,uu,uu,uu,uu,uu,uu,uu,uu,uu,uu,uu,uu,uu,uu,uu,uu,uu,uu,uu,uu,uu,uu,uu,uu,uu,uu,uu,uu,uu,uu,uu,uu,uu,uu,uu,uu,uu,uu,uu,uu,uu,uu,uu,uu,uu,uu,uu,uu,uu,uu,uu,uu,uu,uu,uu,uu,uu,uu,uu,uu,uu,uu,uu,uu,uu,uu]) (fun x=>S.set n (flat iA x.2)) (fun _=>H) (fun x=>1≤x.1∧x.1≤b∧x.2.size=N∧R=Sort.shiftUp ltI b x.1 x.2) (j,d) ⟨hj1,hj,hd,hR.symm⟩ hk (by rw [List.take_of_length_le]; simp) rfl (fun x _=>by simp [AV.under,AV.under.go,hn]) ?_
  rintro ⟨x,e⟩ ⟨hx1,hx,hes,hinv⟩ ih
  dsimp only at hx1 hx hes hinv ih ⊢
  have hSe:(S.set n (flat iA e))[n]? = some (flat iA e):=sset hz
  rw [Sort.shiftUp] at hinv
  by_cases hxb:x < b
  case neg =>
    have hlt:¬((x:Int) < (b:Int)):=by omega
    rw [if_neg hxb] at hinv
    rw [hinv] at hX
    simp only [C_slices_partialInsertionSortOrdered_int64,A_,simprocAttr,ne_eq,(U_slices_partialInsertionSortOrdered_int64 _).1,hlt]
    exact hX _ _ _ _ _ _ _ _ _ _ _ _ _ _ _ _ _
  have hlt:((x:Int) < (b:Int)):=by omega
  rw [if_pos hxb] at hinv
  obtain ⟨y,rfl⟩:∃y,x=y + 1:=⟨x - 1,by omega⟩
  rw [Nat.add_sub_cancel] at hinv
  have hw0:IntKind.i64.wrap (((y + 1:Nat):Int) - 1)=((y:Nat):Int):=by rw [wrap_i64 (by omega) (by omega)]; omega
  have hw1:IntKind.i64.wrap (((y + 1:Nat):Int) + 1)=((y + 1 + 1:Nat):Int):=by rw [wrap_i64 (by omega) (by omega)]; omega
  have xa:∀kk:IntKind,indexAddrL (.sl 1) (.row (.stk n) 0 N N) (.s (.int kk ((y + 1:Nat):Int)))=some (.ptr (.stk n) (y + 1)):=fun kk=>ixi (by omega)
  have xb:∀kk:IntKind,indexAddrL (.sl 1) (.row (.stk n) 0 N N) (.s (.int kk ((y:Nat):Int)))=some (.ptr (.stk n) (y)):=fun kk=>ixi (by omega)
  have ra:=ird (H:=H) hSe (i:=y + 1) (by omega)
  have rb:=ird (H:=H) hSe (i:=y) (by omega)
  obtain ⟨wa,wb⟩:=sw2 (H:=H) hSe (i:=y + 1) (j:=y) (by omega) (by omega)
  rw [List.set_set] at wa wb
  rw [List.set_set] at wb
  simp only [C_slices_partialInsertionSortOrdered_int64,A_,simprocAttr,ne_eq,(U_slices_partialInsertionSortOrdered_int64 _).1,hlt,hw0,xa,xb,ra,rb]
  refine h0 _ _ _ _ _ ?_
  cases hlk:ltI e[y + 1]! e[y]! with
  | false =>
    rw [hlk,if_pos (by rfl)] at hinv
    rw [hinv] at hX
    simp only [C_slices_partialInsertionSortOrdered_int64,A_,simprocAttr,ne_eq,(U_slices_partialInsertionSortOrdered_int64 _).1]
    exact hX _ _ _ _ _ _ _ _ _ _ _ _ _ _ _ _ _
  | true =>
    rw [hlk,if_neg (by simp)] at hinv
    simp only [C_slices_partialInsertionSortOrdered_int64,A_,simprocAttr,ne_eq,(U_slices_partialInsertionSortOrdered_int64 _).1,hw0,hw1,xa,xb,ra,rb,wa,wb]
    exact ih (y + 1 + 1,Sort.swp e (y + 1) y) _ _ _ (by dsimp only; omega) ⟨by dsimp only; omega,by dsimp only; omega,by rw [swp_size]; exact hes,hinv⟩ (by simp [keep,zm]; omega) (by rw [List.take_of_length_le]; simp) rfl
def PinS (C:CallW) (f:FuncId):Prop:=∀(n:Nat) (d:Array Int) (a b:Nat) S H (K:AV→St→Prop),S[n]? = some (flat iA d)→a < b→b≤d.size→d.size≤2305843009213693952→K (.bool (Sort.partialInsertionSort ltI d a b).2) ⟨S.set n (flat iA (Sort.partialInsertionSort ltI d a b).1),H⟩→C (.fn f) [.row (.stk n) 0 d.size d.size,.s (.int .i64 a),.s (.int .i64 b)] ⟨S,H⟩ K
set_option maxHeartbeats 16000000 in
theorem partialIns_spec {C:CallW} (hC:LeC C C) (P:Program) {c:Nat→FuncId} (h0:LessS C (c 0)):∀(n:Nat) (d:Array Int) (a b:Nat) S H (K:AV→St→Prop),S[n]? = some (flat iA d)→a < b→b≤d.size→d.size≤2305843009213693952→K (.bool (Sort.partialInsertionSort ltI d a b).2) ⟨S.set n (flat iA (Sort.partialInsertionSort ltI d a b).1),H⟩→runL C P (C_slices_partialInsertionSortOrdered_int64 c) [.row (.stk n) 0 d.size d.size,.s (.int .i64 a),.s (.int .i64 b)] ⟨S,H⟩ K:=by
  intro n d a b S H K hS hab hbd hdl hK
  have hn:=slt hS
  unfold Sort.partialInsertionSort at hK
  generalize hX:Sort.partialIns ltI a b 5 (a + 1) d=X at hK
  have hw0:IntKind.i64.wrap ((a:Int) + 1)=((a + 1:Nat):Int):=by rw [wrap_i64 (by omega) (by omega)]; omega
  obtain ⟨N,hN⟩:∃N,d.size=N:=⟨_,rfl⟩
  rw [hN] at hbd hdl ⊢
  simp only [C_slices_partialInsertionSortOrdered_int64,A_,simprocAttr,ne_eq,(U_slices_partialInsertionSortOrdered_int64 _).1,hw0]
  refine loop_rule hC (α:=Nat×Nat×Array Int) (fun x=>x.1) (fun x=>[.row (.stk n) 0 N N,.s (.int .i64 (a:Nat)),.s (.int .i64 (b:Nat)),uu,uu,uu,uu,.s (.int .i64 (x.2.1:Nat)),.s (.int .i64 ((5 - x.1:Nat):Int)),uu,uu,uu,uu,uu,uu,uu,uu,uu,uu,uu,uu,uu,uu,uu,uu,uu,uu,uu,uu,uu,uu,uu,uu,uu,uu,uu,uu,uu,uu,uu,uu,uu,uu,uu,uu,uu,uu,uu,uu,uu,uu,uu,uu,uu,uu,uu,uu,uu,uu,uu,uu,uu,uu,uu,uu,uu,uu,uu,uu,uu,uu,uu,uu,uu,uu,uu,uu,uu,uu,uu,uu,uu,uu,uu,uu,uu,uu,uu,uu,uu,uu,uu,uu,uu,uu,uu,uu,uu,uu,uu,uu,uu,uu,uu,uu,uu,uu,uu,uu,uu,uu,uu,uu,uu,uu,uu,uu,uu,uu,uu,uu,uu,uu,uu,uu,uu,uu,uu,uu,uu,uu,uu,uu]) (fun x=>S.set n (flat iA x.2.2)) (fun _=>H) (fun x=>x.1≤5∧1≤x.2.1∧a < x.2.1∧x.2.1≤b∧x.2.2.size=N∧X=Sort.partialIns ltI a b x.1 x.2.1 x.2.2) (5,a + 1,d) ⟨by dsimp only; omega,by dsimp only; omega,by dsimp only; omega,by dsimp only; omega,hN,hX.symm⟩ (by simp [keep,zm]) (by rw [sself hS,List.take_of_length_le (Nat.le_refl _)]) rfl (fun x _=>by simp [AV.under,AV.under.go,hn]) ?_
  rintro ⟨s,i,e⟩ ⟨hs,hi1,hai,hi,hes,hinv⟩ ih
  dsimp only at hs hi1 hai hi hes hinv ih ⊢
  cases s with
  | zero =>
    have hlt:(((5 - 0:Nat):Int) < 5)=False:=eq_false (by omega)
    have hlt2:(((5:Nat):Int) < 5)=False:=eq_false (by omega)
    rw [Sort.partialIns] at hinv
    rw [hinv] at hK
    simp only [C_slices_partialInsertionSortOrdered_int64,A_,simprocAttr,ne_eq,(U_slices_partialInsertionSortOrdered_int64 _).1,hlt,hlt2]
    exact hK
  | succ s =>
    obtain ⟨st,hst⟩:∃st,5 - (s + 1)=st:=⟨_,rfl⟩
    have hlt:((st:Int) < 5)=True:=eq_true (by omega)
    have hws:IntKind.i64.wrap ((st:Int) + 1)=((5 - s:Nat):Int):=by rw [wrap_i64 (by omega) (by omega)]; omega
    rw [Sort.partialIns] at hinv
    dsimp only at hinv
    simp only [C_slices_partialInsertionSortOrdered_int64,A_,simprocAttr,ne_eq,(U_slices_partialInsertionSortOrdered_int64 _).1,hst,hlt]
    refine y9p2_loop (a:=a) (b:=b) (st:=st) hC P h0 (sset hS) (by simp) hes hbd hdl i _ hi1 hi (by simp [keep,zm]) ?_
    obtain ⟨u1,u2⟩:=scanSorted_bd e b _ i (Nat.le_refl _) hi
    obtain ⟨k,hk⟩:∃k,Sort.scanSorted ltI e b i=k:=⟨_,rfl⟩
    rw [hk] at u1 u2 ⊢
    simp only [hk] at hinv
    intro x17 x18 x19 x20 x21 x22 x23 x24 x25 x26 x27 x28 x29 x30 x31 x32
    by_cases hkb:k=b
    · have hlt3:((k:Int)=(b:Int))=True:=eq_true (by omega)
      rw [if_pos hkb] at hinv
      rw [hinv] at hK
      simp only [C_slices_partialInsertionSortOrdered_int64,A_,simprocAttr,ne_eq,(U_slices_partialInsertionSortOrdered_int64 _).1,hlt3]
      exact hK
    have hlt3:((k:Int)=(b:Int))=False:=eq_false (by omega)
    rw [if_neg hkb] at hinv
    have hwb:IntKind.i64.wrap ((b:Int) - (a:Int))=((b - a:Nat):Int):=by rw [wrap_i64 (by omega) (by omega)]; omega
    by_cases h50:b - a < 50
    · have hlt4:(((b - a:Nat):Int) < 50)=True:=eq_true (by omega)
      rw [if_pos h50] at hinv
      rw [hinv] at hK
      simp only [C_slices_partialInsertionSortOrdered_int64,A_,simprocAttr,ne_eq,(U_slices_partialInsertionSortOrdered_int64 _).1,hlt3,hwb,hlt4]
      exact hK
    have hlt4:(((b - a:Nat):Int) < 50)=False:=eq_false (by omega)
    rw [if_neg h50] at hinv
    have hSe:(S.set n (flat iA e))[n]? = some (flat iA e):=sset hS
    have hwk:IntKind.i64.wrap ((k:Int) - 1)=((k - 1:Nat):Int):=by rw [wrap_i64 (by omega) (by omega)]; omega
    have hwk2:IntKind.i64.wrap ((k:Int) + 1)=((k + 1:Nat):Int):=by rw [wrap_i64 (by omega) (by omega)]; omega
    have hwka:IntKind.i64.wrap ((k:Int) - (a:Int))=((k - a:Nat):Int):=by rw [wrap_i64 (by omega) (by omega)]; omega
    have hwbk:IntKind.i64.wrap ((b:Int) - (k:Int))=((b - k:Nat):Int):=by rw [wrap_i64 (by omega) (by omega)]; omega
    have xa:∀kk:IntKind,indexAddrL (.sl 1) (.row (.stk n) 0 N N) (.s (.int kk ((k:Nat):Int)))=some (.ptr (.stk n) (k)):=fun kk=>ixi (by omega)
    have xb:∀kk:IntKind,indexAddrL (.sl 1) (.row (.stk n) 0 N N) (.s (.int kk ((k - 1:Nat):Int)))=some (.ptr (.stk n) (k - 1)):=fun kk=>ixi (by omega)
    have ra:=ird (H:=H) hSe (i:=k) (by omega)
    have rb:=ird (H:=H) hSe (i:=k - 1) (by omega)
    obtain ⟨wa,wb⟩:=sw2 (H:=H) hSe (i:=k) (j:=k - 1) (by omega) (by omega)
    rw [List.set_set] at wa wb
    rw [List.set_set] at wb
    have hgs:(Sort.swp e k (k - 1)).size=N:=by rw [swp_size]; exact hes
    by_cases h2:2≤k - a
    · have hlt5:((2:Int)≤((k - a:Nat):Int))=True:=eq_true (by omega)
      rw [if_pos h2] at hinv
      simp only [C_slices_partialInsertionSortOrdered_int64,A_,simprocAttr,ne_eq,(U_slices_partialInsertionSortOrdered_int64 _).1,hlt3,hwb,hlt4,hwk,hwka,hwbk,xa,xb,ra,rb,wa,wb,hlt5]
      refine y9p6_loop (a:=a) (b:=b) (i:=k) (st:=st) hC P h0 hn rfl hdl (k - 1) _ _ (by omega) hgs (by simp [keep,zm]) ?_
      intro x9 x64 x65 x66 x67 x68 x69 x70 x71 x72 x73 x74 x75 x76 x77 x78
      have hgs2:(Sort.shiftDown ltI (k - 1) (Sort.swp e k (k - 1))).size=N:=by rw [shiftDown_size]; exact hgs
      generalize Sort.shiftDown ltI (k - 1) (Sort.swp e k (k - 1))=g at hinv hgs2 ⊢
      by_cases h3:2≤b - k
      · have hlt6:((2:Int)≤((b - k:Nat):Int))=True:=eq_true (by omega)
        rw [if_pos h3] at hinv
        simp only [C_slices_partialInsertionSortOrdered_int64,A_,simprocAttr,ne_eq,(U_slices_partialInsertionSortOrdered_int64 _).1,hwbk,hlt6,hwk2]
        refine y9p12_loop (a:=a) (b:=b) (i:=k) (st:=st) hC P h0 hn rfl hbd hdl (k + 1) _ _ (by omega) (by omega) hgs2 (by simp [keep,zm]) ?_
        intro x10 x101 x102 x103 x104 x105 x106 x107 x108 x109 x110 x111 x112 x113 x114 x115 x116
        simp only [C_slices_partialInsertionSortOrdered_int64,A_,simprocAttr,ne_eq,(U_slices_partialInsertionSortOrdered_int64 _).1,hws]
        exact ih (s,k,Sort.shiftUp ltI b (k + 1) g) _ _ _ (by dsimp only; omega) ⟨by dsimp only; omega,by dsimp only; omega,by dsimp only; omega,by dsimp only; omega,by rw [shiftUp_size b _ _ _ (Nat.le_refl _)]; exact hgs2,hinv⟩ (by simp [keep,zm]) (by rw [List.take_of_length_le]; simp) rfl
      · have hlt6:((2:Int)≤((b - k:Nat):Int))=False:=eq_false (by omega)
        rw [if_neg h3] at hinv
        simp only [C_slices_partialInsertionSortOrdered_int64,A_,simprocAttr,ne_eq,(U_slices_partialInsertionSortOrdered_int64 _).1,hwbk,hlt6,hws]
        exact ih (s,k,g) _ _ _ (by dsimp only; omega) ⟨by dsimp only; omega,by dsimp only; omega,by dsimp only; omega,by dsimp only; omega,hgs2,hinv⟩ (by simp [keep,zm]) (by rw [List.take_of_length_le]; simp) rfl
    · have hlt5:((2:Int)≤((k - a:Nat):Int))=False:=eq_false (by omega)
      rw [if_neg h2] at hinv
      simp only [C_slices_partialInsertionSortOrdered_int64,A_,simprocAttr,ne_eq,(U_slices_partialInsertionSortOrdered_int64 _).1,hlt3,hwb,hlt4,hwk,hwka,hwbk,xa,xb,ra,rb,wa,wb,hlt5]
      have hgs2:=hgs
      generalize Sort.swp e k (k - 1)=g at hinv hgs2 ⊢
      by_cases h3:2≤b - k
      · have hlt6:((2:Int)≤((b - k:Nat):Int))=True:=eq_true (by omega)
        rw [if_pos h3] at hinv
        simp only [C_slices_partialInsertionSortOrdered_int64,A_,simprocAttr,ne_eq,(U_slices_partialInsertionSortOrdered_int64 _).1,hwbk,hlt6,hwk2]
        refine y9p12_loop (a:=a) (b:=b) (i:=k) (st:=st) hC P h0 hn rfl hbd hdl (k + 1) _ _ (by omega) (by omega) hgs2 (by simp [keep,zm]) ?_
        intro x10 x101 x102 x103 x104 x105 x106 x107 x108 x109 x110 x111 x112 x113 x114 x115 x116
        simp only [C_slices_partialInsertionSortOrdered_int64,A_,simprocAttr,ne_eq,(U_slices_partialInsertionSortOrdered_int64 _).1,hws]
        exact ih (s,k,Sort.shiftUp ltI b (k + 1) g) _ _ _ (by dsimp only; omega) ⟨by dsimp only; omega,by dsimp only; omega,by dsimp only; omega,by dsimp only; omega,by rw [shiftUp_size b _ _ _ (Nat.le_refl _)]; exact hgs2,hinv⟩ (by simp [keep,zm]) (by rw [List.take_of_length_le]; simp) rfl
      · have hlt6:((2:Int)≤((b - k:Nat):Int))=False:=eq_false (by omega)
        rw [if_neg h3] at hinv
        simp only [C_slices_partialInsertionSortOrdered_int64,A_,simprocAttr,ne_eq,(U_slices_partialInsertionSortOrdered_int64 _).1,hwbk,hlt6,hws]
        exact ih (s,k,g) _ _ _ (by dsimp only; omega) ⟨by dsimp only; omega,by dsimp only; omega,by dsimp only; omega,by dsimp only; omega,hgs2,hinv⟩ (by simp [keep,zm]) (by rw [List.take_of_length_le]; simp) rfl
end Go.AM
